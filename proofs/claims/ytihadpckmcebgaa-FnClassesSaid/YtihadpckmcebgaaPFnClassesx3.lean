/- A function's Lean twin and its walk, written by a program of this session. -/
import Derived.Test.YtihadpckmcebgaaPFnClassesx0
import Derived.Test.YtihadpckmcebgaaPFnClassesx2
namespace Go.Proofs.Ytihadpckmcebgaa.PFnClasses
open Go.RowKit Go.Proofs.YtihadpckmcebgaaW.PrintWords Go.Proofs.YtihadpckmcebgaaW.PrintLast Go.Proofs.YtihadpckmcebgaaW.PrintMore
attribute [local go_sem] max2_int min2_int max_two min_two max_three min_three max_four min_four   -- for this text's walks alone
set_option linter.unusedVariables false
set_option linter.unusedSimpArgs false

/-! ### spec_l6Rd_pick: function 90 -/
def spec_l6Rd_pick.j0 : Nat → Int → Bool → List Int → Int → Option (Int × Int)
  | 0, _, _, _, _ => none
  | k + 1, x1, x24, x1000, x1001 => if x24 = true then (some (0, x1001)) else (if (wrap64 (x1001 - 1)) < (x1000.length : Int) then (if 0 ≤ (wrap64 (x1001 - 1)) then (if x1 = 0 then (none) else (some (Int.tmod (wrap64 (rd x1000 (wrap64 (x1001 - 1)))) x1, x1001))) else (none)) else (if (x1000.length : Int) = 0 then (none) else (if 0 ≤ (Int.tmod (wrap64 (x1001 - 1)) (x1000.length : Int)) then (if (Int.tmod (wrap64 (x1001 - 1)) (x1000.length : Int)) < (x1000.length : Int) then (if 0 ≤ (Int.tmod (wrap64 ((wrap64 ((wrap64 (x1001 - 1)) * 7)) + 3)) (x1000.length : Int)) then (if (Int.tmod (wrap64 ((wrap64 ((wrap64 (x1001 - 1)) * 7)) + 3)) (x1000.length : Int)) < (x1000.length : Int) then (if x1 = 0 then (none) else (some (Int.tmod (Go.bits .xor .i64 (wrap64 ((wrap64 ((wrap64 ((wrap64 ((wrap64 (rd x1000 (Int.tmod (wrap64 (x1001 - 1)) (x1000.length : Int)))) * 131)) + (wrap64 ((wrap64 (rd x1000 (Int.tmod (wrap64 ((wrap64 ((wrap64 (x1001 - 1)) * 7)) + 3)) (x1000.length : Int)))) * 1117)))) + (wrap64 ((wrap64 (x1001 - 1)) * 29)))) + (wrap64 ((wrap64 (Int.tdiv (wrap64 (x1001 - 1)) (x1000.length : Int))) * 53)))) (wrap64 (Int.tdiv (wrap64 ((wrap64 ((wrap64 ((wrap64 ((wrap64 (rd x1000 (Int.tmod (wrap64 (x1001 - 1)) (x1000.length : Int)))) * 131)) + (wrap64 ((wrap64 (rd x1000 (Int.tmod (wrap64 ((wrap64 ((wrap64 (x1001 - 1)) * 7)) + 3)) (x1000.length : Int)))) * 1117)))) + (wrap64 ((wrap64 (x1001 - 1)) * 29)))) + (wrap64 ((wrap64 (Int.tdiv (wrap64 (x1001 - 1)) (x1000.length : Int))) * 53)))) 64))) x1, x1001))) else (none)) else (none)) else (none)) else (none))))
def spec_l6Rd_pick.f (k : Nat) (s0_0 : List Int) (s0_1 : Int) (a1 : Int) : Option (Int × Int) := if a1 < 1 then (spec_l6Rd_pick.j0 k a1 true s0_0 (wrap64 (s0_1 + 1))) else (spec_l6Rd_pick.j0 k a1 ((s0_0.length : Int) == 0) s0_0 (wrap64 (s0_1 + 1)))
set_option maxHeartbeats 8000000 in
set_option maxRecDepth 100000 in
theorem spec_l6Rd_pick.calls (k : Nat) (g : Nat) (s0_0 : List Int) (s0_1 : Int) (a1 : Int) (r1 : Int) (r2 : Int) (w0 w : World) (hI : IsS74 w0 w g s0_0 s0_1) (hB : Below w0.heap.size w0 w) (h : spec_l6Rd_pick.f k s0_0 s0_1 a1 = some (r1, r2)) :
    Calls Try.prog 90 #[.pointer (some ⟨g, 0, none⟩), .int .i64 a1] w fun e w' => e = .returned (.int .i64 r1) ∧ IsS74 w0 w' g s0_0 r2 ∧ Below w0.heap.size w0 w' ∧ KeepBut w w' g none := by
  have HI0 := Aside0.mk hI
  have HK := Aside0.mk (KeepBut.refl w g none)
  have HL := Aside0.mk hB.size
  clear hI
  have HW0 := Aside0.mk hB.size
  have HB := Aside0.mk hB
  clear hB
  have H : (if a1 < 1 then (spec_l6Rd_pick.j0 k a1 true s0_0 (wrap64 (s0_1 + 1))) else (spec_l6Rd_pick.j0 k a1 ((s0_0.length : Int) == 0) s0_0 (wrap64 (s0_1 + 1)))) = some (r1, r2) := h
  clear h
  have HC3 := Aside0.mk H
  clear H
  obtain ⟨ASz4_0, cSz4_0, HGz4, hgz4, HSz4_0⟩ := HI0.out
  have hcz4_0 := cellS74_0 HGz4
  have hcz4_1 := cellS74_1 HGz4
  have hfz4_1 := blk_frozen HGz4 1
  clear HGz4 hgz4
  go_enter Try.func90, Try.ntmps90
  go_upto_region 2 with (fail)
  repeat (go_quiet (fail); go_upto_region 2 with (fail))
  go_cut [24] (fun v24 wc => ∃ (kq : Nat) (x24_2 : Bool), v24 = .bool x24_2 ∧ Aside0 (spec_l6Rd_pick.j0 kq a1 x24_2 s0_0 (wrap64 (s0_1 + 1)) = some (r1, r2)) ∧ Aside0 (kq ≤ k) ∧ Aside0 (IsS74 w0 wc g s0_0 (wrap64 (s0_1 + 1))) ∧ Aside0 (KeepBut w wc g none) ∧ Aside0 (Below w0.heap.size w0 wc))
  case first =>
    have H := HC3.out
    clear HC3
    by_cases c5 : a1 < 1
    · rw [if_pos c5] at H
      have c5b0 : decide (a1 < 1) = true := decide_eq_true c5
      clear c5
      (first | rw [c5b0] | (simp only [i64_w, i32_w]; rw [c5b0]) | skip)
      have H' := Aside0.mk H
      clear H
      go_wp2
      repeat (go_quiet (fail); try go_wp2)
      go_meet
      case rel => exact ⟨_, (true), Sqz.auS, H', ⟨Sqz.auN⟩, ⟨by repeat (first | (with_reducible first | exact HI0.out | apply IsS74.alloc | apply IsS74.drewN | apply IsS74.drew | apply IsS74.set_1) | exact HI0.out)⟩, ⟨by repeat (first | (with_reducible first | exact HK.out | apply KeepBut.set_ | apply keep_drewN | apply keep_drew | apply keep_alloc) | exact HK.out)⟩, ⟨by repeat (first | (with_reducible first | exact HB.out | apply below_alloc | apply pw_below_drewN | apply below_drew1 | refine below_set ?_ (IsS74.ge HI0.out)) | exact HB.out)⟩⟩
    · rw [if_neg c5] at H
      have c5b0 : decide (a1 < 1) = false := decide_eq_false c5
      clear c5
      (first | rw [c5b0] | (simp only [i64_w, i32_w]; rw [c5b0]) | skip)
      have H' := Aside0.mk H
      clear H
      obtain ⟨ASz6_0, cSz6_0, HGz6, hgz6, HSz6_0⟩ := HI0.out
      have hcz6_0 := cellS74_0 HGz6
      have hcz6_1 := cellS74_1 HGz6
      have hfz6_1 := blk_frozen HGz6 1
      clear HGz6 hgz6
      go_wp2
      repeat (go_quiet (fail); try go_wp2)
      go_meet
      case rel => exact ⟨_, (((s0_0.length : Int) == 0)), Sqz.auS, H', ⟨Sqz.auN⟩, ⟨by repeat (first | (with_reducible first | exact HI0.out | apply IsS74.alloc | apply IsS74.drewN | apply IsS74.drew | apply IsS74.set_1) | exact HI0.out)⟩, ⟨by repeat (first | (with_reducible first | exact HK.out | apply KeepBut.set_ | apply keep_drewN | apply keep_drew | apply keep_alloc) | exact HK.out)⟩, ⟨by repeat (first | (with_reducible first | exact HB.out | apply below_alloc | apply pw_below_drewN | apply below_drew1 | refine below_set ?_ (IsS74.ge HI0.out)) | exact HB.out)⟩⟩
  case rest =>
    clear HC3
    try clear p2
    try clear c5
    try clear c5b0
    try clear p6
    try clear hcz4_0
    try clear hcz4_1
    try clear hcz6_0
    try clear hcz6_1
    try clear hfz4_1
    try clear hfz6_1
    obtain ⟨kq, x24_2, rfl, HA, HJ2, HI0, HK, HB⟩ := hcut
    cases kq with
    | zero => exact absurd HA.out (by simp [spec_l6Rd_pick.j0])
    | succ kj2 =>
      have H := HA.out
      clear HA
      simp only [spec_l6Rd_pick.j0] at H
      by_cases c7 : x24_2 = true
      · subst c7
        have H1 : (some (0, (wrap64 (s0_1 + 1)))) = some (r1, r2) := by rw [if_pos rfl] at H; exact H
        clear H
        have H := H1
        clear H1
        simp only [Option.some.injEq, Prod.mk.injEq] at H
        obtain ⟨rfl, rfl⟩ := H
        go_wp2
        repeat (go_quiet (fail); try go_wp2)
        go_ret
        exact ⟨Sqz.auR, by repeat (first | (with_reducible first | exact HI0.out | apply IsS74.alloc | apply IsS74.drewN | apply IsS74.drew | apply IsS74.set_1) | exact HI0.out), by repeat (first | (with_reducible first | exact HB.out | apply below_alloc | apply pw_below_drewN | apply below_drew1 | refine below_set ?_ (IsS74.ge HI0.out)) | exact HB.out), by repeat (first | (with_reducible first | exact HK.out | apply KeepBut.set_ | apply keep_drewN | apply keep_drew | apply keep_alloc) | exact HK.out)⟩
      · replace c7 := Bool.eq_false_iff.mpr c7
        subst c7
        have H1 : (if (wrap64 ((wrap64 (s0_1 + 1)) - 1)) < (s0_0.length : Int) then (if 0 ≤ (wrap64 ((wrap64 (s0_1 + 1)) - 1)) then (if a1 = 0 then (none) else (some (Int.tmod (wrap64 (rd s0_0 (wrap64 ((wrap64 (s0_1 + 1)) - 1)))) a1, (wrap64 (s0_1 + 1))))) else (none)) else (if (s0_0.length : Int) = 0 then (none) else (if 0 ≤ (Int.tmod (wrap64 ((wrap64 (s0_1 + 1)) - 1)) (s0_0.length : Int)) then (if (Int.tmod (wrap64 ((wrap64 (s0_1 + 1)) - 1)) (s0_0.length : Int)) < (s0_0.length : Int) then (if 0 ≤ (Int.tmod (wrap64 ((wrap64 ((wrap64 ((wrap64 (s0_1 + 1)) - 1)) * 7)) + 3)) (s0_0.length : Int)) then (if (Int.tmod (wrap64 ((wrap64 ((wrap64 ((wrap64 (s0_1 + 1)) - 1)) * 7)) + 3)) (s0_0.length : Int)) < (s0_0.length : Int) then (if a1 = 0 then (none) else (some (Int.tmod (Go.bits .xor .i64 (wrap64 ((wrap64 ((wrap64 ((wrap64 ((wrap64 (rd s0_0 (Int.tmod (wrap64 ((wrap64 (s0_1 + 1)) - 1)) (s0_0.length : Int)))) * 131)) + (wrap64 ((wrap64 (rd s0_0 (Int.tmod (wrap64 ((wrap64 ((wrap64 ((wrap64 (s0_1 + 1)) - 1)) * 7)) + 3)) (s0_0.length : Int)))) * 1117)))) + (wrap64 ((wrap64 ((wrap64 (s0_1 + 1)) - 1)) * 29)))) + (wrap64 ((wrap64 (Int.tdiv (wrap64 ((wrap64 (s0_1 + 1)) - 1)) (s0_0.length : Int))) * 53)))) (wrap64 (Int.tdiv (wrap64 ((wrap64 ((wrap64 ((wrap64 ((wrap64 (rd s0_0 (Int.tmod (wrap64 ((wrap64 (s0_1 + 1)) - 1)) (s0_0.length : Int)))) * 131)) + (wrap64 ((wrap64 (rd s0_0 (Int.tmod (wrap64 ((wrap64 ((wrap64 ((wrap64 (s0_1 + 1)) - 1)) * 7)) + 3)) (s0_0.length : Int)))) * 1117)))) + (wrap64 ((wrap64 ((wrap64 (s0_1 + 1)) - 1)) * 29)))) + (wrap64 ((wrap64 (Int.tdiv (wrap64 ((wrap64 (s0_1 + 1)) - 1)) (s0_0.length : Int))) * 53)))) 64))) a1, (wrap64 (s0_1 + 1))))) else (none)) else (none)) else (none)) else (none)))) = some (r1, r2) := by rw [if_neg (show ¬ (false = true) by decide)] at H; exact H
        clear H
        have H := H1
        clear H1
        by_cases c8 : (wrap64 ((wrap64 (s0_1 + 1)) - 1)) < (s0_0.length : Int)
        · rw [if_pos c8] at H
          have c8b0 : decide ((wrap64 ((wrap64 (s0_1 + 1)) - 1)) < (s0_0.length : Int)) = true := decide_eq_true c8
          clear c8
          obtain ⟨ji9, hji9⟩ : ∃ j_ : Int, (wrap64 ((wrap64 (s0_1 + 1)) - 1)) = j_ := ⟨_, rfl⟩
          replace H : (if 0 ≤ (ji9) then (if a1 = 0 then (none) else (some (Int.tmod (wrap64 (rd s0_0 (ji9))) a1, (wrap64 (s0_1 + 1))))) else (none)) = some (r1, r2) := by first | (rw [hji9] at H; exact H) | (simp only [hji9] at H ⊢; exact H)
          (try rw [hji9] at c8b0)
          have hji9w : (IntKind.i64.wrap ((wrap64 (s0_1 + 1)) - 1)) = ji9 := (i64_w _).trans hji9
          by_cases c10 : 0 ≤ (ji9)
          · rw [if_pos c10] at H
            have c10b0 : decide (0 ≤ (ji9)) = true := decide_eq_true c10
            clear c10
            by_cases c11 : a1 = 0
            · rw [if_pos c11] at H
              exact absurd H (by simp)
            · rw [if_neg c11] at H
              have c11b0 : (a1 == 0) = false := beq_eq_false_iff_ne.mpr c11
              have c11b1 : (a1 != 0) = true := bne_iff_ne.mpr c11
              simp only [Option.some.injEq, Prod.mk.injEq] at H
              obtain ⟨rfl, rfl⟩ := H
              obtain ⟨ASz12_0, cSz12_0, HGz12, hgz12, HSz12_0⟩ := HI0.out
              have hcz12_0 := cellS74_0 HGz12
              have hcz12_1 := cellS74_1 HGz12
              have hfz12_1 := blk_frozen HGz12 1
              clear HGz12 hgz12
              have p159 : 0 ≤ ((ji9) : Int) := of_decide_eq_true (by first | (with_reducible assumption) | assumption)
              have q159 : (ji9) < (s0_0.length : Int) := of_decide_eq_true (by first | (with_reducible assumption) | assumption)
              obtain ⟨ad159, e159, hx159_0⟩ := Kd.at_int HSz12_0 (ji9) p159 q159
              cases e159
              replace hx159_0 := pw_cell_below HB.out hx159_0
              replace p159 := eq_true p159
              replace q159 := eq_true q159
              go_wp2
              repeat (go_quiet (fail); try go_wp2)
              go_ret
              exact ⟨by first | rfl | (simp [errW_none, errW_some] <;> rfl) | (simp only [← hji9]; first | rfl | (simp [errW_none, errW_some] <;> rfl)) | (simp [*, errW_none, errW_some] <;> rfl), by repeat (first | (with_reducible first | exact HI0.out | apply IsS74.alloc | apply IsS74.drewN | apply IsS74.drew | apply IsS74.set_1) | exact HI0.out), by repeat (first | (with_reducible first | exact HB.out | apply below_alloc | apply pw_below_drewN | apply below_drew1 | refine below_set ?_ (IsS74.ge HI0.out)) | exact HB.out), by repeat (first | (with_reducible first | exact HK.out | apply KeepBut.set_ | apply keep_drewN | apply keep_drew | apply keep_alloc) | exact HK.out)⟩
          · rw [if_neg c10] at H
            exact absurd H (by simp)
        · rw [if_neg c8] at H
          have c8b0 : decide ((wrap64 ((wrap64 (s0_1 + 1)) - 1)) < (s0_0.length : Int)) = false := decide_eq_false c8
          clear c8
          by_cases c13 : (s0_0.length : Int) = 0
          · rw [if_pos c13] at H
            exact absurd H (by simp)
          · rw [if_neg c13] at H
            have c13b0 : ((s0_0.length : Int) == 0) = false := beq_eq_false_iff_ne.mpr c13
            have c13b1 : ((s0_0.length : Int) != 0) = true := bne_iff_ne.mpr c13
            have c13b2 : ¬ (s0_0 = []) := fun h_ => c13 (by rw [h_]; rfl)
            obtain ⟨ji14, hji14⟩ : ∃ j_ : Int, (Int.tmod (wrap64 ((wrap64 (s0_1 + 1)) - 1)) (s0_0.length : Int)) = j_ := ⟨_, rfl⟩
            replace H : (if 0 ≤ (ji14) then (if (ji14) < (s0_0.length : Int) then (if 0 ≤ (Int.tmod (wrap64 ((wrap64 ((wrap64 ((wrap64 (s0_1 + 1)) - 1)) * 7)) + 3)) (s0_0.length : Int)) then (if (Int.tmod (wrap64 ((wrap64 ((wrap64 ((wrap64 (s0_1 + 1)) - 1)) * 7)) + 3)) (s0_0.length : Int)) < (s0_0.length : Int) then (if a1 = 0 then (none) else (some (Int.tmod (Go.bits .xor .i64 (wrap64 ((wrap64 ((wrap64 ((wrap64 ((wrap64 (rd s0_0 (ji14))) * 131)) + (wrap64 ((wrap64 (rd s0_0 (Int.tmod (wrap64 ((wrap64 ((wrap64 ((wrap64 (s0_1 + 1)) - 1)) * 7)) + 3)) (s0_0.length : Int)))) * 1117)))) + (wrap64 ((wrap64 ((wrap64 (s0_1 + 1)) - 1)) * 29)))) + (wrap64 ((wrap64 (Int.tdiv (wrap64 ((wrap64 (s0_1 + 1)) - 1)) (s0_0.length : Int))) * 53)))) (wrap64 (Int.tdiv (wrap64 ((wrap64 ((wrap64 ((wrap64 ((wrap64 (rd s0_0 (ji14))) * 131)) + (wrap64 ((wrap64 (rd s0_0 (Int.tmod (wrap64 ((wrap64 ((wrap64 ((wrap64 (s0_1 + 1)) - 1)) * 7)) + 3)) (s0_0.length : Int)))) * 1117)))) + (wrap64 ((wrap64 ((wrap64 (s0_1 + 1)) - 1)) * 29)))) + (wrap64 ((wrap64 (Int.tdiv (wrap64 ((wrap64 (s0_1 + 1)) - 1)) (s0_0.length : Int))) * 53)))) 64))) a1, (wrap64 (s0_1 + 1))))) else (none)) else (none)) else (none)) else (none)) = some (r1, r2) := by first | (rw [hji14] at H; exact H) | (simp only [hji14] at H ⊢; exact H)
            by_cases c15 : 0 ≤ (ji14)
            · rw [if_pos c15] at H
              have c15b0 : decide (0 ≤ (ji14)) = true := decide_eq_true c15
              clear c15
              by_cases c16 : (ji14) < (s0_0.length : Int)
              · rw [if_pos c16] at H
                have c16b0 : decide ((ji14) < (s0_0.length : Int)) = true := decide_eq_true c16
                clear c16
                obtain ⟨ji17, hji17⟩ : ∃ j_ : Int, (Int.tmod (wrap64 ((wrap64 ((wrap64 ((wrap64 (s0_1 + 1)) - 1)) * 7)) + 3)) (s0_0.length : Int)) = j_ := ⟨_, rfl⟩
                replace H : (if 0 ≤ (ji17) then (if (ji17) < (s0_0.length : Int) then (if a1 = 0 then (none) else (some (Int.tmod (Go.bits .xor .i64 (wrap64 ((wrap64 ((wrap64 ((wrap64 ((wrap64 (rd s0_0 (ji14))) * 131)) + (wrap64 ((wrap64 (rd s0_0 (ji17))) * 1117)))) + (wrap64 ((wrap64 ((wrap64 (s0_1 + 1)) - 1)) * 29)))) + (wrap64 ((wrap64 (Int.tdiv (wrap64 ((wrap64 (s0_1 + 1)) - 1)) (s0_0.length : Int))) * 53)))) (wrap64 (Int.tdiv (wrap64 ((wrap64 ((wrap64 ((wrap64 ((wrap64 (rd s0_0 (ji14))) * 131)) + (wrap64 ((wrap64 (rd s0_0 (ji17))) * 1117)))) + (wrap64 ((wrap64 ((wrap64 (s0_1 + 1)) - 1)) * 29)))) + (wrap64 ((wrap64 (Int.tdiv (wrap64 ((wrap64 (s0_1 + 1)) - 1)) (s0_0.length : Int))) * 53)))) 64))) a1, (wrap64 (s0_1 + 1))))) else (none)) else (none)) = some (r1, r2) := by first | (rw [hji17] at H; exact H) | (simp only [hji17] at H ⊢; exact H)
                by_cases c18 : 0 ≤ (ji17)
                · rw [if_pos c18] at H
                  have c18b0 : decide (0 ≤ (ji17)) = true := decide_eq_true c18
                  clear c18
                  by_cases c19 : (ji17) < (s0_0.length : Int)
                  · rw [if_pos c19] at H
                    have c19b0 : decide ((ji17) < (s0_0.length : Int)) = true := decide_eq_true c19
                    clear c19
                    by_cases c20 : a1 = 0
                    · rw [if_pos c20] at H
                      exact absurd H (by simp)
                    · rw [if_neg c20] at H
                      have c20b0 : (a1 == 0) = false := beq_eq_false_iff_ne.mpr c20
                      have c20b1 : (a1 != 0) = true := bne_iff_ne.mpr c20
                      simp only [Option.some.injEq, Prod.mk.injEq] at H
                      obtain ⟨rfl, rfl⟩ := H
                      obtain ⟨ASz21_0, cSz21_0, HGz21, hgz21, HSz21_0⟩ := HI0.out
                      have hcz21_0 := cellS74_0 HGz21
                      have hcz21_1 := cellS74_1 HGz21
                      have hfz21_1 := blk_frozen HGz21 1
                      clear HGz21 hgz21
                      have p160 : 0 ≤ ((ji14) : Int) := of_decide_eq_true (by first | (with_reducible assumption) | assumption)
                      have q160 : (ji14) < (s0_0.length : Int) := of_decide_eq_true (by first | (with_reducible assumption) | assumption)
                      obtain ⟨ad160, e160, hx160_0⟩ := Kd.at_int HSz21_0 (ji14) p160 q160
                      cases e160
                      replace hx160_0 := pw_cell_below HB.out hx160_0
                      replace p160 := eq_true p160
                      replace q160 := eq_true q160
                      have p161 : 0 ≤ ((ji17) : Int) := of_decide_eq_true (by first | (with_reducible assumption) | assumption)
                      have q161 : (ji17) < (s0_0.length : Int) := of_decide_eq_true (by first | (with_reducible assumption) | assumption)
                      obtain ⟨ad161, e161, hx161_0⟩ := Kd.at_int HSz21_0 (ji17) p161 q161
                      obtain rfl : ad160 = ad161 := (by injection e161)
                      replace hx161_0 := pw_cell_below HB.out hx161_0
                      replace p161 := eq_true p161
                      replace q161 := eq_true q161
                      go_wp2
                      repeat (go_quiet (fail); try go_wp2)
                      go_ret
                      exact ⟨by first | rfl | (simp [errW_none, errW_some] <;> rfl) | (simp only [← hji14, ← hji17]; first | rfl | (simp [errW_none, errW_some] <;> rfl)) | (simp [*, errW_none, errW_some] <;> rfl), by repeat (first | (with_reducible first | exact HI0.out | apply IsS74.alloc | apply IsS74.drewN | apply IsS74.drew | apply IsS74.set_1) | exact HI0.out), by repeat (first | (with_reducible first | exact HB.out | apply below_alloc | apply pw_below_drewN | apply below_drew1 | refine below_set ?_ (IsS74.ge HI0.out)) | exact HB.out), by repeat (first | (with_reducible first | exact HK.out | apply KeepBut.set_ | apply keep_drewN | apply keep_drew | apply keep_alloc) | exact HK.out)⟩
                  · rw [if_neg c19] at H
                    exact absurd H (by simp)
                · rw [if_neg c18] at H
                  exact absurd H (by simp)
              · rw [if_neg c16] at H
                exact absurd H (by simp)
            · rw [if_neg c15] at H
              exact absurd H (by simp)

/-! ### spec_l91Prime: function 128 -/
def spec_l91Prime.f (k : Nat) (s0_0 : List Int) (s0_1 : Int) : Option (Int × Int) := (spec_l6Rd_pick.f k s0_0 s0_1 24).bind fun bt162 => (if bt162.1 = 0 then ((some (([0, 1, 4, (-3), 97, 9] : List Int) : List Int)).bind fun y164 => ((spec_l6Rd_pick.f k s0_0 bt162.2 6).bind fun bt167 => (if 0 ≤ bt167.1 then (if bt167.1 < (y164.length : Int) then (some (rd y164 bt167.1, bt167.2)) else (none)) else (none)))) else ((some (([2, 3, 5, 7, 11, 13, 3, 2] : List Int) : List Int)).bind fun y170 => ((spec_l6Rd_pick.f k s0_0 bt162.2 8).bind fun bt173 => (if 0 ≤ bt173.1 then (if bt173.1 < (y170.length : Int) then (some (rd y170 bt173.1, bt173.2)) else (none)) else (none)))))
set_option maxHeartbeats 8000000 in
set_option maxRecDepth 100000 in
theorem spec_l91Prime.calls (k : Nat) (g : Nat) (s0_0 : List Int) (s0_1 : Int) (r1 : Int) (r2 : Int) (w0 w : World) (hI : IsS74 w0 w g s0_0 s0_1) (hB : Below w0.heap.size w0 w) (h : spec_l91Prime.f k s0_0 s0_1 = some (r1, r2)) :
    Calls Try.prog 128 #[.pointer (some ⟨g, 0, none⟩)] w fun e w' => e = .returned (.int .i64 r1) ∧ IsS74 w0 w' g s0_0 r2 ∧ Below w0.heap.size w0 w' ∧ KeepBut w w' g none := by
  have HI0 := Aside0.mk hI
  have HK := Aside0.mk (KeepBut.refl w g none)
  have HL := Aside0.mk hB.size
  clear hI
  have HW0 := Aside0.mk hB.size
  have HB := Aside0.mk hB
  clear hB
  have H : ((spec_l6Rd_pick.f k s0_0 s0_1 24).bind fun bt162 => (if bt162.1 = 0 then ((some (([0, 1, 4, (-3), 97, 9] : List Int) : List Int)).bind fun y164 => ((spec_l6Rd_pick.f k s0_0 bt162.2 6).bind fun bt167 => (if 0 ≤ bt167.1 then (if bt167.1 < (y164.length : Int) then (some (rd y164 bt167.1, bt167.2)) else (none)) else (none)))) else ((some (([2, 3, 5, 7, 11, 13, 3, 2] : List Int) : List Int)).bind fun y170 => ((spec_l6Rd_pick.f k s0_0 bt162.2 8).bind fun bt173 => (if 0 ≤ bt173.1 then (if bt173.1 < (y170.length : Int) then (some (rd y170 bt173.1, bt173.2)) else (none)) else (none)))))) = some (r1, r2) := h
  clear h
  replace H := Option.bind_eq_some_iff.mp H
  obtain ⟨⟨t162, t163⟩, A20, H⟩ := H
  replace H : (if t162 = 0 then ((some (([0, 1, 4, (-3), 97, 9] : List Int) : List Int)).bind fun y164 => ((spec_l6Rd_pick.f k s0_0 t163 6).bind fun bt167 => (if 0 ≤ bt167.1 then (if bt167.1 < (y164.length : Int) then (some (rd y164 bt167.1, bt167.2)) else (none)) else (none)))) else ((some (([2, 3, 5, 7, 11, 13, 3, 2] : List Int) : List Int)).bind fun y170 => ((spec_l6Rd_pick.f k s0_0 t163 8).bind fun bt173 => (if 0 ≤ bt173.1 then (if bt173.1 < (y170.length : Int) then (some (rd y170 bt173.1, bt173.2)) else (none)) else (none))))) = some (r1, r2) := H
  have A2 := Aside0.mk A20
  clear A20
  by_cases c3 : t162 = 0
  · rw [if_pos c3] at H
    have c3b0 : (t162 == 0) = true := beq_iff_eq.mpr c3
    have c3b1 : (t162 != 0) = false := bne_eq_false_iff_eq.mpr c3
    clear c3
    obtain ⟨y164, hy164⟩ : ∃ y_ : List Int, y_ = (([0, 1, 4, (-3), 97, 9] : List Int)) := ⟨_, rfl⟩
    replace H : ((spec_l6Rd_pick.f k s0_0 t163 6).bind fun bt167 => (if 0 ≤ bt167.1 then (if bt167.1 < (y164.length : Int) then (some (rd y164 bt167.1, bt167.2)) else (none)) else (none))) = some (r1, r2) := by first | (rw [hy164]; with_reducible exact H) | (have H2_ := (Option.bind_some _ _).symm.trans H; rw [hy164]; with_reducible exact H2_) | (have H2_ := (Option.bind_some _ _).symm.trans H; with_reducible exact H2_) | with_reducible exact H | (rw [hy164]; exact H) | exact H
    have Ny164 := Aside0.mk hy164
    clear hy164
    replace H := Option.bind_eq_some_iff.mp H
    obtain ⟨⟨t167, t168⟩, A40, H⟩ := H
    replace H : (if 0 ≤ t167 then (if t167 < (y164.length : Int) then (some (rd y164 t167, t168)) else (none)) else (none)) = some (r1, r2) := H
    have A4 := Aside0.mk A40
    clear A40
    by_cases c5 : 0 ≤ t167
    · rw [if_pos c5] at H
      have c5b0 : decide (0 ≤ t167) = true := decide_eq_true c5
      clear c5
      by_cases c6 : t167 < (y164.length : Int)
      · rw [if_pos c6] at H
        have c6b0 : decide (t167 < (y164.length : Int)) = true := decide_eq_true c6
        clear c6
        simp only [Option.some.injEq, Prod.mk.injEq] at H
        obtain ⟨rfl, rfl⟩ := H
        go_enter Try.func128, Try.ntmps128
        go_wp2_with (first | ((with_reducible refine gate_callee (f := 90) rfl ?_); refine goesL_ (some 4) rfl rfl Try.func90 (by kernel_rfl) rfl #[.pointer (some ⟨g, 0, none⟩), .int .i64 24] rfl Sqz.auM ?_; (with_reducible refine (spec_l6Rd_pick.calls k g s0_0 s0_1 24 t162 t163 w0 _ ?side1 ?side2 A2.out).mono ?_); (case side1 => repeat (first | (with_reducible first | exact HI0.out | apply IsS74.alloc | apply IsS74.drewN | apply IsS74.drew | apply IsS74.set_1) | exact HI0.out)); (case side2 => repeat (first | (with_reducible first | exact HB.out | apply below_alloc | apply pw_below_drewN | apply below_drew1 | refine below_set ?_ (IsS74.ge HI0.out)) | exact HB.out)); rintro e w7 ⟨rfl, hi, hb, hk⟩; refine ⟨_, rfl, ?_⟩; have n0_ := Aside0.mk (KeepBut.trans (by repeat (first | (with_reducible first | exact HK.out | apply KeepBut.set_ | apply keep_drewN | apply keep_drew | apply keep_alloc) | exact HK.out)) hk (.inl rfl)); have n1_ := Aside0.mk (hb); have n2_ := Aside0.mk (hi); clear HK; clear HB; clear HI0; have HK := n0_; have HB := n1_; have HI0 := n2_; clear n0_ n1_ n2_; (try clear hb); (try clear hb2); (try clear hk); (try clear hi)) | ((with_reducible refine gate_dst (N := 6) rfl ?_); refine Kd.R_lit (Kd.int .i64) _ 3 ?hg (N := 6) ?hd (xs := ([0, 1, 4, (-3), 97, 9] : List Int)) (inner := [.int .i64 0, .int .i64 1, .int .i64 4, .int .i64 (-3), .int .i64 97, .int .i64 9]) (ok := fun _ => True) (okp := fun _ => True) ?hr ?hp (fun _ hk => hk) trivial (Below.refl _ _) (Nat.le_refl _) (by simp) ?_; (case hd => rfl); (case hg => rfl); (case hr => first | (go_simp; done) | (go_simp; rfl)); (case hp => exact (Reps.one (show Kd.M (Kd.int .i64) _ _ _ 0 [.int .i64 0] from rfl) (Reps.one (show Kd.M (Kd.int .i64) _ _ _ 1 [.int .i64 1] from rfl) (Reps.one (show Kd.M (Kd.int .i64) _ _ _ 4 [.int .i64 4] from rfl) (Reps.one (show Kd.M (Kd.int .i64) _ _ _ (-3) [.int .i64 (-3)] from rfl) (Reps.one (show Kd.M (Kd.int .i64) _ _ _ 97 [.int .i64 97] from rfl) (Reps.one (show Kd.M (Kd.int .i64) _ _ _ 9 [.int .i64 9] from rfl) (Reps.none _ _)))))))); intro v165 w8 ho9 hb hg_ hnew_; clear hg_ hnew_; (first | rw [← Ny164.out] at ho9 | (simp only [Int.reduceToNat] at ho9; rw [← Ny164.out] at ho9)); have n0_ := Aside0.mk (Kd.R_lower ho9 (keep_size (w := w) (g := g) (row := none) (by repeat (first | (with_reducible first | exact HK.out | apply KeepBut.set_ | apply keep_drewN | apply keep_drew | apply keep_alloc) | exact HK.out)))); have n1_ := Aside0.mk (IsS74.below (by repeat (first | (with_reducible first | exact HI0.out | apply IsS74.alloc | apply IsS74.drewN | apply IsS74.drew | apply IsS74.set_1) | exact HI0.out)) hb); have n2_ := Aside0.mk (KeepBut.trans (by repeat (first | (with_reducible first | exact HK.out | apply KeepBut.set_ | apply keep_drewN | apply keep_drew | apply keep_alloc) | exact HK.out)) (KeepBut.of_below hb g none) (.inl rfl)); have n3_ := Aside0.mk (below_step (by repeat (first | (with_reducible first | exact HB.out | apply below_alloc | apply pw_below_drewN | apply below_drew1 | refine below_set ?_ (IsS74.ge HI0.out)) | exact HB.out)) hb); clear HI0; clear HK; clear HB; have HO166 := n0_; have HI0 := n1_; have HK := n2_; have HB := n3_; clear n0_ n1_ n2_ n3_; clear hb ho9) | ((with_reducible refine gate_callee (f := 90) rfl ?_); refine goesL_ (some 8) rfl rfl Try.func90 (by kernel_rfl) rfl #[.pointer (some ⟨g, 0, none⟩), .int .i64 6] rfl Sqz.auM ?_; (with_reducible refine (spec_l6Rd_pick.calls k g s0_0 t163 6 t167 t168 w0 _ ?side1 ?side2 A4.out).mono ?_); (case side1 => repeat (first | (with_reducible first | exact HI0.out | apply IsS74.alloc | apply IsS74.drewN | apply IsS74.drew | apply IsS74.set_1) | exact HI0.out)); (case side2 => repeat (first | (with_reducible first | exact HB.out | apply below_alloc | apply pw_below_drewN | apply below_drew1 | refine below_set ?_ (IsS74.ge HI0.out)) | exact HB.out)); rintro e w10 ⟨rfl, hi, hb, hk⟩; refine ⟨_, rfl, ?_⟩; have n0_ := Aside0.mk (Kd.R_mono (Kd.R_keep (IsS74.apart (show IsS74 w0 _ g s0_0 t163 from by repeat (first | (with_reducible first | exact HI0.out | apply IsS74.alloc | apply IsS74.drewN | apply IsS74.drew | apply IsS74.set_1) | exact HI0.out)) ((Sqz.mvR HO166.out)) (by decide)) hk (fun _ h => h.2)) (fun _ h => h.1)); have n1_ := Aside0.mk (KeepBut.trans (by repeat (first | (with_reducible first | exact HK.out | apply KeepBut.set_ | apply keep_drewN | apply keep_drew | apply keep_alloc) | exact HK.out)) hk (.inl rfl)); have n2_ := Aside0.mk (hb); have n3_ := Aside0.mk (hi); clear HO166; clear HK; clear HB; clear HI0; have HO166 := n0_; have HK := n1_; have HB := n2_; have HI0 := n3_; clear n0_ n1_ n2_ n3_; (try clear hb); (try clear hb2); (try clear hk); (try clear hi); obtain ⟨Ao11, co11, eo11⟩ := Kd.R_slice HO166.out; subst eo11; have p169 : 0 ≤ (t167 : Int) := of_decide_eq_true (by first | (with_reducible assumption) | assumption); have q169 : t167 < (y164.length : Int) := of_decide_eq_true (by first | (with_reducible assumption) | assumption); obtain ⟨ad169, e169, hx169_0⟩ := Kd.at_int (Kd.R_reads' HO166.out).2.2 t167 p169 q169; cases e169; replace p169 := eq_true p169; replace q169 := eq_true q169))
        go_ret
        exact ⟨Sqz.auR, by repeat (first | (with_reducible first | exact HI0.out | apply IsS74.alloc | apply IsS74.drewN | apply IsS74.drew | apply IsS74.set_1) | exact HI0.out), by repeat (first | (with_reducible first | exact HB.out | apply below_alloc | apply pw_below_drewN | apply below_drew1 | refine below_set ?_ (IsS74.ge HI0.out)) | exact HB.out), by repeat (first | (with_reducible first | exact HK.out | apply KeepBut.set_ | apply keep_drewN | apply keep_drew | apply keep_alloc) | exact HK.out)⟩
      · rw [if_neg c6] at H
        exact absurd H (by simp)
    · rw [if_neg c5] at H
      exact absurd H (by simp)
  · rw [if_neg c3] at H
    have c3b0 : (t162 == 0) = false := beq_eq_false_iff_ne.mpr c3
    have c3b1 : (t162 != 0) = true := bne_iff_ne.mpr c3
    obtain ⟨y170, hy170⟩ : ∃ y_ : List Int, y_ = (([2, 3, 5, 7, 11, 13, 3, 2] : List Int)) := ⟨_, rfl⟩
    replace H : ((spec_l6Rd_pick.f k s0_0 t163 8).bind fun bt173 => (if 0 ≤ bt173.1 then (if bt173.1 < (y170.length : Int) then (some (rd y170 bt173.1, bt173.2)) else (none)) else (none))) = some (r1, r2) := by first | (rw [hy170]; with_reducible exact H) | (have H2_ := (Option.bind_some _ _).symm.trans H; rw [hy170]; with_reducible exact H2_) | (have H2_ := (Option.bind_some _ _).symm.trans H; with_reducible exact H2_) | with_reducible exact H | (rw [hy170]; exact H) | exact H
    have Ny170 := Aside0.mk hy170
    clear hy170
    replace H := Option.bind_eq_some_iff.mp H
    obtain ⟨⟨t173, t174⟩, A120, H⟩ := H
    replace H : (if 0 ≤ t173 then (if t173 < (y170.length : Int) then (some (rd y170 t173, t174)) else (none)) else (none)) = some (r1, r2) := H
    have A12 := Aside0.mk A120
    clear A120
    by_cases c13 : 0 ≤ t173
    · rw [if_pos c13] at H
      have c13b0 : decide (0 ≤ t173) = true := decide_eq_true c13
      clear c13
      by_cases c14 : t173 < (y170.length : Int)
      · rw [if_pos c14] at H
        have c14b0 : decide (t173 < (y170.length : Int)) = true := decide_eq_true c14
        clear c14
        simp only [Option.some.injEq, Prod.mk.injEq] at H
        obtain ⟨rfl, rfl⟩ := H
        go_enter Try.func128, Try.ntmps128
        go_wp2_with (first | ((with_reducible refine gate_callee (f := 90) rfl ?_); refine goesL_ (some 4) rfl rfl Try.func90 (by kernel_rfl) rfl #[.pointer (some ⟨g, 0, none⟩), .int .i64 24] rfl Sqz.auM ?_; (with_reducible refine (spec_l6Rd_pick.calls k g s0_0 s0_1 24 t162 t163 w0 _ ?side1 ?side2 A2.out).mono ?_); (case side1 => repeat (first | (with_reducible first | exact HI0.out | apply IsS74.alloc | apply IsS74.drewN | apply IsS74.drew | apply IsS74.set_1) | exact HI0.out)); (case side2 => repeat (first | (with_reducible first | exact HB.out | apply below_alloc | apply pw_below_drewN | apply below_drew1 | refine below_set ?_ (IsS74.ge HI0.out)) | exact HB.out)); rintro e w15 ⟨rfl, hi, hb, hk⟩; refine ⟨_, rfl, ?_⟩; have n0_ := Aside0.mk (KeepBut.trans (by repeat (first | (with_reducible first | exact HK.out | apply KeepBut.set_ | apply keep_drewN | apply keep_drew | apply keep_alloc) | exact HK.out)) hk (.inl rfl)); have n1_ := Aside0.mk (hb); have n2_ := Aside0.mk (hi); clear HK; clear HB; clear HI0; have HK := n0_; have HB := n1_; have HI0 := n2_; clear n0_ n1_ n2_; (try clear hb); (try clear hb2); (try clear hk); (try clear hi)) | ((with_reducible refine gate_dst (N := 11) rfl ?_); refine Kd.R_lit (Kd.int .i64) _ 3 ?hg (N := 11) ?hd (xs := ([2, 3, 5, 7, 11, 13, 3, 2] : List Int)) (inner := [.int .i64 2, .int .i64 3, .int .i64 5, .int .i64 7, .int .i64 11, .int .i64 13, .int .i64 3, .int .i64 2]) (ok := fun _ => True) (okp := fun _ => True) ?hr ?hp (fun _ hk => hk) trivial (Below.refl _ _) (Nat.le_refl _) (by simp) ?_; (case hd => rfl); (case hg => rfl); (case hr => first | (go_simp; done) | (go_simp; rfl)); (case hp => exact (Reps.one (show Kd.M (Kd.int .i64) _ _ _ 2 [.int .i64 2] from rfl) (Reps.one (show Kd.M (Kd.int .i64) _ _ _ 3 [.int .i64 3] from rfl) (Reps.one (show Kd.M (Kd.int .i64) _ _ _ 5 [.int .i64 5] from rfl) (Reps.one (show Kd.M (Kd.int .i64) _ _ _ 7 [.int .i64 7] from rfl) (Reps.one (show Kd.M (Kd.int .i64) _ _ _ 11 [.int .i64 11] from rfl) (Reps.one (show Kd.M (Kd.int .i64) _ _ _ 13 [.int .i64 13] from rfl) (Reps.one (show Kd.M (Kd.int .i64) _ _ _ 3 [.int .i64 3] from rfl) (Reps.one (show Kd.M (Kd.int .i64) _ _ _ 2 [.int .i64 2] from rfl) (Reps.none _ _)))))))))); intro v171 w16 ho17 hb hg_ hnew_; clear hg_ hnew_; (first | rw [← Ny170.out] at ho17 | (simp only [Int.reduceToNat] at ho17; rw [← Ny170.out] at ho17)); have n0_ := Aside0.mk (Kd.R_lower ho17 (keep_size (w := w) (g := g) (row := none) (by repeat (first | (with_reducible first | exact HK.out | apply KeepBut.set_ | apply keep_drewN | apply keep_drew | apply keep_alloc) | exact HK.out)))); have n1_ := Aside0.mk (IsS74.below (by repeat (first | (with_reducible first | exact HI0.out | apply IsS74.alloc | apply IsS74.drewN | apply IsS74.drew | apply IsS74.set_1) | exact HI0.out)) hb); have n2_ := Aside0.mk (KeepBut.trans (by repeat (first | (with_reducible first | exact HK.out | apply KeepBut.set_ | apply keep_drewN | apply keep_drew | apply keep_alloc) | exact HK.out)) (KeepBut.of_below hb g none) (.inl rfl)); have n3_ := Aside0.mk (below_step (by repeat (first | (with_reducible first | exact HB.out | apply below_alloc | apply pw_below_drewN | apply below_drew1 | refine below_set ?_ (IsS74.ge HI0.out)) | exact HB.out)) hb); clear HI0; clear HK; clear HB; have HO172 := n0_; have HI0 := n1_; have HK := n2_; have HB := n3_; clear n0_ n1_ n2_ n3_; clear hb ho17) | ((with_reducible refine gate_callee (f := 90) rfl ?_); refine goesL_ (some 13) rfl rfl Try.func90 (by kernel_rfl) rfl #[.pointer (some ⟨g, 0, none⟩), .int .i64 8] rfl Sqz.auM ?_; (with_reducible refine (spec_l6Rd_pick.calls k g s0_0 t163 8 t173 t174 w0 _ ?side1 ?side2 A12.out).mono ?_); (case side1 => repeat (first | (with_reducible first | exact HI0.out | apply IsS74.alloc | apply IsS74.drewN | apply IsS74.drew | apply IsS74.set_1) | exact HI0.out)); (case side2 => repeat (first | (with_reducible first | exact HB.out | apply below_alloc | apply pw_below_drewN | apply below_drew1 | refine below_set ?_ (IsS74.ge HI0.out)) | exact HB.out)); rintro e w18 ⟨rfl, hi, hb, hk⟩; refine ⟨_, rfl, ?_⟩; have n0_ := Aside0.mk (Kd.R_mono (Kd.R_keep (IsS74.apart (show IsS74 w0 _ g s0_0 t163 from by repeat (first | (with_reducible first | exact HI0.out | apply IsS74.alloc | apply IsS74.drewN | apply IsS74.drew | apply IsS74.set_1) | exact HI0.out)) ((Sqz.mvR HO172.out)) (by decide)) hk (fun _ h => h.2)) (fun _ h => h.1)); have n1_ := Aside0.mk (KeepBut.trans (by repeat (first | (with_reducible first | exact HK.out | apply KeepBut.set_ | apply keep_drewN | apply keep_drew | apply keep_alloc) | exact HK.out)) hk (.inl rfl)); have n2_ := Aside0.mk (hb); have n3_ := Aside0.mk (hi); clear HO172; clear HK; clear HB; clear HI0; have HO172 := n0_; have HK := n1_; have HB := n2_; have HI0 := n3_; clear n0_ n1_ n2_ n3_; (try clear hb); (try clear hb2); (try clear hk); (try clear hi); obtain ⟨Ao19, co19, eo19⟩ := Kd.R_slice HO172.out; subst eo19; have p175 : 0 ≤ (t173 : Int) := of_decide_eq_true (by first | (with_reducible assumption) | assumption); have q175 : t173 < (y170.length : Int) := of_decide_eq_true (by first | (with_reducible assumption) | assumption); obtain ⟨ad175, e175, hx175_0⟩ := Kd.at_int (Kd.R_reads' HO172.out).2.2 t173 p175 q175; cases e175; replace p175 := eq_true p175; replace q175 := eq_true q175))
        go_ret
        exact ⟨Sqz.auR, by repeat (first | (with_reducible first | exact HI0.out | apply IsS74.alloc | apply IsS74.drewN | apply IsS74.drew | apply IsS74.set_1) | exact HI0.out), by repeat (first | (with_reducible first | exact HB.out | apply below_alloc | apply pw_below_drewN | apply below_drew1 | refine below_set ?_ (IsS74.ge HI0.out)) | exact HB.out), by repeat (first | (with_reducible first | exact HK.out | apply KeepBut.set_ | apply keep_drewN | apply keep_drew | apply keep_alloc) | exact HK.out)⟩
      · rw [if_neg c14] at H
        exact absurd H (by simp)
    · rw [if_neg c13] at H
      exact absurd H (by simp)

/-! ### spec_l91Place: function 76 -/
def spec_l91Place.f (k : Nat) (s0_0 : List Int) (s0_1 : Int) : Option (Int × Int) := (spec_l6Rd_pick.f k s0_0 s0_1 5).bind fun bt176 => (if bt176.1 = 0 then (some (0, bt176.2)) else ((spec_l91Prime.f k s0_0 bt176.2).bind fun bt178 => (some (bt178.1, bt178.2))))
set_option maxHeartbeats 8000000 in
set_option maxRecDepth 100000 in
theorem spec_l91Place.calls (k : Nat) (g : Nat) (s0_0 : List Int) (s0_1 : Int) (r1 : Int) (r2 : Int) (w0 w : World) (hI : IsS74 w0 w g s0_0 s0_1) (hB : Below w0.heap.size w0 w) (h : spec_l91Place.f k s0_0 s0_1 = some (r1, r2)) :
    Calls Try.prog 76 #[.pointer (some ⟨g, 0, none⟩)] w fun e w' => e = .returned (.int .i64 r1) ∧ IsS74 w0 w' g s0_0 r2 ∧ Below w0.heap.size w0 w' ∧ KeepBut w w' g none := by
  have HI0 := Aside0.mk hI
  have HK := Aside0.mk (KeepBut.refl w g none)
  have HL := Aside0.mk hB.size
  clear hI
  have HW0 := Aside0.mk hB.size
  have HB := Aside0.mk hB
  clear hB
  have H : ((spec_l6Rd_pick.f k s0_0 s0_1 5).bind fun bt176 => (if bt176.1 = 0 then (some (0, bt176.2)) else ((spec_l91Prime.f k s0_0 bt176.2).bind fun bt178 => (some (bt178.1, bt178.2))))) = some (r1, r2) := h
  clear h
  replace H := Option.bind_eq_some_iff.mp H
  obtain ⟨⟨t176, t177⟩, A20, H⟩ := H
  replace H : (if t176 = 0 then (some (0, t177)) else ((spec_l91Prime.f k s0_0 t177).bind fun bt178 => (some (bt178.1, bt178.2)))) = some (r1, r2) := H
  have A2 := Aside0.mk A20
  clear A20
  by_cases c3 : t176 = 0
  · rw [if_pos c3] at H
    have c3b0 : (t176 == 0) = true := beq_iff_eq.mpr c3
    have c3b1 : (t176 != 0) = false := bne_eq_false_iff_eq.mpr c3
    clear c3
    simp only [Option.some.injEq, Prod.mk.injEq] at H
    obtain ⟨rfl, rfl⟩ := H
    go_enter Try.func76, Try.ntmps76
    go_wp2_with (first | ((with_reducible refine gate_callee (f := 90) rfl ?_); refine goesL_ (some 4) rfl rfl Try.func90 (by kernel_rfl) rfl #[.pointer (some ⟨g, 0, none⟩), .int .i64 5] rfl Sqz.auM ?_; (with_reducible refine (spec_l6Rd_pick.calls k g s0_0 s0_1 5 t176 t177 w0 _ ?side1 ?side2 A2.out).mono ?_); (case side1 => repeat (first | (with_reducible first | exact HI0.out | apply IsS74.alloc | apply IsS74.drewN | apply IsS74.drew | apply IsS74.set_1) | exact HI0.out)); (case side2 => repeat (first | (with_reducible first | exact HB.out | apply below_alloc | apply pw_below_drewN | apply below_drew1 | refine below_set ?_ (IsS74.ge HI0.out)) | exact HB.out)); rintro e w4 ⟨rfl, hi, hb, hk⟩; refine ⟨_, rfl, ?_⟩; have n0_ := Aside0.mk (KeepBut.trans (by repeat (first | (with_reducible first | exact HK.out | apply KeepBut.set_ | apply keep_drewN | apply keep_drew | apply keep_alloc) | exact HK.out)) hk (.inl rfl)); have n1_ := Aside0.mk (hb); have n2_ := Aside0.mk (hi); clear HK; clear HB; clear HI0; have HK := n0_; have HB := n1_; have HI0 := n2_; clear n0_ n1_ n2_; (try clear hb); (try clear hb2); (try clear hk); (try clear hi)))
    go_ret
    exact ⟨Sqz.auR, by repeat (first | (with_reducible first | exact HI0.out | apply IsS74.alloc | apply IsS74.drewN | apply IsS74.drew | apply IsS74.set_1) | exact HI0.out), by repeat (first | (with_reducible first | exact HB.out | apply below_alloc | apply pw_below_drewN | apply below_drew1 | refine below_set ?_ (IsS74.ge HI0.out)) | exact HB.out), by repeat (first | (with_reducible first | exact HK.out | apply KeepBut.set_ | apply keep_drewN | apply keep_drew | apply keep_alloc) | exact HK.out)⟩
  · rw [if_neg c3] at H
    have c3b0 : (t176 == 0) = false := beq_eq_false_iff_ne.mpr c3
    have c3b1 : (t176 != 0) = true := bne_iff_ne.mpr c3
    replace H := Option.bind_eq_some_iff.mp H
    obtain ⟨⟨t178, t179⟩, A50, H⟩ := H
    replace H : (some (t178, t179)) = some (r1, r2) := H
    have A5 := Aside0.mk A50
    clear A50
    simp only [Option.some.injEq, Prod.mk.injEq] at H
    obtain ⟨rfl, rfl⟩ := H
    go_enter Try.func76, Try.ntmps76
    go_wp2_with (first | ((with_reducible refine gate_callee (f := 90) rfl ?_); refine goesL_ (some 4) rfl rfl Try.func90 (by kernel_rfl) rfl #[.pointer (some ⟨g, 0, none⟩), .int .i64 5] rfl Sqz.auM ?_; (with_reducible refine (spec_l6Rd_pick.calls k g s0_0 s0_1 5 t176 t177 w0 _ ?side1 ?side2 A2.out).mono ?_); (case side1 => repeat (first | (with_reducible first | exact HI0.out | apply IsS74.alloc | apply IsS74.drewN | apply IsS74.drew | apply IsS74.set_1) | exact HI0.out)); (case side2 => repeat (first | (with_reducible first | exact HB.out | apply below_alloc | apply pw_below_drewN | apply below_drew1 | refine below_set ?_ (IsS74.ge HI0.out)) | exact HB.out)); rintro e w6 ⟨rfl, hi, hb, hk⟩; refine ⟨_, rfl, ?_⟩; have n0_ := Aside0.mk (KeepBut.trans (by repeat (first | (with_reducible first | exact HK.out | apply KeepBut.set_ | apply keep_drewN | apply keep_drew | apply keep_alloc) | exact HK.out)) hk (.inl rfl)); have n1_ := Aside0.mk (hb); have n2_ := Aside0.mk (hi); clear HK; clear HB; clear HI0; have HK := n0_; have HB := n1_; have HI0 := n2_; clear n0_ n1_ n2_; (try clear hb); (try clear hb2); (try clear hk); (try clear hi)) | ((with_reducible refine gate_callee (f := 128) rfl ?_); refine goesL_ (some 7) rfl rfl Try.func128 (by kernel_rfl) rfl #[.pointer (some ⟨g, 0, none⟩)] rfl Sqz.auM ?_; (with_reducible refine (spec_l91Prime.calls k g s0_0 t177 t178 t179 w0 _ ?side1 ?side2 A5.out).mono ?_); (case side1 => repeat (first | (with_reducible first | exact HI0.out | apply IsS74.alloc | apply IsS74.drewN | apply IsS74.drew | apply IsS74.set_1) | exact HI0.out)); (case side2 => repeat (first | (with_reducible first | exact HB.out | apply below_alloc | apply pw_below_drewN | apply below_drew1 | refine below_set ?_ (IsS74.ge HI0.out)) | exact HB.out)); rintro e w7 ⟨rfl, hi, hb, hk⟩; refine ⟨_, rfl, ?_⟩; have n0_ := Aside0.mk (KeepBut.trans (by repeat (first | (with_reducible first | exact HK.out | apply KeepBut.set_ | apply keep_drewN | apply keep_drew | apply keep_alloc) | exact HK.out)) hk (.inl rfl)); have n1_ := Aside0.mk (hb); have n2_ := Aside0.mk (hi); clear HK; clear HB; clear HI0; have HK := n0_; have HB := n1_; have HI0 := n2_; clear n0_ n1_ n2_; (try clear hb); (try clear hb2); (try clear hk); (try clear hi)))
    go_ret
    exact ⟨Sqz.auR, by repeat (first | (with_reducible first | exact HI0.out | apply IsS74.alloc | apply IsS74.drewN | apply IsS74.drew | apply IsS74.set_1) | exact HI0.out), by repeat (first | (with_reducible first | exact HB.out | apply below_alloc | apply pw_below_drewN | apply below_drew1 | refine below_set ?_ (IsS74.ge HI0.out)) | exact HB.out), by repeat (first | (with_reducible first | exact HK.out | apply KeepBut.set_ | apply keep_drewN | apply keep_drew | apply keep_alloc) | exact HK.out)⟩

/-! ### spec_l91Form: function 100 -/
def spec_l91Form.l0 : Nat → List Int → Int → Int → List Int → Int → Option (List Int × Int)
  | 0, _, _, _, _, _ => none
  | k + 1, x5, x6, x7, x1000, x1001 => if x7 < x6 then ((some (([1, 2, 3, 5, 6, 7, 1, 10, 12, 3, 15, 4, 21, 1, 30, 8] : List Int) : List Int)).bind fun y185 => ((spec_l6Rd_pick.f k x1000 x1001 16).bind fun bt188 => (if 0 ≤ bt188.1 then (if bt188.1 < (y185.length : Int) then ((spec_l6Rd_pick.f k x1000 bt188.2 5).bind fun bt191 => (if bt191.1 < 2 then (if x5.length < 17592186044416 then (spec_l91Form.l0 k (x5 ++ [wrap64 (-(rd y185 bt188.1))]) x6 (wrap64 (x7 + 1)) x1000 bt191.2) else (none)) else (if x5.length < 17592186044416 then (spec_l91Form.l0 k (x5 ++ [rd y185 bt188.1]) x6 (wrap64 (x7 + 1)) x1000 bt191.2) else (none)))) else (none)) else (none)))) else ((spec_l6Rd_pick.f k x1000 x1001 40).bind fun bt199 => (if bt199.1 = 0 then ((some (([0, 31] : List Int) : List Int)).bind fun y201 => ((spec_l6Rd_pick.f k x1000 bt199.2 2).bind fun bt204 => (if 0 ≤ bt204.1 then (if bt204.1 < (y201.length : Int) then (if 0 < (x5.length : Int) then (some ((x5.set (0 : Int).toNat (rd y201 bt204.1)), bt204.2)) else (none)) else (none)) else (none)))) else (if bt199.1 = 1 then (some ((([] : List Int)), bt199.2)) else (some (x5, bt199.2)))))
def spec_l91Form.f (k : Nat) (s0_0 : List Int) (s0_1 : Int) (a1 : Int) : Option (List Int × Int) := (spec_l6Rd_pick.f k s0_0 s0_1 a1).bind fun bt183 => (spec_l91Form.l0 k (([] : List Int)) (wrap64 (1 + bt183.1)) 0 s0_0 bt183.2)
set_option maxHeartbeats 8000000 in
set_option maxRecDepth 100000 in
theorem spec_l91Form.calls (k : Nat) (g : Nat) (s0_0 : List Int) (s0_1 : Int) (a1 : Int) (r1 : List Int) (r2 : Int) (w0 w : World) (hI : IsS74 w0 w g s0_0 s0_1) (hB : Below w0.heap.size w0 w) (h : spec_l91Form.f k s0_0 s0_1 a1 = some (r1, r2)) :
    Calls Try.prog 100 #[.pointer (some ⟨g, 0, none⟩), .int .i64 a1] w fun e w' => ∃ v0_ : Value, e = .returned (v0_) ∧ Kd.R (Kd.int .i64) 3 w' w.heap.size (fun _ => True) v0_ r1 ∧ IsS74 w0 w' g s0_0 r2 ∧ Below w0.heap.size w0 w' ∧ KeepBut w w' g none := by
  have HI0 := Aside0.mk hI
  have HK := Aside0.mk (KeepBut.refl w g none)
  have HL := Aside0.mk hB.size
  clear hI
  have HW0 := Aside0.mk hB.size
  have HB := Aside0.mk hB
  clear hB
  have H : ((spec_l6Rd_pick.f k s0_0 s0_1 a1).bind fun bt183 => (spec_l91Form.l0 k (([] : List Int)) (wrap64 (1 + bt183.1)) 0 s0_0 bt183.2)) = some (r1, r2) := h
  clear h
  obtain ⟨y180, hy180⟩ : ∃ y_ : List Int, y_ = (([] : List Int)) := ⟨_, rfl⟩
  replace H : ((spec_l6Rd_pick.f k s0_0 s0_1 a1).bind fun bt183 => (spec_l91Form.l0 k y180 (wrap64 (1 + bt183.1)) 0 s0_0 bt183.2)) = some (r1, r2) := by first | (rw [hy180]; with_reducible exact H) | (have H2_ := (Option.bind_some _ _).symm.trans H; rw [hy180]; with_reducible exact H2_) | (have H2_ := (Option.bind_some _ _).symm.trans H; with_reducible exact H2_) | with_reducible exact H | (rw [hy180]; exact H) | exact H
  have Ny180 := Aside0.mk hy180
  clear hy180
  replace H := Option.bind_eq_some_iff.mp H
  obtain ⟨⟨t183, t184⟩, A30, H⟩ := H
  replace H : (spec_l91Form.l0 k y180 (wrap64 (1 + t183)) 0 s0_0 t184) = some (r1, r2) := H
  have A3 := Aside0.mk A30
  clear A30
  have H' := Aside0.mk H
  clear H
  go_enter Try.func100, Try.ntmps100
  go_wp2_with (first | ((with_reducible refine gate_dst (N := 9) rfl ?_); refine Kd.R_lit (Kd.int .i64) _ 3 ?hg (N := 9) ?hd (xs := ([] : List Int)) (inner := []) (ok := fun _ => True) (okp := fun _ => True) ?hr ?hp (fun _ hk => hk) trivial (Below.refl _ _) (Nat.le_refl _) (by simp) ?_; (case hd => rfl); (case hg => rfl); (case hr => first | (go_simp; done) | (go_simp; rfl)); (case hp => exact (Reps.none _ _)); intro v181 w4 ho5 hb hg_ hnew_; clear hg_ hnew_; (first | rw [← Ny180.out] at ho5 | (simp only [Int.reduceToNat] at ho5; rw [← Ny180.out] at ho5)); have n0_ := Aside0.mk (Kd.R_lower ho5 (keep_size (w := w) (g := g) (row := none) (by repeat (first | (with_reducible first | exact HK.out | apply KeepBut.set_ | apply keep_drewN | apply keep_drew | apply keep_alloc) | exact HK.out)))); have n1_ := Aside0.mk (IsS74.below (by repeat (first | (with_reducible first | exact HI0.out | apply IsS74.alloc | apply IsS74.drewN | apply IsS74.drew | apply IsS74.set_1) | exact HI0.out)) hb); have n2_ := Aside0.mk (KeepBut.trans (by repeat (first | (with_reducible first | exact HK.out | apply KeepBut.set_ | apply keep_drewN | apply keep_drew | apply keep_alloc) | exact HK.out)) (KeepBut.of_below hb g none) (.inl rfl)); have n3_ := Aside0.mk (below_step (by repeat (first | (with_reducible first | exact HB.out | apply below_alloc | apply pw_below_drewN | apply below_drew1 | refine below_set ?_ (IsS74.ge HI0.out)) | exact HB.out)) hb); clear HI0; clear HK; clear HB; have HO182 := n0_; have HI0 := n1_; have HK := n2_; have HB := n3_; clear n0_ n1_ n2_ n3_; clear hb ho5) | ((with_reducible refine gate_callee (f := 90) rfl ?_); refine goesL_ (some 12) rfl rfl Try.func90 (by kernel_rfl) rfl #[.pointer (some ⟨g, 0, none⟩), .int .i64 a1] rfl Sqz.auM ?_; (with_reducible refine (spec_l6Rd_pick.calls k g s0_0 s0_1 a1 t183 t184 w0 _ ?side1 ?side2 A3.out).mono ?_); (case side1 => repeat (first | (with_reducible first | exact HI0.out | apply IsS74.alloc | apply IsS74.drewN | apply IsS74.drew | apply IsS74.set_1) | exact HI0.out)); (case side2 => repeat (first | (with_reducible first | exact HB.out | apply below_alloc | apply pw_below_drewN | apply below_drew1 | refine below_set ?_ (IsS74.ge HI0.out)) | exact HB.out)); rintro e w6 ⟨rfl, hi, hb, hk⟩; refine ⟨_, rfl, ?_⟩; have n0_ := Aside0.mk (Kd.R_mono (Kd.R_keep (IsS74.apart (show IsS74 w0 _ g s0_0 s0_1 from by repeat (first | (with_reducible first | exact HI0.out | apply IsS74.alloc | apply IsS74.drewN | apply IsS74.drew | apply IsS74.set_1) | exact HI0.out)) ((Sqz.mvR HO182.out)) (by decide)) hk (fun _ h => h.2)) (fun _ h => h.1)); have n1_ := Aside0.mk (KeepBut.trans (by repeat (first | (with_reducible first | exact HK.out | apply KeepBut.set_ | apply keep_drewN | apply keep_drew | apply keep_alloc) | exact HK.out)) hk (.inl rfl)); have n2_ := Aside0.mk (hb); have n3_ := Aside0.mk (hi); clear HO182; clear HK; clear HB; clear HI0; have HO182 := n0_; have HK := n1_; have HB := n2_; have HI0 := n3_; clear n0_ n1_ n2_ n3_; (try clear hb); (try clear hb2); (try clear hk); (try clear hi)))
  go_loopg [5, 7] k (fun kq v5 v7 w' => ∃ (x5_1 : List Int) (x7_1 : Int) (x1001_1 : Int), v7 = .int .i64 x7_1 ∧ Aside0 (spec_l91Form.l0 kq x5_1 (wrap64 (1 + t183)) x7_1 s0_0 x1001_1 = some (r1, r2)) ∧ Aside0 (kq ≤ k) ∧ Aside0 (Kd.R (Kd.int .i64) 3 w' w.heap.size (fun _ => True) v5 x5_1) ∧ Aside0 (IsS74 w0 w' g s0_0 x1001_1) ∧ Aside0 (KeepBut w w' g none) ∧ Aside0 (Below w0.heap.size w0 w'))
  case atStart => exact ⟨(y180), (0), (t184), Sqz.auS, H', ⟨Nat.le_refl _⟩, ⟨(Sqz.mvR HO182.out)⟩, ⟨by repeat (first | (with_reducible first | exact HI0.out | apply IsS74.alloc | apply IsS74.drewN | apply IsS74.drew | apply IsS74.set_1) | exact HI0.out)⟩, ⟨by repeat (first | (with_reducible first | exact HK.out | apply KeepBut.set_ | apply keep_drewN | apply keep_drew | apply keep_alloc) | exact HK.out)⟩, ⟨by repeat (first | (with_reducible first | exact HB.out | apply below_alloc | apply pw_below_drewN | apply below_drew1 | refine below_set ?_ (IsS74.ge HI0.out)) | exact HB.out)⟩⟩
  case round =>
    clear H'
    try clear c1
    try clear p2
    try clear p6
    obtain ⟨x5_1, x7_1, x1001_1, rfl, HA, HK1, HO_5, HI0, HK, HB⟩ := hrel
    cases gk with
    | zero => exact absurd HA.out (by simp [spec_l91Form.l0])
    | succ k1 =>
      have H := HA.out
      clear HA
      simp only [spec_l91Form.l0] at H
      by_cases c7 : x7_1 < (wrap64 (1 + t183))
      · rw [if_pos c7] at H
        have c7b0 : decide (x7_1 < (wrap64 (1 + t183))) = true := decide_eq_true c7
        clear c7
        obtain ⟨y185, hy185⟩ : ∃ y_ : List Int, y_ = (([1, 2, 3, 5, 6, 7, 1, 10, 12, 3, 15, 4, 21, 1, 30, 8] : List Int)) := ⟨_, rfl⟩
        replace H : ((spec_l6Rd_pick.f k1 s0_0 x1001_1 16).bind fun bt188 => (if 0 ≤ bt188.1 then (if bt188.1 < (y185.length : Int) then ((spec_l6Rd_pick.f k1 s0_0 bt188.2 5).bind fun bt191 => (if bt191.1 < 2 then (if x5_1.length < 17592186044416 then (spec_l91Form.l0 k1 (x5_1 ++ [wrap64 (-(rd y185 bt188.1))]) (wrap64 (1 + t183)) (wrap64 (x7_1 + 1)) s0_0 bt191.2) else (none)) else (if x5_1.length < 17592186044416 then (spec_l91Form.l0 k1 (x5_1 ++ [rd y185 bt188.1]) (wrap64 (1 + t183)) (wrap64 (x7_1 + 1)) s0_0 bt191.2) else (none)))) else (none)) else (none))) = some (r1, r2) := by first | (rw [hy185]; with_reducible exact H) | (have H2_ := (Option.bind_some _ _).symm.trans H; rw [hy185]; with_reducible exact H2_) | (have H2_ := (Option.bind_some _ _).symm.trans H; with_reducible exact H2_) | with_reducible exact H | (rw [hy185]; exact H) | exact H
        have Ny185 := Aside0.mk hy185
        clear hy185
        replace H := Option.bind_eq_some_iff.mp H
        obtain ⟨⟨t188, t189⟩, A80, H⟩ := H
        replace H : (if 0 ≤ t188 then (if t188 < (y185.length : Int) then ((spec_l6Rd_pick.f k1 s0_0 t189 5).bind fun bt191 => (if bt191.1 < 2 then (if x5_1.length < 17592186044416 then (spec_l91Form.l0 k1 (x5_1 ++ [wrap64 (-(rd y185 t188))]) (wrap64 (1 + t183)) (wrap64 (x7_1 + 1)) s0_0 bt191.2) else (none)) else (if x5_1.length < 17592186044416 then (spec_l91Form.l0 k1 (x5_1 ++ [rd y185 t188]) (wrap64 (1 + t183)) (wrap64 (x7_1 + 1)) s0_0 bt191.2) else (none)))) else (none)) else (none)) = some (r1, r2) := H
        have A8 := Aside0.mk A80
        clear A80
        by_cases c9 : 0 ≤ t188
        · rw [if_pos c9] at H
          have c9b0 : decide (0 ≤ t188) = true := decide_eq_true c9
          clear c9
          by_cases c10 : t188 < (y185.length : Int)
          · rw [if_pos c10] at H
            have c10b0 : decide (t188 < (y185.length : Int)) = true := decide_eq_true c10
            clear c10
            replace H := Option.bind_eq_some_iff.mp H
            obtain ⟨⟨t191, t192⟩, A110, H⟩ := H
            replace H : (if t191 < 2 then (if x5_1.length < 17592186044416 then (spec_l91Form.l0 k1 (x5_1 ++ [wrap64 (-(rd y185 t188))]) (wrap64 (1 + t183)) (wrap64 (x7_1 + 1)) s0_0 t192) else (none)) else (if x5_1.length < 17592186044416 then (spec_l91Form.l0 k1 (x5_1 ++ [rd y185 t188]) (wrap64 (1 + t183)) (wrap64 (x7_1 + 1)) s0_0 t192) else (none))) = some (r1, r2) := H
            have A11 := Aside0.mk A110
            clear A110
            by_cases c12 : t191 < 2
            · rw [if_pos c12] at H
              have c12b0 : decide (t191 < 2) = true := decide_eq_true c12
              clear c12
              by_cases c13 : x5_1.length < 17592186044416
              · rw [if_pos c13] at H
                have LMc13 := Aside0.mk c13
                clear c13
                obtain ⟨y193, hy193⟩ : ∃ y_ : List Int, y_ = (x5_1 ++ [wrap64 (-(rd y185 t188))]) := ⟨_, rfl⟩
                replace H : (spec_l91Form.l0 k1 y193 (wrap64 (1 + t183)) (wrap64 (x7_1 + 1)) s0_0 t192) = some (r1, r2) := by first | (rw [hy193]; with_reducible exact H) | (have H2_ := (Option.bind_some _ _).symm.trans H; rw [hy193]; with_reducible exact H2_) | (have H2_ := (Option.bind_some _ _).symm.trans H; with_reducible exact H2_) | with_reducible exact H | (rw [hy193]; exact H) | exact H
                have Ny193 := Aside0.mk hy193
                clear hy193
                have H' := Aside0.mk H
                clear H
                go_wp2_with (first | ((with_reducible refine gate_dst (N := 19) rfl ?_); refine Kd.R_lit (Kd.int .i64) _ 3 ?hg (N := 19) ?hd (xs := ([1, 2, 3, 5, 6, 7, 1, 10, 12, 3, 15, 4, 21, 1, 30, 8] : List Int)) (inner := [.int .i64 1, .int .i64 2, .int .i64 3, .int .i64 5, .int .i64 6, .int .i64 7, .int .i64 1, .int .i64 10, .int .i64 12, .int .i64 3, .int .i64 15, .int .i64 4, .int .i64 21, .int .i64 1, .int .i64 30, .int .i64 8]) (ok := fun _ => True) (okp := fun _ => True) ?hr ?hp (fun _ hk => hk) trivial (Below.refl _ _) (Nat.le_refl _) (by simp) ?_; (case hd => rfl); (case hg => rfl); (case hr => first | (go_simp; done) | (go_simp; rfl)); (case hp => exact (Reps.one (show Kd.M (Kd.int .i64) _ _ _ 1 [.int .i64 1] from rfl) (Reps.one (show Kd.M (Kd.int .i64) _ _ _ 2 [.int .i64 2] from rfl) (Reps.one (show Kd.M (Kd.int .i64) _ _ _ 3 [.int .i64 3] from rfl) (Reps.one (show Kd.M (Kd.int .i64) _ _ _ 5 [.int .i64 5] from rfl) (Reps.one (show Kd.M (Kd.int .i64) _ _ _ 6 [.int .i64 6] from rfl) (Reps.one (show Kd.M (Kd.int .i64) _ _ _ 7 [.int .i64 7] from rfl) (Reps.one (show Kd.M (Kd.int .i64) _ _ _ 1 [.int .i64 1] from rfl) (Reps.one (show Kd.M (Kd.int .i64) _ _ _ 10 [.int .i64 10] from rfl) (Reps.one (show Kd.M (Kd.int .i64) _ _ _ 12 [.int .i64 12] from rfl) (Reps.one (show Kd.M (Kd.int .i64) _ _ _ 3 [.int .i64 3] from rfl) (Reps.one (show Kd.M (Kd.int .i64) _ _ _ 15 [.int .i64 15] from rfl) (Reps.one (show Kd.M (Kd.int .i64) _ _ _ 4 [.int .i64 4] from rfl) (Reps.one (show Kd.M (Kd.int .i64) _ _ _ 21 [.int .i64 21] from rfl) (Reps.one (show Kd.M (Kd.int .i64) _ _ _ 1 [.int .i64 1] from rfl) (Reps.one (show Kd.M (Kd.int .i64) _ _ _ 30 [.int .i64 30] from rfl) (Reps.one (show Kd.M (Kd.int .i64) _ _ _ 8 [.int .i64 8] from rfl) (Reps.none _ _)))))))))))))))))); intro v186 w14 ho15 hb hg_ hnew_; clear hg_ hnew_; (first | rw [← Ny185.out] at ho15 | (simp only [Int.reduceToNat] at ho15; rw [← Ny185.out] at ho15)); have n0_ := Aside0.mk (Kd.R_elder' ((Sqz.mvR HO_5.out)) (Kd.R_base ho15) hb); have n1_ := Aside0.mk (Kd.R_lower (Kd.R_new' ho15 (Kd.R_lt ((Sqz.mvR HO_5.out)))) (keep_size (w := w) (g := g) (row := none) (by repeat (first | (with_reducible first | exact HK.out | apply KeepBut.set_ | apply keep_drewN | apply keep_drew | apply keep_alloc) | exact HK.out)))); have n2_ := Aside0.mk (IsS74.below (by repeat (first | (with_reducible first | exact HI0.out | apply IsS74.alloc | apply IsS74.drewN | apply IsS74.drew | apply IsS74.set_1) | exact HI0.out)) hb); have n3_ := Aside0.mk (KeepBut.trans (by repeat (first | (with_reducible first | exact HK.out | apply KeepBut.set_ | apply keep_drewN | apply keep_drew | apply keep_alloc) | exact HK.out)) (KeepBut.of_below hb g none) (.inl rfl)); have n4_ := Aside0.mk (below_step (by repeat (first | (with_reducible first | exact HB.out | apply below_alloc | apply pw_below_drewN | apply below_drew1 | refine below_set ?_ (IsS74.ge HI0.out)) | exact HB.out)) hb); clear HO_5; clear HI0; clear HK; clear HB; have HO_5 := n0_; have HO187 := n1_; have HI0 := n2_; have HK := n3_; have HB := n4_; clear n0_ n1_ n2_ n3_ n4_; clear hb ho15) | ((with_reducible refine gate_callee (f := 90) rfl ?_); refine goesL_ (some 21) rfl rfl Try.func90 (by kernel_rfl) rfl #[.pointer (some ⟨g, 0, none⟩), .int .i64 16] rfl Sqz.auM ?_; (with_reducible refine (spec_l6Rd_pick.calls k1 g s0_0 x1001_1 16 t188 t189 w0 _ ?side1 ?side2 A8.out).mono ?_); (case side1 => repeat (first | (with_reducible first | exact HI0.out | apply IsS74.alloc | apply IsS74.drewN | apply IsS74.drew | apply IsS74.set_1) | exact HI0.out)); (case side2 => repeat (first | (with_reducible first | exact HB.out | apply below_alloc | apply pw_below_drewN | apply below_drew1 | refine below_set ?_ (IsS74.ge HI0.out)) | exact HB.out)); rintro e w16 ⟨rfl, hi, hb, hk⟩; refine ⟨_, rfl, ?_⟩; have n0_ := Aside0.mk (Kd.R_mono (Kd.R_keep (IsS74.apart (show IsS74 w0 _ g s0_0 x1001_1 from by repeat (first | (with_reducible first | exact HI0.out | apply IsS74.alloc | apply IsS74.drewN | apply IsS74.drew | apply IsS74.set_1) | exact HI0.out)) ((Sqz.mvR HO_5.out)) (by decide)) hk (fun _ h => h.2)) (fun _ h => h.1)); have n1_ := Aside0.mk (Kd.R_mono (Kd.R_keep (IsS74.apart (show IsS74 w0 _ g s0_0 x1001_1 from by repeat (first | (with_reducible first | exact HI0.out | apply IsS74.alloc | apply IsS74.drewN | apply IsS74.drew | apply IsS74.set_1) | exact HI0.out)) ((Sqz.mvR HO187.out)) (by decide)) hk (fun _ h => h.2)) (fun _ h => h.1)); have n2_ := Aside0.mk (KeepBut.trans (by repeat (first | (with_reducible first | exact HK.out | apply KeepBut.set_ | apply keep_drewN | apply keep_drew | apply keep_alloc) | exact HK.out)) hk (.inl rfl)); have n3_ := Aside0.mk (hb); have n4_ := Aside0.mk (hi); clear HO_5; clear HO187; clear HK; clear HB; clear HI0; have HO_5 := n0_; have HO187 := n1_; have HK := n2_; have HB := n3_; have HI0 := n4_; clear n0_ n1_ n2_ n3_ n4_; (try clear hb); (try clear hb2); (try clear hk); (try clear hi); obtain ⟨Ao17, co17, eo17⟩ := Kd.R_slice HO187.out; subst eo17; have p190 : 0 ≤ (t188 : Int) := of_decide_eq_true (by first | (with_reducible assumption) | assumption); have q190 : t188 < (y185.length : Int) := of_decide_eq_true (by first | (with_reducible assumption) | assumption); obtain ⟨ad190, e190, hx190_0⟩ := Kd.at_int (Kd.R_reads' HO187.out).2.2 t188 p190 q190; cases e190; replace p190 := eq_true p190; replace q190 := eq_true q190) | ((with_reducible refine gate_callee (f := 90) rfl ?_); refine goesL_ (some 25) rfl rfl Try.func90 (by kernel_rfl) rfl #[.pointer (some ⟨g, 0, none⟩), .int .i64 5] rfl Sqz.auM ?_; (with_reducible refine (spec_l6Rd_pick.calls k1 g s0_0 t189 5 t191 t192 w0 _ ?side1 ?side2 A11.out).mono ?_); (case side1 => repeat (first | (with_reducible first | exact HI0.out | apply IsS74.alloc | apply IsS74.drewN | apply IsS74.drew | apply IsS74.set_1) | exact HI0.out)); (case side2 => repeat (first | (with_reducible first | exact HB.out | apply below_alloc | apply pw_below_drewN | apply below_drew1 | refine below_set ?_ (IsS74.ge HI0.out)) | exact HB.out)); rintro e w18 ⟨rfl, hi, hb, hk⟩; refine ⟨_, rfl, ?_⟩; have n0_ := Aside0.mk (Kd.R_mono (Kd.R_keep (IsS74.apart (show IsS74 w0 _ g s0_0 t189 from by repeat (first | (with_reducible first | exact HI0.out | apply IsS74.alloc | apply IsS74.drewN | apply IsS74.drew | apply IsS74.set_1) | exact HI0.out)) ((Sqz.mvR HO_5.out)) (by decide)) hk (fun _ h => h.2)) (fun _ h => h.1)); have n1_ := Aside0.mk (Kd.R_mono (Kd.R_keep (IsS74.apart (show IsS74 w0 _ g s0_0 t189 from by repeat (first | (with_reducible first | exact HI0.out | apply IsS74.alloc | apply IsS74.drewN | apply IsS74.drew | apply IsS74.set_1) | exact HI0.out)) ((Sqz.mvR HO187.out)) (by decide)) hk (fun _ h => h.2)) (fun _ h => h.1)); have n2_ := Aside0.mk (KeepBut.trans (by repeat (first | (with_reducible first | exact HK.out | apply KeepBut.set_ | apply keep_drewN | apply keep_drew | apply keep_alloc) | exact HK.out)) hk (.inl rfl)); have n3_ := Aside0.mk (hb); have n4_ := Aside0.mk (hi); clear HO_5; clear HO187; clear HK; clear HB; clear HI0; have HO_5 := n0_; have HO187 := n1_; have HK := n2_; have HB := n3_; have HI0 := n4_; clear n0_ n1_ n2_ n3_ n4_; (try clear hb); (try clear hb2); (try clear hk); (try clear hi)) | ((with_reducible refine gate_builtin (b := .append) (xs := #[.tmp 29, .tmp 31]) rfl ?_); at_builtin; refine Kd.R_append (Kd.int .i64) w.heap.size rfl (.tmp 29) (.tmp 31) 25 3 (.int .i64 0) 8 rfl Try.underlying25 info3 rfl (by decide) (by omega) u5 x5_1 (wrap64 (-(rd y185 t188))) [.int .i64 (wrap64 (-(rd y185 t188)))] (fun k_ => some k_ ≠ (.slice (some ad190) y185.length co17 : Value).ownBlock) (fun _ => False) rfl rfl ?aP (fun _ hk => hk.elim) ?aF ?aO (Below.refl _ _) ?aS ?aL ?_; (case aP => exact rfl); (case aF => exact (fun k_ hk => Kd.fresh' (Kd.R_lt ((Sqz.mvR HO187.out))) k_ hk)); (case aO => exact ((Sqz.mvR (Kd.R_mono HO_5.out (fun _ hk => hk.2))))); (case aS => exact (keep_size (w := w) (g := g) (row := none) (by repeat (first | (with_reducible first | exact HK.out | apply KeepBut.set_ | apply keep_drewN | apply keep_drew | apply keep_alloc) | exact HK.out)))); (case aL => have := LMc13.out; omega); intro v194 w19 ho hb hg hat; rw [← Ny193.out] at ho; have n0_ := Aside0.mk (IsS74.grown (by repeat (first | (with_reducible first | exact HI0.out | apply IsS74.alloc | apply IsS74.drewN | apply IsS74.drew | apply IsS74.set_1) | exact HI0.out)) hg (IsS74.own_ne HI0.out HO_5.out (by decide))); have n1_ := Aside0.mk (Kd.R_after (ok := (fun _ => True)) ((Sqz.mvR HO187.out)) hg hat); have n2_ := Aside0.mk (below_weaken (by repeat (first | (with_reducible first | exact HB.out | apply below_alloc | apply pw_below_drewN | apply below_drew1 | refine below_set ?_ (IsS74.ge HI0.out)) | exact HB.out)) HL.out hb); have n3_ := Aside0.mk (KeepBut.trans (by repeat (first | (with_reducible first | exact HK.out | apply KeepBut.set_ | apply keep_drewN | apply keep_drew | apply keep_alloc) | exact HK.out)) (KeepBut.of_grown hg g) (Kd.R_base2 HO_5.out)); have n4_ := Aside0.mk (ho); clear HI0; clear HO187; clear HB; clear HK; clear HO_5; have HI0 := n0_; have HO187 := n1_; have HB := n2_; have HK := n3_; have HO195 := n4_; clear n0_ n1_ n2_ n3_ n4_; clear ho hb hg hat))
                go_roundg k1
                case measure => have := HK1.out; omega
                case rel => exact ⟨(y193), (wrap64 (x7_1 + 1)), (t192), Sqz.auS, H', ⟨by have := HK1.out; omega⟩, ⟨(Sqz.mvR (Kd.R_mono HO195.out (fun _ hk => trivial)))⟩, ⟨by repeat (first | (with_reducible first | exact HI0.out | apply IsS74.alloc | apply IsS74.drewN | apply IsS74.drew | apply IsS74.set_1) | exact HI0.out)⟩, ⟨by repeat (first | (with_reducible first | exact HK.out | apply KeepBut.set_ | apply keep_drewN | apply keep_drew | apply keep_alloc) | exact HK.out)⟩, ⟨by repeat (first | (with_reducible first | exact HB.out | apply below_alloc | apply pw_below_drewN | apply below_drew1 | refine below_set ?_ (IsS74.ge HI0.out)) | exact HB.out)⟩⟩
              · rw [if_neg c13] at H
                exact absurd H (by simp)
            · rw [if_neg c12] at H
              have c12b0 : decide (t191 < 2) = false := decide_eq_false c12
              clear c12
              by_cases c20 : x5_1.length < 17592186044416
              · rw [if_pos c20] at H
                have LMc20 := Aside0.mk c20
                clear c20
                obtain ⟨y196, hy196⟩ : ∃ y_ : List Int, y_ = (x5_1 ++ [rd y185 t188]) := ⟨_, rfl⟩
                replace H : (spec_l91Form.l0 k1 y196 (wrap64 (1 + t183)) (wrap64 (x7_1 + 1)) s0_0 t192) = some (r1, r2) := by first | (rw [hy196]; with_reducible exact H) | (have H2_ := (Option.bind_some _ _).symm.trans H; rw [hy196]; with_reducible exact H2_) | (have H2_ := (Option.bind_some _ _).symm.trans H; with_reducible exact H2_) | with_reducible exact H | (rw [hy196]; exact H) | exact H
                have Ny196 := Aside0.mk hy196
                clear hy196
                have H' := Aside0.mk H
                clear H
                go_wp2_with (first | ((with_reducible refine gate_dst (N := 19) rfl ?_); refine Kd.R_lit (Kd.int .i64) _ 3 ?hg (N := 19) ?hd (xs := ([1, 2, 3, 5, 6, 7, 1, 10, 12, 3, 15, 4, 21, 1, 30, 8] : List Int)) (inner := [.int .i64 1, .int .i64 2, .int .i64 3, .int .i64 5, .int .i64 6, .int .i64 7, .int .i64 1, .int .i64 10, .int .i64 12, .int .i64 3, .int .i64 15, .int .i64 4, .int .i64 21, .int .i64 1, .int .i64 30, .int .i64 8]) (ok := fun _ => True) (okp := fun _ => True) ?hr ?hp (fun _ hk => hk) trivial (Below.refl _ _) (Nat.le_refl _) (by simp) ?_; (case hd => rfl); (case hg => rfl); (case hr => first | (go_simp; done) | (go_simp; rfl)); (case hp => exact (Reps.one (show Kd.M (Kd.int .i64) _ _ _ 1 [.int .i64 1] from rfl) (Reps.one (show Kd.M (Kd.int .i64) _ _ _ 2 [.int .i64 2] from rfl) (Reps.one (show Kd.M (Kd.int .i64) _ _ _ 3 [.int .i64 3] from rfl) (Reps.one (show Kd.M (Kd.int .i64) _ _ _ 5 [.int .i64 5] from rfl) (Reps.one (show Kd.M (Kd.int .i64) _ _ _ 6 [.int .i64 6] from rfl) (Reps.one (show Kd.M (Kd.int .i64) _ _ _ 7 [.int .i64 7] from rfl) (Reps.one (show Kd.M (Kd.int .i64) _ _ _ 1 [.int .i64 1] from rfl) (Reps.one (show Kd.M (Kd.int .i64) _ _ _ 10 [.int .i64 10] from rfl) (Reps.one (show Kd.M (Kd.int .i64) _ _ _ 12 [.int .i64 12] from rfl) (Reps.one (show Kd.M (Kd.int .i64) _ _ _ 3 [.int .i64 3] from rfl) (Reps.one (show Kd.M (Kd.int .i64) _ _ _ 15 [.int .i64 15] from rfl) (Reps.one (show Kd.M (Kd.int .i64) _ _ _ 4 [.int .i64 4] from rfl) (Reps.one (show Kd.M (Kd.int .i64) _ _ _ 21 [.int .i64 21] from rfl) (Reps.one (show Kd.M (Kd.int .i64) _ _ _ 1 [.int .i64 1] from rfl) (Reps.one (show Kd.M (Kd.int .i64) _ _ _ 30 [.int .i64 30] from rfl) (Reps.one (show Kd.M (Kd.int .i64) _ _ _ 8 [.int .i64 8] from rfl) (Reps.none _ _)))))))))))))))))); intro v186 w21 ho22 hb hg_ hnew_; clear hg_ hnew_; (first | rw [← Ny185.out] at ho22 | (simp only [Int.reduceToNat] at ho22; rw [← Ny185.out] at ho22)); have n0_ := Aside0.mk (Kd.R_elder' ((Sqz.mvR HO_5.out)) (Kd.R_base ho22) hb); have n1_ := Aside0.mk (Kd.R_lower (Kd.R_new' ho22 (Kd.R_lt ((Sqz.mvR HO_5.out)))) (keep_size (w := w) (g := g) (row := none) (by repeat (first | (with_reducible first | exact HK.out | apply KeepBut.set_ | apply keep_drewN | apply keep_drew | apply keep_alloc) | exact HK.out)))); have n2_ := Aside0.mk (IsS74.below (by repeat (first | (with_reducible first | exact HI0.out | apply IsS74.alloc | apply IsS74.drewN | apply IsS74.drew | apply IsS74.set_1) | exact HI0.out)) hb); have n3_ := Aside0.mk (KeepBut.trans (by repeat (first | (with_reducible first | exact HK.out | apply KeepBut.set_ | apply keep_drewN | apply keep_drew | apply keep_alloc) | exact HK.out)) (KeepBut.of_below hb g none) (.inl rfl)); have n4_ := Aside0.mk (below_step (by repeat (first | (with_reducible first | exact HB.out | apply below_alloc | apply pw_below_drewN | apply below_drew1 | refine below_set ?_ (IsS74.ge HI0.out)) | exact HB.out)) hb); clear HO_5; clear HI0; clear HK; clear HB; have HO_5 := n0_; have HO187 := n1_; have HI0 := n2_; have HK := n3_; have HB := n4_; clear n0_ n1_ n2_ n3_ n4_; clear hb ho22) | ((with_reducible refine gate_callee (f := 90) rfl ?_); refine goesL_ (some 21) rfl rfl Try.func90 (by kernel_rfl) rfl #[.pointer (some ⟨g, 0, none⟩), .int .i64 16] rfl Sqz.auM ?_; (with_reducible refine (spec_l6Rd_pick.calls k1 g s0_0 x1001_1 16 t188 t189 w0 _ ?side1 ?side2 A8.out).mono ?_); (case side1 => repeat (first | (with_reducible first | exact HI0.out | apply IsS74.alloc | apply IsS74.drewN | apply IsS74.drew | apply IsS74.set_1) | exact HI0.out)); (case side2 => repeat (first | (with_reducible first | exact HB.out | apply below_alloc | apply pw_below_drewN | apply below_drew1 | refine below_set ?_ (IsS74.ge HI0.out)) | exact HB.out)); rintro e w23 ⟨rfl, hi, hb, hk⟩; refine ⟨_, rfl, ?_⟩; have n0_ := Aside0.mk (Kd.R_mono (Kd.R_keep (IsS74.apart (show IsS74 w0 _ g s0_0 x1001_1 from by repeat (first | (with_reducible first | exact HI0.out | apply IsS74.alloc | apply IsS74.drewN | apply IsS74.drew | apply IsS74.set_1) | exact HI0.out)) ((Sqz.mvR HO_5.out)) (by decide)) hk (fun _ h => h.2)) (fun _ h => h.1)); have n1_ := Aside0.mk (Kd.R_mono (Kd.R_keep (IsS74.apart (show IsS74 w0 _ g s0_0 x1001_1 from by repeat (first | (with_reducible first | exact HI0.out | apply IsS74.alloc | apply IsS74.drewN | apply IsS74.drew | apply IsS74.set_1) | exact HI0.out)) ((Sqz.mvR HO187.out)) (by decide)) hk (fun _ h => h.2)) (fun _ h => h.1)); have n2_ := Aside0.mk (KeepBut.trans (by repeat (first | (with_reducible first | exact HK.out | apply KeepBut.set_ | apply keep_drewN | apply keep_drew | apply keep_alloc) | exact HK.out)) hk (.inl rfl)); have n3_ := Aside0.mk (hb); have n4_ := Aside0.mk (hi); clear HO_5; clear HO187; clear HK; clear HB; clear HI0; have HO_5 := n0_; have HO187 := n1_; have HK := n2_; have HB := n3_; have HI0 := n4_; clear n0_ n1_ n2_ n3_ n4_; (try clear hb); (try clear hb2); (try clear hk); (try clear hi); obtain ⟨Ao24, co24, eo24⟩ := Kd.R_slice HO187.out; subst eo24; have p190 : 0 ≤ (t188 : Int) := of_decide_eq_true (by first | (with_reducible assumption) | assumption); have q190 : t188 < (y185.length : Int) := of_decide_eq_true (by first | (with_reducible assumption) | assumption); obtain ⟨ad190, e190, hx190_0⟩ := Kd.at_int (Kd.R_reads' HO187.out).2.2 t188 p190 q190; cases e190; replace p190 := eq_true p190; replace q190 := eq_true q190) | ((with_reducible refine gate_callee (f := 90) rfl ?_); refine goesL_ (some 25) rfl rfl Try.func90 (by kernel_rfl) rfl #[.pointer (some ⟨g, 0, none⟩), .int .i64 5] rfl Sqz.auM ?_; (with_reducible refine (spec_l6Rd_pick.calls k1 g s0_0 t189 5 t191 t192 w0 _ ?side1 ?side2 A11.out).mono ?_); (case side1 => repeat (first | (with_reducible first | exact HI0.out | apply IsS74.alloc | apply IsS74.drewN | apply IsS74.drew | apply IsS74.set_1) | exact HI0.out)); (case side2 => repeat (first | (with_reducible first | exact HB.out | apply below_alloc | apply pw_below_drewN | apply below_drew1 | refine below_set ?_ (IsS74.ge HI0.out)) | exact HB.out)); rintro e w25 ⟨rfl, hi, hb, hk⟩; refine ⟨_, rfl, ?_⟩; have n0_ := Aside0.mk (Kd.R_mono (Kd.R_keep (IsS74.apart (show IsS74 w0 _ g s0_0 t189 from by repeat (first | (with_reducible first | exact HI0.out | apply IsS74.alloc | apply IsS74.drewN | apply IsS74.drew | apply IsS74.set_1) | exact HI0.out)) ((Sqz.mvR HO_5.out)) (by decide)) hk (fun _ h => h.2)) (fun _ h => h.1)); have n1_ := Aside0.mk (Kd.R_mono (Kd.R_keep (IsS74.apart (show IsS74 w0 _ g s0_0 t189 from by repeat (first | (with_reducible first | exact HI0.out | apply IsS74.alloc | apply IsS74.drewN | apply IsS74.drew | apply IsS74.set_1) | exact HI0.out)) ((Sqz.mvR HO187.out)) (by decide)) hk (fun _ h => h.2)) (fun _ h => h.1)); have n2_ := Aside0.mk (KeepBut.trans (by repeat (first | (with_reducible first | exact HK.out | apply KeepBut.set_ | apply keep_drewN | apply keep_drew | apply keep_alloc) | exact HK.out)) hk (.inl rfl)); have n3_ := Aside0.mk (hb); have n4_ := Aside0.mk (hi); clear HO_5; clear HO187; clear HK; clear HB; clear HI0; have HO_5 := n0_; have HO187 := n1_; have HK := n2_; have HB := n3_; have HI0 := n4_; clear n0_ n1_ n2_ n3_ n4_; (try clear hb); (try clear hb2); (try clear hk); (try clear hi)) | ((with_reducible refine gate_builtin (b := .append) (xs := #[.tmp 29, .tmp 31]) rfl ?_); at_builtin; refine Kd.R_append (Kd.int .i64) w.heap.size rfl (.tmp 29) (.tmp 31) 25 3 (.int .i64 0) 8 rfl Try.underlying25 info3 rfl (by decide) (by omega) u5 x5_1 (rd y185 t188) [.int .i64 (rd y185 t188)] (fun k_ => some k_ ≠ (.slice (some ad190) y185.length co24 : Value).ownBlock) (fun _ => False) rfl rfl ?aP (fun _ hk => hk.elim) ?aF ?aO (Below.refl _ _) ?aS ?aL ?_; (case aP => exact rfl); (case aF => exact (fun k_ hk => Kd.fresh' (Kd.R_lt ((Sqz.mvR HO187.out))) k_ hk)); (case aO => exact ((Sqz.mvR (Kd.R_mono HO_5.out (fun _ hk => hk.2))))); (case aS => exact (keep_size (w := w) (g := g) (row := none) (by repeat (first | (with_reducible first | exact HK.out | apply KeepBut.set_ | apply keep_drewN | apply keep_drew | apply keep_alloc) | exact HK.out)))); (case aL => have := LMc20.out; omega); intro v197 w26 ho hb hg hat; rw [← Ny196.out] at ho; have n0_ := Aside0.mk (IsS74.grown (by repeat (first | (with_reducible first | exact HI0.out | apply IsS74.alloc | apply IsS74.drewN | apply IsS74.drew | apply IsS74.set_1) | exact HI0.out)) hg (IsS74.own_ne HI0.out HO_5.out (by decide))); have n1_ := Aside0.mk (Kd.R_after (ok := (fun _ => True)) ((Sqz.mvR HO187.out)) hg hat); have n2_ := Aside0.mk (below_weaken (by repeat (first | (with_reducible first | exact HB.out | apply below_alloc | apply pw_below_drewN | apply below_drew1 | refine below_set ?_ (IsS74.ge HI0.out)) | exact HB.out)) HL.out hb); have n3_ := Aside0.mk (KeepBut.trans (by repeat (first | (with_reducible first | exact HK.out | apply KeepBut.set_ | apply keep_drewN | apply keep_drew | apply keep_alloc) | exact HK.out)) (KeepBut.of_grown hg g) (Kd.R_base2 HO_5.out)); have n4_ := Aside0.mk (ho); clear HI0; clear HO187; clear HB; clear HK; clear HO_5; have HI0 := n0_; have HO187 := n1_; have HB := n2_; have HK := n3_; have HO198 := n4_; clear n0_ n1_ n2_ n3_ n4_; clear ho hb hg hat))
                go_roundg k1
                case measure => have := HK1.out; omega
                case rel => exact ⟨(y196), (wrap64 (x7_1 + 1)), (t192), Sqz.auS, H', ⟨by have := HK1.out; omega⟩, ⟨(Sqz.mvR (Kd.R_mono HO198.out (fun _ hk => trivial)))⟩, ⟨by repeat (first | (with_reducible first | exact HI0.out | apply IsS74.alloc | apply IsS74.drewN | apply IsS74.drew | apply IsS74.set_1) | exact HI0.out)⟩, ⟨by repeat (first | (with_reducible first | exact HK.out | apply KeepBut.set_ | apply keep_drewN | apply keep_drew | apply keep_alloc) | exact HK.out)⟩, ⟨by repeat (first | (with_reducible first | exact HB.out | apply below_alloc | apply pw_below_drewN | apply below_drew1 | refine below_set ?_ (IsS74.ge HI0.out)) | exact HB.out)⟩⟩
              · rw [if_neg c20] at H
                exact absurd H (by simp)
          · rw [if_neg c10] at H
            exact absurd H (by simp)
        · rw [if_neg c9] at H
          exact absurd H (by simp)
      · rw [if_neg c7] at H
        have c7b0 : decide (x7_1 < (wrap64 (1 + t183))) = false := decide_eq_false c7
        clear c7
        replace H := Option.bind_eq_some_iff.mp H
        obtain ⟨⟨t199, t200⟩, A270, H⟩ := H
        replace H : (if t199 = 0 then ((some (([0, 31] : List Int) : List Int)).bind fun y201 => ((spec_l6Rd_pick.f k1 s0_0 t200 2).bind fun bt204 => (if 0 ≤ bt204.1 then (if bt204.1 < (y201.length : Int) then (if 0 < (x5_1.length : Int) then (some ((x5_1.set (0 : Int).toNat (rd y201 bt204.1)), bt204.2)) else (none)) else (none)) else (none)))) else (if t199 = 1 then (some ((([] : List Int)), t200)) else (some (x5_1, t200)))) = some (r1, r2) := H
        have A27 := Aside0.mk A270
        clear A270
        by_cases c28 : t199 = 0
        · rw [if_pos c28] at H
          have c28b0 : (t199 == 0) = true := beq_iff_eq.mpr c28
          have c28b1 : (t199 != 0) = false := bne_eq_false_iff_eq.mpr c28
          clear c28
          obtain ⟨y201, hy201⟩ : ∃ y_ : List Int, y_ = (([0, 31] : List Int)) := ⟨_, rfl⟩
          replace H : ((spec_l6Rd_pick.f k1 s0_0 t200 2).bind fun bt204 => (if 0 ≤ bt204.1 then (if bt204.1 < (y201.length : Int) then (if 0 < (x5_1.length : Int) then (some ((x5_1.set (0 : Int).toNat (rd y201 bt204.1)), bt204.2)) else (none)) else (none)) else (none))) = some (r1, r2) := by first | (rw [hy201]; with_reducible exact H) | (have H2_ := (Option.bind_some _ _).symm.trans H; rw [hy201]; with_reducible exact H2_) | (have H2_ := (Option.bind_some _ _).symm.trans H; with_reducible exact H2_) | with_reducible exact H | (rw [hy201]; exact H) | exact H
          have Ny201 := Aside0.mk hy201
          clear hy201
          replace H := Option.bind_eq_some_iff.mp H
          obtain ⟨⟨t204, t205⟩, A290, H⟩ := H
          replace H : (if 0 ≤ t204 then (if t204 < (y201.length : Int) then (if 0 < (x5_1.length : Int) then (some ((x5_1.set (0 : Int).toNat (rd y201 t204)), t205)) else (none)) else (none)) else (none)) = some (r1, r2) := H
          have A29 := Aside0.mk A290
          clear A290
          by_cases c30 : 0 ≤ t204
          · rw [if_pos c30] at H
            have c30b0 : decide (0 ≤ t204) = true := decide_eq_true c30
            clear c30
            by_cases c31 : t204 < (y201.length : Int)
            · rw [if_pos c31] at H
              have c31b0 : decide (t204 < (y201.length : Int)) = true := decide_eq_true c31
              clear c31
              by_cases c32 : 0 < (x5_1.length : Int)
              · rw [if_pos c32] at H
                have c32b0 : decide (0 < (x5_1.length : Int)) = true := decide_eq_true c32
                have c32b1 : decide (0 < x5_1.length) = true := decide_eq_true (by omega)
                clear c32
                obtain ⟨y207, hy207⟩ : ∃ y_ : List Int, y_ = (x5_1.set (0 : Int).toNat (rd y201 t204)) := ⟨_, rfl⟩
                replace H : (some (y207, t205)) = some (r1, r2) := by first | (rw [hy207]; with_reducible exact H) | (have H2_ := (Option.bind_some _ _).symm.trans H; rw [hy207]; with_reducible exact H2_) | (have H2_ := (Option.bind_some _ _).symm.trans H; with_reducible exact H2_) | with_reducible exact H | (rw [hy207]; exact H) | exact H
                have Ny207 := Aside0.mk hy207
                clear hy207
                simp only [Option.some.injEq, Prod.mk.injEq] at H
                obtain ⟨rfl, rfl⟩ := H
                go_wp2_with (first | ((with_reducible refine gate_callee (f := 90) rfl ?_); refine goesL_ (some 34) rfl rfl Try.func90 (by kernel_rfl) rfl #[.pointer (some ⟨g, 0, none⟩), .int .i64 40] rfl Sqz.auM ?_; (with_reducible refine (spec_l6Rd_pick.calls k1 g s0_0 x1001_1 40 t199 t200 w0 _ ?side1 ?side2 A27.out).mono ?_); (case side1 => repeat (first | (with_reducible first | exact HI0.out | apply IsS74.alloc | apply IsS74.drewN | apply IsS74.drew | apply IsS74.set_1) | exact HI0.out)); (case side2 => repeat (first | (with_reducible first | exact HB.out | apply below_alloc | apply pw_below_drewN | apply below_drew1 | refine below_set ?_ (IsS74.ge HI0.out)) | exact HB.out)); rintro e w34 ⟨rfl, hi, hb, hk⟩; refine ⟨_, rfl, ?_⟩; have n0_ := Aside0.mk (Kd.R_mono (Kd.R_keep (IsS74.apart (show IsS74 w0 _ g s0_0 x1001_1 from by repeat (first | (with_reducible first | exact HI0.out | apply IsS74.alloc | apply IsS74.drewN | apply IsS74.drew | apply IsS74.set_1) | exact HI0.out)) ((Sqz.mvR HO_5.out)) (by decide)) hk (fun _ h => h.2)) (fun _ h => h.1)); have n1_ := Aside0.mk (KeepBut.trans (by repeat (first | (with_reducible first | exact HK.out | apply KeepBut.set_ | apply keep_drewN | apply keep_drew | apply keep_alloc) | exact HK.out)) hk (.inl rfl)); have n2_ := Aside0.mk (hb); have n3_ := Aside0.mk (hi); clear HO_5; clear HK; clear HB; clear HI0; have HO_5 := n0_; have HK := n1_; have HB := n2_; have HI0 := n3_; clear n0_ n1_ n2_ n3_; (try clear hb); (try clear hb2); (try clear hk); (try clear hi)) | ((with_reducible refine gate_dst (N := 38) rfl ?_); refine Kd.R_lit (Kd.int .i64) _ 3 ?hg (N := 38) ?hd (xs := ([0, 31] : List Int)) (inner := [.int .i64 0, .int .i64 31]) (ok := fun _ => True) (okp := fun _ => True) ?hr ?hp (fun _ hk => hk) trivial (Below.refl _ _) (Nat.le_refl _) (by simp) ?_; (case hd => rfl); (case hg => rfl); (case hr => first | (go_simp; done) | (go_simp; rfl)); (case hp => exact (Reps.one (show Kd.M (Kd.int .i64) _ _ _ 0 [.int .i64 0] from rfl) (Reps.one (show Kd.M (Kd.int .i64) _ _ _ 31 [.int .i64 31] from rfl) (Reps.none _ _)))); intro v202 w35 ho36 hb hg_ hnew_; clear hg_ hnew_; (first | rw [← Ny201.out] at ho36 | (simp only [Int.reduceToNat] at ho36; rw [← Ny201.out] at ho36)); have n0_ := Aside0.mk (Kd.R_elder' ((Sqz.mvR HO_5.out)) (Kd.R_base ho36) hb); have n1_ := Aside0.mk (Kd.R_lower (Kd.R_new' ho36 (Kd.R_lt ((Sqz.mvR HO_5.out)))) (keep_size (w := w) (g := g) (row := none) (by repeat (first | (with_reducible first | exact HK.out | apply KeepBut.set_ | apply keep_drewN | apply keep_drew | apply keep_alloc) | exact HK.out)))); have n2_ := Aside0.mk (IsS74.below (by repeat (first | (with_reducible first | exact HI0.out | apply IsS74.alloc | apply IsS74.drewN | apply IsS74.drew | apply IsS74.set_1) | exact HI0.out)) hb); have n3_ := Aside0.mk (KeepBut.trans (by repeat (first | (with_reducible first | exact HK.out | apply KeepBut.set_ | apply keep_drewN | apply keep_drew | apply keep_alloc) | exact HK.out)) (KeepBut.of_below hb g none) (.inl rfl)); have n4_ := Aside0.mk (below_step (by repeat (first | (with_reducible first | exact HB.out | apply below_alloc | apply pw_below_drewN | apply below_drew1 | refine below_set ?_ (IsS74.ge HI0.out)) | exact HB.out)) hb); clear HO_5; clear HI0; clear HK; clear HB; have HO_5 := n0_; have HO203 := n1_; have HI0 := n2_; have HK := n3_; have HB := n4_; clear n0_ n1_ n2_ n3_ n4_; clear hb ho36) | ((with_reducible refine gate_callee (f := 90) rfl ?_); refine goesL_ (some 40) rfl rfl Try.func90 (by kernel_rfl) rfl #[.pointer (some ⟨g, 0, none⟩), .int .i64 2] rfl Sqz.auM ?_; (with_reducible refine (spec_l6Rd_pick.calls k1 g s0_0 t200 2 t204 t205 w0 _ ?side1 ?side2 A29.out).mono ?_); (case side1 => repeat (first | (with_reducible first | exact HI0.out | apply IsS74.alloc | apply IsS74.drewN | apply IsS74.drew | apply IsS74.set_1) | exact HI0.out)); (case side2 => repeat (first | (with_reducible first | exact HB.out | apply below_alloc | apply pw_below_drewN | apply below_drew1 | refine below_set ?_ (IsS74.ge HI0.out)) | exact HB.out)); rintro e w37 ⟨rfl, hi, hb, hk⟩; refine ⟨_, rfl, ?_⟩; have n0_ := Aside0.mk (Kd.R_mono (Kd.R_keep (IsS74.apart (show IsS74 w0 _ g s0_0 t200 from by repeat (first | (with_reducible first | exact HI0.out | apply IsS74.alloc | apply IsS74.drewN | apply IsS74.drew | apply IsS74.set_1) | exact HI0.out)) ((Sqz.mvR HO_5.out)) (by decide)) hk (fun _ h => h.2)) (fun _ h => h.1)); have n1_ := Aside0.mk (Kd.R_mono (Kd.R_keep (IsS74.apart (show IsS74 w0 _ g s0_0 t200 from by repeat (first | (with_reducible first | exact HI0.out | apply IsS74.alloc | apply IsS74.drewN | apply IsS74.drew | apply IsS74.set_1) | exact HI0.out)) ((Sqz.mvR HO203.out)) (by decide)) hk (fun _ h => h.2)) (fun _ h => h.1)); have n2_ := Aside0.mk (KeepBut.trans (by repeat (first | (with_reducible first | exact HK.out | apply KeepBut.set_ | apply keep_drewN | apply keep_drew | apply keep_alloc) | exact HK.out)) hk (.inl rfl)); have n3_ := Aside0.mk (hb); have n4_ := Aside0.mk (hi); clear HO_5; clear HO203; clear HK; clear HB; clear HI0; have HO_5 := n0_; have HO203 := n1_; have HK := n2_; have HB := n3_; have HI0 := n4_; clear n0_ n1_ n2_ n3_ n4_; (try clear hb); (try clear hb2); (try clear hk); (try clear hi); obtain ⟨Ao38, co38, eo38⟩ := Kd.R_slice HO203.out; subst eo38; have p206 : 0 ≤ (t204 : Int) := of_decide_eq_true (by first | (with_reducible assumption) | assumption); have q206 : t204 < (y201.length : Int) := of_decide_eq_true (by first | (with_reducible assumption) | assumption); obtain ⟨ad206, e206, hx206_0⟩ := Kd.at_int (Kd.R_reads' HO203.out).2.2 t204 p206 q206; cases e206; replace p206 := eq_true p206; replace q206 := eq_true q206; have p33 : 0 ≤ (0 : Int) := (by omega); have q33 : (0 : Int) < ((x5_1.length : Int) : Int) := of_decide_eq_true (by first | (with_reducible assumption) | assumption); have qi33 : (0 < x5_1.length) = True := eq_true (by omega); obtain ⟨go33, co33, eo33, gb33, gl33, cl33, HG33⟩ := Kd.R_form HO_5.out (by omega); (first | cases eo33 | (injection eo33 with ea_ en_ ec_; (first | subst ea_ | (injection ea_ with ea_; subst ea_)); subst ec_; clear en_)); have GB33 := Aside0.mk gb33; have GG33 := Aside0.mk HG33; clear gb33 gl33 HG33; obtain ⟨hx33_0, hf33_0⟩ := Kd.R_celln 0 HO_5.out (0 : Int) p33 q33; (try rw [show ((0 : Int)).toNat = 0 from rfl] at hx33_0); (try simp only [Nat.reduceMul, Nat.zero_mul, Nat.zero_add, Nat.reduceAdd] at hx33_0); (try rw [show ((0 : Int)).toNat = 0 from rfl] at hf33_0); (try simp only [Nat.reduceMul, Nat.zero_mul, Nat.zero_add, Nat.reduceAdd] at hf33_0); replace p33 := eq_true p33; replace q33 := eq_true q33; have n_ := Aside0.mk (Kd.R_mono (ok' := (fun k_ => some k_ ≠ (.slice (some ad206) y201.length co38 : Value).ownBlock)) HO_5.out (fun k_ hk => hk.2)); clear HO_5; have HO_5 := n_; clear n_; obtain ⟨hy39_, hz39_⟩ := Kd.R_celln 0 HO_5.out (0 : Int) (by omega) (of_decide_eq_true (by first | (with_reducible assumption) | assumption)); (try simp only [Int.reduceToNat, Int.toNat_zero, Int.toNat_ofNat, Nat.reduceMul, Nat.zero_mul, Nat.zero_add] at hy39_ hz39_); (try rw [show ((0 : Int)).toNat = 0 from rfl] at hy39_); (try rw [show ((0 : Int)).toNat = 0 from rfl] at hz39_); have HP39 := Kd.R_putg HO_5.out (0 : Int) (rd y201 t204)) | ((with_reducible refine gate_store (t := 3) (p := 43) rfl ?_); refine store_event (t := 3) (p := 43) (v := ?vo_w40) (w1 := (w37.setCell ⟨go33, (0 : Int).toNat, none⟩ (.int .i64 (rd y201 t204)))) ?hg ?ho ?hn ?hr ?_; (case ho => rfl); (case hg => rfl); (case hn => rfl); (case hr => first | (go_simp; done) | (go_simp; rfl)); intro w40 hw; have hg : w37.grownBy w40 (some go33) := (by rw [hw]; exact HP39.2); have hp_ : Kd.R (Kd.int .i64) 3 w40 w.heap.size (fun k_ => some k_ ≠ (.slice (some ad206) y201.length co38 : Value).ownBlock) (.slice (some ⟨go33, 0, none⟩) x5_1.length co33) y207 := (by rw [hw, Ny207.out]; exact HP39.1); clear HP39; have n0_ := Aside0.mk (hp_); have n1_ := Aside0.mk (IsS74.grown (by repeat (first | (with_reducible first | exact HI0.out | apply IsS74.alloc | apply IsS74.drewN | apply IsS74.drew | apply IsS74.set_1) | exact HI0.out)) hg (IsS74.own_ne HI0.out HO_5.out (by decide))); have n2_ := Aside0.mk (Kd.R_after (v := (.slice (some ⟨go33, 0, none⟩) x5_1.length co33)) (v1 := (.slice (some ⟨go33, 0, none⟩) x5_1.length co33)) (ok := (fun _ => True)) ((Sqz.mvR HO203.out)) hg (.inl rfl)); have n3_ := Aside0.mk ((by rw [hw]; exact below_set (HB.out) (Nat.le_trans HL.out GB33.out) : Below w0.heap.size w0 w40)); have n4_ := Aside0.mk (KeepBut.trans (by repeat (first | (with_reducible first | exact HK.out | apply KeepBut.set_ | apply keep_drewN | apply keep_drew | apply keep_alloc) | exact HK.out)) (KeepBut.of_grown hg g) (Kd.R_base2 HO_5.out)); clear HO_5; clear HI0; clear HO203; clear HB; clear HK; have HO_5 := n0_; have HI0 := n1_; have HO203 := n2_; have HB := n3_; have HK := n4_; clear n0_ n1_ n2_ n3_ n4_; clear hg hw hp_))
                go_ret
                exact ⟨_, Sqz.auR, (Sqz.mvR (Kd.R_mono HO_5.out (fun _ hk => trivial))), by repeat (first | (with_reducible first | exact HI0.out | apply IsS74.alloc | apply IsS74.drewN | apply IsS74.drew | apply IsS74.set_1) | exact HI0.out), by repeat (first | (with_reducible first | exact HB.out | apply below_alloc | apply pw_below_drewN | apply below_drew1 | refine below_set ?_ (IsS74.ge HI0.out)) | exact HB.out), by repeat (first | (with_reducible first | exact HK.out | apply KeepBut.set_ | apply keep_drewN | apply keep_drew | apply keep_alloc) | exact HK.out)⟩
              · rw [if_neg c32] at H
                exact absurd H (by simp)
            · rw [if_neg c31] at H
              exact absurd H (by simp)
          · rw [if_neg c30] at H
            exact absurd H (by simp)
        · rw [if_neg c28] at H
          have c28b0 : (t199 == 0) = false := beq_eq_false_iff_ne.mpr c28
          have c28b1 : (t199 != 0) = true := bne_iff_ne.mpr c28
          by_cases c41 : t199 = 1
          · rw [if_pos c41] at H
            have c41b0 : (t199 == 1) = true := beq_iff_eq.mpr c41
            have c41b1 : (t199 != 1) = false := bne_eq_false_iff_eq.mpr c41
            clear c41
            obtain ⟨y208, hy208⟩ : ∃ y_ : List Int, y_ = (([] : List Int)) := ⟨_, rfl⟩
            replace H : (some (y208, t200)) = some (r1, r2) := by first | (rw [hy208]; with_reducible exact H) | (have H2_ := (Option.bind_some _ _).symm.trans H; rw [hy208]; with_reducible exact H2_) | (have H2_ := (Option.bind_some _ _).symm.trans H; with_reducible exact H2_) | with_reducible exact H | (rw [hy208]; exact H) | exact H
            have Ny208 := Aside0.mk hy208
            clear hy208
            simp only [Option.some.injEq, Prod.mk.injEq] at H
            obtain ⟨rfl, rfl⟩ := H
            go_wp2_with (first | ((with_reducible refine gate_callee (f := 90) rfl ?_); refine goesL_ (some 34) rfl rfl Try.func90 (by kernel_rfl) rfl #[.pointer (some ⟨g, 0, none⟩), .int .i64 40] rfl Sqz.auM ?_; (with_reducible refine (spec_l6Rd_pick.calls k1 g s0_0 x1001_1 40 t199 t200 w0 _ ?side1 ?side2 A27.out).mono ?_); (case side1 => repeat (first | (with_reducible first | exact HI0.out | apply IsS74.alloc | apply IsS74.drewN | apply IsS74.drew | apply IsS74.set_1) | exact HI0.out)); (case side2 => repeat (first | (with_reducible first | exact HB.out | apply below_alloc | apply pw_below_drewN | apply below_drew1 | refine below_set ?_ (IsS74.ge HI0.out)) | exact HB.out)); rintro e w42 ⟨rfl, hi, hb, hk⟩; refine ⟨_, rfl, ?_⟩; have n0_ := Aside0.mk (Kd.R_mono (Kd.R_keep (IsS74.apart (show IsS74 w0 _ g s0_0 x1001_1 from by repeat (first | (with_reducible first | exact HI0.out | apply IsS74.alloc | apply IsS74.drewN | apply IsS74.drew | apply IsS74.set_1) | exact HI0.out)) ((Sqz.mvR HO_5.out)) (by decide)) hk (fun _ h => h.2)) (fun _ h => h.1)); have n1_ := Aside0.mk (KeepBut.trans (by repeat (first | (with_reducible first | exact HK.out | apply KeepBut.set_ | apply keep_drewN | apply keep_drew | apply keep_alloc) | exact HK.out)) hk (.inl rfl)); have n2_ := Aside0.mk (hb); have n3_ := Aside0.mk (hi); clear HO_5; clear HK; clear HB; clear HI0; have HO_5 := n0_; have HK := n1_; have HB := n2_; have HI0 := n3_; clear n0_ n1_ n2_ n3_; (try clear hb); (try clear hb2); (try clear hk); (try clear hi)) | ((with_reducible refine gate_dst (N := 46) rfl ?_); refine Kd.R_lit (Kd.int .i64) _ 3 ?hg (N := 46) ?hd (xs := ([] : List Int)) (inner := []) (ok := fun _ => True) (okp := fun _ => True) ?hr ?hp (fun _ hk => hk) trivial (Below.refl _ _) (Nat.le_refl _) (by simp) ?_; (case hd => rfl); (case hg => rfl); (case hr => first | (go_simp; done) | (go_simp; rfl)); (case hp => exact (Reps.none _ _)); intro v209 w43 ho44 hb hg_ hnew_; clear hg_ hnew_; (first | rw [← Ny208.out] at ho44 | (simp only [Int.reduceToNat] at ho44; rw [← Ny208.out] at ho44)); have n0_ := Aside0.mk (Kd.R_elder' ((Sqz.mvR HO_5.out)) (Kd.R_base ho44) hb); have n1_ := Aside0.mk (Kd.R_lower (Kd.R_new' ho44 (Kd.R_lt ((Sqz.mvR HO_5.out)))) (keep_size (w := w) (g := g) (row := none) (by repeat (first | (with_reducible first | exact HK.out | apply KeepBut.set_ | apply keep_drewN | apply keep_drew | apply keep_alloc) | exact HK.out)))); have n2_ := Aside0.mk (IsS74.below (by repeat (first | (with_reducible first | exact HI0.out | apply IsS74.alloc | apply IsS74.drewN | apply IsS74.drew | apply IsS74.set_1) | exact HI0.out)) hb); have n3_ := Aside0.mk (KeepBut.trans (by repeat (first | (with_reducible first | exact HK.out | apply KeepBut.set_ | apply keep_drewN | apply keep_drew | apply keep_alloc) | exact HK.out)) (KeepBut.of_below hb g none) (.inl rfl)); have n4_ := Aside0.mk (below_step (by repeat (first | (with_reducible first | exact HB.out | apply below_alloc | apply pw_below_drewN | apply below_drew1 | refine below_set ?_ (IsS74.ge HI0.out)) | exact HB.out)) hb); clear HO_5; clear HI0; clear HK; clear HB; have HO_5 := n0_; have HO210 := n1_; have HI0 := n2_; have HK := n3_; have HB := n4_; clear n0_ n1_ n2_ n3_ n4_; clear hb ho44))
            go_ret
            exact ⟨_, Sqz.auR, (Sqz.mvR (Kd.R_mono HO210.out (fun _ hk => trivial))), by repeat (first | (with_reducible first | exact HI0.out | apply IsS74.alloc | apply IsS74.drewN | apply IsS74.drew | apply IsS74.set_1) | exact HI0.out), by repeat (first | (with_reducible first | exact HB.out | apply below_alloc | apply pw_below_drewN | apply below_drew1 | refine below_set ?_ (IsS74.ge HI0.out)) | exact HB.out), by repeat (first | (with_reducible first | exact HK.out | apply KeepBut.set_ | apply keep_drewN | apply keep_drew | apply keep_alloc) | exact HK.out)⟩
          · rw [if_neg c41] at H
            have c41b0 : (t199 == 1) = false := beq_eq_false_iff_ne.mpr c41
            have c41b1 : (t199 != 1) = true := bne_iff_ne.mpr c41
            simp only [Option.some.injEq, Prod.mk.injEq] at H
            obtain ⟨rfl, rfl⟩ := H
            go_wp2_with (first | ((with_reducible refine gate_callee (f := 90) rfl ?_); refine goesL_ (some 34) rfl rfl Try.func90 (by kernel_rfl) rfl #[.pointer (some ⟨g, 0, none⟩), .int .i64 40] rfl Sqz.auM ?_; (with_reducible refine (spec_l6Rd_pick.calls k1 g s0_0 x1001_1 40 t199 t200 w0 _ ?side1 ?side2 A27.out).mono ?_); (case side1 => repeat (first | (with_reducible first | exact HI0.out | apply IsS74.alloc | apply IsS74.drewN | apply IsS74.drew | apply IsS74.set_1) | exact HI0.out)); (case side2 => repeat (first | (with_reducible first | exact HB.out | apply below_alloc | apply pw_below_drewN | apply below_drew1 | refine below_set ?_ (IsS74.ge HI0.out)) | exact HB.out)); rintro e w45 ⟨rfl, hi, hb, hk⟩; refine ⟨_, rfl, ?_⟩; have n0_ := Aside0.mk (Kd.R_mono (Kd.R_keep (IsS74.apart (show IsS74 w0 _ g s0_0 x1001_1 from by repeat (first | (with_reducible first | exact HI0.out | apply IsS74.alloc | apply IsS74.drewN | apply IsS74.drew | apply IsS74.set_1) | exact HI0.out)) ((Sqz.mvR HO_5.out)) (by decide)) hk (fun _ h => h.2)) (fun _ h => h.1)); have n1_ := Aside0.mk (KeepBut.trans (by repeat (first | (with_reducible first | exact HK.out | apply KeepBut.set_ | apply keep_drewN | apply keep_drew | apply keep_alloc) | exact HK.out)) hk (.inl rfl)); have n2_ := Aside0.mk (hb); have n3_ := Aside0.mk (hi); clear HO_5; clear HK; clear HB; clear HI0; have HO_5 := n0_; have HK := n1_; have HB := n2_; have HI0 := n3_; clear n0_ n1_ n2_ n3_; (try clear hb); (try clear hb2); (try clear hk); (try clear hi)))
            go_ret
            exact ⟨_, Sqz.auR, (Sqz.mvR HO_5.out), by repeat (first | (with_reducible first | exact HI0.out | apply IsS74.alloc | apply IsS74.drewN | apply IsS74.drew | apply IsS74.set_1) | exact HI0.out), by repeat (first | (with_reducible first | exact HB.out | apply below_alloc | apply pw_below_drewN | apply below_drew1 | refine below_set ?_ (IsS74.ge HI0.out)) | exact HB.out), by repeat (first | (with_reducible first | exact HK.out | apply KeepBut.set_ | apply keep_drewN | apply keep_drew | apply keep_alloc) | exact HK.out)⟩

/-! ### spec_l6In: function 115 -/
def spec_l6In.f (a0 : Int) (a1 : Int) (a2 : Int) : Option (Bool) := if a0 ≥ a1 then (some (decide (a0 ≤ a2))) else (some false)
set_option maxHeartbeats 8000000 in
set_option maxRecDepth 100000 in
theorem spec_l6In.calls (a0 : Int) (a1 : Int) (a2 : Int) (r : Bool) (w : World) (h : spec_l6In.f a0 a1 a2 = some r) :
    Calls Try.prog 115 #[.int .i64 a0, .int .i64 a1, .int .i64 a2] w fun e w' => e = .returned (.bool r) ∧ Drawn0 w w' := by
  have H : (if a0 ≥ a1 then (some (decide (a0 ≤ a2))) else (some false)) = some r := h
  clear h
  by_cases c4 : a0 ≥ a1
  · rw [if_pos c4] at H
    have c4b0 : decide (a1 ≤ a0) = true := decide_eq_true c4
    clear c4
    obtain rfl := Option.some.inj H
    go_enter Try.func115, Try.ntmps115
    go_wp2
    go_ret
    exact ⟨Sqz.auS, by repeat (first | exact Drawn0.refl _ | apply Drawn0.step)⟩
  · rw [if_neg c4] at H
    have c4b0 : decide (a1 ≤ a0) = false := decide_eq_false c4
    clear c4
    obtain rfl := Option.some.inj H
    go_enter Try.func115, Try.ntmps115
    go_wp2
    go_ret
    exact ⟨Sqz.auS, by repeat (first | exact Drawn0.refl _ | apply Drawn0.step)⟩

/-! ### spec_FormValid: function 86 -/
def spec_FormValid.l0 : Nat → List Int → Int → Option (Bool)
  | 0, _, _ => none
  | k + 1, x0, x3 => if x3 < (x0.length : Int) then (if 0 ≤ x3 then (if (rd x0 x3) = 0 then (some false) else ((spec_l6In.f (rd x0 x3) (-30) 30).bind fun t213 => (if t213 = true then (spec_FormValid.l0 k x0 (wrap64 (x3 + 1))) else (some false)))) else (none)) else ((spec_l6In.f (x0.length : Int) 1 4).bind fun t214 => (some t214))
def spec_FormValid.f (k : Nat) (l0 : List Int) : Option (Bool) := spec_FormValid.l0 k l0 0
set_option maxHeartbeats 8000000 in
set_option maxRecDepth 100000 in
theorem spec_FormValid.calls (k : Nat) (A0 : Option Addr) (c0 : Nat) (l0 : List Int) (r : Bool) (w : World) (hr0 : Kd.C (Kd.int .i64) w A0 l0.length l0) (hc0 : l0.length ≤ c0) (h : spec_FormValid.f k l0 = some r) :
    Calls Try.prog 86 #[.slice A0 l0.length c0] w fun e w' => e = .returned (.bool r) ∧ Drawn0 w w' := by
  have HR0 := Aside0.mk hr0
  have HC0 := Aside0.mk hc0
  clear hr0 hc0
  have H : (spec_FormValid.l0 k l0 0) = some r := h
  clear h
  have H' := Aside0.mk H
  clear H
  go_enter Try.func86, Try.ntmps86
  go_wp2
  go_loopg [3] k (fun kq v3 w' => ∃ (x3_1 : Int), v3 = .int .i64 x3_1 ∧ Aside0 (spec_FormValid.l0 kq l0 x3_1 = some r) ∧ Aside0 (kq ≤ k) ∧ Drawn0 w w')
  case atStart => exact ⟨(0), Sqz.auS, H', ⟨Nat.le_refl _⟩, by repeat (first | exact Drawn0.refl _ | apply Drawn0.step)⟩
  case round =>
    clear H'
    obtain ⟨x3_1, rfl, HA, HK1, ⟨m1, rfl⟩⟩ := hrel
    cases gk with
    | zero => exact absurd HA.out (by simp [spec_FormValid.l0])
    | succ k1 =>
      have H := HA.out
      clear HA
      simp only [spec_FormValid.l0] at H
      by_cases c2 : x3_1 < (l0.length : Int)
      · rw [if_pos c2] at H
        have c2b0 : decide (x3_1 < (l0.length : Int)) = true := decide_eq_true c2
        clear c2
        by_cases c3 : 0 ≤ x3_1
        · rw [if_pos c3] at H
          have c3b0 : decide (0 ≤ x3_1) = true := decide_eq_true c3
          clear c3
          by_cases c4 : (rd l0 x3_1) = 0
          · rw [if_pos c4] at H
            have c4b0 : ((rd l0 x3_1) == 0) = true := beq_iff_eq.mpr c4
            have c4b1 : ((rd l0 x3_1) != 0) = false := bne_eq_false_iff_eq.mpr c4
            clear c4
            obtain rfl := Option.some.inj H
            have p211 : 0 ≤ (x3_1 : Int) := of_decide_eq_true (by first | (with_reducible assumption) | assumption)
            have q211 : x3_1 < (l0.length : Int) := of_decide_eq_true (by first | (with_reducible assumption) | assumption)
            obtain ⟨ad211, e211, hx211_0⟩ := Kd.at_int HR0.out x3_1 p211 q211
            cases e211
            replace p211 := eq_true p211
            replace q211 := eq_true q211
            go_wp2
            go_ret
            exact ⟨Sqz.auS, by repeat (first | exact Drawn0.refl _ | apply Drawn0.step)⟩
          · rw [if_neg c4] at H
            have c4b0 : ((rd l0 x3_1) == 0) = false := beq_eq_false_iff_ne.mpr c4
            have c4b1 : ((rd l0 x3_1) != 0) = true := bne_iff_ne.mpr c4
            replace H := Option.bind_eq_some_iff.mp H
            obtain ⟨t213, A50, H⟩ := H
            replace H : (if t213 = true then (spec_FormValid.l0 k1 l0 (wrap64 (x3_1 + 1))) else (some false)) = some r := H
            have A5 := Aside0.mk A50
            clear A50
            by_cases c6 : t213 = true
            · subst c6
              have H1 : (spec_FormValid.l0 k1 l0 (wrap64 (x3_1 + 1))) = some r := by rw [if_pos rfl] at H; exact H
              clear H
              have H := H1
              clear H1
              have H' := Aside0.mk H
              clear H
              have p211 : 0 ≤ (x3_1 : Int) := of_decide_eq_true (by first | (with_reducible assumption) | assumption)
              have q211 : x3_1 < (l0.length : Int) := of_decide_eq_true (by first | (with_reducible assumption) | assumption)
              obtain ⟨ad211, e211, hx211_0⟩ := Kd.at_int HR0.out x3_1 p211 q211
              cases e211
              replace p211 := eq_true p211
              replace q211 := eq_true q211
              have p212 : 0 ≤ (x3_1 : Int) := of_decide_eq_true (by first | (with_reducible assumption) | assumption)
              have q212 : x3_1 < (l0.length : Int) := of_decide_eq_true (by first | (with_reducible assumption) | assumption)
              obtain ⟨ad212, e212, hx212_0⟩ := Kd.at_int HR0.out x3_1 p212 q212
              obtain rfl : ad211 = ad212 := (by injection e212)
              replace p212 := eq_true p212
              replace q212 := eq_true q212
              go_wp2_with (first | (go_at_call 115; (with_reducible refine (spec_l6In.calls (rd l0 x3_1) (-30) 30 true _ A5.out).mono ?_); rintro e w' ⟨rfl, ⟨nd, rfl⟩⟩))
              go_roundg k1
              case measure => have := HK1.out; omega
              case rel => exact ⟨(wrap64 (x3_1 + 1)), Sqz.auS, H', ⟨by have := HK1.out; omega⟩, by repeat (first | exact Drawn0.refl _ | apply Drawn0.step)⟩
            · replace c6 := Bool.eq_false_iff.mpr c6
              subst c6
              have H1 : (some false) = some r := by rw [if_neg (show ¬ (false = true) by decide)] at H; exact H
              clear H
              have H := H1
              clear H1
              obtain rfl := Option.some.inj H
              have p211 : 0 ≤ (x3_1 : Int) := of_decide_eq_true (by first | (with_reducible assumption) | assumption)
              have q211 : x3_1 < (l0.length : Int) := of_decide_eq_true (by first | (with_reducible assumption) | assumption)
              obtain ⟨ad211, e211, hx211_0⟩ := Kd.at_int HR0.out x3_1 p211 q211
              cases e211
              replace p211 := eq_true p211
              replace q211 := eq_true q211
              have p212 : 0 ≤ (x3_1 : Int) := of_decide_eq_true (by first | (with_reducible assumption) | assumption)
              have q212 : x3_1 < (l0.length : Int) := of_decide_eq_true (by first | (with_reducible assumption) | assumption)
              obtain ⟨ad212, e212, hx212_0⟩ := Kd.at_int HR0.out x3_1 p212 q212
              obtain rfl : ad211 = ad212 := (by injection e212)
              replace p212 := eq_true p212
              replace q212 := eq_true q212
              go_wp2_with (first | (go_at_call 115; (with_reducible refine (spec_l6In.calls (rd l0 x3_1) (-30) 30 false _ A5.out).mono ?_); rintro e w' ⟨rfl, ⟨nd, rfl⟩⟩))
              go_ret
              exact ⟨Sqz.auS, by repeat (first | exact Drawn0.refl _ | apply Drawn0.step)⟩
        · rw [if_neg c3] at H
          exact absurd H (by simp)
      · rw [if_neg c2] at H
        have c2b0 : decide (x3_1 < (l0.length : Int)) = false := decide_eq_false c2
        clear c2
        replace H := Option.bind_eq_some_iff.mp H
        obtain ⟨t214, A70, H⟩ := H
        replace H : (some t214) = some r := H
        have A7 := Aside0.mk A70
        clear A70
        obtain rfl := Option.some.inj H
        go_wp2_with (first | ((with_reducible refine gate_callee (f := 115) rfl ?_); refine goesL_ (some 25) rfl rfl Try.func115 (by kernel_rfl) rfl #[.int .i64 (l0.length : Int), .int .i64 1, .int .i64 4] rfl Sqz.auM ?_; (with_reducible refine (spec_l6In.calls (l0.length : Int) 1 4 t214 _ A7.out).mono ?_); rintro e w' ⟨rfl, ⟨nd, rfl⟩⟩; refine ⟨_, rfl, ?_⟩))
        go_ret
        exact ⟨Sqz.auS, by repeat (first | exact Drawn0.refl _ | apply Drawn0.step)⟩

/-! ### spec_l1Size: function 144 -/
def spec_l1Size.f (a0 : Int) : Option (Int) := some (mx a0 (wrap64 (-a0)))
set_option maxHeartbeats 8000000 in
set_option maxRecDepth 100000 in
theorem spec_l1Size.calls (a0 : Int) (r : Int) (w : World) (h : spec_l1Size.f a0 = some r) :
    Calls Try.prog 144 #[.int .i64 a0] w fun e w' => e = .returned (.int .i64 r) ∧ Below w.heap.size w w' := by
  have HB := Aside0.mk (Below.refl w.heap.size w)
  have H : (some (mx a0 (wrap64 (-a0)))) = some r := h
  clear h
  obtain ⟨ji2, hji2⟩ : ∃ j_ : Int, (mx a0 (wrap64 (-a0))) = j_ := ⟨_, rfl⟩
  replace H : (some ji2) = some r := by first | (rw [hji2] at H; exact H) | (simp only [hji2] at H ⊢; exact H)
  have hji2_ : (if a0 < (wrap64 (-a0)) then (wrap64 (-a0)) else a0) = ji2 := hji2
  obtain rfl := Option.some.inj H
  go_enter Try.func144, Try.ntmps144
  go_wp2
  go_ret
  exact ⟨by first | rfl | (simp [errW_none, errW_some] <;> rfl) | (simp only [← hji2]; first | rfl | (simp [errW_none, errW_some] <;> rfl)) | (simp [*, errW_none, errW_some] <;> rfl), Sqz.auHB⟩

/-! ### spec_l1Primes: function 142 -/
mutual
def spec_l1Primes.l0 : Nat → Int → List Int → Int → Option (List Int)
  | 0, _, _, _ => none
  | k + 1, x0, x3, x4 => if (wrap64 (x4 * x4)) ≤ x0 then (if x4 = 0 then (none) else (if (Int.tmod x0 x4) = 0 then (if x3.length < 17592186044416 then (spec_l1Primes.j1 k x0 (x3 ++ [x4]) x4) else (none)) else (spec_l1Primes.j1 k x0 x3 x4))) else (if x0 > 1 then (if x3.length < 17592186044416 then (some (x3 ++ [x0])) else (none)) else (some x3))
def spec_l1Primes.j1 : Nat → Int → List Int → Int → Option (List Int)
  | 0, _, _, _ => none
  | k + 1, x0, x3, x4 => spec_l1Primes.l1 k x0 x3 x4
def spec_l1Primes.l1 : Nat → Int → List Int → Int → Option (List Int)
  | 0, _, _, _ => none
  | k + 1, x0, x3, x4 => if x4 = 0 then (none) else (if (Int.tmod x0 x4) = 0 then (spec_l1Primes.l1 k (wrap64 (Int.tdiv x0 x4)) x3 x4) else (spec_l1Primes.l0 k x0 x3 (wrap64 (x4 + 1))))
end
def spec_l1Primes.f (k : Nat) (a0 : Int) : Option (List Int) := (spec_l1Size.f a0).bind fun t218 => (spec_l1Primes.l0 k t218 (([] : List Int)) 2)
set_option maxHeartbeats 8000000 in
set_option maxRecDepth 100000 in
theorem spec_l1Primes.calls (k : Nat) (a0 : Int) (r : List Int) (w : World) (h : spec_l1Primes.f k a0 = some r) :
    Calls Try.prog 142 #[.int .i64 a0] w fun e w' => ∃ v0_ : Value, e = .returned (v0_) ∧ Kd.R (Kd.int .i64) 3 w' w.heap.size (fun _ => True) v0_ r ∧ Below w.heap.size w w' := by
  have HB := Aside0.mk (Below.refl w.heap.size w)
  have H : ((spec_l1Size.f a0).bind fun t218 => (spec_l1Primes.l0 k t218 (([] : List Int)) 2)) = some r := h
  clear h
  obtain ⟨y215, hy215⟩ : ∃ y_ : List Int, y_ = (([] : List Int)) := ⟨_, rfl⟩
  replace H : ((spec_l1Size.f a0).bind fun t218 => (spec_l1Primes.l0 k t218 y215 2)) = some r := by first | (rw [hy215]; with_reducible exact H) | (have H2_ := (Option.bind_some _ _).symm.trans H; rw [hy215]; with_reducible exact H2_) | (have H2_ := (Option.bind_some _ _).symm.trans H; with_reducible exact H2_) | with_reducible exact H | (rw [hy215]; exact H) | exact H
  have Ny215 := Aside0.mk hy215
  clear hy215
  replace H := Option.bind_eq_some_iff.mp H
  obtain ⟨t218, A20, H⟩ := H
  replace H : (spec_l1Primes.l0 k t218 y215 2) = some r := H
  have A2 := Aside0.mk A20
  clear A20
  have H' := Aside0.mk H
  clear H
  go_enter Try.func142, Try.ntmps142
  go_wp2_with (first | ((with_reducible refine gate_dst (N := 5) rfl ?_); refine Kd.R_lit (Kd.int .i64) _ 3 ?hg (N := 5) ?hd (xs := ([] : List Int)) (inner := []) (ok := fun _ => True) (okp := fun _ => True) ?hr ?hp (fun _ hk => hk) trivial (Below.refl _ _) (Nat.le_refl _) (by simp) ?_; (case hd => rfl); (case hg => rfl); (case hr => first | (go_simp; done) | (go_simp; rfl)); (case hp => exact (Reps.none _ _)); intro v216 w3 ho4 hb hg_ hnew_; clear hg_ hnew_; (first | rw [← Ny215.out] at ho4 | (simp only [Int.reduceToNat] at ho4; rw [← Ny215.out] at ho4)); have n0_ := Aside0.mk (Kd.R_lower ho4 (below_size (Sqz.auHB))); have n1_ := Aside0.mk (below_step (Sqz.auHB) hb); clear HB; have HO217 := n0_; have HB := n1_; clear n0_ n1_; clear hb ho4) | ((with_reducible refine gate_callee (f := 144) rfl ?_); refine goesL_ (some 7) rfl rfl Try.func144 (by kernel_rfl) rfl #[.int .i64 a0] rfl Sqz.auM ?_; (with_reducible refine (spec_l1Size.calls a0 t218 _ A2.out).mono ?_); rintro e w5 ⟨rfl, hb⟩; refine ⟨_, rfl, ?_⟩; have n0_ := Aside0.mk (Kd.R_below ((Sqz.mvR HO217.out)) hb); have n1_ := Aside0.mk (below_step (Sqz.auHB) hb); clear HO217; clear HB; have HO217 := n0_; have HB := n1_; clear n0_ n1_; (try clear hb); (try clear hb2); (try clear hk); (try clear hi)))
  go_loopg [0, 3, 4] k (fun kq v0 v3 v4 w' => ∃ (x0_1 : Int) (x3_1 : List Int) (x4_1 : Int), v0 = .int .i64 x0_1 ∧ v4 = .int .i64 x4_1 ∧ Aside0 (spec_l1Primes.l0 kq x0_1 x3_1 x4_1 = some r) ∧ Aside0 (kq ≤ k) ∧ Aside0 (Kd.R (Kd.int .i64) 3 w' w.heap.size (fun _ => True) v3 x3_1) ∧ Aside0 (Below w.heap.size w w'))
  case atStart => exact ⟨(t218), (y215), (2), Sqz.auS, Sqz.auS, H', ⟨Nat.le_refl _⟩, ⟨(Sqz.mvR HO217.out)⟩, ⟨Sqz.auHB⟩⟩
  case round =>
    clear H'
    try clear c1
    try clear p2
    obtain ⟨x0_1, x3_1, x4_1, rfl, rfl, HA, HK1, HO_3, HB⟩ := hrel
    cases gk with
    | zero => exact absurd HA.out (by simp [spec_l1Primes.l0])
    | succ k1 =>
      have H := HA.out
      clear HA
      simp only [spec_l1Primes.l0] at H
      by_cases c6 : (wrap64 (x4_1 * x4_1)) ≤ x0_1
      · rw [if_pos c6] at H
        have c6b0 : decide ((wrap64 (x4_1 * x4_1)) ≤ x0_1) = true := decide_eq_true c6
        clear c6
        by_cases c7 : x4_1 = 0
        · rw [if_pos c7] at H
          exact absurd H (by simp)
        · rw [if_neg c7] at H
          have c7b0 : (x4_1 == 0) = false := beq_eq_false_iff_ne.mpr c7
          have c7b1 : (x4_1 != 0) = true := bne_iff_ne.mpr c7
          have HC8 := Aside0.mk H
          clear H
          go_upto_if 18 with (fail)
          go_cut [3] (fun v3 wc => ∃ (kq : Nat) (x3_7 : List Int), Aside0 (spec_l1Primes.j1 kq x0_1 x3_7 x4_1 = some r) ∧ Aside0 (kq ≤ k1) ∧ Aside0 (Kd.R (Kd.int .i64) 3 wc w.heap.size (fun _ => True) v3 x3_7) ∧ Aside0 (Below w.heap.size w wc))
          case first =>
            have H := HC8.out
            clear HC8
            by_cases c9 : (Int.tmod x0_1 x4_1) = 0
            · rw [if_pos c9] at H
              have c9b0 : ((Int.tmod x0_1 x4_1) == 0) = true := beq_iff_eq.mpr c9
              have c9b1 : ((Int.tmod x0_1 x4_1) != 0) = false := bne_eq_false_iff_eq.mpr c9
              clear c9
              (first | rw [c9b0] | (simp only [i64_w, i32_w]; rw [c9b0]) | skip)
              by_cases c10 : x3_1.length < 17592186044416
              · rw [if_pos c10] at H
                have LMc10 := Aside0.mk c10
                clear c10
                obtain ⟨y222, hy222⟩ : ∃ y_ : List Int, y_ = (x3_1 ++ [x4_1]) := ⟨_, rfl⟩
                replace H : (spec_l1Primes.j1 k1 x0_1 y222 x4_1) = some r := by first | (rw [hy222]; with_reducible exact H) | (have H2_ := (Option.bind_some _ _).symm.trans H; rw [hy222]; with_reducible exact H2_) | (have H2_ := (Option.bind_some _ _).symm.trans H; with_reducible exact H2_) | with_reducible exact H | (rw [hy222]; exact H) | exact H
                have Ny222 := Aside0.mk hy222
                clear hy222
                have H' := Aside0.mk H
                clear H
                go_wp2_with (first | ((with_reducible refine gate_builtin (b := .append) (xs := #[.tmp 19, .tmp 21]) rfl ?_); at_builtin; refine Kd.R_append (Kd.int .i64) (w0 := w) w.heap.size rfl (.tmp 19) (.tmp 21) 25 3 (.int .i64 0) 8 rfl Try.underlying25 info3 rfl (by decide) (by omega) u3 x3_1 x4_1 [.int .i64 x4_1] (fun _ => True) (fun _ => False) rfl rfl ?aP (fun _ hk => hk.elim) ?aF ?aO ?aB ?aS ?aL ?_; (case aP => exact rfl); (case aB => exact (Sqz.auHB)); (case aF => exact (fun _ _ => trivial)); (case aO => exact ((Sqz.mvR HO_3.out))); (case aS => exact (below_size (Sqz.auHB))); (case aL => have := LMc10.out; omega); intro v223 w11 ho hb hg hat; rw [← Ny222.out] at ho; have n0_ := Aside0.mk (hb); have n1_ := Aside0.mk (ho); clear HB; clear HO_3; have HB := n0_; have HO224 := n1_; clear n0_ n1_; clear ho hb hg hat))
                go_meet
                case rel => exact ⟨_, (y222), H', ⟨by have := HK1.out; first | omega | exact Nat.le_refl _⟩, ⟨(Sqz.mvR HO224.out)⟩, ⟨Sqz.auHB⟩⟩
              · rw [if_neg c10] at H
                exact absurd H (by simp)
            · rw [if_neg c9] at H
              have c9b0 : ((Int.tmod x0_1 x4_1) == 0) = false := beq_eq_false_iff_ne.mpr c9
              have c9b1 : ((Int.tmod x0_1 x4_1) != 0) = true := bne_iff_ne.mpr c9
              (first | rw [c9b0] | (simp only [i64_w, i32_w]; rw [c9b0]) | skip)
              have H' := Aside0.mk H
              clear H
              go_wp2
              go_meet
              case rel => exact ⟨_, (x3_1), H', ⟨by have := HK1.out; first | omega | exact Nat.le_refl _⟩, ⟨(Sqz.mvR HO_3.out)⟩, ⟨Sqz.auHB⟩⟩
          case rest =>
            clear HC8
            try clear c1
            try clear p2
            try clear c6
            try clear c6b0
            try clear p6
            try clear c7
            try clear c7b0
            try clear c7b1
            try clear c9
            try clear c9b0
            try clear c9b1
            try clear c10
            try clear p2
            obtain ⟨kq, x3_7, HA, HJ7, HO_3, HB⟩ := hcut
            cases kq with
            | zero => exact absurd HA.out (by simp [spec_l1Primes.j1])
            | succ kj7 =>
              have H := HA.out
              clear HA
              simp only [spec_l1Primes.j1] at H
              have H' := Aside0.mk H
              clear H
              go_wp2
              go_loopg [0] kj7 (fun kq v0 w' => ∃ (x0_3 : Int), v0 = .int .i64 x0_3 ∧ Aside0 (spec_l1Primes.l1 kq x0_3 x3_7 x4_1 = some r) ∧ Aside0 (kq ≤ kj7) ∧ Aside0 (Kd.R (Kd.int .i64) 3 w' w.heap.size (fun _ => True) u3 x3_7) ∧ Aside0 (Below w.heap.size w w'))
              case atStart => exact ⟨(x0_1), Sqz.auS, H', ⟨Nat.le_refl _⟩, ⟨(Sqz.mvR HO_3.out)⟩, ⟨Sqz.auHB⟩⟩
              case round =>
                clear H'
                try clear c1
                try clear p2
                try clear c6
                try clear c6b0
                try clear p6
                try clear c7
                try clear c7b0
                try clear c7b1
                try clear c9
                try clear c9b0
                try clear c9b1
                try clear c10
                try clear p2
                try clear p6
                obtain ⟨x0_3, rfl, HA, HK3, HO_3, HB⟩ := hrel
                cases gk with
                | zero => exact absurd HA.out (by simp [spec_l1Primes.l1])
                | succ k3 =>
                  have H := HA.out
                  clear HA
                  simp only [spec_l1Primes.l1] at H
                  by_cases c12 : x4_1 = 0
                  · rw [if_pos c12] at H
                    exact absurd H (by simp)
                  · rw [if_neg c12] at H
                    have c12b0 : (x4_1 == 0) = false := beq_eq_false_iff_ne.mpr c12
                    have c12b1 : (x4_1 != 0) = true := bne_iff_ne.mpr c12
                    by_cases c13 : (Int.tmod x0_3 x4_1) = 0
                    · rw [if_pos c13] at H
                      have c13b0 : ((Int.tmod x0_3 x4_1) == 0) = true := beq_iff_eq.mpr c13
                      have c13b1 : ((Int.tmod x0_3 x4_1) != 0) = false := bne_eq_false_iff_eq.mpr c13
                      clear c13
                      have H' := Aside0.mk H
                      clear H
                      go_wp2
                      go_roundg k3
                      case measure => have := HK1.out; have := HJ7.out; have := HK3.out; omega
                      case rel => exact ⟨(wrap64 (Int.tdiv x0_3 x4_1)), Sqz.auS, H', ⟨by have := HK1.out; have := HJ7.out; have := HK3.out; omega⟩, ⟨(Sqz.mvR HO_3.out)⟩, ⟨Sqz.auHB⟩⟩
                    · rw [if_neg c13] at H
                      have c13b0 : ((Int.tmod x0_3 x4_1) == 0) = false := beq_eq_false_iff_ne.mpr c13
                      have c13b1 : ((Int.tmod x0_3 x4_1) != 0) = true := bne_iff_ne.mpr c13
                      have H' := Aside0.mk H
                      clear H
                      go_wp2
                      go_roundg k3
                      case measure => have := HK1.out; have := HJ7.out; have := HK3.out; omega
                      case rel => exact ⟨(x0_3), (x3_7), (wrap64 (x4_1 + 1)), Sqz.auS, Sqz.auS, H', ⟨by have := HK1.out; have := HJ7.out; have := HK3.out; omega⟩, ⟨(Sqz.mvR HO_3.out)⟩, ⟨Sqz.auHB⟩⟩
      · rw [if_neg c6] at H
        have c6b0 : decide ((wrap64 (x4_1 * x4_1)) ≤ x0_1) = false := decide_eq_false c6
        clear c6
        by_cases c14 : x0_1 > 1
        · rw [if_pos c14] at H
          have c14b0 : decide (1 < x0_1) = true := decide_eq_true c14
          clear c14
          by_cases c15 : x3_1.length < 17592186044416
          · rw [if_pos c15] at H
            have LMc15 := Aside0.mk c15
            clear c15
            obtain ⟨y219, hy219⟩ : ∃ y_ : List Int, y_ = (x3_1 ++ [x0_1]) := ⟨_, rfl⟩
            replace H : (some y219) = some r := by first | (rw [hy219]; with_reducible exact H) | (have H2_ := (Option.bind_some _ _).symm.trans H; rw [hy219]; with_reducible exact H2_) | (have H2_ := (Option.bind_some _ _).symm.trans H; with_reducible exact H2_) | with_reducible exact H | (rw [hy219]; exact H) | exact H
            have Ny219 := Aside0.mk hy219
            clear hy219
            obtain rfl := Option.some.inj H
            go_wp2_with (first | ((with_reducible refine gate_builtin (b := .append) (xs := #[.tmp 32, .tmp 34]) rfl ?_); at_builtin; refine Kd.R_append (Kd.int .i64) (w0 := w) w.heap.size rfl (.tmp 32) (.tmp 34) 25 3 (.int .i64 0) 8 rfl Try.underlying25 info3 rfl (by decide) (by omega) u3 x3_1 x0_1 [.int .i64 x0_1] (fun _ => True) (fun _ => False) rfl rfl ?aP (fun _ hk => hk.elim) ?aF ?aO ?aB ?aS ?aL ?_; (case aP => exact rfl); (case aB => exact (Sqz.auHB)); (case aF => exact (fun _ _ => trivial)); (case aO => exact ((Sqz.mvR HO_3.out))); (case aS => exact (below_size (Sqz.auHB))); (case aL => have := LMc15.out; omega); intro v220 w16 ho hb hg hat; rw [← Ny219.out] at ho; have n0_ := Aside0.mk (hb); have n1_ := Aside0.mk (ho); clear HB; clear HO_3; have HB := n0_; have HO221 := n1_; clear n0_ n1_; clear ho hb hg hat))
            go_ret
            exact ⟨_, Sqz.auR, (Sqz.mvR HO221.out), Sqz.auHB⟩
          · rw [if_neg c15] at H
            exact absurd H (by simp)
        · rw [if_neg c14] at H
          have c14b0 : decide (1 < x0_1) = false := decide_eq_false c14
          clear c14
          obtain rfl := Option.some.inj H
          go_wp2
          go_ret
          exact ⟨_, Sqz.auR, (Sqz.mvR HO_3.out), Sqz.auHB⟩

end Go.Proofs.Ytihadpckmcebgaa.PFnClasses
