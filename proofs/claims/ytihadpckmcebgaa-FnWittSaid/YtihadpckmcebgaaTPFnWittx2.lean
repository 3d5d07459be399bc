/- A function's Lean twin and its walk, written by a program of this session. -/
import Derived.Test.YtihadpckmcebgaaTPFnWittx0
import Derived.Test.YtihadpckmcebgaaTPFnWittx1
namespace Go.Proofs.Ytihadpckmcebgaa.PFnWitt
open Go.RowKit Go.Proofs.YtihadpckmcebgaaW.PrintWords Go.Proofs.YtihadpckmcebgaaW.PrintLast Go.Proofs.YtihadpckmcebgaaW.PrintMore
attribute [local go_sem] max2_int min2_int max_two min_two max_three min_three max_four min_four   -- for this text's walks alone
set_option linter.unusedVariables false
set_option linter.unusedSimpArgs false

/-! ### spec_l91Same: function 105 -/
def spec_l91Same.j0 : Nat → List Int → Int → Int → Int → Int → Bool → List Int → Int → Option (List Int × Int)
  | 0, _, _, _, _, _, _, _, _ => none
  | k + 1, x5, x6, x7, x8, x11, x59, x1000, x1001 => if x59 = true then ((spec_l1Core.f k x11).bind fun bt159 => ((spec_l1Core.f k (wrap64 ((wrap64 (x7 * x8)) * x11))).bind fun bt161 => ((spec_l1Size.f bt159.1).bind fun t163 => (if t163 ≤ 30 then ((spec_l1Size.f bt161.1).bind fun t164 => (if t164 ≤ 30 then (if 0 ≤ x6 then (if x6 < (x5.length : Int) then (if 0 ≤ (wrap64 (x6 + 1)) then (if (wrap64 (x6 + 1)) < (x5.length : Int) then (some (((x5.set (x6 : Int).toNat bt159.1).set ((wrap64 (x6 + 1)) : Int).toNat bt161.1), x1001)) else (none)) else (none)) else (none)) else (none)) else (if 0 ≤ x6 then (if x6 < (x5.length : Int) then (if 0 ≤ (wrap64 (x6 + 1)) then (if (wrap64 (x6 + 1)) < (x5.length : Int) then (some (((x5.set (x6 : Int).toNat x8).set ((wrap64 (x6 + 1)) : Int).toNat x7), x1001)) else (none)) else (none)) else (none)) else (none)))) else (if 0 ≤ x6 then (if x6 < (x5.length : Int) then (if 0 ≤ (wrap64 (x6 + 1)) then (if (wrap64 (x6 + 1)) < (x5.length : Int) then (some (((x5.set (x6 : Int).toNat x8).set ((wrap64 (x6 + 1)) : Int).toNat x7), x1001)) else (none)) else (none)) else (none)) else (none)))))) else (if 0 ≤ x6 then (if x6 < (x5.length : Int) then (if 0 ≤ (wrap64 (x6 + 1)) then (if (wrap64 (x6 + 1)) < (x5.length : Int) then (some (((x5.set (x6 : Int).toNat x8).set ((wrap64 (x6 + 1)) : Int).toNat x7), x1001)) else (none)) else (none)) else (none)) else (none))
def spec_l91Same.f (k : Nat) (s0_0 : List Int) (s0_1 : Int) (l1 : List Int) : Option (List Int × Int) := (some (([] : List Int) : List Int)).bind fun y143 => (if y143.length + l1.length < 17592186044416 then ((some (y143 ++ l1 : List Int)).bind fun y146 => (if (y146.length : Int) < 2 then (some (y146, s0_1)) else ((spec_l6Rd_pick.f k s0_0 s0_1 (wrap64 ((y146.length : Int) - 1))).bind fun bt149 => (if 0 ≤ bt149.1 then (if bt149.1 < (y146.length : Int) then (if 0 ≤ (wrap64 (bt149.1 + 1)) then (if (wrap64 (bt149.1 + 1)) < (y146.length : Int) then ((spec_l6Rd_pick.f k s0_0 bt149.2 2).bind fun bt153 => ((spec_l6Rd_pick.f k s0_0 bt153.2 2).bind fun bt155 => (if (wrap64 ((wrap64 ((wrap64 ((rd y146 bt149.1) * bt153.1)) * bt153.1)) + (wrap64 ((wrap64 ((rd y146 (wrap64 (bt149.1 + 1))) * (wrap64 (1 + bt155.1)))) * (wrap64 (1 + bt155.1)))))) = 0 then (spec_l91Same.j0 k y146 bt149.1 (rd y146 bt149.1) (rd y146 (wrap64 (bt149.1 + 1))) (wrap64 ((wrap64 ((wrap64 ((rd y146 bt149.1) * bt153.1)) * bt153.1)) + (wrap64 ((wrap64 ((rd y146 (wrap64 (bt149.1 + 1))) * (wrap64 (1 + bt155.1)))) * (wrap64 (1 + bt155.1)))))) false s0_0 bt155.2) else ((spec_l6Rd_pick.f k s0_0 bt155.2 3).bind fun bt157 => (spec_l91Same.j0 k y146 bt149.1 (rd y146 bt149.1) (rd y146 (wrap64 (bt149.1 + 1))) (wrap64 ((wrap64 ((wrap64 ((rd y146 bt149.1) * bt153.1)) * bt153.1)) + (wrap64 ((wrap64 ((rd y146 (wrap64 (bt149.1 + 1))) * (wrap64 (1 + bt155.1)))) * (wrap64 (1 + bt155.1)))))) (decide (bt157.1 > 0)) s0_0 bt157.2))))) else (none)) else (none)) else (none)) else (none))))) else (none))
set_option maxHeartbeats 8000000 in
set_option maxRecDepth 100000 in
theorem spec_l91Same.calls (k : Nat) (g : Nat) (s0_0 : List Int) (s0_1 : Int) (A1 : Option Addr) (c1 : Nat) (l1 : List Int) (r1 : List Int) (r2 : Int) (w0 w : World) (hI : IsS74 w0 w g s0_0 s0_1) (hB : Below w0.heap.size w0 w) (hr1 : Kd.C (Kd.int .i64) w A1 l1.length l1) (hc1 : l1.length ≤ c1) (hf1 : ∀ ad, A1 = some ad → 0 < l1.length → ad.block ≠ g) (h : spec_l91Same.f k s0_0 s0_1 l1 = some (r1, r2)) :
    Calls Try.prog 105 #[.pointer (some ⟨g, 0, none⟩), .slice A1 l1.length c1] w fun e w' => ∃ v0_ : Value, e = .returned (v0_) ∧ Kd.R (Kd.int .i64) 3 w' w.heap.size (fun _ => True) v0_ r1 ∧ IsS74 w0 w' g s0_0 r2 ∧ Below w0.heap.size w0 w' ∧ KeepBut w w' g none := by
  have HR1 := Aside0.mk hr1
  have HC1 := Aside0.mk hc1
  clear hr1 hc1
  have HI0 := Aside0.mk hI
  have HK := Aside0.mk (KeepBut.refl w g none)
  have HL := Aside0.mk hB.size
  clear hI
  have HW0 := Aside0.mk hB.size
  have HB := Aside0.mk hB
  clear hB
  have H : ((some (([] : List Int) : List Int)).bind fun y143 => (if y143.length + l1.length < 17592186044416 then ((some (y143 ++ l1 : List Int)).bind fun y146 => (if (y146.length : Int) < 2 then (some (y146, s0_1)) else ((spec_l6Rd_pick.f k s0_0 s0_1 (wrap64 ((y146.length : Int) - 1))).bind fun bt149 => (if 0 ≤ bt149.1 then (if bt149.1 < (y146.length : Int) then (if 0 ≤ (wrap64 (bt149.1 + 1)) then (if (wrap64 (bt149.1 + 1)) < (y146.length : Int) then ((spec_l6Rd_pick.f k s0_0 bt149.2 2).bind fun bt153 => ((spec_l6Rd_pick.f k s0_0 bt153.2 2).bind fun bt155 => (if (wrap64 ((wrap64 ((wrap64 ((rd y146 bt149.1) * bt153.1)) * bt153.1)) + (wrap64 ((wrap64 ((rd y146 (wrap64 (bt149.1 + 1))) * (wrap64 (1 + bt155.1)))) * (wrap64 (1 + bt155.1)))))) = 0 then (spec_l91Same.j0 k y146 bt149.1 (rd y146 bt149.1) (rd y146 (wrap64 (bt149.1 + 1))) (wrap64 ((wrap64 ((wrap64 ((rd y146 bt149.1) * bt153.1)) * bt153.1)) + (wrap64 ((wrap64 ((rd y146 (wrap64 (bt149.1 + 1))) * (wrap64 (1 + bt155.1)))) * (wrap64 (1 + bt155.1)))))) false s0_0 bt155.2) else ((spec_l6Rd_pick.f k s0_0 bt155.2 3).bind fun bt157 => (spec_l91Same.j0 k y146 bt149.1 (rd y146 bt149.1) (rd y146 (wrap64 (bt149.1 + 1))) (wrap64 ((wrap64 ((wrap64 ((rd y146 bt149.1) * bt153.1)) * bt153.1)) + (wrap64 ((wrap64 ((rd y146 (wrap64 (bt149.1 + 1))) * (wrap64 (1 + bt155.1)))) * (wrap64 (1 + bt155.1)))))) (decide (bt157.1 > 0)) s0_0 bt157.2))))) else (none)) else (none)) else (none)) else (none))))) else (none))) = some (r1, r2) := h
  clear h
  obtain ⟨y143, hy143⟩ : ∃ y_ : List Int, y_ = (([] : List Int)) := ⟨_, rfl⟩
  replace H : (if y143.length + l1.length < 17592186044416 then ((some (y143 ++ l1 : List Int)).bind fun y146 => (if (y146.length : Int) < 2 then (some (y146, s0_1)) else ((spec_l6Rd_pick.f k s0_0 s0_1 (wrap64 ((y146.length : Int) - 1))).bind fun bt149 => (if 0 ≤ bt149.1 then (if bt149.1 < (y146.length : Int) then (if 0 ≤ (wrap64 (bt149.1 + 1)) then (if (wrap64 (bt149.1 + 1)) < (y146.length : Int) then ((spec_l6Rd_pick.f k s0_0 bt149.2 2).bind fun bt153 => ((spec_l6Rd_pick.f k s0_0 bt153.2 2).bind fun bt155 => (if (wrap64 ((wrap64 ((wrap64 ((rd y146 bt149.1) * bt153.1)) * bt153.1)) + (wrap64 ((wrap64 ((rd y146 (wrap64 (bt149.1 + 1))) * (wrap64 (1 + bt155.1)))) * (wrap64 (1 + bt155.1)))))) = 0 then (spec_l91Same.j0 k y146 bt149.1 (rd y146 bt149.1) (rd y146 (wrap64 (bt149.1 + 1))) (wrap64 ((wrap64 ((wrap64 ((rd y146 bt149.1) * bt153.1)) * bt153.1)) + (wrap64 ((wrap64 ((rd y146 (wrap64 (bt149.1 + 1))) * (wrap64 (1 + bt155.1)))) * (wrap64 (1 + bt155.1)))))) false s0_0 bt155.2) else ((spec_l6Rd_pick.f k s0_0 bt155.2 3).bind fun bt157 => (spec_l91Same.j0 k y146 bt149.1 (rd y146 bt149.1) (rd y146 (wrap64 (bt149.1 + 1))) (wrap64 ((wrap64 ((wrap64 ((rd y146 bt149.1) * bt153.1)) * bt153.1)) + (wrap64 ((wrap64 ((rd y146 (wrap64 (bt149.1 + 1))) * (wrap64 (1 + bt155.1)))) * (wrap64 (1 + bt155.1)))))) (decide (bt157.1 > 0)) s0_0 bt157.2))))) else (none)) else (none)) else (none)) else (none))))) else (none)) = some (r1, r2) := by first | (rw [hy143]; with_reducible exact H) | (have H2_ := (Option.bind_some _ _).symm.trans H; rw [hy143]; with_reducible exact H2_) | (have H2_ := (Option.bind_some _ _).symm.trans H; with_reducible exact H2_) | with_reducible exact H | (rw [hy143]; exact H) | exact H
  have Ny143 := Aside0.mk hy143
  clear hy143
  by_cases c3 : y143.length + l1.length < 17592186044416
  · rw [if_pos c3] at H
    have LMc3 := Aside0.mk c3
    clear c3
    obtain ⟨y146, hy146⟩ : ∃ y_ : List Int, y_ = (y143 ++ l1) := ⟨_, rfl⟩
    replace H : (if (y146.length : Int) < 2 then (some (y146, s0_1)) else ((spec_l6Rd_pick.f k s0_0 s0_1 (wrap64 ((y146.length : Int) - 1))).bind fun bt149 => (if 0 ≤ bt149.1 then (if bt149.1 < (y146.length : Int) then (if 0 ≤ (wrap64 (bt149.1 + 1)) then (if (wrap64 (bt149.1 + 1)) < (y146.length : Int) then ((spec_l6Rd_pick.f k s0_0 bt149.2 2).bind fun bt153 => ((spec_l6Rd_pick.f k s0_0 bt153.2 2).bind fun bt155 => (if (wrap64 ((wrap64 ((wrap64 ((rd y146 bt149.1) * bt153.1)) * bt153.1)) + (wrap64 ((wrap64 ((rd y146 (wrap64 (bt149.1 + 1))) * (wrap64 (1 + bt155.1)))) * (wrap64 (1 + bt155.1)))))) = 0 then (spec_l91Same.j0 k y146 bt149.1 (rd y146 bt149.1) (rd y146 (wrap64 (bt149.1 + 1))) (wrap64 ((wrap64 ((wrap64 ((rd y146 bt149.1) * bt153.1)) * bt153.1)) + (wrap64 ((wrap64 ((rd y146 (wrap64 (bt149.1 + 1))) * (wrap64 (1 + bt155.1)))) * (wrap64 (1 + bt155.1)))))) false s0_0 bt155.2) else ((spec_l6Rd_pick.f k s0_0 bt155.2 3).bind fun bt157 => (spec_l91Same.j0 k y146 bt149.1 (rd y146 bt149.1) (rd y146 (wrap64 (bt149.1 + 1))) (wrap64 ((wrap64 ((wrap64 ((rd y146 bt149.1) * bt153.1)) * bt153.1)) + (wrap64 ((wrap64 ((rd y146 (wrap64 (bt149.1 + 1))) * (wrap64 (1 + bt155.1)))) * (wrap64 (1 + bt155.1)))))) (decide (bt157.1 > 0)) s0_0 bt157.2))))) else (none)) else (none)) else (none)) else (none)))) = some (r1, r2) := by first | (rw [hy146]; with_reducible exact H) | (have H2_ := (Option.bind_some _ _).symm.trans H; rw [hy146]; with_reducible exact H2_) | (have H2_ := (Option.bind_some _ _).symm.trans H; with_reducible exact H2_) | with_reducible exact H | (rw [hy146]; exact H) | exact H
    have Ny146 := Aside0.mk hy146
    clear hy146
    by_cases c4 : (y146.length : Int) < 2
    · rw [if_pos c4] at H
      have c4b0 : decide ((y146.length : Int) < 2) = true := decide_eq_true c4
      have c4b1 : decide (y146.length < 2) = true := decide_eq_true (by omega)
      clear c4
      simp only [Option.some.injEq, Prod.mk.injEq] at H
      obtain ⟨rfl, rfl⟩ := H
      go_enter Try.func105, Try.ntmps105
      go_wp2_with (first | ((with_reducible refine gate_dst (N := 16) rfl ?_); refine Kd.R_lit (Kd.int .i64) _ 3 ?hg (N := 16) ?hd (xs := ([] : List Int)) (inner := []) (ok := fun _ => True) (okp := fun _ => True) ?hr ?hp (fun _ hk => hk) trivial (Below.refl _ _) (Nat.le_refl _) (by simp) ?_; (case hd => rfl); (case hg => rfl); (case hr => first | (go_simp; done) | (go_simp; rfl)); (case hp => exact (Reps.none _ _)); intro v144 w5 ho6 hb hg_ hnew_; clear hg_ hnew_; (first | rw [← Ny143.out] at ho6 | (simp only [Int.reduceToNat] at ho6; rw [← Ny143.out] at ho6)); have n0_ := Aside0.mk (Kd.R_lower ho6 (keep_size (w := w) (g := g) (row := none) (by repeat (first | (with_reducible first | exact HK.out | apply KeepBut.set_ | apply keep_drewN | apply keep_drew | apply keep_alloc) | exact HK.out)))); have n1_ := Aside0.mk (IsS74.below (by repeat (first | (with_reducible first | exact HI0.out | apply IsS74.alloc | apply IsS74.drewN | apply IsS74.drew | apply IsS74.set_1) | exact HI0.out)) hb); have n2_ := Aside0.mk (KeepBut.trans (by repeat (first | (with_reducible first | exact HK.out | apply KeepBut.set_ | apply keep_drewN | apply keep_drew | apply keep_alloc) | exact HK.out)) (KeepBut.of_below hb g none) (.inl rfl)); have n3_ := Aside0.mk (below_step (by repeat (first | (with_reducible first | exact HB.out | apply below_alloc | apply pw_below_drewN | apply below_drew1 | refine below_set ?_ (IsS74.ge HI0.out)) | exact HB.out)) hb); clear HI0; clear HK; clear HB; have HO145 := n0_; have HI0 := n1_; have HK := n2_; have HB := n3_; clear n0_ n1_ n2_ n3_; clear hb ho6) | ((with_reducible refine gate_builtin (b := .append) (xs := #[.tmp 16, .tmp 17]) rfl ?_); at_builtin; refine Kd.R_append_rows (Kd.int .i64) w.heap.size rfl (.tmp 16) (.tmp 17) 25 3 (.int .i64 0) 8 rfl Try.underlying25 info3 rfl (by decide) (by omega) v144 y143 l1 _ _ _ (fun _ => True) (fun _ => False) rfl rfl ?aO ?aR (fun _ _ h => h) (fun _ h => h.elim) ?aF (Below.refl _ _) ?aS ?aL ?_; (case aR => exact Kd.C_keep 0 HR1.out (by repeat (first | (with_reducible first | exact HK.out | apply KeepBut.set_ | apply keep_drewN | apply keep_drew | apply keep_alloc) | exact HK.out)) hf1); (case aF => exact (fun _ _ => trivial)); (case aO => exact ((Sqz.mvR HO145.out))); (case aS => exact (keep_size (w := w) (g := g) (row := none) (by repeat (first | (with_reducible first | exact HK.out | apply KeepBut.set_ | apply keep_drewN | apply keep_drew | apply keep_alloc) | exact HK.out)))); (case aL => have := LMc3.out; omega); intro v147 w7 ho hb hg hat; rw [← Ny146.out] at ho; have n0_ := Aside0.mk (IsS74.grown (by repeat (first | (with_reducible first | exact HI0.out | apply IsS74.alloc | apply IsS74.drewN | apply IsS74.drew | apply IsS74.set_1) | exact HI0.out)) hg (IsS74.own_ne HI0.out HO145.out (by decide))); have n1_ := Aside0.mk (below_weaken (by repeat (first | (with_reducible first | exact HB.out | apply below_alloc | apply pw_below_drewN | apply below_drew1 | refine below_set ?_ (IsS74.ge HI0.out)) | exact HB.out)) HL.out hb); have n2_ := Aside0.mk (KeepBut.trans (by repeat (first | (with_reducible first | exact HK.out | apply KeepBut.set_ | apply keep_drewN | apply keep_drew | apply keep_alloc) | exact HK.out)) (KeepBut.of_grown hg g) (Kd.R_base2 HO145.out)); have n3_ := Aside0.mk (ho); clear HI0; clear HB; clear HK; clear HO145; have HI0 := n0_; have HB := n1_; have HK := n2_; have HO148 := n3_; clear n0_ n1_ n2_ n3_; clear ho hb hg hat; obtain ⟨Ao8, co8, eo8⟩ := Kd.R_slice HO148.out; subst eo8))
      go_ret
      exact ⟨_, Sqz.auR, (Sqz.mvR HO148.out), by repeat (first | (with_reducible first | exact HI0.out | apply IsS74.alloc | apply IsS74.drewN | apply IsS74.drew | apply IsS74.set_1) | exact HI0.out), by repeat (first | (with_reducible first | exact HB.out | apply below_alloc | apply pw_below_drewN | apply below_drew1 | refine below_set ?_ (IsS74.ge HI0.out)) | exact HB.out), by repeat (first | (with_reducible first | exact HK.out | apply KeepBut.set_ | apply keep_drewN | apply keep_drew | apply keep_alloc) | exact HK.out)⟩
    · rw [if_neg c4] at H
      have c4b0 : decide ((y146.length : Int) < 2) = false := decide_eq_false c4
      have c4b1 : decide (y146.length < 2) = false := decide_eq_false (by omega)
      clear c4
      replace H := Option.bind_eq_some_iff.mp H
      obtain ⟨⟨t149, t150⟩, A90, H⟩ := H
      replace H : (if 0 ≤ t149 then (if t149 < (y146.length : Int) then (if 0 ≤ (wrap64 (t149 + 1)) then (if (wrap64 (t149 + 1)) < (y146.length : Int) then ((spec_l6Rd_pick.f k s0_0 t150 2).bind fun bt153 => ((spec_l6Rd_pick.f k s0_0 bt153.2 2).bind fun bt155 => (if (wrap64 ((wrap64 ((wrap64 ((rd y146 t149) * bt153.1)) * bt153.1)) + (wrap64 ((wrap64 ((rd y146 (wrap64 (t149 + 1))) * (wrap64 (1 + bt155.1)))) * (wrap64 (1 + bt155.1)))))) = 0 then (spec_l91Same.j0 k y146 t149 (rd y146 t149) (rd y146 (wrap64 (t149 + 1))) (wrap64 ((wrap64 ((wrap64 ((rd y146 t149) * bt153.1)) * bt153.1)) + (wrap64 ((wrap64 ((rd y146 (wrap64 (t149 + 1))) * (wrap64 (1 + bt155.1)))) * (wrap64 (1 + bt155.1)))))) false s0_0 bt155.2) else ((spec_l6Rd_pick.f k s0_0 bt155.2 3).bind fun bt157 => (spec_l91Same.j0 k y146 t149 (rd y146 t149) (rd y146 (wrap64 (t149 + 1))) (wrap64 ((wrap64 ((wrap64 ((rd y146 t149) * bt153.1)) * bt153.1)) + (wrap64 ((wrap64 ((rd y146 (wrap64 (t149 + 1))) * (wrap64 (1 + bt155.1)))) * (wrap64 (1 + bt155.1)))))) (decide (bt157.1 > 0)) s0_0 bt157.2))))) else (none)) else (none)) else (none)) else (none)) = some (r1, r2) := H
      have A9 := Aside0.mk A90
      clear A90
      by_cases c10 : 0 ≤ t149
      · rw [if_pos c10] at H
        have c10b0 : decide (0 ≤ t149) = true := decide_eq_true c10
        clear c10
        by_cases c11 : t149 < (y146.length : Int)
        · rw [if_pos c11] at H
          have c11b0 : decide (t149 < (y146.length : Int)) = true := decide_eq_true c11
          clear c11
          obtain ⟨ji12, hji12⟩ : ∃ j_ : Int, (wrap64 (t149 + 1)) = j_ := ⟨_, rfl⟩
          replace H : (if 0 ≤ (ji12) then (if (ji12) < (y146.length : Int) then ((spec_l6Rd_pick.f k s0_0 t150 2).bind fun bt153 => ((spec_l6Rd_pick.f k s0_0 bt153.2 2).bind fun bt155 => (if (wrap64 ((wrap64 ((wrap64 ((rd y146 t149) * bt153.1)) * bt153.1)) + (wrap64 ((wrap64 ((rd y146 (ji12)) * (wrap64 (1 + bt155.1)))) * (wrap64 (1 + bt155.1)))))) = 0 then (spec_l91Same.j0 k y146 t149 (rd y146 t149) (rd y146 (ji12)) (wrap64 ((wrap64 ((wrap64 ((rd y146 t149) * bt153.1)) * bt153.1)) + (wrap64 ((wrap64 ((rd y146 (ji12)) * (wrap64 (1 + bt155.1)))) * (wrap64 (1 + bt155.1)))))) false s0_0 bt155.2) else ((spec_l6Rd_pick.f k s0_0 bt155.2 3).bind fun bt157 => (spec_l91Same.j0 k y146 t149 (rd y146 t149) (rd y146 (ji12)) (wrap64 ((wrap64 ((wrap64 ((rd y146 t149) * bt153.1)) * bt153.1)) + (wrap64 ((wrap64 ((rd y146 (ji12)) * (wrap64 (1 + bt155.1)))) * (wrap64 (1 + bt155.1)))))) (decide (bt157.1 > 0)) s0_0 bt157.2))))) else (none)) else (none)) = some (r1, r2) := by first | (rw [hji12] at H; exact H) | (simp only [hji12] at H ⊢; exact H)
          (try rw [hji12] at A9)
          have hji12w : (IntKind.i64.wrap (t149 + 1)) = ji12 := (i64_w _).trans hji12
          by_cases c13 : 0 ≤ (ji12)
          · rw [if_pos c13] at H
            have c13b0 : decide (0 ≤ (ji12)) = true := decide_eq_true c13
            clear c13
            by_cases c14 : (ji12) < (y146.length : Int)
            · rw [if_pos c14] at H
              have c14b0 : decide ((ji12) < (y146.length : Int)) = true := decide_eq_true c14
              clear c14
              replace H := Option.bind_eq_some_iff.mp H
              obtain ⟨⟨t153, t154⟩, A150, H⟩ := H
              replace H : ((spec_l6Rd_pick.f k s0_0 t154 2).bind fun bt155 => (if (wrap64 ((wrap64 ((wrap64 ((rd y146 t149) * t153)) * t153)) + (wrap64 ((wrap64 ((rd y146 (ji12)) * (wrap64 (1 + bt155.1)))) * (wrap64 (1 + bt155.1)))))) = 0 then (spec_l91Same.j0 k y146 t149 (rd y146 t149) (rd y146 (ji12)) (wrap64 ((wrap64 ((wrap64 ((rd y146 t149) * t153)) * t153)) + (wrap64 ((wrap64 ((rd y146 (ji12)) * (wrap64 (1 + bt155.1)))) * (wrap64 (1 + bt155.1)))))) false s0_0 bt155.2) else ((spec_l6Rd_pick.f k s0_0 bt155.2 3).bind fun bt157 => (spec_l91Same.j0 k y146 t149 (rd y146 t149) (rd y146 (ji12)) (wrap64 ((wrap64 ((wrap64 ((rd y146 t149) * t153)) * t153)) + (wrap64 ((wrap64 ((rd y146 (ji12)) * (wrap64 (1 + bt155.1)))) * (wrap64 (1 + bt155.1)))))) (decide (bt157.1 > 0)) s0_0 bt157.2)))) = some (r1, r2) := H
              have A15 := Aside0.mk A150
              clear A150
              replace H := Option.bind_eq_some_iff.mp H
              obtain ⟨⟨t155, t156⟩, A160, H⟩ := H
              replace H : (if (wrap64 ((wrap64 ((wrap64 ((rd y146 t149) * t153)) * t153)) + (wrap64 ((wrap64 ((rd y146 (ji12)) * (wrap64 (1 + t155)))) * (wrap64 (1 + t155)))))) = 0 then (spec_l91Same.j0 k y146 t149 (rd y146 t149) (rd y146 (ji12)) (wrap64 ((wrap64 ((wrap64 ((rd y146 t149) * t153)) * t153)) + (wrap64 ((wrap64 ((rd y146 (ji12)) * (wrap64 (1 + t155)))) * (wrap64 (1 + t155)))))) false s0_0 t156) else ((spec_l6Rd_pick.f k s0_0 t156 3).bind fun bt157 => (spec_l91Same.j0 k y146 t149 (rd y146 t149) (rd y146 (ji12)) (wrap64 ((wrap64 ((wrap64 ((rd y146 t149) * t153)) * t153)) + (wrap64 ((wrap64 ((rd y146 (ji12)) * (wrap64 (1 + t155)))) * (wrap64 (1 + t155)))))) (decide (bt157.1 > 0)) s0_0 bt157.2))) = some (r1, r2) := H
              have A16 := Aside0.mk A160
              clear A160
              have HC17 := Aside0.mk H
              clear H
              go_enter Try.func105, Try.ntmps105
              go_upto_region 10 with (first | ((with_reducible refine gate_dst (N := 16) rfl ?_); refine Kd.R_lit (Kd.int .i64) _ 3 ?hg (N := 16) ?hd (xs := ([] : List Int)) (inner := []) (ok := fun _ => True) (okp := fun _ => True) ?hr ?hp (fun _ hk => hk) trivial (Below.refl _ _) (Nat.le_refl _) (by simp) ?_; (case hd => rfl); (case hg => rfl); (case hr => first | (go_simp; done) | (go_simp; rfl)); (case hp => exact (Reps.none _ _)); intro v144 w18 ho19 hb hg_ hnew_; clear hg_ hnew_; (first | rw [← Ny143.out] at ho19 | (simp only [Int.reduceToNat] at ho19; rw [← Ny143.out] at ho19)); have n0_ := Aside0.mk (Kd.R_lower ho19 (keep_size (w := w) (g := g) (row := none) (by repeat (first | (with_reducible first | exact HK.out | apply KeepBut.set_ | apply keep_drewN | apply keep_drew | apply keep_alloc) | exact HK.out)))); have n1_ := Aside0.mk (IsS74.below (by repeat (first | (with_reducible first | exact HI0.out | apply IsS74.alloc | apply IsS74.drewN | apply IsS74.drew | apply IsS74.set_1) | exact HI0.out)) hb); have n2_ := Aside0.mk (KeepBut.trans (by repeat (first | (with_reducible first | exact HK.out | apply KeepBut.set_ | apply keep_drewN | apply keep_drew | apply keep_alloc) | exact HK.out)) (KeepBut.of_below hb g none) (.inl rfl)); have n3_ := Aside0.mk (below_step (by repeat (first | (with_reducible first | exact HB.out | apply below_alloc | apply pw_below_drewN | apply below_drew1 | refine below_set ?_ (IsS74.ge HI0.out)) | exact HB.out)) hb); clear HI0; clear HK; clear HB; have HO145 := n0_; have HI0 := n1_; have HK := n2_; have HB := n3_; clear n0_ n1_ n2_ n3_; clear hb ho19) | ((with_reducible refine gate_builtin (b := .append) (xs := #[.tmp 16, .tmp 17]) rfl ?_); at_builtin; refine Kd.R_append_rows (Kd.int .i64) w.heap.size rfl (.tmp 16) (.tmp 17) 25 3 (.int .i64 0) 8 rfl Try.underlying25 info3 rfl (by decide) (by omega) v144 y143 l1 _ _ _ (fun _ => True) (fun _ => False) rfl rfl ?aO ?aR (fun _ _ h => h) (fun _ h => h.elim) ?aF (Below.refl _ _) ?aS ?aL ?_; (case aR => exact Kd.C_keep 0 HR1.out (by repeat (first | (with_reducible first | exact HK.out | apply KeepBut.set_ | apply keep_drewN | apply keep_drew | apply keep_alloc) | exact HK.out)) hf1); (case aF => exact (fun _ _ => trivial)); (case aO => exact ((Sqz.mvR HO145.out))); (case aS => exact (keep_size (w := w) (g := g) (row := none) (by repeat (first | (with_reducible first | exact HK.out | apply KeepBut.set_ | apply keep_drewN | apply keep_drew | apply keep_alloc) | exact HK.out)))); (case aL => have := LMc3.out; omega); intro v147 w20 ho hb hg hat; rw [← Ny146.out] at ho; have n0_ := Aside0.mk (IsS74.grown (by repeat (first | (with_reducible first | exact HI0.out | apply IsS74.alloc | apply IsS74.drewN | apply IsS74.drew | apply IsS74.set_1) | exact HI0.out)) hg (IsS74.own_ne HI0.out HO145.out (by decide))); have n1_ := Aside0.mk (below_weaken (by repeat (first | (with_reducible first | exact HB.out | apply below_alloc | apply pw_below_drewN | apply below_drew1 | refine below_set ?_ (IsS74.ge HI0.out)) | exact HB.out)) HL.out hb); have n2_ := Aside0.mk (KeepBut.trans (by repeat (first | (with_reducible first | exact HK.out | apply KeepBut.set_ | apply keep_drewN | apply keep_drew | apply keep_alloc) | exact HK.out)) (KeepBut.of_grown hg g) (Kd.R_base2 HO145.out)); have n3_ := Aside0.mk (ho); clear HI0; clear HB; clear HK; clear HO145; have HI0 := n0_; have HB := n1_; have HK := n2_; have HO148 := n3_; clear n0_ n1_ n2_ n3_; clear ho hb hg hat; obtain ⟨Ao21, co21, eo21⟩ := Kd.R_slice HO148.out; subst eo21) | ((with_reducible refine gate_callee (f := 90) rfl ?_); refine goesL_ (some 27) rfl rfl Try.func90 (by kernel_rfl) rfl #[.pointer (some ⟨g, 0, none⟩), .int .i64 (wrap64 ((y146.length : Int) - 1))] rfl Sqz.auM ?_; (with_reducible refine (spec_l6Rd_pick.calls k g s0_0 s0_1 (wrap64 ((y146.length : Int) - 1)) t149 t150 w0 _ ?side1 ?side2 A9.out).mono ?_); (case side1 => repeat (first | (with_reducible first | exact HI0.out | apply IsS74.alloc | apply IsS74.drewN | apply IsS74.drew | apply IsS74.set_1) | exact HI0.out)); (case side2 => repeat (first | (with_reducible first | exact HB.out | apply below_alloc | apply pw_below_drewN | apply below_drew1 | refine below_set ?_ (IsS74.ge HI0.out)) | exact HB.out)); rintro e w22 ⟨rfl, hi, hb, hk⟩; refine ⟨_, rfl, ?_⟩; have n0_ := Aside0.mk (Kd.R_mono (Kd.R_keep (IsS74.apart (show IsS74 w0 _ g s0_0 s0_1 from by repeat (first | (with_reducible first | exact HI0.out | apply IsS74.alloc | apply IsS74.drewN | apply IsS74.drew | apply IsS74.set_1) | exact HI0.out)) ((Sqz.mvR HO148.out)) (by decide)) hk (fun _ h => h.2)) (fun _ h => h.1)); have n1_ := Aside0.mk (KeepBut.trans (by repeat (first | (with_reducible first | exact HK.out | apply KeepBut.set_ | apply keep_drewN | apply keep_drew | apply keep_alloc) | exact HK.out)) hk (.inl rfl)); have n2_ := Aside0.mk (hb); have n3_ := Aside0.mk (hi); clear HO148; clear HK; clear HB; clear HI0; have HO148 := n0_; have HK := n1_; have HB := n2_; have HI0 := n3_; clear n0_ n1_ n2_ n3_; (try clear hb); (try clear hb2); (try clear hk); (try clear hi); have p151 : 0 ≤ (t149 : Int) := of_decide_eq_true (by first | (with_reducible assumption) | assumption); have q151 : t149 < (y146.length : Int) := of_decide_eq_true (by first | (with_reducible assumption) | assumption); obtain ⟨ad151, e151, hx151_0⟩ := Kd.at_int (Kd.R_reads' HO148.out).2.2 t149 p151 q151; cases e151; replace p151 := eq_true p151; replace q151 := eq_true q151; have p152 : 0 ≤ ((ji12) : Int) := of_decide_eq_true (by first | (with_reducible assumption) | assumption); have q152 : (ji12) < (y146.length : Int) := of_decide_eq_true (by first | (with_reducible assumption) | assumption); obtain ⟨ad152, e152, hx152_0⟩ := Kd.at_int (Kd.R_reads' HO148.out).2.2 (ji12) p152 q152; obtain rfl : ad151 = ad152 := (by injection e152); replace p152 := eq_true p152; replace q152 := eq_true q152) | ((with_reducible refine gate_callee (f := 90) rfl ?_); refine goesL_ (some 38) rfl rfl Try.func90 (by kernel_rfl) rfl #[.pointer (some ⟨g, 0, none⟩), .int .i64 2] rfl Sqz.auM ?_; (with_reducible refine (spec_l6Rd_pick.calls k g s0_0 t150 2 t153 t154 w0 _ ?side1 ?side2 A15.out).mono ?_); (case side1 => repeat (first | (with_reducible first | exact HI0.out | apply IsS74.alloc | apply IsS74.drewN | apply IsS74.drew | apply IsS74.set_1) | exact HI0.out)); (case side2 => repeat (first | (with_reducible first | exact HB.out | apply below_alloc | apply pw_below_drewN | apply below_drew1 | refine below_set ?_ (IsS74.ge HI0.out)) | exact HB.out)); rintro e w23 ⟨rfl, hi, hb, hk⟩; refine ⟨_, rfl, ?_⟩; have n0_ := Aside0.mk (Kd.R_mono (Kd.R_keep (IsS74.apart (show IsS74 w0 _ g s0_0 t150 from by repeat (first | (with_reducible first | exact HI0.out | apply IsS74.alloc | apply IsS74.drewN | apply IsS74.drew | apply IsS74.set_1) | exact HI0.out)) ((Sqz.mvR HO148.out)) (by decide)) hk (fun _ h => h.2)) (fun _ h => h.1)); have n1_ := Aside0.mk (KeepBut.trans (by repeat (first | (with_reducible first | exact HK.out | apply KeepBut.set_ | apply keep_drewN | apply keep_drew | apply keep_alloc) | exact HK.out)) hk (.inl rfl)); have n2_ := Aside0.mk (hb); have n3_ := Aside0.mk (hi); clear HO148; clear HK; clear HB; clear HI0; have HO148 := n0_; have HK := n1_; have HB := n2_; have HI0 := n3_; clear n0_ n1_ n2_ n3_; (try clear hb); (try clear hb2); (try clear hk); (try clear hi)) | ((with_reducible refine gate_callee (f := 90) rfl ?_); refine goesL_ (some 40) rfl rfl Try.func90 (by kernel_rfl) rfl #[.pointer (some ⟨g, 0, none⟩), .int .i64 2] rfl Sqz.auM ?_; (with_reducible refine (spec_l6Rd_pick.calls k g s0_0 t154 2 t155 t156 w0 _ ?side1 ?side2 A16.out).mono ?_); (case side1 => repeat (first | (with_reducible first | exact HI0.out | apply IsS74.alloc | apply IsS74.drewN | apply IsS74.drew | apply IsS74.set_1) | exact HI0.out)); (case side2 => repeat (first | (with_reducible first | exact HB.out | apply below_alloc | apply pw_below_drewN | apply below_drew1 | refine below_set ?_ (IsS74.ge HI0.out)) | exact HB.out)); rintro e w24 ⟨rfl, hi, hb, hk⟩; refine ⟨_, rfl, ?_⟩; have n0_ := Aside0.mk (Kd.R_mono (Kd.R_keep (IsS74.apart (show IsS74 w0 _ g s0_0 t154 from by repeat (first | (with_reducible first | exact HI0.out | apply IsS74.alloc | apply IsS74.drewN | apply IsS74.drew | apply IsS74.set_1) | exact HI0.out)) ((Sqz.mvR HO148.out)) (by decide)) hk (fun _ h => h.2)) (fun _ h => h.1)); have n1_ := Aside0.mk (KeepBut.trans (by repeat (first | (with_reducible first | exact HK.out | apply KeepBut.set_ | apply keep_drewN | apply keep_drew | apply keep_alloc) | exact HK.out)) hk (.inl rfl)); have n2_ := Aside0.mk (hb); have n3_ := Aside0.mk (hi); clear HO148; clear HK; clear HB; clear HI0; have HO148 := n0_; have HK := n1_; have HB := n2_; have HI0 := n3_; clear n0_ n1_ n2_ n3_; (try clear hb); (try clear hb2); (try clear hk); (try clear hi)))
              (try simp only [Act.put, List.setIfInBounds_toArray, List.set_cons_zero, List.set_cons_succ])
              go_cut [59] (fun v59 wc => ∃ (kq : Nat) (x59_16 : Bool) (x1001_16 : Int), v59 = .bool x59_16 ∧ Aside0 (spec_l91Same.j0 kq y146 t149 (rd y146 t149) (rd y146 (ji12)) (wrap64 ((wrap64 ((wrap64 ((rd y146 t149) * t153)) * t153)) + (wrap64 ((wrap64 ((rd y146 (ji12)) * (wrap64 (1 + t155)))) * (wrap64 (1 + t155)))))) x59_16 s0_0 x1001_16 = some (r1, r2)) ∧ Aside0 (kq ≤ k) ∧ Aside0 (Kd.R (Kd.int .i64) 3 wc w.heap.size (fun _ => True) (.slice (some ad151) y146.length co21) y146) ∧ Aside0 (IsS74 w0 wc g s0_0 x1001_16) ∧ Aside0 (KeepBut w wc g none) ∧ Aside0 (Below w0.heap.size w0 wc))
              case first =>
                have H := HC17.out
                clear HC17
                by_cases c25 : (wrap64 ((wrap64 ((wrap64 ((rd y146 t149) * t153)) * t153)) + (wrap64 ((wrap64 ((rd y146 (ji12)) * (wrap64 (1 + t155)))) * (wrap64 (1 + t155)))))) = 0
                · rw [if_pos c25] at H
                  have c25b0 : ((wrap64 ((wrap64 ((wrap64 ((rd y146 t149) * t153)) * t153)) + (wrap64 ((wrap64 ((rd y146 (ji12)) * (wrap64 (1 + t155)))) * (wrap64 (1 + t155)))))) == 0) = true := beq_iff_eq.mpr c25
                  have c25b1 : ((wrap64 ((wrap64 ((wrap64 ((rd y146 t149) * t153)) * t153)) + (wrap64 ((wrap64 ((rd y146 (ji12)) * (wrap64 (1 + t155)))) * (wrap64 (1 + t155)))))) != 0) = false := bne_eq_false_iff_eq.mpr c25
                  clear c25
                  (first | rw [c25b0] | (simp only [i64_w, i32_w]; rw [c25b0]) | skip)
                  have H' := Aside0.mk H
                  clear H
                  go_wp2
                  go_meet
                  case rel => exact ⟨_, (false), (t156), Sqz.auS, H', ⟨Sqz.auN⟩, ⟨(Sqz.mvR HO148.out)⟩, ⟨by repeat (first | (with_reducible first | exact HI0.out | apply IsS74.alloc | apply IsS74.drewN | apply IsS74.drew | apply IsS74.set_1) | exact HI0.out)⟩, ⟨by repeat (first | (with_reducible first | exact HK.out | apply KeepBut.set_ | apply keep_drewN | apply keep_drew | apply keep_alloc) | exact HK.out)⟩, ⟨by repeat (first | (with_reducible first | exact HB.out | apply below_alloc | apply pw_below_drewN | apply below_drew1 | refine below_set ?_ (IsS74.ge HI0.out)) | exact HB.out)⟩⟩
                · rw [if_neg c25] at H
                  have c25b0 : ((wrap64 ((wrap64 ((wrap64 ((rd y146 t149) * t153)) * t153)) + (wrap64 ((wrap64 ((rd y146 (ji12)) * (wrap64 (1 + t155)))) * (wrap64 (1 + t155)))))) == 0) = false := beq_eq_false_iff_ne.mpr c25
                  have c25b1 : ((wrap64 ((wrap64 ((wrap64 ((rd y146 t149) * t153)) * t153)) + (wrap64 ((wrap64 ((rd y146 (ji12)) * (wrap64 (1 + t155)))) * (wrap64 (1 + t155)))))) != 0) = true := bne_iff_ne.mpr c25
                  (first | rw [c25b0] | (simp only [i64_w, i32_w]; rw [c25b0]) | skip)
                  replace H := Option.bind_eq_some_iff.mp H
                  obtain ⟨⟨t157, t158⟩, A260, H⟩ := H
                  replace H : (spec_l91Same.j0 k y146 t149 (rd y146 t149) (rd y146 (ji12)) (wrap64 ((wrap64 ((wrap64 ((rd y146 t149) * t153)) * t153)) + (wrap64 ((wrap64 ((rd y146 (ji12)) * (wrap64 (1 + t155)))) * (wrap64 (1 + t155)))))) (decide (t157 > 0)) s0_0 t158) = some (r1, r2) := H
                  have A26 := Aside0.mk A260
                  clear A260
                  have H' := Aside0.mk H
                  clear H
                  go_wp2_with (first | (go_at_call 90; (with_reducible refine (spec_l6Rd_pick.calls k g s0_0 t156 3 t157 t158 w0 _ ?side1 ?side2 A26.out).mono ?_); (case side1 => repeat (first | (with_reducible first | exact HI0.out | apply IsS74.alloc | apply IsS74.drewN | apply IsS74.drew | apply IsS74.set_1) | exact HI0.out)); (case side2 => repeat (first | (with_reducible first | exact HB.out | apply below_alloc | apply pw_below_drewN | apply below_drew1 | refine below_set ?_ (IsS74.ge HI0.out)) | exact HB.out)); rintro e w27 ⟨rfl, hi, hb, hk⟩; have n0_ := Aside0.mk (Kd.R_mono (Kd.R_keep (IsS74.apart (show IsS74 w0 _ g s0_0 t156 from by repeat (first | (with_reducible first | exact HI0.out | apply IsS74.alloc | apply IsS74.drewN | apply IsS74.drew | apply IsS74.set_1) | exact HI0.out)) ((Sqz.mvR HO148.out)) (by decide)) hk (fun _ h => h.2)) (fun _ h => h.1)); have n1_ := Aside0.mk (KeepBut.trans (by repeat (first | (with_reducible first | exact HK.out | apply KeepBut.set_ | apply keep_drewN | apply keep_drew | apply keep_alloc) | exact HK.out)) hk (.inl rfl)); have n2_ := Aside0.mk (hb); have n3_ := Aside0.mk (hi); clear HO148; clear HK; clear HB; clear HI0; have HO148 := n0_; have HK := n1_; have HB := n2_; have HI0 := n3_; clear n0_ n1_ n2_ n3_; (try clear hb); (try clear hb2); (try clear hk); (try clear hi)))
                  go_meet
                  case rel => exact ⟨_, (decide (t157 > 0)), (t158), Sqz.auS, H', ⟨Sqz.auN⟩, ⟨(Sqz.mvR HO148.out)⟩, ⟨by repeat (first | (with_reducible first | exact HI0.out | apply IsS74.alloc | apply IsS74.drewN | apply IsS74.drew | apply IsS74.set_1) | exact HI0.out)⟩, ⟨by repeat (first | (with_reducible first | exact HK.out | apply KeepBut.set_ | apply keep_drewN | apply keep_drew | apply keep_alloc) | exact HK.out)⟩, ⟨by repeat (first | (with_reducible first | exact HB.out | apply below_alloc | apply pw_below_drewN | apply below_drew1 | refine below_set ?_ (IsS74.ge HI0.out)) | exact HB.out)⟩⟩
              case rest =>
                clear HC17
                try clear c1
                try clear p1
                try clear q1
                try clear hx1
                try clear c2
                try clear p2
                try clear c3
                try clear c4
                try clear c4b0
                try clear c4b1
                try clear p6
                try clear c9
                try clear c10
                try clear c10b0
                try clear c11
                try clear c11b0
                try clear c13
                try clear c13b0
                try clear c14
                try clear c14b0
                try clear p15
                try clear q15
                try clear hx15
                try clear c25
                try clear c25b0
                try clear c25b1
                try clear hx151_0
                try clear hx152_0
                try clear p151
                try clear p152
                try clear q151
                try clear q152
                obtain ⟨kq, x59_16, x1001_16, rfl, HA, HJ16, HO_5, HI0, HK, HB⟩ := hcut
                cases kq with
                | zero => exact absurd HA.out (by simp [spec_l91Same.j0])
                | succ kj16 =>
                  have H := HA.out
                  clear HA
                  simp only [spec_l91Same.j0] at H
                  by_cases c28 : x59_16 = true
                  · subst c28
                    have H1 : ((spec_l1Core.f kj16 (wrap64 ((wrap64 ((wrap64 ((rd y146 t149) * t153)) * t153)) + (wrap64 ((wrap64 ((rd y146 (ji12)) * (wrap64 (1 + t155)))) * (wrap64 (1 + t155))))))).bind fun bt159 => ((spec_l1Core.f kj16 (wrap64 ((wrap64 ((rd y146 t149) * (rd y146 (ji12)))) * (wrap64 ((wrap64 ((wrap64 ((rd y146 t149) * t153)) * t153)) + (wrap64 ((wrap64 ((rd y146 (ji12)) * (wrap64 (1 + t155)))) * (wrap64 (1 + t155))))))))).bind fun bt161 => ((spec_l1Size.f bt159.1).bind fun t163 => (if t163 ≤ 30 then ((spec_l1Size.f bt161.1).bind fun t164 => (if t164 ≤ 30 then (if 0 ≤ t149 then (if t149 < (y146.length : Int) then (if 0 ≤ (wrap64 (t149 + 1)) then (if (wrap64 (t149 + 1)) < (y146.length : Int) then (some (((y146.set (t149 : Int).toNat bt159.1).set ((wrap64 (t149 + 1)) : Int).toNat bt161.1), x1001_16)) else (none)) else (none)) else (none)) else (none)) else (if 0 ≤ t149 then (if t149 < (y146.length : Int) then (if 0 ≤ (wrap64 (t149 + 1)) then (if (wrap64 (t149 + 1)) < (y146.length : Int) then (some (((y146.set (t149 : Int).toNat (rd y146 (ji12))).set ((wrap64 (t149 + 1)) : Int).toNat (rd y146 t149)), x1001_16)) else (none)) else (none)) else (none)) else (none)))) else (if 0 ≤ t149 then (if t149 < (y146.length : Int) then (if 0 ≤ (wrap64 (t149 + 1)) then (if (wrap64 (t149 + 1)) < (y146.length : Int) then (some (((y146.set (t149 : Int).toNat (rd y146 (ji12))).set ((wrap64 (t149 + 1)) : Int).toNat (rd y146 t149)), x1001_16)) else (none)) else (none)) else (none)) else (none)))))) = some (r1, r2) := by rw [if_pos rfl] at H; exact H
                    clear H
                    have H := H1
                    clear H1
                    replace H := Option.bind_eq_some_iff.mp H
                    obtain ⟨⟨t159, t160⟩, A290, H⟩ := H
                    replace H : ((spec_l1Core.f kj16 (wrap64 ((wrap64 ((rd y146 t149) * (rd y146 (ji12)))) * (wrap64 ((wrap64 ((wrap64 ((rd y146 t149) * t153)) * t153)) + (wrap64 ((wrap64 ((rd y146 (ji12)) * (wrap64 (1 + t155)))) * (wrap64 (1 + t155))))))))).bind fun bt161 => ((spec_l1Size.f t159).bind fun t163 => (if t163 ≤ 30 then ((spec_l1Size.f bt161.1).bind fun t164 => (if t164 ≤ 30 then (if 0 ≤ t149 then (if t149 < (y146.length : Int) then (if 0 ≤ (wrap64 (t149 + 1)) then (if (wrap64 (t149 + 1)) < (y146.length : Int) then (some (((y146.set (t149 : Int).toNat t159).set ((wrap64 (t149 + 1)) : Int).toNat bt161.1), x1001_16)) else (none)) else (none)) else (none)) else (none)) else (if 0 ≤ t149 then (if t149 < (y146.length : Int) then (if 0 ≤ (wrap64 (t149 + 1)) then (if (wrap64 (t149 + 1)) < (y146.length : Int) then (some (((y146.set (t149 : Int).toNat (rd y146 (ji12))).set ((wrap64 (t149 + 1)) : Int).toNat (rd y146 t149)), x1001_16)) else (none)) else (none)) else (none)) else (none)))) else (if 0 ≤ t149 then (if t149 < (y146.length : Int) then (if 0 ≤ (wrap64 (t149 + 1)) then (if (wrap64 (t149 + 1)) < (y146.length : Int) then (some (((y146.set (t149 : Int).toNat (rd y146 (ji12))).set ((wrap64 (t149 + 1)) : Int).toNat (rd y146 t149)), x1001_16)) else (none)) else (none)) else (none)) else (none))))) = some (r1, r2) := H
                    have A29 := Aside0.mk A290
                    clear A290
                    replace H := Option.bind_eq_some_iff.mp H
                    obtain ⟨⟨t161, t162⟩, A300, H⟩ := H
                    replace H : ((spec_l1Size.f t159).bind fun t163 => (if t163 ≤ 30 then ((spec_l1Size.f t161).bind fun t164 => (if t164 ≤ 30 then (if 0 ≤ t149 then (if t149 < (y146.length : Int) then (if 0 ≤ (wrap64 (t149 + 1)) then (if (wrap64 (t149 + 1)) < (y146.length : Int) then (some (((y146.set (t149 : Int).toNat t159).set ((wrap64 (t149 + 1)) : Int).toNat t161), x1001_16)) else (none)) else (none)) else (none)) else (none)) else (if 0 ≤ t149 then (if t149 < (y146.length : Int) then (if 0 ≤ (wrap64 (t149 + 1)) then (if (wrap64 (t149 + 1)) < (y146.length : Int) then (some (((y146.set (t149 : Int).toNat (rd y146 (ji12))).set ((wrap64 (t149 + 1)) : Int).toNat (rd y146 t149)), x1001_16)) else (none)) else (none)) else (none)) else (none)))) else (if 0 ≤ t149 then (if t149 < (y146.length : Int) then (if 0 ≤ (wrap64 (t149 + 1)) then (if (wrap64 (t149 + 1)) < (y146.length : Int) then (some (((y146.set (t149 : Int).toNat (rd y146 (ji12))).set ((wrap64 (t149 + 1)) : Int).toNat (rd y146 t149)), x1001_16)) else (none)) else (none)) else (none)) else (none)))) = some (r1, r2) := H
                    have A30 := Aside0.mk A300
                    clear A300
                    replace H := Option.bind_eq_some_iff.mp H
                    obtain ⟨t163, A310, H⟩ := H
                    replace H : (if t163 ≤ 30 then ((spec_l1Size.f t161).bind fun t164 => (if t164 ≤ 30 then (if 0 ≤ t149 then (if t149 < (y146.length : Int) then (if 0 ≤ (wrap64 (t149 + 1)) then (if (wrap64 (t149 + 1)) < (y146.length : Int) then (some (((y146.set (t149 : Int).toNat t159).set ((wrap64 (t149 + 1)) : Int).toNat t161), x1001_16)) else (none)) else (none)) else (none)) else (none)) else (if 0 ≤ t149 then (if t149 < (y146.length : Int) then (if 0 ≤ (wrap64 (t149 + 1)) then (if (wrap64 (t149 + 1)) < (y146.length : Int) then (some (((y146.set (t149 : Int).toNat (rd y146 (ji12))).set ((wrap64 (t149 + 1)) : Int).toNat (rd y146 t149)), x1001_16)) else (none)) else (none)) else (none)) else (none)))) else (if 0 ≤ t149 then (if t149 < (y146.length : Int) then (if 0 ≤ (wrap64 (t149 + 1)) then (if (wrap64 (t149 + 1)) < (y146.length : Int) then (some (((y146.set (t149 : Int).toNat (rd y146 (ji12))).set ((wrap64 (t149 + 1)) : Int).toNat (rd y146 t149)), x1001_16)) else (none)) else (none)) else (none)) else (none))) = some (r1, r2) := H
                    have A31 := Aside0.mk A310
                    clear A310
                    by_cases c32 : t163 ≤ 30
                    · rw [if_pos c32] at H
                      have c32b0 : decide (t163 ≤ 30) = true := decide_eq_true c32
                      clear c32
                      replace H := Option.bind_eq_some_iff.mp H
                      obtain ⟨t164, A330, H⟩ := H
                      replace H : (if t164 ≤ 30 then (if 0 ≤ t149 then (if t149 < (y146.length : Int) then (if 0 ≤ (wrap64 (t149 + 1)) then (if (wrap64 (t149 + 1)) < (y146.length : Int) then (some (((y146.set (t149 : Int).toNat t159).set ((wrap64 (t149 + 1)) : Int).toNat t161), x1001_16)) else (none)) else (none)) else (none)) else (none)) else (if 0 ≤ t149 then (if t149 < (y146.length : Int) then (if 0 ≤ (wrap64 (t149 + 1)) then (if (wrap64 (t149 + 1)) < (y146.length : Int) then (some (((y146.set (t149 : Int).toNat (rd y146 (ji12))).set ((wrap64 (t149 + 1)) : Int).toNat (rd y146 t149)), x1001_16)) else (none)) else (none)) else (none)) else (none))) = some (r1, r2) := H
                      have A33 := Aside0.mk A330
                      clear A330
                      by_cases c34 : t164 ≤ 30
                      · rw [if_pos c34] at H
                        have c34b0 : decide (t164 ≤ 30) = true := decide_eq_true c34
                        clear c34
                        by_cases c35 : 0 ≤ t149
                        · rw [if_pos c35] at H
                          have c35b0 : decide (0 ≤ t149) = true := decide_eq_true c35
                          clear c35
                          by_cases c36 : t149 < (y146.length : Int)
                          · rw [if_pos c36] at H
                            have c36b0 : decide (t149 < (y146.length : Int)) = true := decide_eq_true c36
                            clear c36
                            obtain ⟨y165, hy165⟩ : ∃ y_ : List Int, y_ = (y146.set (t149 : Int).toNat t159) := ⟨_, rfl⟩
                            replace H : (if 0 ≤ (wrap64 (t149 + 1)) then (if (wrap64 (t149 + 1)) < (y146.length : Int) then (some ((y165.set ((wrap64 (t149 + 1)) : Int).toNat t161), x1001_16)) else (none)) else (none)) = some (r1, r2) := by first | (rw [hy165]; with_reducible exact H) | (have H2_ := (Option.bind_some _ _).symm.trans H; rw [hy165]; with_reducible exact H2_) | (have H2_ := (Option.bind_some _ _).symm.trans H; with_reducible exact H2_) | with_reducible exact H | (rw [hy165]; exact H) | exact H
                            have Ny165 := Aside0.mk hy165
                            clear hy165
                            have hji38 := hji12
                            replace H : (if 0 ≤ (ji12) then (if (ji12) < (y146.length : Int) then (some ((y165.set ((ji12) : Int).toNat t161), x1001_16)) else (none)) else (none)) = some (r1, r2) := by first | (rw [hji38] at H; exact H) | (simp only [hji38] at H ⊢; exact H)
                            (try rw [hji38] at A29)
                            (try rw [hji38] at A30)
                            (try rw [hji38] at A31)
                            (try rw [hji38] at A33)
                            have hji38w : (IntKind.i64.wrap (t149 + 1)) = ji12 := (i64_w _).trans hji38
                            by_cases c39 : 0 ≤ (ji12)
                            · rw [if_pos c39] at H
                              have c39b0 : decide (0 ≤ (ji12)) = true := decide_eq_true c39
                              clear c39
                              by_cases c40 : (ji12) < (y146.length : Int)
                              · rw [if_pos c40] at H
                                have c40b0 : decide ((ji12) < (y146.length : Int)) = true := decide_eq_true c40
                                clear c40
                                obtain ⟨y166, hy166⟩ : ∃ y_ : List Int, y_ = (y165.set ((ji12) : Int).toNat t161) := ⟨_, rfl⟩
                                replace H : (some (y166, x1001_16)) = some (r1, r2) := by first | (rw [hy166]; with_reducible exact H) | (have H2_ := (Option.bind_some _ _).symm.trans H; rw [hy166]; with_reducible exact H2_) | (have H2_ := (Option.bind_some _ _).symm.trans H; with_reducible exact H2_) | with_reducible exact H | (rw [hy166]; exact H) | exact H
                                have Ny166 := Aside0.mk hy166
                                clear hy166
                                simp only [Option.some.injEq, Prod.mk.injEq] at H
                                obtain ⟨rfl, rfl⟩ := H
                                go_wp2_with (first | ((with_reducible refine gate_callee (f := 143) rfl ?_); refine goesL_ (some 62) rfl rfl Try.func143 (by kernel_rfl) rfl #[.int .i64 (wrap64 ((wrap64 ((wrap64 ((rd y146 t149) * t153)) * t153)) + (wrap64 ((wrap64 ((rd y146 (ji12)) * (wrap64 (1 + t155)))) * (wrap64 (1 + t155))))))] rfl (by (try simp only [List.map_toArray, List.map_cons, List.map_nil]); first | done | (simp only [hji12]; rfl) | rfl | (simp only [List.length_drop, List.length_take]; rfl)) ?_; (with_reducible refine (spec_l1Core.calls kj16 (wrap64 ((wrap64 ((wrap64 ((rd y146 t149) * t153)) * t153)) + (wrap64 ((wrap64 ((rd y146 (ji12)) * (wrap64 (1 + t155)))) * (wrap64 (1 + t155)))))) t159 t160 _ A29.out).mono ?_); rintro e w42 ⟨rfl, hb⟩; refine ⟨_, rfl, ?_⟩; have n0_ := Aside0.mk (Kd.R_below ((Sqz.mvR HO_5.out)) hb); have n1_ := Aside0.mk (IsS74.below (by repeat (first | (with_reducible first | exact HI0.out | apply IsS74.alloc | apply IsS74.drewN | apply IsS74.drew | apply IsS74.set_1) | exact HI0.out)) hb); have n2_ := Aside0.mk (KeepBut.trans (by repeat (first | (with_reducible first | exact HK.out | apply KeepBut.set_ | apply keep_drewN | apply keep_drew | apply keep_alloc) | exact HK.out)) (KeepBut.of_below hb g none) (.inl rfl)); have n3_ := Aside0.mk (below_step (by repeat (first | (with_reducible first | exact HB.out | apply below_alloc | apply pw_below_drewN | apply below_drew1 | refine below_set ?_ (IsS74.ge HI0.out)) | exact HB.out)) hb); clear HO_5; clear HI0; clear HK; clear HB; have HO_5 := n0_; have HI0 := n1_; have HK := n2_; have HB := n3_; clear n0_ n1_ n2_ n3_; (try clear hb); (try clear hb2); (try clear hk); (try clear hi)) | ((with_reducible refine gate_callee (f := 143) rfl ?_); refine goesL_ (some 71) rfl rfl Try.func143 (by kernel_rfl) rfl #[.int .i64 (wrap64 ((wrap64 ((rd y146 t149) * (rd y146 (ji12)))) * (wrap64 ((wrap64 ((wrap64 ((rd y146 t149) * t153)) * t153)) + (wrap64 ((wrap64 ((rd y146 (ji12)) * (wrap64 (1 + t155)))) * (wrap64 (1 + t155))))))))] rfl (by (try simp only [List.map_toArray, List.map_cons, List.map_nil]); first | done | (simp only [hji12]; rfl) | rfl | (simp only [List.length_drop, List.length_take]; rfl)) ?_; (with_reducible refine (spec_l1Core.calls kj16 (wrap64 ((wrap64 ((rd y146 t149) * (rd y146 (ji12)))) * (wrap64 ((wrap64 ((wrap64 ((rd y146 t149) * t153)) * t153)) + (wrap64 ((wrap64 ((rd y146 (ji12)) * (wrap64 (1 + t155)))) * (wrap64 (1 + t155)))))))) t161 t162 _ A30.out).mono ?_); rintro e w43 ⟨rfl, hb⟩; refine ⟨_, rfl, ?_⟩; have n0_ := Aside0.mk (Kd.R_below ((Sqz.mvR HO_5.out)) hb); have n1_ := Aside0.mk (IsS74.below (by repeat (first | (with_reducible first | exact HI0.out | apply IsS74.alloc | apply IsS74.drewN | apply IsS74.drew | apply IsS74.set_1) | exact HI0.out)) hb); have n2_ := Aside0.mk (KeepBut.trans (by repeat (first | (with_reducible first | exact HK.out | apply KeepBut.set_ | apply keep_drewN | apply keep_drew | apply keep_alloc) | exact HK.out)) (KeepBut.of_below hb g none) (.inl rfl)); have n3_ := Aside0.mk (below_step (by repeat (first | (with_reducible first | exact HB.out | apply below_alloc | apply pw_below_drewN | apply below_drew1 | refine below_set ?_ (IsS74.ge HI0.out)) | exact HB.out)) hb); clear HO_5; clear HI0; clear HK; clear HB; have HO_5 := n0_; have HI0 := n1_; have HK := n2_; have HB := n3_; clear n0_ n1_ n2_ n3_; (try clear hb); (try clear hb2); (try clear hk); (try clear hi)) | ((with_reducible refine gate_callee (f := 144) rfl ?_); refine goesL_ (some 75) rfl rfl Try.func144 (by kernel_rfl) rfl #[.int .i64 t159] rfl Sqz.auM ?_; (with_reducible refine (spec_l1Size.calls t159 t163 _ A31.out).mono ?_); rintro e w44 ⟨rfl, hb⟩; refine ⟨_, rfl, ?_⟩; have n0_ := Aside0.mk (Kd.R_below ((Sqz.mvR HO_5.out)) hb); have n1_ := Aside0.mk (IsS74.below (by repeat (first | (with_reducible first | exact HI0.out | apply IsS74.alloc | apply IsS74.drewN | apply IsS74.drew | apply IsS74.set_1) | exact HI0.out)) hb); have n2_ := Aside0.mk (KeepBut.trans (by repeat (first | (with_reducible first | exact HK.out | apply KeepBut.set_ | apply keep_drewN | apply keep_drew | apply keep_alloc) | exact HK.out)) (KeepBut.of_below hb g none) (.inl rfl)); have n3_ := Aside0.mk (below_step (by repeat (first | (with_reducible first | exact HB.out | apply below_alloc | apply pw_below_drewN | apply below_drew1 | refine below_set ?_ (IsS74.ge HI0.out)) | exact HB.out)) hb); clear HO_5; clear HI0; clear HK; clear HB; have HO_5 := n0_; have HI0 := n1_; have HK := n2_; have HB := n3_; clear n0_ n1_ n2_ n3_; (try clear hb); (try clear hb2); (try clear hk); (try clear hi)) | (go_at_call 144; (with_reducible refine (spec_l1Size.calls t161 t164 _ A33.out).mono ?_); rintro e w45 ⟨rfl, hb⟩; have n0_ := Aside0.mk (Kd.R_below ((Sqz.mvR HO_5.out)) hb); have n1_ := Aside0.mk (IsS74.below (by repeat (first | (with_reducible first | exact HI0.out | apply IsS74.alloc | apply IsS74.drewN | apply IsS74.drew | apply IsS74.set_1) | exact HI0.out)) hb); have n2_ := Aside0.mk (KeepBut.trans (by repeat (first | (with_reducible first | exact HK.out | apply KeepBut.set_ | apply keep_drewN | apply keep_drew | apply keep_alloc) | exact HK.out)) (KeepBut.of_below hb g none) (.inl rfl)); have n3_ := Aside0.mk (below_step (by repeat (first | (with_reducible first | exact HB.out | apply below_alloc | apply pw_below_drewN | apply below_drew1 | refine below_set ?_ (IsS74.ge HI0.out)) | exact HB.out)) hb); clear HO_5; clear HI0; clear HK; clear HB; have HO_5 := n0_; have HI0 := n1_; have HK := n2_; have HB := n3_; clear n0_ n1_ n2_ n3_; (try clear hb); (try clear hb2); (try clear hk); (try clear hi); have p37 : 0 ≤ (t149 : Int) := of_decide_eq_true (by first | (with_reducible assumption) | assumption); have q37 : (t149 : Int) < ((y146.length : Int) : Int) := of_decide_eq_true (by first | (with_reducible assumption) | assumption); obtain ⟨go37, co37, eo37, gb37, gl37, cl37, HG37⟩ := Kd.R_form HO_5.out (by omega); (first | cases eo37 | (injection eo37 with ea_ en_ ec_; (first | subst ea_ | (injection ea_ with ea_; subst ea_)); subst ec_; clear en_)); have GB37 := Aside0.mk gb37; have GG37 := Aside0.mk HG37; clear gb37 gl37 HG37; (first | simp only [add_plain] at hx151_0 | skip); (first | simp only [add_plain] at hx152_0 | skip); obtain ⟨hx37_0, hf37_0⟩ := Kd.R_celln 0 HO_5.out (t149 : Int) p37 q37; replace p37 := eq_true p37; replace q37 := eq_true q37; obtain ⟨hy46_, hz46_⟩ := Kd.R_celln 0 HO_5.out (t149 : Int) (of_decide_eq_true (by first | (with_reducible assumption) | assumption)) (of_decide_eq_true (by first | (with_reducible assumption) | assumption)); have HP46 := Kd.R_putg HO_5.out (t149 : Int) t159) | ((with_reducible refine gate_store (t := 3) (p := 85) rfl ?_); refine store_event (t := 3) (p := 85) (v := ?vo_w47) (w1 := (w45.setCell ⟨go37, (t149 : Int).toNat, none⟩ (.int .i64 t159))) ?hg ?ho ?hn ?hr ?_; (case ho => rfl); (case hg => rfl); (case hn => rfl); (case hr => first | (go_simp; done) | (go_simp; rfl)); intro w47 hw; have hg : w45.grownBy w47 (some go37) := (by rw [hw]; exact HP46.2); have hp_ : Kd.R (Kd.int .i64) 3 w47 w.heap.size (fun _ => True) (.slice (some ⟨go37, 0, none⟩) y146.length co21) y165 := (by rw [hw, Ny165.out]; exact HP46.1); clear HP46; have n0_ := Aside0.mk (hp_); have n1_ := Aside0.mk (IsS74.grown (by repeat (first | (with_reducible first | exact HI0.out | apply IsS74.alloc | apply IsS74.drewN | apply IsS74.drew | apply IsS74.set_1) | exact HI0.out)) hg (IsS74.own_ne HI0.out HO_5.out (by decide))); have n2_ := Aside0.mk ((by rw [hw]; exact below_set (HB.out) (Nat.le_trans HL.out GB37.out) : Below w0.heap.size w0 w47)); have n3_ := Aside0.mk (KeepBut.trans (by repeat (first | (with_reducible first | exact HK.out | apply KeepBut.set_ | apply keep_drewN | apply keep_drew | apply keep_alloc) | exact HK.out)) (KeepBut.of_grown hg g) (Kd.R_base2 HO_5.out)); clear HO_5; clear HI0; clear HB; clear HK; have HO_5 := n0_; have HI0 := n1_; have HB := n2_; have HK := n3_; clear n0_ n1_ n2_ n3_; clear hg hw hp_; have p41 : 0 ≤ ((ji12) : Int) := of_decide_eq_true (by first | (with_reducible assumption) | assumption); have q41 : ((ji12) : Int) < ((y146.length : Int) : Int) := of_decide_eq_true (by first | (with_reducible assumption) | assumption); obtain ⟨hx41_0, hf41_0⟩ := Kd.R_celln 0 HO_5.out ((ji12) : Int) p41 q41; replace p41 := eq_true p41; replace q41 := eq_true q41; obtain ⟨hy48_, hz48_⟩ := Kd.R_celln 0 HO_5.out ((ji12) : Int) (of_decide_eq_true (by first | (with_reducible assumption) | assumption)) (of_decide_eq_true (by first | (with_reducible assumption) | assumption)); have HP48 := Kd.R_putg HO_5.out ((ji12) : Int) t161) | ((with_reducible refine gate_store (t := 3) (p := 90) rfl ?_); refine store_event (t := 3) (p := 90) (v := ?vo_w49) (w1 := (w47.setCell ⟨go37, ((ji12) : Int).toNat, none⟩ (.int .i64 t161))) ?hg ?ho ?hn ?hr ?_; (case ho => rfl); (case hg => rfl); (case hn => rfl); (case hr => first | (go_simp; done) | (go_simp; rfl)); intro w49 hw; have hg : w47.grownBy w49 (some go37) := (by rw [hw]; exact HP48.2); have hp_ : Kd.R (Kd.int .i64) 3 w49 w.heap.size (fun _ => True) (.slice (some ⟨go37, 0, none⟩) y146.length co21) y166 := (by rw [hw, Ny166.out]; exact HP48.1); clear HP48; have n0_ := Aside0.mk (hp_); have n1_ := Aside0.mk (IsS74.grown (by repeat (first | (with_reducible first | exact HI0.out | apply IsS74.alloc | apply IsS74.drewN | apply IsS74.drew | apply IsS74.set_1) | exact HI0.out)) hg (IsS74.own_ne HI0.out HO_5.out (by decide))); have n2_ := Aside0.mk ((by rw [hw]; exact below_set (HB.out) (Nat.le_trans HL.out GB37.out) : Below w0.heap.size w0 w49)); have n3_ := Aside0.mk (KeepBut.trans (by repeat (first | (with_reducible first | exact HK.out | apply KeepBut.set_ | apply keep_drewN | apply keep_drew | apply keep_alloc) | exact HK.out)) (KeepBut.of_grown hg g) (Kd.R_base2 HO_5.out)); clear HO_5; clear HI0; clear HB; clear HK; have HO_5 := n0_; have HI0 := n1_; have HB := n2_; have HK := n3_; clear n0_ n1_ n2_ n3_; clear hg hw hp_))
                                go_ret
                                exact ⟨_, by first | rfl | (simp [errW_none, errW_some] <;> rfl) | (simp only [← hji12, ← hji38]; first | rfl | (simp [errW_none, errW_some] <;> rfl)) | (simp [*, errW_none, errW_some] <;> rfl), (Sqz.mvR HO_5.out), by repeat (first | (with_reducible first | exact HI0.out | apply IsS74.alloc | apply IsS74.drewN | apply IsS74.drew | apply IsS74.set_1) | exact HI0.out), by repeat (first | (with_reducible first | exact HB.out | apply below_alloc | apply pw_below_drewN | apply below_drew1 | refine below_set ?_ (IsS74.ge HI0.out)) | exact HB.out), by repeat (first | (with_reducible first | exact HK.out | apply KeepBut.set_ | apply keep_drewN | apply keep_drew | apply keep_alloc) | exact HK.out)⟩
                              · rw [if_neg c40] at H
                                exact absurd H (by simp)
                            · rw [if_neg c39] at H
                              exact absurd H (by simp)
                          · rw [if_neg c36] at H
                            exact absurd H (by simp)
                        · rw [if_neg c35] at H
                          exact absurd H (by simp)
                      · rw [if_neg c34] at H
                        have c34b0 : decide (t164 ≤ 30) = false := decide_eq_false c34
                        clear c34
                        by_cases c50 : 0 ≤ t149
                        · rw [if_pos c50] at H
                          have c50b0 : decide (0 ≤ t149) = true := decide_eq_true c50
                          clear c50
                          by_cases c51 : t149 < (y146.length : Int)
                          · rw [if_pos c51] at H
                            have c51b0 : decide (t149 < (y146.length : Int)) = true := decide_eq_true c51
                            clear c51
                            obtain ⟨y167, hy167⟩ : ∃ y_ : List Int, y_ = (y146.set (t149 : Int).toNat (rd y146 (ji12))) := ⟨_, rfl⟩
                            replace H : (if 0 ≤ (wrap64 (t149 + 1)) then (if (wrap64 (t149 + 1)) < (y146.length : Int) then (some ((y167.set ((wrap64 (t149 + 1)) : Int).toNat (rd y146 t149)), x1001_16)) else (none)) else (none)) = some (r1, r2) := by first | (rw [hy167]; with_reducible exact H) | (have H2_ := (Option.bind_some _ _).symm.trans H; rw [hy167]; with_reducible exact H2_) | (have H2_ := (Option.bind_some _ _).symm.trans H; with_reducible exact H2_) | with_reducible exact H | (rw [hy167]; exact H) | exact H
                            have Ny167 := Aside0.mk hy167
                            clear hy167
                            have hji53 := hji12
                            replace H : (if 0 ≤ (ji12) then (if (ji12) < (y146.length : Int) then (some ((y167.set ((ji12) : Int).toNat (rd y146 t149)), x1001_16)) else (none)) else (none)) = some (r1, r2) := by first | (rw [hji53] at H; exact H) | (simp only [hji53] at H ⊢; exact H)
                            (try rw [hji53] at A29)
                            (try rw [hji53] at A30)
                            (try rw [hji53] at A31)
                            (try rw [hji53] at A33)
                            have hji53w : (IntKind.i64.wrap (t149 + 1)) = ji12 := (i64_w _).trans hji53
                            by_cases c54 : 0 ≤ (ji12)
                            · rw [if_pos c54] at H
                              have c54b0 : decide (0 ≤ (ji12)) = true := decide_eq_true c54
                              clear c54
                              by_cases c55 : (ji12) < (y146.length : Int)
                              · rw [if_pos c55] at H
                                have c55b0 : decide ((ji12) < (y146.length : Int)) = true := decide_eq_true c55
                                clear c55
                                obtain ⟨y168, hy168⟩ : ∃ y_ : List Int, y_ = (y167.set ((ji12) : Int).toNat (rd y146 t149)) := ⟨_, rfl⟩
                                replace H : (some (y168, x1001_16)) = some (r1, r2) := by first | (rw [hy168]; with_reducible exact H) | (have H2_ := (Option.bind_some _ _).symm.trans H; rw [hy168]; with_reducible exact H2_) | (have H2_ := (Option.bind_some _ _).symm.trans H; with_reducible exact H2_) | with_reducible exact H | (rw [hy168]; exact H) | exact H
                                have Ny168 := Aside0.mk hy168
                                clear hy168
                                simp only [Option.some.injEq, Prod.mk.injEq] at H
                                obtain ⟨rfl, rfl⟩ := H
                                go_wp2_with (first | ((with_reducible refine gate_callee (f := 143) rfl ?_); refine goesL_ (some 62) rfl rfl Try.func143 (by kernel_rfl) rfl #[.int .i64 (wrap64 ((wrap64 ((wrap64 ((rd y146 t149) * t153)) * t153)) + (wrap64 ((wrap64 ((rd y146 (ji12)) * (wrap64 (1 + t155)))) * (wrap64 (1 + t155))))))] rfl (by (try simp only [List.map_toArray, List.map_cons, List.map_nil]); first | done | (simp only [hji12]; rfl) | rfl | (simp only [List.length_drop, List.length_take]; rfl)) ?_; (with_reducible refine (spec_l1Core.calls kj16 (wrap64 ((wrap64 ((wrap64 ((rd y146 t149) * t153)) * t153)) + (wrap64 ((wrap64 ((rd y146 (ji12)) * (wrap64 (1 + t155)))) * (wrap64 (1 + t155)))))) t159 t160 _ A29.out).mono ?_); rintro e w57 ⟨rfl, hb⟩; refine ⟨_, rfl, ?_⟩; have n0_ := Aside0.mk (Kd.R_below ((Sqz.mvR HO_5.out)) hb); have n1_ := Aside0.mk (IsS74.below (by repeat (first | (with_reducible first | exact HI0.out | apply IsS74.alloc | apply IsS74.drewN | apply IsS74.drew | apply IsS74.set_1) | exact HI0.out)) hb); have n2_ := Aside0.mk (KeepBut.trans (by repeat (first | (with_reducible first | exact HK.out | apply KeepBut.set_ | apply keep_drewN | apply keep_drew | apply keep_alloc) | exact HK.out)) (KeepBut.of_below hb g none) (.inl rfl)); have n3_ := Aside0.mk (below_step (by repeat (first | (with_reducible first | exact HB.out | apply below_alloc | apply pw_below_drewN | apply below_drew1 | refine below_set ?_ (IsS74.ge HI0.out)) | exact HB.out)) hb); clear HO_5; clear HI0; clear HK; clear HB; have HO_5 := n0_; have HI0 := n1_; have HK := n2_; have HB := n3_; clear n0_ n1_ n2_ n3_; (try clear hb); (try clear hb2); (try clear hk); (try clear hi)) | ((with_reducible refine gate_callee (f := 143) rfl ?_); refine goesL_ (some 71) rfl rfl Try.func143 (by kernel_rfl) rfl #[.int .i64 (wrap64 ((wrap64 ((rd y146 t149) * (rd y146 (ji12)))) * (wrap64 ((wrap64 ((wrap64 ((rd y146 t149) * t153)) * t153)) + (wrap64 ((wrap64 ((rd y146 (ji12)) * (wrap64 (1 + t155)))) * (wrap64 (1 + t155))))))))] rfl (by (try simp only [List.map_toArray, List.map_cons, List.map_nil]); first | done | (simp only [hji12]; rfl) | rfl | (simp only [List.length_drop, List.length_take]; rfl)) ?_; (with_reducible refine (spec_l1Core.calls kj16 (wrap64 ((wrap64 ((rd y146 t149) * (rd y146 (ji12)))) * (wrap64 ((wrap64 ((wrap64 ((rd y146 t149) * t153)) * t153)) + (wrap64 ((wrap64 ((rd y146 (ji12)) * (wrap64 (1 + t155)))) * (wrap64 (1 + t155)))))))) t161 t162 _ A30.out).mono ?_); rintro e w58 ⟨rfl, hb⟩; refine ⟨_, rfl, ?_⟩; have n0_ := Aside0.mk (Kd.R_below ((Sqz.mvR HO_5.out)) hb); have n1_ := Aside0.mk (IsS74.below (by repeat (first | (with_reducible first | exact HI0.out | apply IsS74.alloc | apply IsS74.drewN | apply IsS74.drew | apply IsS74.set_1) | exact HI0.out)) hb); have n2_ := Aside0.mk (KeepBut.trans (by repeat (first | (with_reducible first | exact HK.out | apply KeepBut.set_ | apply keep_drewN | apply keep_drew | apply keep_alloc) | exact HK.out)) (KeepBut.of_below hb g none) (.inl rfl)); have n3_ := Aside0.mk (below_step (by repeat (first | (with_reducible first | exact HB.out | apply below_alloc | apply pw_below_drewN | apply below_drew1 | refine below_set ?_ (IsS74.ge HI0.out)) | exact HB.out)) hb); clear HO_5; clear HI0; clear HK; clear HB; have HO_5 := n0_; have HI0 := n1_; have HK := n2_; have HB := n3_; clear n0_ n1_ n2_ n3_; (try clear hb); (try clear hb2); (try clear hk); (try clear hi)) | ((with_reducible refine gate_callee (f := 144) rfl ?_); refine goesL_ (some 75) rfl rfl Try.func144 (by kernel_rfl) rfl #[.int .i64 t159] rfl Sqz.auM ?_; (with_reducible refine (spec_l1Size.calls t159 t163 _ A31.out).mono ?_); rintro e w59 ⟨rfl, hb⟩; refine ⟨_, rfl, ?_⟩; have n0_ := Aside0.mk (Kd.R_below ((Sqz.mvR HO_5.out)) hb); have n1_ := Aside0.mk (IsS74.below (by repeat (first | (with_reducible first | exact HI0.out | apply IsS74.alloc | apply IsS74.drewN | apply IsS74.drew | apply IsS74.set_1) | exact HI0.out)) hb); have n2_ := Aside0.mk (KeepBut.trans (by repeat (first | (with_reducible first | exact HK.out | apply KeepBut.set_ | apply keep_drewN | apply keep_drew | apply keep_alloc) | exact HK.out)) (KeepBut.of_below hb g none) (.inl rfl)); have n3_ := Aside0.mk (below_step (by repeat (first | (with_reducible first | exact HB.out | apply below_alloc | apply pw_below_drewN | apply below_drew1 | refine below_set ?_ (IsS74.ge HI0.out)) | exact HB.out)) hb); clear HO_5; clear HI0; clear HK; clear HB; have HO_5 := n0_; have HI0 := n1_; have HK := n2_; have HB := n3_; clear n0_ n1_ n2_ n3_; (try clear hb); (try clear hb2); (try clear hk); (try clear hi)) | (go_at_call 144; (with_reducible refine (spec_l1Size.calls t161 t164 _ A33.out).mono ?_); rintro e w60 ⟨rfl, hb⟩; have n0_ := Aside0.mk (Kd.R_below ((Sqz.mvR HO_5.out)) hb); have n1_ := Aside0.mk (IsS74.below (by repeat (first | (with_reducible first | exact HI0.out | apply IsS74.alloc | apply IsS74.drewN | apply IsS74.drew | apply IsS74.set_1) | exact HI0.out)) hb); have n2_ := Aside0.mk (KeepBut.trans (by repeat (first | (with_reducible first | exact HK.out | apply KeepBut.set_ | apply keep_drewN | apply keep_drew | apply keep_alloc) | exact HK.out)) (KeepBut.of_below hb g none) (.inl rfl)); have n3_ := Aside0.mk (below_step (by repeat (first | (with_reducible first | exact HB.out | apply below_alloc | apply pw_below_drewN | apply below_drew1 | refine below_set ?_ (IsS74.ge HI0.out)) | exact HB.out)) hb); clear HO_5; clear HI0; clear HK; clear HB; have HO_5 := n0_; have HI0 := n1_; have HK := n2_; have HB := n3_; clear n0_ n1_ n2_ n3_; (try clear hb); (try clear hb2); (try clear hk); (try clear hi); have p52 : 0 ≤ (t149 : Int) := of_decide_eq_true (by first | (with_reducible assumption) | assumption); have q52 : (t149 : Int) < ((y146.length : Int) : Int) := of_decide_eq_true (by first | (with_reducible assumption) | assumption); obtain ⟨go52, co52, eo52, gb52, gl52, cl52, HG52⟩ := Kd.R_form HO_5.out (by omega); (first | cases eo52 | (injection eo52 with ea_ en_ ec_; (first | subst ea_ | (injection ea_ with ea_; subst ea_)); subst ec_; clear en_)); have GB52 := Aside0.mk gb52; have GG52 := Aside0.mk HG52; clear gb52 gl52 HG52; obtain ⟨hx52_0, hf52_0⟩ := Kd.R_celln 0 HO_5.out (t149 : Int) p52 q52; replace p52 := eq_true p52; replace q52 := eq_true q52; obtain ⟨hy61_, hz61_⟩ := Kd.R_celln 0 HO_5.out (t149 : Int) (of_decide_eq_true (by first | (with_reducible assumption) | assumption)) (of_decide_eq_true (by first | (with_reducible assumption) | assumption)); have HP61 := Kd.R_putg HO_5.out (t149 : Int) (rd y146 (ji12))) | ((with_reducible refine gate_store (t := 3) (p := 95) rfl ?_); refine store_event (t := 3) (p := 95) (v := ?vo_w62) (w1 := (w60.setCell ⟨go52, (t149 : Int).toNat, none⟩ (.int .i64 (rd y146 (ji12))))) ?hg ?ho ?hn ?hr ?_; (case ho => rfl); (case hg => rfl); (case hn => rfl); (case hr => first | (go_simp; done) | (go_simp; rfl)); intro w62 hw; have hg : w60.grownBy w62 (some go52) := (by rw [hw]; exact HP61.2); have hp_ : Kd.R (Kd.int .i64) 3 w62 w.heap.size (fun _ => True) (.slice (some ⟨go52, 0, none⟩) y146.length co21) y167 := (by rw [hw, Ny167.out]; exact HP61.1); clear HP61; have n0_ := Aside0.mk (hp_); have n1_ := Aside0.mk (IsS74.grown (by repeat (first | (with_reducible first | exact HI0.out | apply IsS74.alloc | apply IsS74.drewN | apply IsS74.drew | apply IsS74.set_1) | exact HI0.out)) hg (IsS74.own_ne HI0.out HO_5.out (by decide))); have n2_ := Aside0.mk ((by rw [hw]; exact below_set (HB.out) (Nat.le_trans HL.out GB52.out) : Below w0.heap.size w0 w62)); have n3_ := Aside0.mk (KeepBut.trans (by repeat (first | (with_reducible first | exact HK.out | apply KeepBut.set_ | apply keep_drewN | apply keep_drew | apply keep_alloc) | exact HK.out)) (KeepBut.of_grown hg g) (Kd.R_base2 HO_5.out)); clear HO_5; clear HI0; clear HB; clear HK; have HO_5 := n0_; have HI0 := n1_; have HB := n2_; have HK := n3_; clear n0_ n1_ n2_ n3_; clear hg hw hp_; have p56 : 0 ≤ ((ji12) : Int) := of_decide_eq_true (by first | (with_reducible assumption) | assumption); have q56 : ((ji12) : Int) < ((y146.length : Int) : Int) := of_decide_eq_true (by first | (with_reducible assumption) | assumption); obtain ⟨hx56_0, hf56_0⟩ := Kd.R_celln 0 HO_5.out ((ji12) : Int) p56 q56; replace p56 := eq_true p56; replace q56 := eq_true q56; obtain ⟨hy63_, hz63_⟩ := Kd.R_celln 0 HO_5.out ((ji12) : Int) (of_decide_eq_true (by first | (with_reducible assumption) | assumption)) (of_decide_eq_true (by first | (with_reducible assumption) | assumption)); have HP63 := Kd.R_putg HO_5.out ((ji12) : Int) (rd y146 t149)) | ((with_reducible refine gate_store (t := 3) (p := 100) rfl ?_); refine store_event (t := 3) (p := 100) (v := ?vo_w64) (w1 := (w62.setCell ⟨go52, ((ji12) : Int).toNat, none⟩ (.int .i64 (rd y146 t149)))) ?hg ?ho ?hn ?hr ?_; (case ho => rfl); (case hg => rfl); (case hn => rfl); (case hr => first | (go_simp; done) | (go_simp; rfl)); intro w64 hw; have hg : w62.grownBy w64 (some go52) := (by rw [hw]; exact HP63.2); have hp_ : Kd.R (Kd.int .i64) 3 w64 w.heap.size (fun _ => True) (.slice (some ⟨go52, 0, none⟩) y146.length co21) y168 := (by rw [hw, Ny168.out]; exact HP63.1); clear HP63; have n0_ := Aside0.mk (hp_); have n1_ := Aside0.mk (IsS74.grown (by repeat (first | (with_reducible first | exact HI0.out | apply IsS74.alloc | apply IsS74.drewN | apply IsS74.drew | apply IsS74.set_1) | exact HI0.out)) hg (IsS74.own_ne HI0.out HO_5.out (by decide))); have n2_ := Aside0.mk ((by rw [hw]; exact below_set (HB.out) (Nat.le_trans HL.out GB52.out) : Below w0.heap.size w0 w64)); have n3_ := Aside0.mk (KeepBut.trans (by repeat (first | (with_reducible first | exact HK.out | apply KeepBut.set_ | apply keep_drewN | apply keep_drew | apply keep_alloc) | exact HK.out)) (KeepBut.of_grown hg g) (Kd.R_base2 HO_5.out)); clear HO_5; clear HI0; clear HB; clear HK; have HO_5 := n0_; have HI0 := n1_; have HB := n2_; have HK := n3_; clear n0_ n1_ n2_ n3_; clear hg hw hp_))
                                go_ret
                                exact ⟨_, by first | rfl | (simp [errW_none, errW_some] <;> rfl) | (simp only [← hji12, ← hji53]; first | rfl | (simp [errW_none, errW_some] <;> rfl)) | (simp [*, errW_none, errW_some] <;> rfl), (Sqz.mvR HO_5.out), by repeat (first | (with_reducible first | exact HI0.out | apply IsS74.alloc | apply IsS74.drewN | apply IsS74.drew | apply IsS74.set_1) | exact HI0.out), by repeat (first | (with_reducible first | exact HB.out | apply below_alloc | apply pw_below_drewN | apply below_drew1 | refine below_set ?_ (IsS74.ge HI0.out)) | exact HB.out), by repeat (first | (with_reducible first | exact HK.out | apply KeepBut.set_ | apply keep_drewN | apply keep_drew | apply keep_alloc) | exact HK.out)⟩
                              · rw [if_neg c55] at H
                                exact absurd H (by simp)
                            · rw [if_neg c54] at H
                              exact absurd H (by simp)
                          · rw [if_neg c51] at H
                            exact absurd H (by simp)
                        · rw [if_neg c50] at H
                          exact absurd H (by simp)
                    · rw [if_neg c32] at H
                      have c32b0 : decide (t163 ≤ 30) = false := decide_eq_false c32
                      clear c32
                      by_cases c65 : 0 ≤ t149
                      · rw [if_pos c65] at H
                        have c65b0 : decide (0 ≤ t149) = true := decide_eq_true c65
                        clear c65
                        by_cases c66 : t149 < (y146.length : Int)
                        · rw [if_pos c66] at H
                          have c66b0 : decide (t149 < (y146.length : Int)) = true := decide_eq_true c66
                          clear c66
                          obtain ⟨y169, hy169⟩ : ∃ y_ : List Int, y_ = (y146.set (t149 : Int).toNat (rd y146 (ji12))) := ⟨_, rfl⟩
                          replace H : (if 0 ≤ (wrap64 (t149 + 1)) then (if (wrap64 (t149 + 1)) < (y146.length : Int) then (some ((y169.set ((wrap64 (t149 + 1)) : Int).toNat (rd y146 t149)), x1001_16)) else (none)) else (none)) = some (r1, r2) := by first | (rw [hy169]; with_reducible exact H) | (have H2_ := (Option.bind_some _ _).symm.trans H; rw [hy169]; with_reducible exact H2_) | (have H2_ := (Option.bind_some _ _).symm.trans H; with_reducible exact H2_) | with_reducible exact H | (rw [hy169]; exact H) | exact H
                          have Ny169 := Aside0.mk hy169
                          clear hy169
                          have hji68 := hji12
                          replace H : (if 0 ≤ (ji12) then (if (ji12) < (y146.length : Int) then (some ((y169.set ((ji12) : Int).toNat (rd y146 t149)), x1001_16)) else (none)) else (none)) = some (r1, r2) := by first | (rw [hji68] at H; exact H) | (simp only [hji68] at H ⊢; exact H)
                          (try rw [hji68] at A29)
                          (try rw [hji68] at A30)
                          (try rw [hji68] at A31)
                          have hji68w : (IntKind.i64.wrap (t149 + 1)) = ji12 := (i64_w _).trans hji68
                          by_cases c69 : 0 ≤ (ji12)
                          · rw [if_pos c69] at H
                            have c69b0 : decide (0 ≤ (ji12)) = true := decide_eq_true c69
                            clear c69
                            by_cases c70 : (ji12) < (y146.length : Int)
                            · rw [if_pos c70] at H
                              have c70b0 : decide ((ji12) < (y146.length : Int)) = true := decide_eq_true c70
                              clear c70
                              obtain ⟨y170, hy170⟩ : ∃ y_ : List Int, y_ = (y169.set ((ji12) : Int).toNat (rd y146 t149)) := ⟨_, rfl⟩
                              replace H : (some (y170, x1001_16)) = some (r1, r2) := by first | (rw [hy170]; with_reducible exact H) | (have H2_ := (Option.bind_some _ _).symm.trans H; rw [hy170]; with_reducible exact H2_) | (have H2_ := (Option.bind_some _ _).symm.trans H; with_reducible exact H2_) | with_reducible exact H | (rw [hy170]; exact H) | exact H
                              have Ny170 := Aside0.mk hy170
                              clear hy170
                              simp only [Option.some.injEq, Prod.mk.injEq] at H
                              obtain ⟨rfl, rfl⟩ := H
                              go_wp2_with (first | ((with_reducible refine gate_callee (f := 143) rfl ?_); refine goesL_ (some 62) rfl rfl Try.func143 (by kernel_rfl) rfl #[.int .i64 (wrap64 ((wrap64 ((wrap64 ((rd y146 t149) * t153)) * t153)) + (wrap64 ((wrap64 ((rd y146 (ji12)) * (wrap64 (1 + t155)))) * (wrap64 (1 + t155))))))] rfl (by (try simp only [List.map_toArray, List.map_cons, List.map_nil]); first | done | (simp only [hji12]; rfl) | rfl | (simp only [List.length_drop, List.length_take]; rfl)) ?_; (with_reducible refine (spec_l1Core.calls kj16 (wrap64 ((wrap64 ((wrap64 ((rd y146 t149) * t153)) * t153)) + (wrap64 ((wrap64 ((rd y146 (ji12)) * (wrap64 (1 + t155)))) * (wrap64 (1 + t155)))))) t159 t160 _ A29.out).mono ?_); rintro e w72 ⟨rfl, hb⟩; refine ⟨_, rfl, ?_⟩; have n0_ := Aside0.mk (Kd.R_below ((Sqz.mvR HO_5.out)) hb); have n1_ := Aside0.mk (IsS74.below (by repeat (first | (with_reducible first | exact HI0.out | apply IsS74.alloc | apply IsS74.drewN | apply IsS74.drew | apply IsS74.set_1) | exact HI0.out)) hb); have n2_ := Aside0.mk (KeepBut.trans (by repeat (first | (with_reducible first | exact HK.out | apply KeepBut.set_ | apply keep_drewN | apply keep_drew | apply keep_alloc) | exact HK.out)) (KeepBut.of_below hb g none) (.inl rfl)); have n3_ := Aside0.mk (below_step (by repeat (first | (with_reducible first | exact HB.out | apply below_alloc | apply pw_below_drewN | apply below_drew1 | refine below_set ?_ (IsS74.ge HI0.out)) | exact HB.out)) hb); clear HO_5; clear HI0; clear HK; clear HB; have HO_5 := n0_; have HI0 := n1_; have HK := n2_; have HB := n3_; clear n0_ n1_ n2_ n3_; (try clear hb); (try clear hb2); (try clear hk); (try clear hi)) | ((with_reducible refine gate_callee (f := 143) rfl ?_); refine goesL_ (some 71) rfl rfl Try.func143 (by kernel_rfl) rfl #[.int .i64 (wrap64 ((wrap64 ((rd y146 t149) * (rd y146 (ji12)))) * (wrap64 ((wrap64 ((wrap64 ((rd y146 t149) * t153)) * t153)) + (wrap64 ((wrap64 ((rd y146 (ji12)) * (wrap64 (1 + t155)))) * (wrap64 (1 + t155))))))))] rfl (by (try simp only [List.map_toArray, List.map_cons, List.map_nil]); first | done | (simp only [hji12]; rfl) | rfl | (simp only [List.length_drop, List.length_take]; rfl)) ?_; (with_reducible refine (spec_l1Core.calls kj16 (wrap64 ((wrap64 ((rd y146 t149) * (rd y146 (ji12)))) * (wrap64 ((wrap64 ((wrap64 ((rd y146 t149) * t153)) * t153)) + (wrap64 ((wrap64 ((rd y146 (ji12)) * (wrap64 (1 + t155)))) * (wrap64 (1 + t155)))))))) t161 t162 _ A30.out).mono ?_); rintro e w73 ⟨rfl, hb⟩; refine ⟨_, rfl, ?_⟩; have n0_ := Aside0.mk (Kd.R_below ((Sqz.mvR HO_5.out)) hb); have n1_ := Aside0.mk (IsS74.below (by repeat (first | (with_reducible first | exact HI0.out | apply IsS74.alloc | apply IsS74.drewN | apply IsS74.drew | apply IsS74.set_1) | exact HI0.out)) hb); have n2_ := Aside0.mk (KeepBut.trans (by repeat (first | (with_reducible first | exact HK.out | apply KeepBut.set_ | apply keep_drewN | apply keep_drew | apply keep_alloc) | exact HK.out)) (KeepBut.of_below hb g none) (.inl rfl)); have n3_ := Aside0.mk (below_step (by repeat (first | (with_reducible first | exact HB.out | apply below_alloc | apply pw_below_drewN | apply below_drew1 | refine below_set ?_ (IsS74.ge HI0.out)) | exact HB.out)) hb); clear HO_5; clear HI0; clear HK; clear HB; have HO_5 := n0_; have HI0 := n1_; have HK := n2_; have HB := n3_; clear n0_ n1_ n2_ n3_; (try clear hb); (try clear hb2); (try clear hk); (try clear hi)) | ((with_reducible refine gate_callee (f := 144) rfl ?_); refine goesL_ (some 75) rfl rfl Try.func144 (by kernel_rfl) rfl #[.int .i64 t159] rfl Sqz.auM ?_; (with_reducible refine (spec_l1Size.calls t159 t163 _ A31.out).mono ?_); rintro e w74 ⟨rfl, hb⟩; refine ⟨_, rfl, ?_⟩; have n0_ := Aside0.mk (Kd.R_below ((Sqz.mvR HO_5.out)) hb); have n1_ := Aside0.mk (IsS74.below (by repeat (first | (with_reducible first | exact HI0.out | apply IsS74.alloc | apply IsS74.drewN | apply IsS74.drew | apply IsS74.set_1) | exact HI0.out)) hb); have n2_ := Aside0.mk (KeepBut.trans (by repeat (first | (with_reducible first | exact HK.out | apply KeepBut.set_ | apply keep_drewN | apply keep_drew | apply keep_alloc) | exact HK.out)) (KeepBut.of_below hb g none) (.inl rfl)); have n3_ := Aside0.mk (below_step (by repeat (first | (with_reducible first | exact HB.out | apply below_alloc | apply pw_below_drewN | apply below_drew1 | refine below_set ?_ (IsS74.ge HI0.out)) | exact HB.out)) hb); clear HO_5; clear HI0; clear HK; clear HB; have HO_5 := n0_; have HI0 := n1_; have HK := n2_; have HB := n3_; clear n0_ n1_ n2_ n3_; (try clear hb); (try clear hb2); (try clear hk); (try clear hi); have p67 : 0 ≤ (t149 : Int) := of_decide_eq_true (by first | (with_reducible assumption) | assumption); have q67 : (t149 : Int) < ((y146.length : Int) : Int) := of_decide_eq_true (by first | (with_reducible assumption) | assumption); obtain ⟨go67, co67, eo67, gb67, gl67, cl67, HG67⟩ := Kd.R_form HO_5.out (by omega); (first | cases eo67 | (injection eo67 with ea_ en_ ec_; (first | subst ea_ | (injection ea_ with ea_; subst ea_)); subst ec_; clear en_)); have GB67 := Aside0.mk gb67; have GG67 := Aside0.mk HG67; clear gb67 gl67 HG67; obtain ⟨hx67_0, hf67_0⟩ := Kd.R_celln 0 HO_5.out (t149 : Int) p67 q67; replace p67 := eq_true p67; replace q67 := eq_true q67; obtain ⟨hy75_, hz75_⟩ := Kd.R_celln 0 HO_5.out (t149 : Int) (of_decide_eq_true (by first | (with_reducible assumption) | assumption)) (of_decide_eq_true (by first | (with_reducible assumption) | assumption)); have HP75 := Kd.R_putg HO_5.out (t149 : Int) (rd y146 (ji12))) | ((with_reducible refine gate_store (t := 3) (p := 95) rfl ?_); refine store_event (t := 3) (p := 95) (v := ?vo_w76) (w1 := (w74.setCell ⟨go67, (t149 : Int).toNat, none⟩ (.int .i64 (rd y146 (ji12))))) ?hg ?ho ?hn ?hr ?_; (case ho => rfl); (case hg => rfl); (case hn => rfl); (case hr => first | (go_simp; done) | (go_simp; rfl)); intro w76 hw; have hg : w74.grownBy w76 (some go67) := (by rw [hw]; exact HP75.2); have hp_ : Kd.R (Kd.int .i64) 3 w76 w.heap.size (fun _ => True) (.slice (some ⟨go67, 0, none⟩) y146.length co21) y169 := (by rw [hw, Ny169.out]; exact HP75.1); clear HP75; have n0_ := Aside0.mk (hp_); have n1_ := Aside0.mk (IsS74.grown (by repeat (first | (with_reducible first | exact HI0.out | apply IsS74.alloc | apply IsS74.drewN | apply IsS74.drew | apply IsS74.set_1) | exact HI0.out)) hg (IsS74.own_ne HI0.out HO_5.out (by decide))); have n2_ := Aside0.mk ((by rw [hw]; exact below_set (HB.out) (Nat.le_trans HL.out GB67.out) : Below w0.heap.size w0 w76)); have n3_ := Aside0.mk (KeepBut.trans (by repeat (first | (with_reducible first | exact HK.out | apply KeepBut.set_ | apply keep_drewN | apply keep_drew | apply keep_alloc) | exact HK.out)) (KeepBut.of_grown hg g) (Kd.R_base2 HO_5.out)); clear HO_5; clear HI0; clear HB; clear HK; have HO_5 := n0_; have HI0 := n1_; have HB := n2_; have HK := n3_; clear n0_ n1_ n2_ n3_; clear hg hw hp_; have p71 : 0 ≤ ((ji12) : Int) := of_decide_eq_true (by first | (with_reducible assumption) | assumption); have q71 : ((ji12) : Int) < ((y146.length : Int) : Int) := of_decide_eq_true (by first | (with_reducible assumption) | assumption); obtain ⟨hx71_0, hf71_0⟩ := Kd.R_celln 0 HO_5.out ((ji12) : Int) p71 q71; replace p71 := eq_true p71; replace q71 := eq_true q71; obtain ⟨hy77_, hz77_⟩ := Kd.R_celln 0 HO_5.out ((ji12) : Int) (of_decide_eq_true (by first | (with_reducible assumption) | assumption)) (of_decide_eq_true (by first | (with_reducible assumption) | assumption)); have HP77 := Kd.R_putg HO_5.out ((ji12) : Int) (rd y146 t149)) | ((with_reducible refine gate_store (t := 3) (p := 100) rfl ?_); refine store_event (t := 3) (p := 100) (v := ?vo_w78) (w1 := (w76.setCell ⟨go67, ((ji12) : Int).toNat, none⟩ (.int .i64 (rd y146 t149)))) ?hg ?ho ?hn ?hr ?_; (case ho => rfl); (case hg => rfl); (case hn => rfl); (case hr => first | (go_simp; done) | (go_simp; rfl)); intro w78 hw; have hg : w76.grownBy w78 (some go67) := (by rw [hw]; exact HP77.2); have hp_ : Kd.R (Kd.int .i64) 3 w78 w.heap.size (fun _ => True) (.slice (some ⟨go67, 0, none⟩) y146.length co21) y170 := (by rw [hw, Ny170.out]; exact HP77.1); clear HP77; have n0_ := Aside0.mk (hp_); have n1_ := Aside0.mk (IsS74.grown (by repeat (first | (with_reducible first | exact HI0.out | apply IsS74.alloc | apply IsS74.drewN | apply IsS74.drew | apply IsS74.set_1) | exact HI0.out)) hg (IsS74.own_ne HI0.out HO_5.out (by decide))); have n2_ := Aside0.mk ((by rw [hw]; exact below_set (HB.out) (Nat.le_trans HL.out GB67.out) : Below w0.heap.size w0 w78)); have n3_ := Aside0.mk (KeepBut.trans (by repeat (first | (with_reducible first | exact HK.out | apply KeepBut.set_ | apply keep_drewN | apply keep_drew | apply keep_alloc) | exact HK.out)) (KeepBut.of_grown hg g) (Kd.R_base2 HO_5.out)); clear HO_5; clear HI0; clear HB; clear HK; have HO_5 := n0_; have HI0 := n1_; have HB := n2_; have HK := n3_; clear n0_ n1_ n2_ n3_; clear hg hw hp_))
                              go_ret
                              exact ⟨_, by first | rfl | (simp [errW_none, errW_some] <;> rfl) | (simp only [← hji12, ← hji68]; first | rfl | (simp [errW_none, errW_some] <;> rfl)) | (simp [*, errW_none, errW_some] <;> rfl), (Sqz.mvR HO_5.out), by repeat (first | (with_reducible first | exact HI0.out | apply IsS74.alloc | apply IsS74.drewN | apply IsS74.drew | apply IsS74.set_1) | exact HI0.out), by repeat (first | (with_reducible first | exact HB.out | apply below_alloc | apply pw_below_drewN | apply below_drew1 | refine below_set ?_ (IsS74.ge HI0.out)) | exact HB.out), by repeat (first | (with_reducible first | exact HK.out | apply KeepBut.set_ | apply keep_drewN | apply keep_drew | apply keep_alloc) | exact HK.out)⟩
                            · rw [if_neg c70] at H
                              exact absurd H (by simp)
                          · rw [if_neg c69] at H
                            exact absurd H (by simp)
                        · rw [if_neg c66] at H
                          exact absurd H (by simp)
                      · rw [if_neg c65] at H
                        exact absurd H (by simp)
                  · replace c28 := Bool.eq_false_iff.mpr c28
                    subst c28
                    have H1 : (if 0 ≤ t149 then (if t149 < (y146.length : Int) then (if 0 ≤ (wrap64 (t149 + 1)) then (if (wrap64 (t149 + 1)) < (y146.length : Int) then (some (((y146.set (t149 : Int).toNat (rd y146 (ji12))).set ((wrap64 (t149 + 1)) : Int).toNat (rd y146 t149)), x1001_16)) else (none)) else (none)) else (none)) else (none)) = some (r1, r2) := by rw [if_neg (show ¬ (false = true) by decide)] at H; exact H
                    clear H
                    have H := H1
                    clear H1
                    by_cases c79 : 0 ≤ t149
                    · rw [if_pos c79] at H
                      have c79b0 : decide (0 ≤ t149) = true := decide_eq_true c79
                      clear c79
                      by_cases c80 : t149 < (y146.length : Int)
                      · rw [if_pos c80] at H
                        have c80b0 : decide (t149 < (y146.length : Int)) = true := decide_eq_true c80
                        clear c80
                        obtain ⟨y171, hy171⟩ : ∃ y_ : List Int, y_ = (y146.set (t149 : Int).toNat (rd y146 (ji12))) := ⟨_, rfl⟩
                        replace H : (if 0 ≤ (wrap64 (t149 + 1)) then (if (wrap64 (t149 + 1)) < (y146.length : Int) then (some ((y171.set ((wrap64 (t149 + 1)) : Int).toNat (rd y146 t149)), x1001_16)) else (none)) else (none)) = some (r1, r2) := by first | (rw [hy171]; with_reducible exact H) | (have H2_ := (Option.bind_some _ _).symm.trans H; rw [hy171]; with_reducible exact H2_) | (have H2_ := (Option.bind_some _ _).symm.trans H; with_reducible exact H2_) | with_reducible exact H | (rw [hy171]; exact H) | exact H
                        have Ny171 := Aside0.mk hy171
                        clear hy171
                        have hji82 := hji12
                        replace H : (if 0 ≤ (ji12) then (if (ji12) < (y146.length : Int) then (some ((y171.set ((ji12) : Int).toNat (rd y146 t149)), x1001_16)) else (none)) else (none)) = some (r1, r2) := by first | (rw [hji82] at H; exact H) | (simp only [hji82] at H ⊢; exact H)
                        have hji82w : (IntKind.i64.wrap (t149 + 1)) = ji12 := (i64_w _).trans hji82
                        by_cases c83 : 0 ≤ (ji12)
                        · rw [if_pos c83] at H
                          have c83b0 : decide (0 ≤ (ji12)) = true := decide_eq_true c83
                          clear c83
                          by_cases c84 : (ji12) < (y146.length : Int)
                          · rw [if_pos c84] at H
                            have c84b0 : decide ((ji12) < (y146.length : Int)) = true := decide_eq_true c84
                            clear c84
                            obtain ⟨y172, hy172⟩ : ∃ y_ : List Int, y_ = (y171.set ((ji12) : Int).toNat (rd y146 t149)) := ⟨_, rfl⟩
                            replace H : (some (y172, x1001_16)) = some (r1, r2) := by first | (rw [hy172]; with_reducible exact H) | (have H2_ := (Option.bind_some _ _).symm.trans H; rw [hy172]; with_reducible exact H2_) | (have H2_ := (Option.bind_some _ _).symm.trans H; with_reducible exact H2_) | with_reducible exact H | (rw [hy172]; exact H) | exact H
                            have Ny172 := Aside0.mk hy172
                            clear hy172
                            simp only [Option.some.injEq, Prod.mk.injEq] at H
                            obtain ⟨rfl, rfl⟩ := H
                            have p81 : 0 ≤ (t149 : Int) := of_decide_eq_true (by first | (with_reducible assumption) | assumption)
                            have q81 : (t149 : Int) < ((y146.length : Int) : Int) := of_decide_eq_true (by first | (with_reducible assumption) | assumption)
                            obtain ⟨go81, co81, eo81, gb81, gl81, cl81, HG81⟩ := Kd.R_form HO_5.out (by omega)
                            (first | cases eo81 | (injection eo81 with ea_ en_ ec_; (first | subst ea_ | (injection ea_ with ea_; subst ea_)); subst ec_; clear en_))
                            have GB81 := Aside0.mk gb81
                            have GG81 := Aside0.mk HG81
                            clear gb81 gl81 HG81
                            obtain ⟨hx81_0, hf81_0⟩ := Kd.R_celln 0 HO_5.out (t149 : Int) p81 q81
                            replace p81 := eq_true p81
                            replace q81 := eq_true q81
                            have HP86 := Kd.R_putg HO_5.out (t149 : Int) (rd y146 (ji12))
                            go_wp2_with (first | ((with_reducible refine gate_store (t := 3) (p := 95) rfl ?_); refine store_event (t := 3) (p := 95) (v := ?vo_w87) (w1 := (wc.setCell ⟨go81, (t149 : Int).toNat, none⟩ (.int .i64 (rd y146 (ji12))))) ?hg ?ho ?hn ?hr ?_; (case ho => rfl); (case hg => rfl); (case hn => rfl); (case hr => first | (go_simp; done) | (go_simp; rfl)); intro w87 hw; have hg : wc.grownBy w87 (some go81) := (by rw [hw]; exact HP86.2); have hp_ : Kd.R (Kd.int .i64) 3 w87 w.heap.size (fun _ => True) (.slice (some ⟨go81, 0, none⟩) y146.length co21) y171 := (by rw [hw, Ny171.out]; exact HP86.1); clear HP86; have n0_ := Aside0.mk (hp_); have n1_ := Aside0.mk (IsS74.grown (by repeat (first | (with_reducible first | exact HI0.out | apply IsS74.alloc | apply IsS74.drewN | apply IsS74.drew | apply IsS74.set_1) | exact HI0.out)) hg (IsS74.own_ne HI0.out HO_5.out (by decide))); have n2_ := Aside0.mk ((by rw [hw]; exact below_set (HB.out) (Nat.le_trans HL.out GB81.out) : Below w0.heap.size w0 w87)); have n3_ := Aside0.mk (KeepBut.trans (by repeat (first | (with_reducible first | exact HK.out | apply KeepBut.set_ | apply keep_drewN | apply keep_drew | apply keep_alloc) | exact HK.out)) (KeepBut.of_grown hg g) (Kd.R_base2 HO_5.out)); clear HO_5; clear HI0; clear HB; clear HK; have HO_5 := n0_; have HI0 := n1_; have HB := n2_; have HK := n3_; clear n0_ n1_ n2_ n3_; clear hg hw hp_; have p85 : 0 ≤ ((ji12) : Int) := of_decide_eq_true (by first | (with_reducible assumption) | assumption); have q85 : ((ji12) : Int) < ((y146.length : Int) : Int) := of_decide_eq_true (by first | (with_reducible assumption) | assumption); obtain ⟨hx85_0, hf85_0⟩ := Kd.R_celln 0 HO_5.out ((ji12) : Int) p85 q85; replace p85 := eq_true p85; replace q85 := eq_true q85; obtain ⟨hy88_, hz88_⟩ := Kd.R_celln 0 HO_5.out ((ji12) : Int) (of_decide_eq_true (by first | (with_reducible assumption) | assumption)) (of_decide_eq_true (by first | (with_reducible assumption) | assumption)); have HP88 := Kd.R_putg HO_5.out ((ji12) : Int) (rd y146 t149)) | ((with_reducible refine gate_store (t := 3) (p := 100) rfl ?_); refine store_event (t := 3) (p := 100) (v := ?vo_w89) (w1 := (w87.setCell ⟨go81, ((ji12) : Int).toNat, none⟩ (.int .i64 (rd y146 t149)))) ?hg ?ho ?hn ?hr ?_; (case ho => rfl); (case hg => rfl); (case hn => rfl); (case hr => first | (go_simp; done) | (go_simp; rfl)); intro w89 hw; have hg : w87.grownBy w89 (some go81) := (by rw [hw]; exact HP88.2); have hp_ : Kd.R (Kd.int .i64) 3 w89 w.heap.size (fun _ => True) (.slice (some ⟨go81, 0, none⟩) y146.length co21) y172 := (by rw [hw, Ny172.out]; exact HP88.1); clear HP88; have n0_ := Aside0.mk (hp_); have n1_ := Aside0.mk (IsS74.grown (by repeat (first | (with_reducible first | exact HI0.out | apply IsS74.alloc | apply IsS74.drewN | apply IsS74.drew | apply IsS74.set_1) | exact HI0.out)) hg (IsS74.own_ne HI0.out HO_5.out (by decide))); have n2_ := Aside0.mk ((by rw [hw]; exact below_set (HB.out) (Nat.le_trans HL.out GB81.out) : Below w0.heap.size w0 w89)); have n3_ := Aside0.mk (KeepBut.trans (by repeat (first | (with_reducible first | exact HK.out | apply KeepBut.set_ | apply keep_drewN | apply keep_drew | apply keep_alloc) | exact HK.out)) (KeepBut.of_grown hg g) (Kd.R_base2 HO_5.out)); clear HO_5; clear HI0; clear HB; clear HK; have HO_5 := n0_; have HI0 := n1_; have HB := n2_; have HK := n3_; clear n0_ n1_ n2_ n3_; clear hg hw hp_))
                            go_ret
                            exact ⟨_, by first | rfl | (simp [errW_none, errW_some] <;> rfl) | (simp only [← hji12, ← hji82]; first | rfl | (simp [errW_none, errW_some] <;> rfl)) | (simp [*, errW_none, errW_some] <;> rfl), (Sqz.mvR HO_5.out), by repeat (first | (with_reducible first | exact HI0.out | apply IsS74.alloc | apply IsS74.drewN | apply IsS74.drew | apply IsS74.set_1) | exact HI0.out), by repeat (first | (with_reducible first | exact HB.out | apply below_alloc | apply pw_below_drewN | apply below_drew1 | refine below_set ?_ (IsS74.ge HI0.out)) | exact HB.out), by repeat (first | (with_reducible first | exact HK.out | apply KeepBut.set_ | apply keep_drewN | apply keep_drew | apply keep_alloc) | exact HK.out)⟩
                          · rw [if_neg c84] at H
                            exact absurd H (by simp)
                        · rw [if_neg c83] at H
                          exact absurd H (by simp)
                      · rw [if_neg c80] at H
                        exact absurd H (by simp)
                    · rw [if_neg c79] at H
                      exact absurd H (by simp)
            · rw [if_neg c14] at H
              exact absurd H (by simp)
          · rw [if_neg c13] at H
            exact absurd H (by simp)
        · rw [if_neg c11] at H
          exact absurd H (by simp)
      · rw [if_neg c10] at H
        exact absurd H (by simp)
  · rw [if_neg c3] at H
    exact absurd H (by simp)

/-! ### spec_DrawWittSame: function 54 -/
def spec_DrawWittSame.f (k : Nat) (l0 : List Int) : Option (List Int × List Int) := (spec_l6Open.f l0).bind fun bt173 => ((spec_l91Form.f k bt173.1 bt173.2 2).bind fun bt176 => ((spec_l6Rd_pick.f k bt173.1 bt176.2 3).bind fun bt180 => (if bt180.1 = 0 then ((spec_FormValid.f k bt176.1).bind fun t182 => (if t182 = true then ((spec_l91Same.f k bt173.1 bt180.2 bt176.1).bind fun bt183 => (some (bt176.1, bt183.1))) else ((spec_l91Form.f k bt173.1 bt180.2 3).bind fun bt187 => (some (bt176.1, bt187.1))))) else (if bt180.1 = 1 then ((some (([1, (-1)] : List Int) : List Int)).bind fun y191 => (if bt176.1.length + y191.length < 17592186044416 then ((spec_l91Form.f k bt173.1 bt180.2 1).bind fun bt197 => (some ((bt176.1 ++ y191), bt197.1))) else (none))) else ((spec_l91Form.f k bt173.1 bt180.2 3).bind fun bt201 => (some (bt176.1, bt201.1)))))))
set_option maxHeartbeats 8000000 in
set_option maxRecDepth 100000 in
theorem spec_DrawWittSame.calls (k : Nat) (A0 : Option Addr) (c0 : Nat) (l0 : List Int) (r1 : List Int) (r2 : List Int) (w : World) (hr0 : Kd.C (Kd.int .u8) w A0 l0.length l0) (hc0 : l0.length ≤ c0) (h : spec_DrawWittSame.f k l0 = some (r1, r2)) :
    Calls Try.prog 54 #[.slice A0 l0.length c0] w fun e w' => ∃ v0_ v1_ : Value, e = .returned (.tuple #[v0_, v1_]) ∧ Kd.R (Kd.int .i64) 3 w' w.heap.size (fun k_ => some k_ ≠ (v1_ : Value).ownBlock) v0_ r1 ∧ Kd.R (Kd.int .i64) 3 w' w.heap.size (fun k_ => some k_ ≠ (v0_ : Value).ownBlock) v1_ r2 ∧ Below w.heap.size w w' := by
  have HR0 := Aside0.mk hr0
  have HC0 := Aside0.mk hc0
  clear hr0 hc0
  have HB := Aside0.mk (Below.refl w.heap.size w)
  have H : ((spec_l6Open.f l0).bind fun bt173 => ((spec_l91Form.f k bt173.1 bt173.2 2).bind fun bt176 => ((spec_l6Rd_pick.f k bt173.1 bt176.2 3).bind fun bt180 => (if bt180.1 = 0 then ((spec_FormValid.f k bt176.1).bind fun t182 => (if t182 = true then ((spec_l91Same.f k bt173.1 bt180.2 bt176.1).bind fun bt183 => (some (bt176.1, bt183.1))) else ((spec_l91Form.f k bt173.1 bt180.2 3).bind fun bt187 => (some (bt176.1, bt187.1))))) else (if bt180.1 = 1 then ((some (([1, (-1)] : List Int) : List Int)).bind fun y191 => (if bt176.1.length + y191.length < 17592186044416 then ((spec_l91Form.f k bt173.1 bt180.2 1).bind fun bt197 => (some ((bt176.1 ++ y191), bt197.1))) else (none))) else ((spec_l91Form.f k bt173.1 bt180.2 3).bind fun bt201 => (some (bt176.1, bt201.1)))))))) = some (r1, r2) := h
  clear h
  replace H := Option.bind_eq_some_iff.mp H
  obtain ⟨⟨t173, t174⟩, A20, H⟩ := H
  replace H : ((spec_l91Form.f k t173 t174 2).bind fun bt176 => ((spec_l6Rd_pick.f k t173 bt176.2 3).bind fun bt180 => (if bt180.1 = 0 then ((spec_FormValid.f k bt176.1).bind fun t182 => (if t182 = true then ((spec_l91Same.f k t173 bt180.2 bt176.1).bind fun bt183 => (some (bt176.1, bt183.1))) else ((spec_l91Form.f k t173 bt180.2 3).bind fun bt187 => (some (bt176.1, bt187.1))))) else (if bt180.1 = 1 then ((some (([1, (-1)] : List Int) : List Int)).bind fun y191 => (if bt176.1.length + y191.length < 17592186044416 then ((spec_l91Form.f k t173 bt180.2 1).bind fun bt197 => (some ((bt176.1 ++ y191), bt197.1))) else (none))) else ((spec_l91Form.f k t173 bt180.2 3).bind fun bt201 => (some (bt176.1, bt201.1))))))) = some (r1, r2) := H
  have A2 := Aside0.mk A20
  clear A20
  replace H := Option.bind_eq_some_iff.mp H
  obtain ⟨⟨t176, t179⟩, A30, H⟩ := H
  replace H : ((spec_l6Rd_pick.f k t173 t179 3).bind fun bt180 => (if bt180.1 = 0 then ((spec_FormValid.f k t176).bind fun t182 => (if t182 = true then ((spec_l91Same.f k t173 bt180.2 t176).bind fun bt183 => (some (t176, bt183.1))) else ((spec_l91Form.f k t173 bt180.2 3).bind fun bt187 => (some (t176, bt187.1))))) else (if bt180.1 = 1 then ((some (([1, (-1)] : List Int) : List Int)).bind fun y191 => (if t176.length + y191.length < 17592186044416 then ((spec_l91Form.f k t173 bt180.2 1).bind fun bt197 => (some ((t176 ++ y191), bt197.1))) else (none))) else ((spec_l91Form.f k t173 bt180.2 3).bind fun bt201 => (some (t176, bt201.1)))))) = some (r1, r2) := H
  have A3 := Aside0.mk A30
  clear A30
  replace H := Option.bind_eq_some_iff.mp H
  obtain ⟨⟨t180, t181⟩, A40, H⟩ := H
  replace H : (if t180 = 0 then ((spec_FormValid.f k t176).bind fun t182 => (if t182 = true then ((spec_l91Same.f k t173 t181 t176).bind fun bt183 => (some (t176, bt183.1))) else ((spec_l91Form.f k t173 t181 3).bind fun bt187 => (some (t176, bt187.1))))) else (if t180 = 1 then ((some (([1, (-1)] : List Int) : List Int)).bind fun y191 => (if t176.length + y191.length < 17592186044416 then ((spec_l91Form.f k t173 t181 1).bind fun bt197 => (some ((t176 ++ y191), bt197.1))) else (none))) else ((spec_l91Form.f k t173 t181 3).bind fun bt201 => (some (t176, bt201.1))))) = some (r1, r2) := H
  have A4 := Aside0.mk A40
  clear A40
  by_cases c5 : t180 = 0
  · rw [if_pos c5] at H
    have c5b0 : (t180 == 0) = true := beq_iff_eq.mpr c5
    have c5b1 : (t180 != 0) = false := bne_eq_false_iff_eq.mpr c5
    clear c5
    replace H := Option.bind_eq_some_iff.mp H
    obtain ⟨t182, A60, H⟩ := H
    replace H : (if t182 = true then ((spec_l91Same.f k t173 t181 t176).bind fun bt183 => (some (t176, bt183.1))) else ((spec_l91Form.f k t173 t181 3).bind fun bt187 => (some (t176, bt187.1)))) = some (r1, r2) := H
    have A6 := Aside0.mk A60
    clear A60
    by_cases c7 : t182 = true
    · subst c7
      have H1 : ((spec_l91Same.f k t173 t181 t176).bind fun bt183 => (some (t176, bt183.1))) = some (r1, r2) := by rw [if_pos rfl] at H; exact H
      clear H
      have H := H1
      clear H1
      replace H := Option.bind_eq_some_iff.mp H
      obtain ⟨⟨t183, t186⟩, A80, H⟩ := H
      replace H : (some (t176, t183)) = some (r1, r2) := H
      have A8 := Aside0.mk A80
      clear A80
      simp only [Option.some.injEq, Prod.mk.injEq] at H
      obtain ⟨rfl, rfl⟩ := H
      go_enter Try.func54, Try.ntmps54
      go_wp2_with (first | ((with_reducible refine gate_callee (f := 67) rfl ?_); refine goesL_ (some 7) rfl rfl Try.func67 (by kernel_rfl) rfl #[.slice A0 l0.length c0] rfl Sqz.auM ?_; (with_reducible refine (spec_l6Open.calls _ _ l0 t173 t174 w _ ?side1 ?side2 ?side3 A2.out).mono ?_); (case side1 => repeat (first | (with_reducible first | exact HB.out | apply below_alloc | apply pw_below_drewN | apply below_drew1) | exact HB.out)); (case side2 => exact HR0.out); (case side3 => exact HC0.out); rintro e w9 ⟨g175, rfl, hi, hb, hb2⟩; refine ⟨_, rfl, ?_⟩; have n0_ := Aside0.mk (hb); have n1_ := Aside0.mk (hi); clear HB; have HB := n0_; have HI175 := n1_; clear n0_ n1_; (try clear hb); (try clear hb2); (try clear hk); (try clear hi)) | ((with_reducible refine gate_callee (f := 100) rfl ?_); refine goesL_ (some 9) rfl rfl Try.func100 (by kernel_rfl) rfl #[.pointer (some ⟨g175, 0, none⟩), .int .i64 2] rfl Sqz.auM ?_; (with_reducible refine (spec_l91Form.calls k g175 t173 t174 2 t176 t179 w _ ?side1 ?side2 A3.out).mono ?_); (case side1 => repeat (first | (with_reducible first | exact HI175.out | apply IsS74.alloc | apply IsS74.drewN | apply IsS74.drew | apply IsS74.set_1) | exact HI175.out)); (case side2 => repeat (first | (with_reducible first | exact HB.out | apply below_alloc | apply pw_below_drewN | apply below_drew1 | refine below_set ?_ (IsS74.ge HI175.out)) | exact HB.out)); rintro e w10 ⟨v177, rfl, ho0, hi, hb, hk⟩; refine ⟨_, rfl, ?_⟩; have n0_ := Aside0.mk (Kd.R_lower ho0 (below_size (by repeat (first | (with_reducible first | exact HB.out | apply below_alloc | apply pw_below_drewN | apply below_drew1 | refine below_set ?_ (IsS74.ge HI175.out)) | exact HB.out)))); have n1_ := Aside0.mk (hb); have n2_ := Aside0.mk (hi); clear HB; clear HI175; have HO178 := n0_; have HB := n1_; have HI175 := n2_; clear n0_ n1_ n2_; (try clear hb); (try clear hb2); (try clear hk); (try clear hi); (try clear ho0)) | ((with_reducible refine gate_callee (f := 90) rfl ?_); refine goesL_ (some 11) rfl rfl Try.func90 (by kernel_rfl) rfl #[.pointer (some ⟨g175, 0, none⟩), .int .i64 3] rfl Sqz.auM ?_; (with_reducible refine (spec_l6Rd_pick.calls k g175 t173 t179 3 t180 t181 w _ ?side1 ?side2 A4.out).mono ?_); (case side1 => repeat (first | (with_reducible first | exact HI175.out | apply IsS74.alloc | apply IsS74.drewN | apply IsS74.drew | apply IsS74.set_1) | exact HI175.out)); (case side2 => repeat (first | (with_reducible first | exact HB.out | apply below_alloc | apply pw_below_drewN | apply below_drew1 | refine below_set ?_ (IsS74.ge HI175.out)) | exact HB.out)); rintro e w11 ⟨rfl, hi, hb, hk⟩; refine ⟨_, rfl, ?_⟩; have n0_ := Aside0.mk (Kd.R_mono (Kd.R_keep (IsS74.apart (show IsS74 w _ g175 t173 t179 from by repeat (first | (with_reducible first | exact HI175.out | apply IsS74.alloc | apply IsS74.drewN | apply IsS74.drew | apply IsS74.set_1) | exact HI175.out)) ((Sqz.mvR HO178.out)) (by decide)) hk (fun _ h => h.2)) (fun _ h => h.1)); have n1_ := Aside0.mk (hb); have n2_ := Aside0.mk (hi); clear HO178; clear HB; clear HI175; have HO178 := n0_; have HB := n1_; have HI175 := n2_; clear n0_ n1_ n2_; (try clear hb); (try clear hb2); (try clear hk); (try clear hi); obtain ⟨Ao12, co12, eo12⟩ := Kd.R_slice HO178.out; subst eo12) | ((with_reducible refine gate_callee (f := 86) rfl ?_); refine goesL_ (some 15) rfl rfl Try.func86 (by kernel_rfl) rfl #[.slice Ao12 t176.length co12] rfl Sqz.auM ?_; (with_reducible refine (spec_FormValid.calls k _ _ t176 true _ ?side1 ?side2 A6.out).mono ?_); (case side1 => exact Sqz.mvC ((Kd.R_reads' HO178.out).2.2)); (case side2 => exact (Kd.R_reads' HO178.out).2.1); rintro e w' ⟨rfl, ⟨nd, rfl⟩⟩; refine ⟨_, rfl, ?_⟩) | ((with_reducible refine gate_callee (f := 105) rfl ?_); refine goesL_ (some 19) rfl rfl Try.func105 (by kernel_rfl) rfl #[.pointer (some ⟨g175, 0, none⟩), .slice Ao12 t176.length co12] rfl Sqz.auM ?_; (with_reducible refine (spec_l91Same.calls k g175 t173 t181 _ _ t176 t183 t186 w _ ?side1 ?side2 ?side3 ?side4 ?side5 A8.out).mono ?_); (case side1 => repeat (first | (with_reducible first | exact HI175.out | apply IsS74.alloc | apply IsS74.drewN | apply IsS74.drew | apply IsS74.set_1) | exact HI175.out)); (case side2 => repeat (first | (with_reducible first | exact HB.out | apply below_alloc | apply pw_below_drewN | apply below_drew1 | refine below_set ?_ (IsS74.ge HI175.out)) | exact HB.out)); (case side3 => exact Sqz.mvC ((Kd.R_reads' HO178.out).2.2)); (case side4 => exact (Kd.R_reads' HO178.out).2.1); (case side5 => exact far_slice (IsS74.own_ne HI175.out HO178.out (by decide))); rintro e w13 ⟨v184, rfl, ho0, hi, hb, hk⟩; refine ⟨_, rfl, ?_⟩; have n0_ := Aside0.mk (Kd.R_mono (Kd.R_told (Kd.R_oldK (IsS74.apart (show IsS74 w _ g175 t173 t181 from by repeat (first | (with_reducible first | exact HI175.out | apply IsS74.alloc | apply IsS74.drewN | apply IsS74.drew | apply IsS74.set_1) | exact HI175.out)) ((Sqz.mvR HO178.out)) (by decide)) hk) (Kd.R_base ho0)) (fun _ h_ => h_.1)); have n1_ := Aside0.mk (Kd.R_lower (Kd.R_new' ho0 (Kd.R_lt ((Sqz.mvR HO178.out)))) (below_size (by repeat (first | (with_reducible first | exact HB.out | apply below_alloc | apply pw_below_drewN | apply below_drew1 | refine below_set ?_ (IsS74.ge HI175.out)) | exact HB.out)))); have n2_ := Aside0.mk (hb); have n3_ := Aside0.mk (hi); clear HO178; clear HB; clear HI175; have HO178 := n0_; have HO185 := n1_; have HB := n2_; have HI175 := n3_; clear n0_ n1_ n2_ n3_; (try clear hb); (try clear hb2); (try clear hk); (try clear hi); (try clear ho0)))
      go_ret2
      exact ⟨_, _, Sqz.auR, (Sqz.mvR (Kd.R_mono HO178.out (fun _ hk => hk.2))), (Sqz.mvR (Kd.R_mono HO185.out (fun _ hk => hk.2))), by repeat (first | (with_reducible first | exact HB.out | apply below_alloc | apply pw_below_drewN | apply below_drew1 | refine below_set ?_ (IsS74.ge HI175.out)) | exact HB.out)⟩
    · replace c7 := Bool.eq_false_iff.mpr c7
      subst c7
      have H1 : ((spec_l91Form.f k t173 t181 3).bind fun bt187 => (some (t176, bt187.1))) = some (r1, r2) := by rw [if_neg (show ¬ (false = true) by decide)] at H; exact H
      clear H
      have H := H1
      clear H1
      replace H := Option.bind_eq_some_iff.mp H
      obtain ⟨⟨t187, t190⟩, A140, H⟩ := H
      replace H : (some (t176, t187)) = some (r1, r2) := H
      have A14 := Aside0.mk A140
      clear A140
      simp only [Option.some.injEq, Prod.mk.injEq] at H
      obtain ⟨rfl, rfl⟩ := H
      go_enter Try.func54, Try.ntmps54
      go_wp2_with (first | ((with_reducible refine gate_callee (f := 67) rfl ?_); refine goesL_ (some 7) rfl rfl Try.func67 (by kernel_rfl) rfl #[.slice A0 l0.length c0] rfl Sqz.auM ?_; (with_reducible refine (spec_l6Open.calls _ _ l0 t173 t174 w _ ?side1 ?side2 ?side3 A2.out).mono ?_); (case side1 => repeat (first | (with_reducible first | exact HB.out | apply below_alloc | apply pw_below_drewN | apply below_drew1) | exact HB.out)); (case side2 => exact HR0.out); (case side3 => exact HC0.out); rintro e w15 ⟨g175, rfl, hi, hb, hb2⟩; refine ⟨_, rfl, ?_⟩; have n0_ := Aside0.mk (hb); have n1_ := Aside0.mk (hi); clear HB; have HB := n0_; have HI175 := n1_; clear n0_ n1_; (try clear hb); (try clear hb2); (try clear hk); (try clear hi)) | ((with_reducible refine gate_callee (f := 100) rfl ?_); refine goesL_ (some 9) rfl rfl Try.func100 (by kernel_rfl) rfl #[.pointer (some ⟨g175, 0, none⟩), .int .i64 2] rfl Sqz.auM ?_; (with_reducible refine (spec_l91Form.calls k g175 t173 t174 2 t176 t179 w _ ?side1 ?side2 A3.out).mono ?_); (case side1 => repeat (first | (with_reducible first | exact HI175.out | apply IsS74.alloc | apply IsS74.drewN | apply IsS74.drew | apply IsS74.set_1) | exact HI175.out)); (case side2 => repeat (first | (with_reducible first | exact HB.out | apply below_alloc | apply pw_below_drewN | apply below_drew1 | refine below_set ?_ (IsS74.ge HI175.out)) | exact HB.out)); rintro e w16 ⟨v177, rfl, ho0, hi, hb, hk⟩; refine ⟨_, rfl, ?_⟩; have n0_ := Aside0.mk (Kd.R_lower ho0 (below_size (by repeat (first | (with_reducible first | exact HB.out | apply below_alloc | apply pw_below_drewN | apply below_drew1 | refine below_set ?_ (IsS74.ge HI175.out)) | exact HB.out)))); have n1_ := Aside0.mk (hb); have n2_ := Aside0.mk (hi); clear HB; clear HI175; have HO178 := n0_; have HB := n1_; have HI175 := n2_; clear n0_ n1_ n2_; (try clear hb); (try clear hb2); (try clear hk); (try clear hi); (try clear ho0)) | ((with_reducible refine gate_callee (f := 90) rfl ?_); refine goesL_ (some 11) rfl rfl Try.func90 (by kernel_rfl) rfl #[.pointer (some ⟨g175, 0, none⟩), .int .i64 3] rfl Sqz.auM ?_; (with_reducible refine (spec_l6Rd_pick.calls k g175 t173 t179 3 t180 t181 w _ ?side1 ?side2 A4.out).mono ?_); (case side1 => repeat (first | (with_reducible first | exact HI175.out | apply IsS74.alloc | apply IsS74.drewN | apply IsS74.drew | apply IsS74.set_1) | exact HI175.out)); (case side2 => repeat (first | (with_reducible first | exact HB.out | apply below_alloc | apply pw_below_drewN | apply below_drew1 | refine below_set ?_ (IsS74.ge HI175.out)) | exact HB.out)); rintro e w17 ⟨rfl, hi, hb, hk⟩; refine ⟨_, rfl, ?_⟩; have n0_ := Aside0.mk (Kd.R_mono (Kd.R_keep (IsS74.apart (show IsS74 w _ g175 t173 t179 from by repeat (first | (with_reducible first | exact HI175.out | apply IsS74.alloc | apply IsS74.drewN | apply IsS74.drew | apply IsS74.set_1) | exact HI175.out)) ((Sqz.mvR HO178.out)) (by decide)) hk (fun _ h => h.2)) (fun _ h => h.1)); have n1_ := Aside0.mk (hb); have n2_ := Aside0.mk (hi); clear HO178; clear HB; clear HI175; have HO178 := n0_; have HB := n1_; have HI175 := n2_; clear n0_ n1_ n2_; (try clear hb); (try clear hb2); (try clear hk); (try clear hi); obtain ⟨Ao18, co18, eo18⟩ := Kd.R_slice HO178.out; subst eo18) | ((with_reducible refine gate_callee (f := 86) rfl ?_); refine goesL_ (some 15) rfl rfl Try.func86 (by kernel_rfl) rfl #[.slice Ao18 t176.length co18] rfl Sqz.auM ?_; (with_reducible refine (spec_FormValid.calls k _ _ t176 false _ ?side1 ?side2 A6.out).mono ?_); (case side1 => exact Sqz.mvC ((Kd.R_reads' HO178.out).2.2)); (case side2 => exact (Kd.R_reads' HO178.out).2.1); rintro e w' ⟨rfl, ⟨nd, rfl⟩⟩; refine ⟨_, rfl, ?_⟩) | ((with_reducible refine gate_callee (f := 100) rfl ?_); refine goesL_ (some 29) rfl rfl Try.func100 (by kernel_rfl) rfl #[.pointer (some ⟨g175, 0, none⟩), .int .i64 3] rfl Sqz.auM ?_; (with_reducible refine (spec_l91Form.calls k g175 t173 t181 3 t187 t190 w _ ?side1 ?side2 A14.out).mono ?_); (case side1 => repeat (first | (with_reducible first | exact HI175.out | apply IsS74.alloc | apply IsS74.drewN | apply IsS74.drew | apply IsS74.set_1) | exact HI175.out)); (case side2 => repeat (first | (with_reducible first | exact HB.out | apply below_alloc | apply pw_below_drewN | apply below_drew1 | refine below_set ?_ (IsS74.ge HI175.out)) | exact HB.out)); rintro e w19 ⟨v188, rfl, ho0, hi, hb, hk⟩; refine ⟨_, rfl, ?_⟩; have n0_ := Aside0.mk (Kd.R_mono (Kd.R_told (Kd.R_oldK (IsS74.apart (show IsS74 w _ g175 t173 t181 from by repeat (first | (with_reducible first | exact HI175.out | apply IsS74.alloc | apply IsS74.drewN | apply IsS74.drew | apply IsS74.set_1) | exact HI175.out)) ((Sqz.mvR HO178.out)) (by decide)) hk) (Kd.R_base ho0)) (fun _ h_ => h_.1)); have n1_ := Aside0.mk (Kd.R_lower (Kd.R_new' ho0 (Kd.R_lt ((Sqz.mvR HO178.out)))) (below_size (by repeat (first | (with_reducible first | exact HB.out | apply below_alloc | apply pw_below_drewN | apply below_drew1 | refine below_set ?_ (IsS74.ge HI175.out)) | exact HB.out)))); have n2_ := Aside0.mk (hb); have n3_ := Aside0.mk (hi); clear HO178; clear HB; clear HI175; have HO178 := n0_; have HO189 := n1_; have HB := n2_; have HI175 := n3_; clear n0_ n1_ n2_ n3_; (try clear hb); (try clear hb2); (try clear hk); (try clear hi); (try clear ho0)))
      go_ret2
      exact ⟨_, _, Sqz.auR, (Sqz.mvR (Kd.R_mono HO178.out (fun _ hk => hk.2))), (Sqz.mvR (Kd.R_mono HO189.out (fun _ hk => hk.2))), by repeat (first | (with_reducible first | exact HB.out | apply below_alloc | apply pw_below_drewN | apply below_drew1 | refine below_set ?_ (IsS74.ge HI175.out)) | exact HB.out)⟩
  · rw [if_neg c5] at H
    have c5b0 : (t180 == 0) = false := beq_eq_false_iff_ne.mpr c5
    have c5b1 : (t180 != 0) = true := bne_iff_ne.mpr c5
    by_cases c20 : t180 = 1
    · rw [if_pos c20] at H
      have c20b0 : (t180 == 1) = true := beq_iff_eq.mpr c20
      have c20b1 : (t180 != 1) = false := bne_eq_false_iff_eq.mpr c20
      clear c20
      obtain ⟨y191, hy191⟩ : ∃ y_ : List Int, y_ = (([1, (-1)] : List Int)) := ⟨_, rfl⟩
      replace H : (if t176.length + y191.length < 17592186044416 then ((spec_l91Form.f k t173 t181 1).bind fun bt197 => (some ((t176 ++ y191), bt197.1))) else (none)) = some (r1, r2) := by first | (rw [hy191]; with_reducible exact H) | (have H2_ := (Option.bind_some _ _).symm.trans H; rw [hy191]; with_reducible exact H2_) | (have H2_ := (Option.bind_some _ _).symm.trans H; with_reducible exact H2_) | with_reducible exact H | (rw [hy191]; exact H) | exact H
      have Ny191 := Aside0.mk hy191
      clear hy191
      by_cases c21 : t176.length + y191.length < 17592186044416
      · rw [if_pos c21] at H
        have LMc21 := Aside0.mk c21
        clear c21
        obtain ⟨y194, hy194⟩ : ∃ y_ : List Int, y_ = (t176 ++ y191) := ⟨_, rfl⟩
        replace H : ((spec_l91Form.f k t173 t181 1).bind fun bt197 => (some (y194, bt197.1))) = some (r1, r2) := by first | (rw [hy194]; with_reducible exact H) | (have H2_ := (Option.bind_some _ _).symm.trans H; rw [hy194]; with_reducible exact H2_) | (have H2_ := (Option.bind_some _ _).symm.trans H; with_reducible exact H2_) | with_reducible exact H | (rw [hy194]; exact H) | exact H
        have Ny194 := Aside0.mk hy194
        clear hy194
        replace H := Option.bind_eq_some_iff.mp H
        obtain ⟨⟨t197, t200⟩, A220, H⟩ := H
        replace H : (some (y194, t197)) = some (r1, r2) := H
        have A22 := Aside0.mk A220
        clear A220
        simp only [Option.some.injEq, Prod.mk.injEq] at H
        obtain ⟨rfl, rfl⟩ := H
        go_enter Try.func54, Try.ntmps54
        go_wp2_with (first | ((with_reducible refine gate_callee (f := 67) rfl ?_); refine goesL_ (some 7) rfl rfl Try.func67 (by kernel_rfl) rfl #[.slice A0 l0.length c0] rfl Sqz.auM ?_; (with_reducible refine (spec_l6Open.calls _ _ l0 t173 t174 w _ ?side1 ?side2 ?side3 A2.out).mono ?_); (case side1 => repeat (first | (with_reducible first | exact HB.out | apply below_alloc | apply pw_below_drewN | apply below_drew1) | exact HB.out)); (case side2 => exact HR0.out); (case side3 => exact HC0.out); rintro e w23 ⟨g175, rfl, hi, hb, hb2⟩; refine ⟨_, rfl, ?_⟩; have n0_ := Aside0.mk (hb); have n1_ := Aside0.mk (hi); clear HB; have HB := n0_; have HI175 := n1_; clear n0_ n1_; (try clear hb); (try clear hb2); (try clear hk); (try clear hi)) | ((with_reducible refine gate_callee (f := 100) rfl ?_); refine goesL_ (some 9) rfl rfl Try.func100 (by kernel_rfl) rfl #[.pointer (some ⟨g175, 0, none⟩), .int .i64 2] rfl Sqz.auM ?_; (with_reducible refine (spec_l91Form.calls k g175 t173 t174 2 t176 t179 w _ ?side1 ?side2 A3.out).mono ?_); (case side1 => repeat (first | (with_reducible first | exact HI175.out | apply IsS74.alloc | apply IsS74.drewN | apply IsS74.drew | apply IsS74.set_1) | exact HI175.out)); (case side2 => repeat (first | (with_reducible first | exact HB.out | apply below_alloc | apply pw_below_drewN | apply below_drew1 | refine below_set ?_ (IsS74.ge HI175.out)) | exact HB.out)); rintro e w24 ⟨v177, rfl, ho0, hi, hb, hk⟩; refine ⟨_, rfl, ?_⟩; have n0_ := Aside0.mk (Kd.R_lower ho0 (below_size (by repeat (first | (with_reducible first | exact HB.out | apply below_alloc | apply pw_below_drewN | apply below_drew1 | refine below_set ?_ (IsS74.ge HI175.out)) | exact HB.out)))); have n1_ := Aside0.mk (hb); have n2_ := Aside0.mk (hi); clear HB; clear HI175; have HO178 := n0_; have HB := n1_; have HI175 := n2_; clear n0_ n1_ n2_; (try clear hb); (try clear hb2); (try clear hk); (try clear hi); (try clear ho0)) | ((with_reducible refine gate_callee (f := 90) rfl ?_); refine goesL_ (some 11) rfl rfl Try.func90 (by kernel_rfl) rfl #[.pointer (some ⟨g175, 0, none⟩), .int .i64 3] rfl Sqz.auM ?_; (with_reducible refine (spec_l6Rd_pick.calls k g175 t173 t179 3 t180 t181 w _ ?side1 ?side2 A4.out).mono ?_); (case side1 => repeat (first | (with_reducible first | exact HI175.out | apply IsS74.alloc | apply IsS74.drewN | apply IsS74.drew | apply IsS74.set_1) | exact HI175.out)); (case side2 => repeat (first | (with_reducible first | exact HB.out | apply below_alloc | apply pw_below_drewN | apply below_drew1 | refine below_set ?_ (IsS74.ge HI175.out)) | exact HB.out)); rintro e w25 ⟨rfl, hi, hb, hk⟩; refine ⟨_, rfl, ?_⟩; have n0_ := Aside0.mk (Kd.R_mono (Kd.R_keep (IsS74.apart (show IsS74 w _ g175 t173 t179 from by repeat (first | (with_reducible first | exact HI175.out | apply IsS74.alloc | apply IsS74.drewN | apply IsS74.drew | apply IsS74.set_1) | exact HI175.out)) ((Sqz.mvR HO178.out)) (by decide)) hk (fun _ h => h.2)) (fun _ h => h.1)); have n1_ := Aside0.mk (hb); have n2_ := Aside0.mk (hi); clear HO178; clear HB; clear HI175; have HO178 := n0_; have HB := n1_; have HI175 := n2_; clear n0_ n1_ n2_; (try clear hb); (try clear hb2); (try clear hk); (try clear hi)) | ((with_reducible refine gate_dst (N := 23) rfl ?_); refine Kd.R_lit (Kd.int .i64) _ 3 ?hg (N := 23) ?hd (xs := ([1, (-1)] : List Int)) (inner := [.int .i64 1, .int .i64 (-1)]) (ok := fun _ => True) (okp := fun _ => True) ?hr ?hp (fun _ hk => hk) trivial (Below.refl _ _) (Nat.le_refl _) (by simp) ?_; (case hd => rfl); (case hg => rfl); (case hr => first | (go_simp; done) | (go_simp; rfl)); (case hp => exact (Reps.one (show Kd.M (Kd.int .i64) _ _ _ 1 [.int .i64 1] from rfl) (Reps.one (show Kd.M (Kd.int .i64) _ _ _ (-1) [.int .i64 (-1)] from rfl) (Reps.none _ _)))); intro v192 w26 ho27 hb hg_ hnew_; clear hg_ hnew_; (first | rw [← Ny191.out] at ho27 | (simp only [Int.reduceToNat] at ho27; rw [← Ny191.out] at ho27)); have n0_ := Aside0.mk (Kd.R_elder' ((Sqz.mvR HO178.out)) (Kd.R_base ho27) hb); have n1_ := Aside0.mk (Kd.R_lower (Kd.R_new' ho27 (Kd.R_lt ((Sqz.mvR HO178.out)))) (below_size (by repeat (first | (with_reducible first | exact HB.out | apply below_alloc | apply pw_below_drewN | apply below_drew1 | refine below_set ?_ (IsS74.ge HI175.out)) | exact HB.out)))); have n2_ := Aside0.mk (IsS74.below (by repeat (first | (with_reducible first | exact HI175.out | apply IsS74.alloc | apply IsS74.drewN | apply IsS74.drew | apply IsS74.set_1) | exact HI175.out)) hb); have n3_ := Aside0.mk (below_step (by repeat (first | (with_reducible first | exact HB.out | apply below_alloc | apply pw_below_drewN | apply below_drew1 | refine below_set ?_ (IsS74.ge HI175.out)) | exact HB.out)) hb); clear HO178; clear HI175; clear HB; have HO178 := n0_; have HO193 := n1_; have HI175 := n2_; have HB := n3_; clear n0_ n1_ n2_ n3_; clear hb ho27; obtain ⟨Ao29, co29, eo29⟩ := Kd.R_slice HO193.out; subst eo29) | ((with_reducible refine gate_builtin (b := .append) (xs := #[.tmp 22, .tmp 23]) rfl ?_); at_builtin; refine Kd.R_append_rows (Kd.int .i64) (w0 := w) w.heap.size rfl (.tmp 22) (.tmp 23) 25 3 (.int .i64 0) 8 rfl Try.underlying25 info3 rfl (by decide) (by omega) v177 t176 y191 _ _ _ (fun k_ => some k_ ≠ (.slice Ao29 y191.length co29 : Value).ownBlock) (fun _ => False) rfl rfl ?aO ?aR (fun _ _ h => h) (fun _ h => h.elim) ?aF ?aB ?aS ?aL ?_; (case aR => exact Sqz.mvC ((Kd.R_reads' HO193.out).2.2)); (case aB => exact (by repeat (first | (with_reducible first | exact HB.out | apply below_alloc | apply pw_below_drewN | apply below_drew1 | refine below_set ?_ (IsS74.ge HI175.out)) | exact HB.out))); (case aF => exact (fun k_ hk => Kd.fresh' (Kd.R_lt ((Sqz.mvR HO193.out))) k_ hk)); (case aO => exact ((Sqz.mvR (Kd.R_mono HO178.out (fun _ hk => hk.2))))); (case aS => exact (below_size (by repeat (first | (with_reducible first | exact HB.out | apply below_alloc | apply pw_below_drewN | apply below_drew1 | refine below_set ?_ (IsS74.ge HI175.out)) | exact HB.out)))); (case aL => have := LMc21.out; omega); intro v195 w28 ho hb hg hat; rw [← Ny194.out] at ho; have n0_ := Aside0.mk (IsS74.grown (by repeat (first | (with_reducible first | exact HI175.out | apply IsS74.alloc | apply IsS74.drewN | apply IsS74.drew | apply IsS74.set_1) | exact HI175.out)) hg (IsS74.own_ne HI175.out HO178.out (by decide))); have n1_ := Aside0.mk (Kd.R_after (ok := (fun _ => True)) ((Sqz.mvR HO193.out)) hg hat); have n2_ := Aside0.mk (hb); have n3_ := Aside0.mk (ho); clear HI175; clear HO193; clear HB; clear HO178; have HI175 := n0_; have HO193 := n1_; have HB := n2_; have HO196 := n3_; clear n0_ n1_ n2_ n3_; clear ho hb hg hat) | ((with_reducible refine gate_callee (f := 100) rfl ?_); refine goesL_ (some 26) rfl rfl Try.func100 (by kernel_rfl) rfl #[.pointer (some ⟨g175, 0, none⟩), .int .i64 1] rfl Sqz.auM ?_; (with_reducible refine (spec_l91Form.calls k g175 t173 t181 1 t197 t200 w _ ?side1 ?side2 A22.out).mono ?_); (case side1 => repeat (first | (with_reducible first | exact HI175.out | apply IsS74.alloc | apply IsS74.drewN | apply IsS74.drew | apply IsS74.set_1) | exact HI175.out)); (case side2 => repeat (first | (with_reducible first | exact HB.out | apply below_alloc | apply pw_below_drewN | apply below_drew1 | refine below_set ?_ (IsS74.ge HI175.out)) | exact HB.out)); rintro e w30 ⟨v198, rfl, ho0, hi, hb, hk⟩; refine ⟨_, rfl, ?_⟩; have n0_ := Aside0.mk (Kd.R_mono (Kd.R_told (Kd.R_oldK (IsS74.apart (show IsS74 w _ g175 t173 t181 from by repeat (first | (with_reducible first | exact HI175.out | apply IsS74.alloc | apply IsS74.drewN | apply IsS74.drew | apply IsS74.set_1) | exact HI175.out)) ((Sqz.mvR HO193.out)) (by decide)) hk) (Kd.R_base ho0)) (fun _ h_ => h_.1)); have n1_ := Aside0.mk (Kd.R_mono (Kd.R_told (Kd.R_oldK (IsS74.apart (show IsS74 w _ g175 t173 t181 from by repeat (first | (with_reducible first | exact HI175.out | apply IsS74.alloc | apply IsS74.drewN | apply IsS74.drew | apply IsS74.set_1) | exact HI175.out)) ((Sqz.mvR HO196.out)) (by decide)) hk) (Kd.R_base ho0)) (fun _ h_ => h_.1)); have n2_ := Aside0.mk (Kd.R_lower (Kd.R_new' (Kd.R_new' ho0 (Kd.R_lt ((Sqz.mvR HO193.out)))) (Kd.R_lt ((Sqz.mvR HO196.out)))) (below_size (by repeat (first | (with_reducible first | exact HB.out | apply below_alloc | apply pw_below_drewN | apply below_drew1 | refine below_set ?_ (IsS74.ge HI175.out)) | exact HB.out)))); have n3_ := Aside0.mk (hb); have n4_ := Aside0.mk (hi); clear HO193; clear HO196; clear HB; clear HI175; have HO193 := n0_; have HO196 := n1_; have HO199 := n2_; have HB := n3_; have HI175 := n4_; clear n0_ n1_ n2_ n3_ n4_; (try clear hb); (try clear hb2); (try clear hk); (try clear hi); (try clear ho0)))
        go_ret2
        exact ⟨_, _, Sqz.auR, (Sqz.mvR (Kd.R_mono HO196.out (fun _ hk => hk.2))), (Sqz.mvR (Kd.R_mono HO199.out (fun _ hk => hk.2))), by repeat (first | (with_reducible first | exact HB.out | apply below_alloc | apply pw_below_drewN | apply below_drew1 | refine below_set ?_ (IsS74.ge HI175.out)) | exact HB.out)⟩
      · rw [if_neg c21] at H
        exact absurd H (by simp)
    · rw [if_neg c20] at H
      have c20b0 : (t180 == 1) = false := beq_eq_false_iff_ne.mpr c20
      have c20b1 : (t180 != 1) = true := bne_iff_ne.mpr c20
      replace H := Option.bind_eq_some_iff.mp H
      obtain ⟨⟨t201, t204⟩, A310, H⟩ := H
      replace H : (some (t176, t201)) = some (r1, r2) := H
      have A31 := Aside0.mk A310
      clear A310
      simp only [Option.some.injEq, Prod.mk.injEq] at H
      obtain ⟨rfl, rfl⟩ := H
      go_enter Try.func54, Try.ntmps54
      go_wp2_with (first | ((with_reducible refine gate_callee (f := 67) rfl ?_); refine goesL_ (some 7) rfl rfl Try.func67 (by kernel_rfl) rfl #[.slice A0 l0.length c0] rfl Sqz.auM ?_; (with_reducible refine (spec_l6Open.calls _ _ l0 t173 t174 w _ ?side1 ?side2 ?side3 A2.out).mono ?_); (case side1 => repeat (first | (with_reducible first | exact HB.out | apply below_alloc | apply pw_below_drewN | apply below_drew1) | exact HB.out)); (case side2 => exact HR0.out); (case side3 => exact HC0.out); rintro e w32 ⟨g175, rfl, hi, hb, hb2⟩; refine ⟨_, rfl, ?_⟩; have n0_ := Aside0.mk (hb); have n1_ := Aside0.mk (hi); clear HB; have HB := n0_; have HI175 := n1_; clear n0_ n1_; (try clear hb); (try clear hb2); (try clear hk); (try clear hi)) | ((with_reducible refine gate_callee (f := 100) rfl ?_); refine goesL_ (some 9) rfl rfl Try.func100 (by kernel_rfl) rfl #[.pointer (some ⟨g175, 0, none⟩), .int .i64 2] rfl Sqz.auM ?_; (with_reducible refine (spec_l91Form.calls k g175 t173 t174 2 t176 t179 w _ ?side1 ?side2 A3.out).mono ?_); (case side1 => repeat (first | (with_reducible first | exact HI175.out | apply IsS74.alloc | apply IsS74.drewN | apply IsS74.drew | apply IsS74.set_1) | exact HI175.out)); (case side2 => repeat (first | (with_reducible first | exact HB.out | apply below_alloc | apply pw_below_drewN | apply below_drew1 | refine below_set ?_ (IsS74.ge HI175.out)) | exact HB.out)); rintro e w33 ⟨v177, rfl, ho0, hi, hb, hk⟩; refine ⟨_, rfl, ?_⟩; have n0_ := Aside0.mk (Kd.R_lower ho0 (below_size (by repeat (first | (with_reducible first | exact HB.out | apply below_alloc | apply pw_below_drewN | apply below_drew1 | refine below_set ?_ (IsS74.ge HI175.out)) | exact HB.out)))); have n1_ := Aside0.mk (hb); have n2_ := Aside0.mk (hi); clear HB; clear HI175; have HO178 := n0_; have HB := n1_; have HI175 := n2_; clear n0_ n1_ n2_; (try clear hb); (try clear hb2); (try clear hk); (try clear hi); (try clear ho0)) | ((with_reducible refine gate_callee (f := 90) rfl ?_); refine goesL_ (some 11) rfl rfl Try.func90 (by kernel_rfl) rfl #[.pointer (some ⟨g175, 0, none⟩), .int .i64 3] rfl Sqz.auM ?_; (with_reducible refine (spec_l6Rd_pick.calls k g175 t173 t179 3 t180 t181 w _ ?side1 ?side2 A4.out).mono ?_); (case side1 => repeat (first | (with_reducible first | exact HI175.out | apply IsS74.alloc | apply IsS74.drewN | apply IsS74.drew | apply IsS74.set_1) | exact HI175.out)); (case side2 => repeat (first | (with_reducible first | exact HB.out | apply below_alloc | apply pw_below_drewN | apply below_drew1 | refine below_set ?_ (IsS74.ge HI175.out)) | exact HB.out)); rintro e w34 ⟨rfl, hi, hb, hk⟩; refine ⟨_, rfl, ?_⟩; have n0_ := Aside0.mk (Kd.R_mono (Kd.R_keep (IsS74.apart (show IsS74 w _ g175 t173 t179 from by repeat (first | (with_reducible first | exact HI175.out | apply IsS74.alloc | apply IsS74.drewN | apply IsS74.drew | apply IsS74.set_1) | exact HI175.out)) ((Sqz.mvR HO178.out)) (by decide)) hk (fun _ h => h.2)) (fun _ h => h.1)); have n1_ := Aside0.mk (hb); have n2_ := Aside0.mk (hi); clear HO178; clear HB; clear HI175; have HO178 := n0_; have HB := n1_; have HI175 := n2_; clear n0_ n1_ n2_; (try clear hb); (try clear hb2); (try clear hk); (try clear hi)) | ((with_reducible refine gate_callee (f := 100) rfl ?_); refine goesL_ (some 29) rfl rfl Try.func100 (by kernel_rfl) rfl #[.pointer (some ⟨g175, 0, none⟩), .int .i64 3] rfl Sqz.auM ?_; (with_reducible refine (spec_l91Form.calls k g175 t173 t181 3 t201 t204 w _ ?side1 ?side2 A31.out).mono ?_); (case side1 => repeat (first | (with_reducible first | exact HI175.out | apply IsS74.alloc | apply IsS74.drewN | apply IsS74.drew | apply IsS74.set_1) | exact HI175.out)); (case side2 => repeat (first | (with_reducible first | exact HB.out | apply below_alloc | apply pw_below_drewN | apply below_drew1 | refine below_set ?_ (IsS74.ge HI175.out)) | exact HB.out)); rintro e w35 ⟨v202, rfl, ho0, hi, hb, hk⟩; refine ⟨_, rfl, ?_⟩; have n0_ := Aside0.mk (Kd.R_mono (Kd.R_told (Kd.R_oldK (IsS74.apart (show IsS74 w _ g175 t173 t181 from by repeat (first | (with_reducible first | exact HI175.out | apply IsS74.alloc | apply IsS74.drewN | apply IsS74.drew | apply IsS74.set_1) | exact HI175.out)) ((Sqz.mvR HO178.out)) (by decide)) hk) (Kd.R_base ho0)) (fun _ h_ => h_.1)); have n1_ := Aside0.mk (Kd.R_lower (Kd.R_new' ho0 (Kd.R_lt ((Sqz.mvR HO178.out)))) (below_size (by repeat (first | (with_reducible first | exact HB.out | apply below_alloc | apply pw_below_drewN | apply below_drew1 | refine below_set ?_ (IsS74.ge HI175.out)) | exact HB.out)))); have n2_ := Aside0.mk (hb); have n3_ := Aside0.mk (hi); clear HO178; clear HB; clear HI175; have HO178 := n0_; have HO203 := n1_; have HB := n2_; have HI175 := n3_; clear n0_ n1_ n2_ n3_; (try clear hb); (try clear hb2); (try clear hk); (try clear hi); (try clear ho0)))
      go_ret2
      exact ⟨_, _, Sqz.auR, (Sqz.mvR (Kd.R_mono HO178.out (fun _ hk => hk.2))), (Sqz.mvR (Kd.R_mono HO203.out (fun _ hk => hk.2))), by repeat (first | (with_reducible first | exact HB.out | apply below_alloc | apply pw_below_drewN | apply below_drew1 | refine below_set ?_ (IsS74.ge HI175.out)) | exact HB.out)⟩

/-! ### impl_size: function 72 -/
def impl_size.f (a0 : Int) : Option (Int) := some (mx a0 (wrap64 (-a0)))
set_option maxHeartbeats 8000000 in
set_option maxRecDepth 100000 in
theorem impl_size.calls (a0 : Int) (r : Int) (w : World) (h : impl_size.f a0 = some r) :
    Calls Try.prog 72 #[.int .i64 a0] w fun e w' => e = .returned (.int .i64 r) ∧ Below w.heap.size w w' := by
  have HB := Aside0.mk (Below.refl w.heap.size w)
  have H : (some (mx a0 (wrap64 (-a0)))) = some r := h
  clear h
  obtain ⟨ji2, hji2⟩ : ∃ j_ : Int, (mx a0 (wrap64 (-a0))) = j_ := ⟨_, rfl⟩
  replace H : (some ji2) = some r := by first | (rw [hji2] at H; exact H) | (simp only [hji2] at H ⊢; exact H)
  have hji2_ : (if a0 < (wrap64 (-a0)) then (wrap64 (-a0)) else a0) = ji2 := hji2
  obtain rfl := Option.some.inj H
  go_enter Try.func72, Try.ntmps72
  go_wp2
  go_ret
  exact ⟨by first | rfl | (simp [errW_none, errW_some] <;> rfl) | (simp only [← hji2]; first | rfl | (simp [errW_none, errW_some] <;> rfl)) | (simp [*, errW_none, errW_some] <;> rfl), Sqz.auHB⟩

/-! ### impl_FormValid: function 20 -/
def impl_FormValid.l0 : Nat → List Int → List Int → Int → Int → Option (Bool)
  | 0, _, _, _, _ => none
  | k + 1, x0, x5, x6, x7 => if x7 < x6 then (if 0 ≤ x7 then (if x7 < (x5.length : Int) then (if (rd x5 x7) = 0 then (some false) else ((impl_size.f (rd x5 x7)).bind fun t206 => (if t206 > 30 then (some false) else (impl_FormValid.l0 k x0 x5 x6 (wrap64 (x7 + 1)))))) else (none)) else (none)) else (if (x0.length : Int) ≥ 1 then (some (decide ((x0.length : Int) ≤ 4))) else (some false))
def impl_FormValid.f (k : Nat) (l0 : List Int) : Option (Bool) := impl_FormValid.l0 k l0 l0 (l0.length : Int) 0
set_option maxHeartbeats 8000000 in
set_option maxRecDepth 100000 in
theorem impl_FormValid.calls (k : Nat) (A0 : Option Addr) (c0 : Nat) (l0 : List Int) (r : Bool) (w : World) (hr0 : Kd.C (Kd.int .i64) w A0 l0.length l0) (hc0 : l0.length ≤ c0) (h : impl_FormValid.f k l0 = some r) :
    Calls Try.prog 20 #[.slice A0 l0.length c0] w fun e w' => e = .returned (.bool r) ∧ Below w.heap.size w w' := by
  have HR0 := Aside0.mk hr0
  have HC0 := Aside0.mk hc0
  clear hr0 hc0
  have HB := Aside0.mk (Below.refl w.heap.size w)
  have H : (impl_FormValid.l0 k l0 l0 (l0.length : Int) 0) = some r := h
  clear h
  have H' := Aside0.mk H
  clear H
  go_enter Try.func20, Try.ntmps20
  go_wp2
  go_loopg [7] k (fun kq v7 w' => ∃ (x7_1 : Int), v7 = .int .i64 x7_1 ∧ Aside0 (impl_FormValid.l0 kq l0 l0 (l0.length : Int) x7_1 = some r) ∧ Aside0 (kq ≤ k) ∧ Aside0 (Below w.heap.size w w'))
  case atStart => exact ⟨(0), Sqz.auS, H', ⟨Nat.le_refl _⟩, ⟨Sqz.auHB⟩⟩
  case round =>
    clear H'
    obtain ⟨x7_1, rfl, HA, HK1, HB⟩ := hrel
    cases gk with
    | zero => exact absurd HA.out (by simp [impl_FormValid.l0])
    | succ k1 =>
      have H := HA.out
      clear HA
      simp only [impl_FormValid.l0] at H
      by_cases c2 : x7_1 < (l0.length : Int)
      · rw [if_pos c2] at H
        have c2b0 : decide (x7_1 < (l0.length : Int)) = true := decide_eq_true c2
        clear c2
        by_cases c3 : 0 ≤ x7_1
        · rw [if_pos c3] at H
          have c3b0 : decide (0 ≤ x7_1) = true := decide_eq_true c3
          clear c3
          by_cases c4 : x7_1 < (l0.length : Int)
          · rw [if_pos c4] at H
            have c4b0 : decide (x7_1 < (l0.length : Int)) = true := decide_eq_true c4
            clear c4
            by_cases c5 : (rd l0 x7_1) = 0
            · rw [if_pos c5] at H
              have c5b0 : ((rd l0 x7_1) == 0) = true := beq_iff_eq.mpr c5
              have c5b1 : ((rd l0 x7_1) != 0) = false := bne_eq_false_iff_eq.mpr c5
              clear c5
              obtain rfl := Option.some.inj H
              have p205 : 0 ≤ (x7_1 : Int) := of_decide_eq_true (by first | (with_reducible assumption) | assumption)
              have q205 : x7_1 < (l0.length : Int) := of_decide_eq_true (by first | (with_reducible assumption) | assumption)
              obtain ⟨ad205, e205, hx205_0⟩ := Kd.at_int HR0.out x7_1 p205 q205
              cases e205
              replace hx205_0 := (HB.out.cell (World.block_lt_of_cell? w _ hx205_0)).trans hx205_0
              replace p205 := eq_true p205
              replace q205 := eq_true q205
              go_wp2
              go_ret
              exact ⟨Sqz.auR, Sqz.auHB⟩
            · rw [if_neg c5] at H
              have c5b0 : ((rd l0 x7_1) == 0) = false := beq_eq_false_iff_ne.mpr c5
              have c5b1 : ((rd l0 x7_1) != 0) = true := bne_iff_ne.mpr c5
              replace H := Option.bind_eq_some_iff.mp H
              obtain ⟨t206, A60, H⟩ := H
              replace H : (if t206 > 30 then (some false) else (impl_FormValid.l0 k1 l0 l0 (l0.length : Int) (wrap64 (x7_1 + 1)))) = some r := H
              have A6 := Aside0.mk A60
              clear A60
              by_cases c7 : t206 > 30
              · rw [if_pos c7] at H
                have c7b0 : decide (30 < t206) = true := decide_eq_true c7
                clear c7
                obtain rfl := Option.some.inj H
                have p205 : 0 ≤ (x7_1 : Int) := of_decide_eq_true (by first | (with_reducible assumption) | assumption)
                have q205 : x7_1 < (l0.length : Int) := of_decide_eq_true (by first | (with_reducible assumption) | assumption)
                obtain ⟨ad205, e205, hx205_0⟩ := Kd.at_int HR0.out x7_1 p205 q205
                cases e205
                replace hx205_0 := (HB.out.cell (World.block_lt_of_cell? w _ hx205_0)).trans hx205_0
                replace p205 := eq_true p205
                replace q205 := eq_true q205
                go_wp2_with (first | (go_at_call 72; (with_reducible refine (impl_size.calls (rd l0 x7_1) t206 _ A6.out).mono ?_); rintro e w8 ⟨rfl, hb⟩; have n0_ := Aside0.mk (below_step (Sqz.auHB) hb); clear HB; have HB := n0_; clear n0_; (try clear hb); (try clear hb2); (try clear hk); (try clear hi)))
                go_ret
                exact ⟨Sqz.auR, Sqz.auHB⟩
              · rw [if_neg c7] at H
                have c7b0 : decide (30 < t206) = false := decide_eq_false c7
                clear c7
                have H' := Aside0.mk H
                clear H
                have p205 : 0 ≤ (x7_1 : Int) := of_decide_eq_true (by first | (with_reducible assumption) | assumption)
                have q205 : x7_1 < (l0.length : Int) := of_decide_eq_true (by first | (with_reducible assumption) | assumption)
                obtain ⟨ad205, e205, hx205_0⟩ := Kd.at_int HR0.out x7_1 p205 q205
                cases e205
                replace hx205_0 := (HB.out.cell (World.block_lt_of_cell? w _ hx205_0)).trans hx205_0
                replace p205 := eq_true p205
                replace q205 := eq_true q205
                go_wp2_with (first | (go_at_call 72; (with_reducible refine (impl_size.calls (rd l0 x7_1) t206 _ A6.out).mono ?_); rintro e w9 ⟨rfl, hb⟩; have n0_ := Aside0.mk (below_step (Sqz.auHB) hb); clear HB; have HB := n0_; clear n0_; (try clear hb); (try clear hb2); (try clear hk); (try clear hi)))
                go_roundg k1
                case measure => have := HK1.out; omega
                case rel => exact ⟨(wrap64 (x7_1 + 1)), Sqz.auS, H', ⟨by have := HK1.out; omega⟩, ⟨Sqz.auHB⟩⟩
          · rw [if_neg c4] at H
            exact absurd H (by simp)
        · rw [if_neg c3] at H
          exact absurd H (by simp)
      · rw [if_neg c2] at H
        have c2b0 : decide (x7_1 < (l0.length : Int)) = false := decide_eq_false c2
        clear c2
        by_cases c10 : (l0.length : Int) ≥ 1
        · rw [if_pos c10] at H
          have c10b0 : decide (1 ≤ (l0.length : Int)) = true := decide_eq_true c10
          have c10b1 : decide (1 ≤ l0.length) = true := decide_eq_true (by omega)
          clear c10
          obtain rfl := Option.some.inj H
          go_wp2
          go_ret
          exact ⟨Sqz.auR, Sqz.auHB⟩
        · rw [if_neg c10] at H
          have c10b0 : decide (1 ≤ (l0.length : Int)) = false := decide_eq_false c10
          have c10b1 : decide (1 ≤ l0.length) = false := decide_eq_false (by omega)
          clear c10
          obtain rfl := Option.some.inj H
          go_wp2
          go_ret
          exact ⟨Sqz.auR, Sqz.auHB⟩

/-! ### impl_split: function 112 -/
def impl_split.l0 : Nat → Int → Int → Int → Option (Int × Int)
  | 0, _, _, _ => none
  | k + 1, x0, x1, x6 => if x1 = 0 then (none) else (if (Int.tmod x0 x1) = 0 then (impl_split.l0 k (wrap64 (Int.tdiv x0 x1)) x1 (wrap64 (x6 + 1))) else (some (x6, x0)))
def impl_split.f (k : Nat) (a0 : Int) (a1 : Int) : Option (Int × Int) := impl_split.l0 k a0 a1 0
set_option maxHeartbeats 8000000 in
set_option maxRecDepth 100000 in
theorem impl_split.calls (k : Nat) (a0 : Int) (a1 : Int) (r1 : Int) (r2 : Int) (w : World) (h : impl_split.f k a0 a1 = some (r1, r2)) :
    Calls Try.prog 112 #[.int .i64 a0, .int .i64 a1] w fun e w' => e = .returned (.tuple #[.int .i64 r1, .int .i64 r2]) ∧ Drawn0 w w' := by
  have H : (impl_split.l0 k a0 a1 0) = some (r1, r2) := h
  clear h
  have H' := Aside0.mk H
  clear H
  go_enter Try.func112, Try.ntmps112
  go_wp2
  go_loopg [0, 6] k (fun kq v0 v6 w' => ∃ (x0_1 : Int) (x6_1 : Int), v0 = .int .i64 x0_1 ∧ v6 = .int .i64 x6_1 ∧ Aside0 (impl_split.l0 kq x0_1 a1 x6_1 = some (r1, r2)) ∧ Aside0 (kq ≤ k) ∧ Drawn0 w w')
  case atStart => exact ⟨(a0), (0), Sqz.auS, Sqz.auS, H', ⟨Nat.le_refl _⟩, by repeat (first | exact Drawn0.refl _ | apply Drawn0.step)⟩
  case round =>
    clear H'
    try clear c1
    try clear p2
    obtain ⟨x0_1, x6_1, rfl, rfl, HA, HK1, ⟨m1, rfl⟩⟩ := hrel
    cases gk with
    | zero => exact absurd HA.out (by simp [impl_split.l0])
    | succ k1 =>
      have H := HA.out
      clear HA
      simp only [impl_split.l0] at H
      by_cases c3 : a1 = 0
      · rw [if_pos c3] at H
        exact absurd H (by simp)
      · rw [if_neg c3] at H
        have c3b0 : (a1 == 0) = false := beq_eq_false_iff_ne.mpr c3
        have c3b1 : (a1 != 0) = true := bne_iff_ne.mpr c3
        by_cases c4 : (Int.tmod x0_1 a1) = 0
        · rw [if_pos c4] at H
          have c4b0 : ((Int.tmod x0_1 a1) == 0) = true := beq_iff_eq.mpr c4
          have c4b1 : ((Int.tmod x0_1 a1) != 0) = false := bne_eq_false_iff_eq.mpr c4
          clear c4
          have H' := Aside0.mk H
          clear H
          go_wp2
          go_roundg k1
          case measure => have := HK1.out; omega
          case rel => exact ⟨(wrap64 (Int.tdiv x0_1 a1)), (wrap64 (x6_1 + 1)), Sqz.auS, Sqz.auS, H', ⟨by have := HK1.out; omega⟩, by repeat (first | exact Drawn0.refl _ | apply Drawn0.step)⟩
        · rw [if_neg c4] at H
          have c4b0 : ((Int.tmod x0_1 a1) == 0) = false := beq_eq_false_iff_ne.mpr c4
          have c4b1 : ((Int.tmod x0_1 a1) != 0) = true := bne_iff_ne.mpr c4
          simp only [Option.some.injEq, Prod.mk.injEq] at H
          obtain ⟨rfl, rfl⟩ := H
          go_wp2
          go_ret2
          exact ⟨Sqz.auS, by repeat (first | exact Drawn0.refl _ | apply Drawn0.step)⟩

/-! ### impl_rest: function 134 -/
def impl_rest.f (a0 : Int) (a1 : Int) : Option (Int) := if a1 = 0 then (none) else (some (Int.tmod (wrap64 ((Int.tmod a0 a1) + a1)) a1))
set_option maxHeartbeats 8000000 in
set_option maxRecDepth 100000 in
theorem impl_rest.calls (a0 : Int) (a1 : Int) (r : Int) (w : World) (h : impl_rest.f a0 a1 = some r) :
    Calls Try.prog 134 #[.int .i64 a0, .int .i64 a1] w fun e w' => e = .returned (.int .i64 r) ∧ Drawn0 w w' := by
  have H : (if a1 = 0 then (none) else (some (Int.tmod (wrap64 ((Int.tmod a0 a1) + a1)) a1))) = some r := h
  clear h
  by_cases c3 : a1 = 0
  · rw [if_pos c3] at H
    exact absurd H (by simp)
  · rw [if_neg c3] at H
    have c3b0 : (a1 == 0) = false := beq_eq_false_iff_ne.mpr c3
    have c3b1 : (a1 != 0) = true := bne_iff_ne.mpr c3
    obtain rfl := Option.some.inj H
    go_enter Try.func134, Try.ntmps134
    go_wp2
    go_ret
    exact ⟨Sqz.auS, by repeat (first | exact Drawn0.refl _ | apply Drawn0.step)⟩

/-! ### impl_residue: function 135 -/
def impl_residue.l0 : Nat → Int → Int → Int → Option (Int)
  | 0, _, _, _ => none
  | k + 1, x1, x5, x6 => if x6 ≤ (wrap64 (Int.tdiv x1 2)) then (if x1 = 0 then (none) else (if (Int.tmod (wrap64 (x6 * x6)) x1) = x5 then (some 1) else (impl_residue.l0 k x1 x5 (wrap64 (x6 + 1))))) else (some (-1))
def impl_residue.f (k : Nat) (a0 : Int) (a1 : Int) : Option (Int) := (impl_rest.f a0 a1).bind fun t207 => (if t207 = 0 then (some 0) else (impl_residue.l0 k a1 t207 1))
set_option maxHeartbeats 8000000 in
set_option maxRecDepth 100000 in
theorem impl_residue.calls (k : Nat) (a0 : Int) (a1 : Int) (r : Int) (w : World) (h : impl_residue.f k a0 a1 = some r) :
    Calls Try.prog 135 #[.int .i64 a0, .int .i64 a1] w fun e w' => e = .returned (.int .i64 r) ∧ Drawn0 w w' := by
  have H : ((impl_rest.f a0 a1).bind fun t207 => (if t207 = 0 then (some 0) else (impl_residue.l0 k a1 t207 1))) = some r := h
  clear h
  replace H := Option.bind_eq_some_iff.mp H
  obtain ⟨t207, A30, H⟩ := H
  replace H : (if t207 = 0 then (some 0) else (impl_residue.l0 k a1 t207 1)) = some r := H
  have A3 := Aside0.mk A30
  clear A30
  by_cases c4 : t207 = 0
  · rw [if_pos c4] at H
    have c4b0 : (t207 == 0) = true := beq_iff_eq.mpr c4
    have c4b1 : (t207 != 0) = false := bne_eq_false_iff_eq.mpr c4
    clear c4
    obtain rfl := Option.some.inj H
    go_enter Try.func135, Try.ntmps135
    go_wp2_with (first | ((with_reducible refine gate_callee (f := 134) rfl ?_); refine goesL_ (some 9) rfl rfl Try.func134 (by kernel_rfl) rfl #[.int .i64 a0, .int .i64 a1] rfl Sqz.auM ?_; (with_reducible refine (impl_rest.calls a0 a1 t207 _ A3.out).mono ?_); rintro e w' ⟨rfl, ⟨nd, rfl⟩⟩; refine ⟨_, rfl, ?_⟩))
    go_ret
    exact ⟨Sqz.auS, by repeat (first | exact Drawn0.refl _ | apply Drawn0.step)⟩
  · rw [if_neg c4] at H
    have c4b0 : (t207 == 0) = false := beq_eq_false_iff_ne.mpr c4
    have c4b1 : (t207 != 0) = true := bne_iff_ne.mpr c4
    have H' := Aside0.mk H
    clear H
    go_enter Try.func135, Try.ntmps135
    go_wp2_with (first | ((with_reducible refine gate_callee (f := 134) rfl ?_); refine goesL_ (some 9) rfl rfl Try.func134 (by kernel_rfl) rfl #[.int .i64 a0, .int .i64 a1] rfl Sqz.auM ?_; (with_reducible refine (impl_rest.calls a0 a1 t207 _ A3.out).mono ?_); rintro e w' ⟨rfl, ⟨nd, rfl⟩⟩; refine ⟨_, rfl, ?_⟩))
    go_loopg [6] k (fun kq v6 w' => ∃ (x6_1 : Int), v6 = .int .i64 x6_1 ∧ Aside0 (impl_residue.l0 kq a1 t207 x6_1 = some r) ∧ Aside0 (kq ≤ k) ∧ Drawn0 w w')
    case atStart => exact ⟨(1), Sqz.auS, H', ⟨Nat.le_refl _⟩, by repeat (first | exact Drawn0.refl _ | apply Drawn0.step)⟩
    case round =>
      clear H'
      try clear c1
      try clear p2
      try clear c4
      try clear c4b0
      try clear c4b1
      obtain ⟨x6_1, rfl, HA, HK1, ⟨m1, rfl⟩⟩ := hrel
      cases gk with
      | zero => exact absurd HA.out (by simp [impl_residue.l0])
      | succ k1 =>
        have H := HA.out
        clear HA
        simp only [impl_residue.l0] at H
        by_cases c5 : x6_1 ≤ (wrap64 (Int.tdiv a1 2))
        · rw [if_pos c5] at H
          have c5b0 : decide (x6_1 ≤ (wrap64 (Int.tdiv a1 2))) = true := decide_eq_true c5
          clear c5
          by_cases c6 : a1 = 0
          · rw [if_pos c6] at H
            exact absurd H (by simp)
          · rw [if_neg c6] at H
            have c6b0 : (a1 == 0) = false := beq_eq_false_iff_ne.mpr c6
            have c6b1 : (a1 != 0) = true := bne_iff_ne.mpr c6
            by_cases c7 : (Int.tmod (wrap64 (x6_1 * x6_1)) a1) = t207
            · rw [if_pos c7] at H
              have c7b0 : ((Int.tmod (wrap64 (x6_1 * x6_1)) a1) == t207) = true := beq_iff_eq.mpr c7
              have c7b1 : ((Int.tmod (wrap64 (x6_1 * x6_1)) a1) != t207) = false := bne_eq_false_iff_eq.mpr c7
              clear c7
              obtain rfl := Option.some.inj H
              go_wp2
              go_ret
              exact ⟨Sqz.auS, by repeat (first | exact Drawn0.refl _ | apply Drawn0.step)⟩
            · rw [if_neg c7] at H
              have c7b0 : ((Int.tmod (wrap64 (x6_1 * x6_1)) a1) == t207) = false := beq_eq_false_iff_ne.mpr c7
              have c7b1 : ((Int.tmod (wrap64 (x6_1 * x6_1)) a1) != t207) = true := bne_iff_ne.mpr c7
              have H' := Aside0.mk H
              clear H
              go_wp2
              go_roundg k1
              case measure => have := HK1.out; omega
              case rel => exact ⟨(wrap64 (x6_1 + 1)), Sqz.auS, H', ⟨by have := HK1.out; omega⟩, by repeat (first | exact Drawn0.refl _ | apply Drawn0.step)⟩
        · rw [if_neg c5] at H
          have c5b0 : decide (x6_1 ≤ (wrap64 (Int.tdiv a1 2))) = false := decide_eq_false c5
          clear c5
          obtain rfl := Option.some.inj H
          go_wp2
          go_ret
          exact ⟨Sqz.auS, by repeat (first | exact Drawn0.refl _ | apply Drawn0.step)⟩

/-! ### impl_localSquare: function 89 -/
def impl_localSquare.f (k : Nat) (a0 : Int) (a1 : Int) : Option (Bool) := if a1 = 0 then (some (decide (a0 > 0))) else ((impl_split.f k a0 a1).bind fun bt208 => (if (Int.tmod bt208.1 2) = 0 then (if a1 = 2 then ((impl_rest.f bt208.2 8).bind fun t210 => (some (t210 == 1))) else ((impl_residue.f k bt208.2 a1).bind fun t211 => (some (t211 == 1)))) else (some false)))
set_option maxHeartbeats 8000000 in
set_option maxRecDepth 100000 in
theorem impl_localSquare.calls (k : Nat) (a0 : Int) (a1 : Int) (r : Bool) (w : World) (h : impl_localSquare.f k a0 a1 = some r) :
    Calls Try.prog 89 #[.int .i64 a0, .int .i64 a1] w fun e w' => e = .returned (.bool r) ∧ Drawn0 w w' := by
  have H : (if a1 = 0 then (some (decide (a0 > 0))) else ((impl_split.f k a0 a1).bind fun bt208 => (if (Int.tmod bt208.1 2) = 0 then (if a1 = 2 then ((impl_rest.f bt208.2 8).bind fun t210 => (some (t210 == 1))) else ((impl_residue.f k bt208.2 a1).bind fun t211 => (some (t211 == 1)))) else (some false)))) = some r := h
  clear h
  by_cases c3 : a1 = 0
  · rw [if_pos c3] at H
    have c3b0 : (a1 == 0) = true := beq_iff_eq.mpr c3
    have c3b1 : (a1 != 0) = false := bne_eq_false_iff_eq.mpr c3
    clear c3
    obtain rfl := Option.some.inj H
    go_enter Try.func89, Try.ntmps89
    go_wp2
    go_ret
    exact ⟨Sqz.auS, by repeat (first | exact Drawn0.refl _ | apply Drawn0.step)⟩
  · rw [if_neg c3] at H
    have c3b0 : (a1 == 0) = false := beq_eq_false_iff_ne.mpr c3
    have c3b1 : (a1 != 0) = true := bne_iff_ne.mpr c3
    replace H := Option.bind_eq_some_iff.mp H
    obtain ⟨⟨t208, t209⟩, A40, H⟩ := H
    replace H : (if (Int.tmod t208 2) = 0 then (if a1 = 2 then ((impl_rest.f t209 8).bind fun t210 => (some (t210 == 1))) else ((impl_residue.f k t209 a1).bind fun t211 => (some (t211 == 1)))) else (some false)) = some r := H
    have A4 := Aside0.mk A40
    clear A40
    by_cases c5 : (Int.tmod t208 2) = 0
    · rw [if_pos c5] at H
      have c5b0 : ((Int.tmod t208 2) == 0) = true := beq_iff_eq.mpr c5
      have c5b1 : ((Int.tmod t208 2) != 0) = false := bne_eq_false_iff_eq.mpr c5
      clear c5
      by_cases c6 : a1 = 2
      · rw [if_pos c6] at H
        have c6b0 : (a1 == 2) = true := beq_iff_eq.mpr c6
        have c6b1 : (a1 != 2) = false := bne_eq_false_iff_eq.mpr c6
        clear c6
        replace H := Option.bind_eq_some_iff.mp H
        obtain ⟨t210, A70, H⟩ := H
        replace H : (some (t210 == 1)) = some r := H
        have A7 := Aside0.mk A70
        clear A70
        obtain rfl := Option.some.inj H
        go_enter Try.func89, Try.ntmps89
        go_wp2_with (first | ((with_reducible refine gate_callee (f := 112) rfl ?_); refine goesL_ (some 14) rfl rfl Try.func112 (by kernel_rfl) rfl #[.int .i64 a0, .int .i64 a1] rfl Sqz.auM ?_; (with_reducible refine (impl_split.calls k a0 a1 t208 t209 _ A4.out).mono ?_); rintro e w' ⟨rfl, ⟨nd, rfl⟩⟩; refine ⟨_, rfl, ?_⟩) | ((with_reducible refine gate_callee (f := 134) rfl ?_); refine goesL_ (some 23) rfl rfl Try.func134 (by kernel_rfl) rfl #[.int .i64 t209, .int .i64 8] rfl Sqz.auM ?_; (with_reducible refine (impl_rest.calls t209 8 t210 _ A7.out).mono ?_); rintro e w' ⟨rfl, ⟨nd, rfl⟩⟩; refine ⟨_, rfl, ?_⟩))
        go_ret
        exact ⟨Sqz.auS, by repeat (first | exact Drawn0.refl _ | apply Drawn0.step)⟩
      · rw [if_neg c6] at H
        have c6b0 : (a1 == 2) = false := beq_eq_false_iff_ne.mpr c6
        have c6b1 : (a1 != 2) = true := bne_iff_ne.mpr c6
        replace H := Option.bind_eq_some_iff.mp H
        obtain ⟨t211, A80, H⟩ := H
        replace H : (some (t211 == 1)) = some r := H
        have A8 := Aside0.mk A80
        clear A80
        obtain rfl := Option.some.inj H
        go_enter Try.func89, Try.ntmps89
        go_wp2_with (first | ((with_reducible refine gate_callee (f := 112) rfl ?_); refine goesL_ (some 14) rfl rfl Try.func112 (by kernel_rfl) rfl #[.int .i64 a0, .int .i64 a1] rfl Sqz.auM ?_; (with_reducible refine (impl_split.calls k a0 a1 t208 t209 _ A4.out).mono ?_); rintro e w' ⟨rfl, ⟨nd, rfl⟩⟩; refine ⟨_, rfl, ?_⟩) | ((with_reducible refine gate_callee (f := 135) rfl ?_); refine goesL_ (some 27) rfl rfl Try.func135 (by kernel_rfl) rfl #[.int .i64 t209, .int .i64 a1] rfl Sqz.auM ?_; (with_reducible refine (impl_residue.calls k t209 a1 t211 _ A8.out).mono ?_); rintro e w' ⟨rfl, ⟨nd, rfl⟩⟩; refine ⟨_, rfl, ?_⟩))
        go_ret
        exact ⟨Sqz.auS, by repeat (first | exact Drawn0.refl _ | apply Drawn0.step)⟩
    · rw [if_neg c5] at H
      have c5b0 : ((Int.tmod t208 2) == 0) = false := beq_eq_false_iff_ne.mpr c5
      have c5b1 : ((Int.tmod t208 2) != 0) = true := bne_iff_ne.mpr c5
      obtain rfl := Option.some.inj H
      go_enter Try.func89, Try.ntmps89
      go_wp2_with (first | ((with_reducible refine gate_callee (f := 112) rfl ?_); refine goesL_ (some 14) rfl rfl Try.func112 (by kernel_rfl) rfl #[.int .i64 a0, .int .i64 a1] rfl Sqz.auM ?_; (with_reducible refine (impl_split.calls k a0 a1 t208 t209 _ A4.out).mono ?_); rintro e w' ⟨rfl, ⟨nd, rfl⟩⟩; refine ⟨_, rfl, ?_⟩))
      go_ret
      exact ⟨Sqz.auS, by repeat (first | exact Drawn0.refl _ | apply Drawn0.step)⟩

end Go.Proofs.Ytihadpckmcebgaa.PFnWitt
