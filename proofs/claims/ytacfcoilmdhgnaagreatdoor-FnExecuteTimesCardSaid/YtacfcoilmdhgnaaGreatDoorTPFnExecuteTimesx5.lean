/- A function's Lean twin and its walk, written by a program of this session. -/
import Derived.Test.YtacfcoilmdhgnaaGreatDoorTPFnExecuteTimesx0
import Derived.Test.YtacfcoilmdhgnaaGreatDoorTPFnExecuteTimesx4
namespace Go.Proofs.YtacfcoilmdhgnaaGreatDoor.PFnExecuteTimes
open Go.RowKit Go.Proofs.YtacfcoilmdhgnaaGreatDoorW.PrintWords Go.Proofs.YtacfcoilmdhgnaaGreatDoorW.PrintLast Go.Proofs.YtacfcoilmdhgnaaGreatDoorW.PrintMore
attribute [local go_sem] max2_int min2_int max_two min_two max_three min_three max_four min_four   -- for this text's walks alone
set_option linter.unusedVariables false
set_option linter.unusedSimpArgs false

/-! ### spec_l91Form: function 58 -/
def spec_l91Form.l0 : Nat → List Int → Int → Int → List Int → Int → Option (List Int × Int)
  | 0, _, _, _, _, _ => none
  | k + 1, x5, x6, x7, x1000, x1001 => if x7 < x6 then ((some (([1, 2, 3, 5, 6, 7, 1, 10, 12, 3, 15, 4, 21, 1, 30, 8] : List Int) : List Int)).bind fun y174 => ((spec_l6Rd_pick.f k x1000 x1001 16).bind fun bt177 => (if 0 ≤ bt177.1 then (if bt177.1 < (y174.length : Int) then ((spec_l6Rd_pick.f k x1000 bt177.2 5).bind fun bt180 => (if bt180.1 < 2 then (if x5.length < 17592186044416 then (spec_l91Form.l0 k (x5 ++ [wrap64 (-(rd y174 bt177.1))]) x6 (wrap64 (x7 + 1)) x1000 bt180.2) else (none)) else (if x5.length < 17592186044416 then (spec_l91Form.l0 k (x5 ++ [rd y174 bt177.1]) x6 (wrap64 (x7 + 1)) x1000 bt180.2) else (none)))) else (none)) else (none)))) else ((spec_l6Rd_pick.f k x1000 x1001 40).bind fun bt188 => (if bt188.1 = 0 then ((some (([0, 31] : List Int) : List Int)).bind fun y190 => ((spec_l6Rd_pick.f k x1000 bt188.2 2).bind fun bt193 => (if 0 ≤ bt193.1 then (if bt193.1 < (y190.length : Int) then (if 0 < (x5.length : Int) then (some ((x5.set (0 : Int).toNat (rd y190 bt193.1)), bt193.2)) else (none)) else (none)) else (none)))) else (if bt188.1 = 1 then (some ((([] : List Int)), bt188.2)) else (some (x5, bt188.2)))))
def spec_l91Form.f (k : Nat) (s0_0 : List Int) (s0_1 : Int) (a1 : Int) : Option (List Int × Int) := (spec_l6Rd_pick.f k s0_0 s0_1 a1).bind fun bt172 => (spec_l91Form.l0 k (([] : List Int)) (wrap64 (1 + bt172.1)) 0 s0_0 bt172.2)
set_option maxHeartbeats 8000000 in
set_option maxRecDepth 100000 in
theorem spec_l91Form.calls (k : Nat) (g : Nat) (s0_0 : List Int) (s0_1 : Int) (a1 : Int) (r1 : List Int) (r2 : Int) (w0 w : World) (hI : IsS83 w0 w g s0_0 s0_1) (hB : Below w0.heap.size w0 w) (h : spec_l91Form.f k s0_0 s0_1 a1 = some (r1, r2)) :
    Calls Tryz.prog 58 #[.pointer (some ⟨g, 0, none⟩), .int .i64 a1] w fun e w' => ∃ v0_ : Value, e = .returned (v0_) ∧ Kd.R (Kd.int .i64) 3 w' w.heap.size (fun _ => True) v0_ r1 ∧ IsS83 w0 w' g s0_0 r2 ∧ Below w0.heap.size w0 w' ∧ KeepBut w w' g none := by
  have HI0 := Aside0.mk hI
  have HK := Aside0.mk (KeepBut.refl w g none)
  have HL := Aside0.mk hB.size
  clear hI
  have HW0 := Aside0.mk hB.size
  have HB := Aside0.mk hB
  clear hB
  have H : ((spec_l6Rd_pick.f k s0_0 s0_1 a1).bind fun bt172 => (spec_l91Form.l0 k (([] : List Int)) (wrap64 (1 + bt172.1)) 0 s0_0 bt172.2)) = some (r1, r2) := h
  clear h
  obtain ⟨y169, hy169⟩ : ∃ y_ : List Int, y_ = (([] : List Int)) := ⟨_, rfl⟩
  replace H : ((spec_l6Rd_pick.f k s0_0 s0_1 a1).bind fun bt172 => (spec_l91Form.l0 k y169 (wrap64 (1 + bt172.1)) 0 s0_0 bt172.2)) = some (r1, r2) := by first | (rw [hy169]; with_reducible exact H) | (have H2_ := (Option.bind_some _ _).symm.trans H; rw [hy169]; with_reducible exact H2_) | (have H2_ := (Option.bind_some _ _).symm.trans H; with_reducible exact H2_) | with_reducible exact H | (rw [hy169]; exact H) | exact H
  have Ny169 := Aside0.mk hy169
  clear hy169
  replace H := Option.bind_eq_some_iff.mp H
  obtain ⟨⟨t172, t173⟩, A30, H⟩ := H
  replace H : (spec_l91Form.l0 k y169 (wrap64 (1 + t172)) 0 s0_0 t173) = some (r1, r2) := H
  have A3 := Aside0.mk A30
  clear A30
  have H' := Aside0.mk H
  clear H
  go_enter Tryz.func58, Tryz.ntmps58
  go_wp2_with (first | ((with_reducible refine gate_dst (N := 9) rfl ?_); refine Kd.R_lit (Kd.int .i64) _ 3 ?hg (N := 9) ?hd (xs := ([] : List Int)) (inner := []) (ok := fun _ => True) (okp := fun _ => True) ?hr ?hp (fun _ hk => hk) trivial (Below.refl _ _) (Nat.le_refl _) (by simp) ?_; (case hd => rfl); (case hg => rfl); (case hr => first | (go_simp; done) | (go_simp; rfl)); (case hp => exact (Reps.none _ _)); intro v170 w4 ho5 hb hg_ hnew_; clear hg_ hnew_; (first | rw [← Ny169.out] at ho5 | (simp only [Int.reduceToNat] at ho5; rw [← Ny169.out] at ho5)); have n0_ := Aside0.mk (Kd.R_lower ho5 (keep_size (w := w) (g := g) (row := none) (by repeat (first | (with_reducible first | exact HK.out | apply KeepBut.set_ | apply keep_drewN | apply keep_drew | apply keep_alloc) | exact HK.out)))); have n1_ := Aside0.mk (IsS83.below (by repeat (first | (with_reducible first | exact HI0.out | apply IsS83.alloc | apply IsS83.drewN | apply IsS83.drew | apply IsS83.set_1) | exact HI0.out)) hb); have n2_ := Aside0.mk (KeepBut.trans (by repeat (first | (with_reducible first | exact HK.out | apply KeepBut.set_ | apply keep_drewN | apply keep_drew | apply keep_alloc) | exact HK.out)) (KeepBut.of_below hb g none) (.inl rfl)); have n3_ := Aside0.mk (below_step (by repeat (first | (with_reducible first | exact HB.out | apply below_alloc | apply pw_below_drewN | apply below_drew1 | refine below_set ?_ (IsS83.ge HI0.out)) | exact HB.out)) hb); clear HI0; clear HK; clear HB; have HO171 := n0_; have HI0 := n1_; have HK := n2_; have HB := n3_; clear n0_ n1_ n2_ n3_; clear hb ho5) | ((with_reducible refine gate_callee (f := 43) rfl ?_); refine goesL_ (some 12) rfl rfl Tryz.func43 (by kernel_rfl) rfl #[.pointer (some ⟨g, 0, none⟩), .int .i64 a1] rfl Sqz.auM ?_; (with_reducible refine (spec_l6Rd_pick.calls k g s0_0 s0_1 a1 t172 t173 w0 _ ?side1 ?side2 A3.out).mono ?_); (case side1 => repeat (first | (with_reducible first | exact HI0.out | apply IsS83.alloc | apply IsS83.drewN | apply IsS83.drew | apply IsS83.set_1) | exact HI0.out)); (case side2 => repeat (first | (with_reducible first | exact HB.out | apply below_alloc | apply pw_below_drewN | apply below_drew1 | refine below_set ?_ (IsS83.ge HI0.out)) | exact HB.out)); rintro e w6 ⟨rfl, hi, hb, hk⟩; refine ⟨_, rfl, ?_⟩; have n0_ := Aside0.mk (Kd.R_mono (Kd.R_keep (IsS83.apart (show IsS83 w0 _ g s0_0 s0_1 from by repeat (first | (with_reducible first | exact HI0.out | apply IsS83.alloc | apply IsS83.drewN | apply IsS83.drew | apply IsS83.set_1) | exact HI0.out)) ((Sqz.mvR HO171.out)) (by decide)) hk (fun _ h => h.2)) (fun _ h => h.1)); have n1_ := Aside0.mk (KeepBut.trans (by repeat (first | (with_reducible first | exact HK.out | apply KeepBut.set_ | apply keep_drewN | apply keep_drew | apply keep_alloc) | exact HK.out)) hk (.inl rfl)); have n2_ := Aside0.mk (hb); have n3_ := Aside0.mk (hi); clear HO171; clear HK; clear HB; clear HI0; have HO171 := n0_; have HK := n1_; have HB := n2_; have HI0 := n3_; clear n0_ n1_ n2_ n3_; (try clear hb); (try clear hb2); (try clear hk); (try clear hi)))
  go_loopg [5, 7] k (fun kq v5 v7 w' => ∃ (x5_1 : List Int) (x7_1 : Int) (x1001_1 : Int), v7 = .int .i64 x7_1 ∧ Aside0 (spec_l91Form.l0 kq x5_1 (wrap64 (1 + t172)) x7_1 s0_0 x1001_1 = some (r1, r2)) ∧ Aside0 (kq ≤ k) ∧ Aside0 (Kd.R (Kd.int .i64) 3 w' w.heap.size (fun _ => True) v5 x5_1) ∧ Aside0 (IsS83 w0 w' g s0_0 x1001_1) ∧ Aside0 (KeepBut w w' g none) ∧ Aside0 (Below w0.heap.size w0 w'))
  case atStart => exact ⟨(y169), (0), (t173), Sqz.auS, H', ⟨Nat.le_refl _⟩, ⟨(Sqz.mvR HO171.out)⟩, ⟨by repeat (first | (with_reducible first | exact HI0.out | apply IsS83.alloc | apply IsS83.drewN | apply IsS83.drew | apply IsS83.set_1) | exact HI0.out)⟩, ⟨by repeat (first | (with_reducible first | exact HK.out | apply KeepBut.set_ | apply keep_drewN | apply keep_drew | apply keep_alloc) | exact HK.out)⟩, ⟨by repeat (first | (with_reducible first | exact HB.out | apply below_alloc | apply pw_below_drewN | apply below_drew1 | refine below_set ?_ (IsS83.ge HI0.out)) | exact HB.out)⟩⟩
  case round =>
    clear H'
    try clear p2
    try clear c4
    try clear c5
    try clear p6
    obtain ⟨x5_1, x7_1, x1001_1, rfl, HA, HK1, HO_5, HI0, HK, HB⟩ := hrel
    cases gk with
    | zero => exact absurd HA.out (by simp [spec_l91Form.l0])
    | succ k1 =>
      have H := HA.out
      clear HA
      simp only [spec_l91Form.l0] at H
      by_cases c7 : x7_1 < (wrap64 (1 + t172))
      · rw [if_pos c7] at H
        have c7b0 : decide (x7_1 < (wrap64 (1 + t172))) = true := decide_eq_true c7
        clear c7
        obtain ⟨y174, hy174⟩ : ∃ y_ : List Int, y_ = (([1, 2, 3, 5, 6, 7, 1, 10, 12, 3, 15, 4, 21, 1, 30, 8] : List Int)) := ⟨_, rfl⟩
        replace H : ((spec_l6Rd_pick.f k1 s0_0 x1001_1 16).bind fun bt177 => (if 0 ≤ bt177.1 then (if bt177.1 < (y174.length : Int) then ((spec_l6Rd_pick.f k1 s0_0 bt177.2 5).bind fun bt180 => (if bt180.1 < 2 then (if x5_1.length < 17592186044416 then (spec_l91Form.l0 k1 (x5_1 ++ [wrap64 (-(rd y174 bt177.1))]) (wrap64 (1 + t172)) (wrap64 (x7_1 + 1)) s0_0 bt180.2) else (none)) else (if x5_1.length < 17592186044416 then (spec_l91Form.l0 k1 (x5_1 ++ [rd y174 bt177.1]) (wrap64 (1 + t172)) (wrap64 (x7_1 + 1)) s0_0 bt180.2) else (none)))) else (none)) else (none))) = some (r1, r2) := by first | (rw [hy174]; with_reducible exact H) | (have H2_ := (Option.bind_some _ _).symm.trans H; rw [hy174]; with_reducible exact H2_) | (have H2_ := (Option.bind_some _ _).symm.trans H; with_reducible exact H2_) | with_reducible exact H | (rw [hy174]; exact H) | exact H
        have Ny174 := Aside0.mk hy174
        clear hy174
        replace H := Option.bind_eq_some_iff.mp H
        obtain ⟨⟨t177, t178⟩, A80, H⟩ := H
        replace H : (if 0 ≤ t177 then (if t177 < (y174.length : Int) then ((spec_l6Rd_pick.f k1 s0_0 t178 5).bind fun bt180 => (if bt180.1 < 2 then (if x5_1.length < 17592186044416 then (spec_l91Form.l0 k1 (x5_1 ++ [wrap64 (-(rd y174 t177))]) (wrap64 (1 + t172)) (wrap64 (x7_1 + 1)) s0_0 bt180.2) else (none)) else (if x5_1.length < 17592186044416 then (spec_l91Form.l0 k1 (x5_1 ++ [rd y174 t177]) (wrap64 (1 + t172)) (wrap64 (x7_1 + 1)) s0_0 bt180.2) else (none)))) else (none)) else (none)) = some (r1, r2) := H
        have A8 := Aside0.mk A80
        clear A80
        by_cases c9 : 0 ≤ t177
        · rw [if_pos c9] at H
          have c9b0 : decide (0 ≤ t177) = true := decide_eq_true c9
          clear c9
          by_cases c10 : t177 < (y174.length : Int)
          · rw [if_pos c10] at H
            have c10b0 : decide (t177 < (y174.length : Int)) = true := decide_eq_true c10
            clear c10
            replace H := Option.bind_eq_some_iff.mp H
            obtain ⟨⟨t180, t181⟩, A110, H⟩ := H
            replace H : (if t180 < 2 then (if x5_1.length < 17592186044416 then (spec_l91Form.l0 k1 (x5_1 ++ [wrap64 (-(rd y174 t177))]) (wrap64 (1 + t172)) (wrap64 (x7_1 + 1)) s0_0 t181) else (none)) else (if x5_1.length < 17592186044416 then (spec_l91Form.l0 k1 (x5_1 ++ [rd y174 t177]) (wrap64 (1 + t172)) (wrap64 (x7_1 + 1)) s0_0 t181) else (none))) = some (r1, r2) := H
            have A11 := Aside0.mk A110
            clear A110
            by_cases c12 : t180 < 2
            · rw [if_pos c12] at H
              have c12b0 : decide (t180 < 2) = true := decide_eq_true c12
              clear c12
              by_cases c13 : x5_1.length < 17592186044416
              · rw [if_pos c13] at H
                have LMc13 := Aside0.mk c13
                clear c13
                obtain ⟨y182, hy182⟩ : ∃ y_ : List Int, y_ = (x5_1 ++ [wrap64 (-(rd y174 t177))]) := ⟨_, rfl⟩
                replace H : (spec_l91Form.l0 k1 y182 (wrap64 (1 + t172)) (wrap64 (x7_1 + 1)) s0_0 t181) = some (r1, r2) := by first | (rw [hy182]; with_reducible exact H) | (have H2_ := (Option.bind_some _ _).symm.trans H; rw [hy182]; with_reducible exact H2_) | (have H2_ := (Option.bind_some _ _).symm.trans H; with_reducible exact H2_) | with_reducible exact H | (rw [hy182]; exact H) | exact H
                have Ny182 := Aside0.mk hy182
                clear hy182
                have H' := Aside0.mk H
                clear H
                go_wp2_with (first | ((with_reducible refine gate_dst (N := 19) rfl ?_); refine Kd.R_lit (Kd.int .i64) _ 3 ?hg (N := 19) ?hd (xs := ([1, 2, 3, 5, 6, 7, 1, 10, 12, 3, 15, 4, 21, 1, 30, 8] : List Int)) (inner := [.int .i64 1, .int .i64 2, .int .i64 3, .int .i64 5, .int .i64 6, .int .i64 7, .int .i64 1, .int .i64 10, .int .i64 12, .int .i64 3, .int .i64 15, .int .i64 4, .int .i64 21, .int .i64 1, .int .i64 30, .int .i64 8]) (ok := fun _ => True) (okp := fun _ => True) ?hr ?hp (fun _ hk => hk) trivial (Below.refl _ _) (Nat.le_refl _) (by simp) ?_; (case hd => rfl); (case hg => rfl); (case hr => first | (go_simp; done) | (go_simp; rfl)); (case hp => exact (Reps.one (show Kd.M (Kd.int .i64) _ _ _ 1 [.int .i64 1] from rfl) (Reps.one (show Kd.M (Kd.int .i64) _ _ _ 2 [.int .i64 2] from rfl) (Reps.one (show Kd.M (Kd.int .i64) _ _ _ 3 [.int .i64 3] from rfl) (Reps.one (show Kd.M (Kd.int .i64) _ _ _ 5 [.int .i64 5] from rfl) (Reps.one (show Kd.M (Kd.int .i64) _ _ _ 6 [.int .i64 6] from rfl) (Reps.one (show Kd.M (Kd.int .i64) _ _ _ 7 [.int .i64 7] from rfl) (Reps.one (show Kd.M (Kd.int .i64) _ _ _ 1 [.int .i64 1] from rfl) (Reps.one (show Kd.M (Kd.int .i64) _ _ _ 10 [.int .i64 10] from rfl) (Reps.one (show Kd.M (Kd.int .i64) _ _ _ 12 [.int .i64 12] from rfl) (Reps.one (show Kd.M (Kd.int .i64) _ _ _ 3 [.int .i64 3] from rfl) (Reps.one (show Kd.M (Kd.int .i64) _ _ _ 15 [.int .i64 15] from rfl) (Reps.one (show Kd.M (Kd.int .i64) _ _ _ 4 [.int .i64 4] from rfl) (Reps.one (show Kd.M (Kd.int .i64) _ _ _ 21 [.int .i64 21] from rfl) (Reps.one (show Kd.M (Kd.int .i64) _ _ _ 1 [.int .i64 1] from rfl) (Reps.one (show Kd.M (Kd.int .i64) _ _ _ 30 [.int .i64 30] from rfl) (Reps.one (show Kd.M (Kd.int .i64) _ _ _ 8 [.int .i64 8] from rfl) (Reps.none _ _)))))))))))))))))); intro v175 w14 ho15 hb hg_ hnew_; clear hg_ hnew_; (first | rw [← Ny174.out] at ho15 | (simp only [Int.reduceToNat] at ho15; rw [← Ny174.out] at ho15)); have n0_ := Aside0.mk (Kd.R_elder' ((Sqz.mvR HO_5.out)) (Kd.R_base ho15) hb); have n1_ := Aside0.mk (Kd.R_lower (Kd.R_new' ho15 (Kd.R_lt ((Sqz.mvR HO_5.out)))) (keep_size (w := w) (g := g) (row := none) (by repeat (first | (with_reducible first | exact HK.out | apply KeepBut.set_ | apply keep_drewN | apply keep_drew | apply keep_alloc) | exact HK.out)))); have n2_ := Aside0.mk (IsS83.below (by repeat (first | (with_reducible first | exact HI0.out | apply IsS83.alloc | apply IsS83.drewN | apply IsS83.drew | apply IsS83.set_1) | exact HI0.out)) hb); have n3_ := Aside0.mk (KeepBut.trans (by repeat (first | (with_reducible first | exact HK.out | apply KeepBut.set_ | apply keep_drewN | apply keep_drew | apply keep_alloc) | exact HK.out)) (KeepBut.of_below hb g none) (.inl rfl)); have n4_ := Aside0.mk (below_step (by repeat (first | (with_reducible first | exact HB.out | apply below_alloc | apply pw_below_drewN | apply below_drew1 | refine below_set ?_ (IsS83.ge HI0.out)) | exact HB.out)) hb); clear HO_5; clear HI0; clear HK; clear HB; have HO_5 := n0_; have HO176 := n1_; have HI0 := n2_; have HK := n3_; have HB := n4_; clear n0_ n1_ n2_ n3_ n4_; clear hb ho15) | ((with_reducible refine gate_callee (f := 43) rfl ?_); refine goesL_ (some 21) rfl rfl Tryz.func43 (by kernel_rfl) rfl #[.pointer (some ⟨g, 0, none⟩), .int .i64 16] rfl Sqz.auM ?_; (with_reducible refine (spec_l6Rd_pick.calls k1 g s0_0 x1001_1 16 t177 t178 w0 _ ?side1 ?side2 A8.out).mono ?_); (case side1 => repeat (first | (with_reducible first | exact HI0.out | apply IsS83.alloc | apply IsS83.drewN | apply IsS83.drew | apply IsS83.set_1) | exact HI0.out)); (case side2 => repeat (first | (with_reducible first | exact HB.out | apply below_alloc | apply pw_below_drewN | apply below_drew1 | refine below_set ?_ (IsS83.ge HI0.out)) | exact HB.out)); rintro e w16 ⟨rfl, hi, hb, hk⟩; refine ⟨_, rfl, ?_⟩; have n0_ := Aside0.mk (Kd.R_mono (Kd.R_keep (IsS83.apart (show IsS83 w0 _ g s0_0 x1001_1 from by repeat (first | (with_reducible first | exact HI0.out | apply IsS83.alloc | apply IsS83.drewN | apply IsS83.drew | apply IsS83.set_1) | exact HI0.out)) ((Sqz.mvR HO_5.out)) (by decide)) hk (fun _ h => h.2)) (fun _ h => h.1)); have n1_ := Aside0.mk (Kd.R_mono (Kd.R_keep (IsS83.apart (show IsS83 w0 _ g s0_0 x1001_1 from by repeat (first | (with_reducible first | exact HI0.out | apply IsS83.alloc | apply IsS83.drewN | apply IsS83.drew | apply IsS83.set_1) | exact HI0.out)) ((Sqz.mvR HO176.out)) (by decide)) hk (fun _ h => h.2)) (fun _ h => h.1)); have n2_ := Aside0.mk (KeepBut.trans (by repeat (first | (with_reducible first | exact HK.out | apply KeepBut.set_ | apply keep_drewN | apply keep_drew | apply keep_alloc) | exact HK.out)) hk (.inl rfl)); have n3_ := Aside0.mk (hb); have n4_ := Aside0.mk (hi); clear HO_5; clear HO176; clear HK; clear HB; clear HI0; have HO_5 := n0_; have HO176 := n1_; have HK := n2_; have HB := n3_; have HI0 := n4_; clear n0_ n1_ n2_ n3_ n4_; (try clear hb); (try clear hb2); (try clear hk); (try clear hi); obtain ⟨Ao17, co17, eo17⟩ := Kd.R_slice HO176.out; subst eo17; have p179 : 0 ≤ (t177 : Int) := of_decide_eq_true (by first | (with_reducible assumption) | assumption); have q179 : t177 < (y174.length : Int) := of_decide_eq_true (by first | (with_reducible assumption) | assumption); obtain ⟨ad179, e179, hx179_0⟩ := Kd.at_int (Kd.R_reads' HO176.out).2.2 t177 p179 q179; cases e179; replace p179 := eq_true p179; replace q179 := eq_true q179) | ((with_reducible refine gate_callee (f := 43) rfl ?_); refine goesL_ (some 25) rfl rfl Tryz.func43 (by kernel_rfl) rfl #[.pointer (some ⟨g, 0, none⟩), .int .i64 5] rfl Sqz.auM ?_; (with_reducible refine (spec_l6Rd_pick.calls k1 g s0_0 t178 5 t180 t181 w0 _ ?side1 ?side2 A11.out).mono ?_); (case side1 => repeat (first | (with_reducible first | exact HI0.out | apply IsS83.alloc | apply IsS83.drewN | apply IsS83.drew | apply IsS83.set_1) | exact HI0.out)); (case side2 => repeat (first | (with_reducible first | exact HB.out | apply below_alloc | apply pw_below_drewN | apply below_drew1 | refine below_set ?_ (IsS83.ge HI0.out)) | exact HB.out)); rintro e w18 ⟨rfl, hi, hb, hk⟩; refine ⟨_, rfl, ?_⟩; have n0_ := Aside0.mk (Kd.R_mono (Kd.R_keep (IsS83.apart (show IsS83 w0 _ g s0_0 t178 from by repeat (first | (with_reducible first | exact HI0.out | apply IsS83.alloc | apply IsS83.drewN | apply IsS83.drew | apply IsS83.set_1) | exact HI0.out)) ((Sqz.mvR HO_5.out)) (by decide)) hk (fun _ h => h.2)) (fun _ h => h.1)); have n1_ := Aside0.mk (Kd.R_mono (Kd.R_keep (IsS83.apart (show IsS83 w0 _ g s0_0 t178 from by repeat (first | (with_reducible first | exact HI0.out | apply IsS83.alloc | apply IsS83.drewN | apply IsS83.drew | apply IsS83.set_1) | exact HI0.out)) ((Sqz.mvR HO176.out)) (by decide)) hk (fun _ h => h.2)) (fun _ h => h.1)); have n2_ := Aside0.mk (KeepBut.trans (by repeat (first | (with_reducible first | exact HK.out | apply KeepBut.set_ | apply keep_drewN | apply keep_drew | apply keep_alloc) | exact HK.out)) hk (.inl rfl)); have n3_ := Aside0.mk (hb); have n4_ := Aside0.mk (hi); clear HO_5; clear HO176; clear HK; clear HB; clear HI0; have HO_5 := n0_; have HO176 := n1_; have HK := n2_; have HB := n3_; have HI0 := n4_; clear n0_ n1_ n2_ n3_ n4_; (try clear hb); (try clear hb2); (try clear hk); (try clear hi)) | ((with_reducible refine gate_builtin (b := .append) (xs := #[.tmp 29, .tmp 31]) rfl ?_); at_builtin; refine Kd.R_append (Kd.int .i64) w.heap.size rfl (.tmp 29) (.tmp 31) 27 3 (.int .i64 0) 8 rfl Tryz.underlying27 info3 rfl (by decide) (by omega) u5 x5_1 (wrap64 (-(rd y174 t177))) [.int .i64 (wrap64 (-(rd y174 t177)))] (fun k_ => some k_ ≠ (.slice (some ad179) y174.length co17 : Value).ownBlock) (fun _ => False) rfl rfl ?aP (fun _ hk => hk.elim) ?aF ?aO (Below.refl _ _) ?aS ?aL ?_; (case aP => exact rfl); (case aF => exact (fun k_ hk => Kd.fresh' (Kd.R_lt ((Sqz.mvR HO176.out))) k_ hk)); (case aO => exact ((Sqz.mvR (Kd.R_mono HO_5.out (fun _ hk => (by first | exact hk.2 | exact trivial)))))); (case aS => exact (keep_size (w := w) (g := g) (row := none) (by repeat (first | (with_reducible first | exact HK.out | apply KeepBut.set_ | apply keep_drewN | apply keep_drew | apply keep_alloc) | exact HK.out)))); (case aL => have := LMc13.out; omega); intro v183 w19 ho hb hg hat; rw [← Ny182.out] at ho; have n0_ := Aside0.mk (IsS83.grown (by repeat (first | (with_reducible first | exact HI0.out | apply IsS83.alloc | apply IsS83.drewN | apply IsS83.drew | apply IsS83.set_1) | exact HI0.out)) hg (IsS83.own_ne HI0.out HO_5.out (by decide))); have n1_ := Aside0.mk (Kd.R_after (ok := (fun _ => True)) ((Sqz.mvR HO176.out)) hg hat); have n2_ := Aside0.mk (below_weaken (by repeat (first | (with_reducible first | exact HB.out | apply below_alloc | apply pw_below_drewN | apply below_drew1 | refine below_set ?_ (IsS83.ge HI0.out)) | exact HB.out)) HL.out hb); have n3_ := Aside0.mk (KeepBut.trans (by repeat (first | (with_reducible first | exact HK.out | apply KeepBut.set_ | apply keep_drewN | apply keep_drew | apply keep_alloc) | exact HK.out)) (KeepBut.of_grown hg g) (Kd.R_base2 HO_5.out)); have n4_ := Aside0.mk (ho); clear HI0; clear HO176; clear HB; clear HK; clear HO_5; have HI0 := n0_; have HO176 := n1_; have HB := n2_; have HK := n3_; have HO184 := n4_; clear n0_ n1_ n2_ n3_ n4_; clear ho hb hg hat))
                go_roundg k1
                case measure => have := HK1.out; omega
                case rel => exact ⟨(y182), (wrap64 (x7_1 + 1)), (t181), Sqz.auS, H', ⟨by have := HK1.out; omega⟩, ⟨(Sqz.mvR (Kd.R_mono HO184.out (fun _ hk => trivial)))⟩, ⟨by repeat (first | (with_reducible first | exact HI0.out | apply IsS83.alloc | apply IsS83.drewN | apply IsS83.drew | apply IsS83.set_1) | exact HI0.out)⟩, ⟨by repeat (first | (with_reducible first | exact HK.out | apply KeepBut.set_ | apply keep_drewN | apply keep_drew | apply keep_alloc) | exact HK.out)⟩, ⟨by repeat (first | (with_reducible first | exact HB.out | apply below_alloc | apply pw_below_drewN | apply below_drew1 | refine below_set ?_ (IsS83.ge HI0.out)) | exact HB.out)⟩⟩
              · rw [if_neg c13] at H
                exact absurd H (by simp)
            · rw [if_neg c12] at H
              have c12b0 : decide (t180 < 2) = false := decide_eq_false c12
              clear c12
              by_cases c20 : x5_1.length < 17592186044416
              · rw [if_pos c20] at H
                have LMc20 := Aside0.mk c20
                clear c20
                obtain ⟨y185, hy185⟩ : ∃ y_ : List Int, y_ = (x5_1 ++ [rd y174 t177]) := ⟨_, rfl⟩
                replace H : (spec_l91Form.l0 k1 y185 (wrap64 (1 + t172)) (wrap64 (x7_1 + 1)) s0_0 t181) = some (r1, r2) := by first | (rw [hy185]; with_reducible exact H) | (have H2_ := (Option.bind_some _ _).symm.trans H; rw [hy185]; with_reducible exact H2_) | (have H2_ := (Option.bind_some _ _).symm.trans H; with_reducible exact H2_) | with_reducible exact H | (rw [hy185]; exact H) | exact H
                have Ny185 := Aside0.mk hy185
                clear hy185
                have H' := Aside0.mk H
                clear H
                go_wp2_with (first | ((with_reducible refine gate_dst (N := 19) rfl ?_); refine Kd.R_lit (Kd.int .i64) _ 3 ?hg (N := 19) ?hd (xs := ([1, 2, 3, 5, 6, 7, 1, 10, 12, 3, 15, 4, 21, 1, 30, 8] : List Int)) (inner := [.int .i64 1, .int .i64 2, .int .i64 3, .int .i64 5, .int .i64 6, .int .i64 7, .int .i64 1, .int .i64 10, .int .i64 12, .int .i64 3, .int .i64 15, .int .i64 4, .int .i64 21, .int .i64 1, .int .i64 30, .int .i64 8]) (ok := fun _ => True) (okp := fun _ => True) ?hr ?hp (fun _ hk => hk) trivial (Below.refl _ _) (Nat.le_refl _) (by simp) ?_; (case hd => rfl); (case hg => rfl); (case hr => first | (go_simp; done) | (go_simp; rfl)); (case hp => exact (Reps.one (show Kd.M (Kd.int .i64) _ _ _ 1 [.int .i64 1] from rfl) (Reps.one (show Kd.M (Kd.int .i64) _ _ _ 2 [.int .i64 2] from rfl) (Reps.one (show Kd.M (Kd.int .i64) _ _ _ 3 [.int .i64 3] from rfl) (Reps.one (show Kd.M (Kd.int .i64) _ _ _ 5 [.int .i64 5] from rfl) (Reps.one (show Kd.M (Kd.int .i64) _ _ _ 6 [.int .i64 6] from rfl) (Reps.one (show Kd.M (Kd.int .i64) _ _ _ 7 [.int .i64 7] from rfl) (Reps.one (show Kd.M (Kd.int .i64) _ _ _ 1 [.int .i64 1] from rfl) (Reps.one (show Kd.M (Kd.int .i64) _ _ _ 10 [.int .i64 10] from rfl) (Reps.one (show Kd.M (Kd.int .i64) _ _ _ 12 [.int .i64 12] from rfl) (Reps.one (show Kd.M (Kd.int .i64) _ _ _ 3 [.int .i64 3] from rfl) (Reps.one (show Kd.M (Kd.int .i64) _ _ _ 15 [.int .i64 15] from rfl) (Reps.one (show Kd.M (Kd.int .i64) _ _ _ 4 [.int .i64 4] from rfl) (Reps.one (show Kd.M (Kd.int .i64) _ _ _ 21 [.int .i64 21] from rfl) (Reps.one (show Kd.M (Kd.int .i64) _ _ _ 1 [.int .i64 1] from rfl) (Reps.one (show Kd.M (Kd.int .i64) _ _ _ 30 [.int .i64 30] from rfl) (Reps.one (show Kd.M (Kd.int .i64) _ _ _ 8 [.int .i64 8] from rfl) (Reps.none _ _)))))))))))))))))); intro v175 w21 ho22 hb hg_ hnew_; clear hg_ hnew_; (first | rw [← Ny174.out] at ho22 | (simp only [Int.reduceToNat] at ho22; rw [← Ny174.out] at ho22)); have n0_ := Aside0.mk (Kd.R_elder' ((Sqz.mvR HO_5.out)) (Kd.R_base ho22) hb); have n1_ := Aside0.mk (Kd.R_lower (Kd.R_new' ho22 (Kd.R_lt ((Sqz.mvR HO_5.out)))) (keep_size (w := w) (g := g) (row := none) (by repeat (first | (with_reducible first | exact HK.out | apply KeepBut.set_ | apply keep_drewN | apply keep_drew | apply keep_alloc) | exact HK.out)))); have n2_ := Aside0.mk (IsS83.below (by repeat (first | (with_reducible first | exact HI0.out | apply IsS83.alloc | apply IsS83.drewN | apply IsS83.drew | apply IsS83.set_1) | exact HI0.out)) hb); have n3_ := Aside0.mk (KeepBut.trans (by repeat (first | (with_reducible first | exact HK.out | apply KeepBut.set_ | apply keep_drewN | apply keep_drew | apply keep_alloc) | exact HK.out)) (KeepBut.of_below hb g none) (.inl rfl)); have n4_ := Aside0.mk (below_step (by repeat (first | (with_reducible first | exact HB.out | apply below_alloc | apply pw_below_drewN | apply below_drew1 | refine below_set ?_ (IsS83.ge HI0.out)) | exact HB.out)) hb); clear HO_5; clear HI0; clear HK; clear HB; have HO_5 := n0_; have HO176 := n1_; have HI0 := n2_; have HK := n3_; have HB := n4_; clear n0_ n1_ n2_ n3_ n4_; clear hb ho22) | ((with_reducible refine gate_callee (f := 43) rfl ?_); refine goesL_ (some 21) rfl rfl Tryz.func43 (by kernel_rfl) rfl #[.pointer (some ⟨g, 0, none⟩), .int .i64 16] rfl Sqz.auM ?_; (with_reducible refine (spec_l6Rd_pick.calls k1 g s0_0 x1001_1 16 t177 t178 w0 _ ?side1 ?side2 A8.out).mono ?_); (case side1 => repeat (first | (with_reducible first | exact HI0.out | apply IsS83.alloc | apply IsS83.drewN | apply IsS83.drew | apply IsS83.set_1) | exact HI0.out)); (case side2 => repeat (first | (with_reducible first | exact HB.out | apply below_alloc | apply pw_below_drewN | apply below_drew1 | refine below_set ?_ (IsS83.ge HI0.out)) | exact HB.out)); rintro e w23 ⟨rfl, hi, hb, hk⟩; refine ⟨_, rfl, ?_⟩; have n0_ := Aside0.mk (Kd.R_mono (Kd.R_keep (IsS83.apart (show IsS83 w0 _ g s0_0 x1001_1 from by repeat (first | (with_reducible first | exact HI0.out | apply IsS83.alloc | apply IsS83.drewN | apply IsS83.drew | apply IsS83.set_1) | exact HI0.out)) ((Sqz.mvR HO_5.out)) (by decide)) hk (fun _ h => h.2)) (fun _ h => h.1)); have n1_ := Aside0.mk (Kd.R_mono (Kd.R_keep (IsS83.apart (show IsS83 w0 _ g s0_0 x1001_1 from by repeat (first | (with_reducible first | exact HI0.out | apply IsS83.alloc | apply IsS83.drewN | apply IsS83.drew | apply IsS83.set_1) | exact HI0.out)) ((Sqz.mvR HO176.out)) (by decide)) hk (fun _ h => h.2)) (fun _ h => h.1)); have n2_ := Aside0.mk (KeepBut.trans (by repeat (first | (with_reducible first | exact HK.out | apply KeepBut.set_ | apply keep_drewN | apply keep_drew | apply keep_alloc) | exact HK.out)) hk (.inl rfl)); have n3_ := Aside0.mk (hb); have n4_ := Aside0.mk (hi); clear HO_5; clear HO176; clear HK; clear HB; clear HI0; have HO_5 := n0_; have HO176 := n1_; have HK := n2_; have HB := n3_; have HI0 := n4_; clear n0_ n1_ n2_ n3_ n4_; (try clear hb); (try clear hb2); (try clear hk); (try clear hi); obtain ⟨Ao24, co24, eo24⟩ := Kd.R_slice HO176.out; subst eo24; have p179 : 0 ≤ (t177 : Int) := of_decide_eq_true (by first | (with_reducible assumption) | assumption); have q179 : t177 < (y174.length : Int) := of_decide_eq_true (by first | (with_reducible assumption) | assumption); obtain ⟨ad179, e179, hx179_0⟩ := Kd.at_int (Kd.R_reads' HO176.out).2.2 t177 p179 q179; cases e179; replace p179 := eq_true p179; replace q179 := eq_true q179) | ((with_reducible refine gate_callee (f := 43) rfl ?_); refine goesL_ (some 25) rfl rfl Tryz.func43 (by kernel_rfl) rfl #[.pointer (some ⟨g, 0, none⟩), .int .i64 5] rfl Sqz.auM ?_; (with_reducible refine (spec_l6Rd_pick.calls k1 g s0_0 t178 5 t180 t181 w0 _ ?side1 ?side2 A11.out).mono ?_); (case side1 => repeat (first | (with_reducible first | exact HI0.out | apply IsS83.alloc | apply IsS83.drewN | apply IsS83.drew | apply IsS83.set_1) | exact HI0.out)); (case side2 => repeat (first | (with_reducible first | exact HB.out | apply below_alloc | apply pw_below_drewN | apply below_drew1 | refine below_set ?_ (IsS83.ge HI0.out)) | exact HB.out)); rintro e w25 ⟨rfl, hi, hb, hk⟩; refine ⟨_, rfl, ?_⟩; have n0_ := Aside0.mk (Kd.R_mono (Kd.R_keep (IsS83.apart (show IsS83 w0 _ g s0_0 t178 from by repeat (first | (with_reducible first | exact HI0.out | apply IsS83.alloc | apply IsS83.drewN | apply IsS83.drew | apply IsS83.set_1) | exact HI0.out)) ((Sqz.mvR HO_5.out)) (by decide)) hk (fun _ h => h.2)) (fun _ h => h.1)); have n1_ := Aside0.mk (Kd.R_mono (Kd.R_keep (IsS83.apart (show IsS83 w0 _ g s0_0 t178 from by repeat (first | (with_reducible first | exact HI0.out | apply IsS83.alloc | apply IsS83.drewN | apply IsS83.drew | apply IsS83.set_1) | exact HI0.out)) ((Sqz.mvR HO176.out)) (by decide)) hk (fun _ h => h.2)) (fun _ h => h.1)); have n2_ := Aside0.mk (KeepBut.trans (by repeat (first | (with_reducible first | exact HK.out | apply KeepBut.set_ | apply keep_drewN | apply keep_drew | apply keep_alloc) | exact HK.out)) hk (.inl rfl)); have n3_ := Aside0.mk (hb); have n4_ := Aside0.mk (hi); clear HO_5; clear HO176; clear HK; clear HB; clear HI0; have HO_5 := n0_; have HO176 := n1_; have HK := n2_; have HB := n3_; have HI0 := n4_; clear n0_ n1_ n2_ n3_ n4_; (try clear hb); (try clear hb2); (try clear hk); (try clear hi)) | ((with_reducible refine gate_builtin (b := .append) (xs := #[.tmp 29, .tmp 31]) rfl ?_); at_builtin; refine Kd.R_append (Kd.int .i64) w.heap.size rfl (.tmp 29) (.tmp 31) 27 3 (.int .i64 0) 8 rfl Tryz.underlying27 info3 rfl (by decide) (by omega) u5 x5_1 (rd y174 t177) [.int .i64 (rd y174 t177)] (fun k_ => some k_ ≠ (.slice (some ad179) y174.length co24 : Value).ownBlock) (fun _ => False) rfl rfl ?aP (fun _ hk => hk.elim) ?aF ?aO (Below.refl _ _) ?aS ?aL ?_; (case aP => exact rfl); (case aF => exact (fun k_ hk => Kd.fresh' (Kd.R_lt ((Sqz.mvR HO176.out))) k_ hk)); (case aO => exact ((Sqz.mvR (Kd.R_mono HO_5.out (fun _ hk => (by first | exact hk.2 | exact trivial)))))); (case aS => exact (keep_size (w := w) (g := g) (row := none) (by repeat (first | (with_reducible first | exact HK.out | apply KeepBut.set_ | apply keep_drewN | apply keep_drew | apply keep_alloc) | exact HK.out)))); (case aL => have := LMc20.out; omega); intro v186 w26 ho hb hg hat; rw [← Ny185.out] at ho; have n0_ := Aside0.mk (IsS83.grown (by repeat (first | (with_reducible first | exact HI0.out | apply IsS83.alloc | apply IsS83.drewN | apply IsS83.drew | apply IsS83.set_1) | exact HI0.out)) hg (IsS83.own_ne HI0.out HO_5.out (by decide))); have n1_ := Aside0.mk (Kd.R_after (ok := (fun _ => True)) ((Sqz.mvR HO176.out)) hg hat); have n2_ := Aside0.mk (below_weaken (by repeat (first | (with_reducible first | exact HB.out | apply below_alloc | apply pw_below_drewN | apply below_drew1 | refine below_set ?_ (IsS83.ge HI0.out)) | exact HB.out)) HL.out hb); have n3_ := Aside0.mk (KeepBut.trans (by repeat (first | (with_reducible first | exact HK.out | apply KeepBut.set_ | apply keep_drewN | apply keep_drew | apply keep_alloc) | exact HK.out)) (KeepBut.of_grown hg g) (Kd.R_base2 HO_5.out)); have n4_ := Aside0.mk (ho); clear HI0; clear HO176; clear HB; clear HK; clear HO_5; have HI0 := n0_; have HO176 := n1_; have HB := n2_; have HK := n3_; have HO187 := n4_; clear n0_ n1_ n2_ n3_ n4_; clear ho hb hg hat))
                go_roundg k1
                case measure => have := HK1.out; omega
                case rel => exact ⟨(y185), (wrap64 (x7_1 + 1)), (t181), Sqz.auS, H', ⟨by have := HK1.out; omega⟩, ⟨(Sqz.mvR (Kd.R_mono HO187.out (fun _ hk => trivial)))⟩, ⟨by repeat (first | (with_reducible first | exact HI0.out | apply IsS83.alloc | apply IsS83.drewN | apply IsS83.drew | apply IsS83.set_1) | exact HI0.out)⟩, ⟨by repeat (first | (with_reducible first | exact HK.out | apply KeepBut.set_ | apply keep_drewN | apply keep_drew | apply keep_alloc) | exact HK.out)⟩, ⟨by repeat (first | (with_reducible first | exact HB.out | apply below_alloc | apply pw_below_drewN | apply below_drew1 | refine below_set ?_ (IsS83.ge HI0.out)) | exact HB.out)⟩⟩
              · rw [if_neg c20] at H
                exact absurd H (by simp)
          · rw [if_neg c10] at H
            exact absurd H (by simp)
        · rw [if_neg c9] at H
          exact absurd H (by simp)
      · rw [if_neg c7] at H
        have c7b0 : decide (x7_1 < (wrap64 (1 + t172))) = false := decide_eq_false c7
        clear c7
        replace H := Option.bind_eq_some_iff.mp H
        obtain ⟨⟨t188, t189⟩, A270, H⟩ := H
        replace H : (if t188 = 0 then ((some (([0, 31] : List Int) : List Int)).bind fun y190 => ((spec_l6Rd_pick.f k1 s0_0 t189 2).bind fun bt193 => (if 0 ≤ bt193.1 then (if bt193.1 < (y190.length : Int) then (if 0 < (x5_1.length : Int) then (some ((x5_1.set (0 : Int).toNat (rd y190 bt193.1)), bt193.2)) else (none)) else (none)) else (none)))) else (if t188 = 1 then (some ((([] : List Int)), t189)) else (some (x5_1, t189)))) = some (r1, r2) := H
        have A27 := Aside0.mk A270
        clear A270
        by_cases c28 : t188 = 0
        · rw [if_pos c28] at H
          have c28b0 : (t188 == 0) = true := beq_iff_eq.mpr c28
          have c28b1 : (t188 != 0) = false := bne_eq_false_iff_eq.mpr c28
          clear c28
          obtain ⟨y190, hy190⟩ : ∃ y_ : List Int, y_ = (([0, 31] : List Int)) := ⟨_, rfl⟩
          replace H : ((spec_l6Rd_pick.f k1 s0_0 t189 2).bind fun bt193 => (if 0 ≤ bt193.1 then (if bt193.1 < (y190.length : Int) then (if 0 < (x5_1.length : Int) then (some ((x5_1.set (0 : Int).toNat (rd y190 bt193.1)), bt193.2)) else (none)) else (none)) else (none))) = some (r1, r2) := by first | (rw [hy190]; with_reducible exact H) | (have H2_ := (Option.bind_some _ _).symm.trans H; rw [hy190]; with_reducible exact H2_) | (have H2_ := (Option.bind_some _ _).symm.trans H; with_reducible exact H2_) | with_reducible exact H | (rw [hy190]; exact H) | exact H
          have Ny190 := Aside0.mk hy190
          clear hy190
          replace H := Option.bind_eq_some_iff.mp H
          obtain ⟨⟨t193, t194⟩, A290, H⟩ := H
          replace H : (if 0 ≤ t193 then (if t193 < (y190.length : Int) then (if 0 < (x5_1.length : Int) then (some ((x5_1.set (0 : Int).toNat (rd y190 t193)), t194)) else (none)) else (none)) else (none)) = some (r1, r2) := H
          have A29 := Aside0.mk A290
          clear A290
          by_cases c30 : 0 ≤ t193
          · rw [if_pos c30] at H
            have c30b0 : decide (0 ≤ t193) = true := decide_eq_true c30
            clear c30
            by_cases c31 : t193 < (y190.length : Int)
            · rw [if_pos c31] at H
              have c31b0 : decide (t193 < (y190.length : Int)) = true := decide_eq_true c31
              clear c31
              by_cases c32 : 0 < (x5_1.length : Int)
              · rw [if_pos c32] at H
                have c32b0 : decide (0 < (x5_1.length : Int)) = true := decide_eq_true c32
                have c32b1 : decide (0 < x5_1.length) = true := decide_eq_true (by omega)
                clear c32
                obtain ⟨y196, hy196⟩ : ∃ y_ : List Int, y_ = (x5_1.set (0 : Int).toNat (rd y190 t193)) := ⟨_, rfl⟩
                replace H : (some (y196, t194)) = some (r1, r2) := by first | (rw [hy196]; with_reducible exact H) | (have H2_ := (Option.bind_some _ _).symm.trans H; rw [hy196]; with_reducible exact H2_) | (have H2_ := (Option.bind_some _ _).symm.trans H; with_reducible exact H2_) | with_reducible exact H | (rw [hy196]; exact H) | exact H
                have Ny196 := Aside0.mk hy196
                clear hy196
                simp only [Option.some.injEq, Prod.mk.injEq] at H
                obtain ⟨rfl, rfl⟩ := H
                go_wp2_with (first | ((with_reducible refine gate_callee (f := 43) rfl ?_); refine goesL_ (some 34) rfl rfl Tryz.func43 (by kernel_rfl) rfl #[.pointer (some ⟨g, 0, none⟩), .int .i64 40] rfl Sqz.auM ?_; (with_reducible refine (spec_l6Rd_pick.calls k1 g s0_0 x1001_1 40 t188 t189 w0 _ ?side1 ?side2 A27.out).mono ?_); (case side1 => repeat (first | (with_reducible first | exact HI0.out | apply IsS83.alloc | apply IsS83.drewN | apply IsS83.drew | apply IsS83.set_1) | exact HI0.out)); (case side2 => repeat (first | (with_reducible first | exact HB.out | apply below_alloc | apply pw_below_drewN | apply below_drew1 | refine below_set ?_ (IsS83.ge HI0.out)) | exact HB.out)); rintro e w34 ⟨rfl, hi, hb, hk⟩; refine ⟨_, rfl, ?_⟩; have n0_ := Aside0.mk (Kd.R_mono (Kd.R_keep (IsS83.apart (show IsS83 w0 _ g s0_0 x1001_1 from by repeat (first | (with_reducible first | exact HI0.out | apply IsS83.alloc | apply IsS83.drewN | apply IsS83.drew | apply IsS83.set_1) | exact HI0.out)) ((Sqz.mvR HO_5.out)) (by decide)) hk (fun _ h => h.2)) (fun _ h => h.1)); have n1_ := Aside0.mk (KeepBut.trans (by repeat (first | (with_reducible first | exact HK.out | apply KeepBut.set_ | apply keep_drewN | apply keep_drew | apply keep_alloc) | exact HK.out)) hk (.inl rfl)); have n2_ := Aside0.mk (hb); have n3_ := Aside0.mk (hi); clear HO_5; clear HK; clear HB; clear HI0; have HO_5 := n0_; have HK := n1_; have HB := n2_; have HI0 := n3_; clear n0_ n1_ n2_ n3_; (try clear hb); (try clear hb2); (try clear hk); (try clear hi)) | ((with_reducible refine gate_dst (N := 38) rfl ?_); refine Kd.R_lit (Kd.int .i64) _ 3 ?hg (N := 38) ?hd (xs := ([0, 31] : List Int)) (inner := [.int .i64 0, .int .i64 31]) (ok := fun _ => True) (okp := fun _ => True) ?hr ?hp (fun _ hk => hk) trivial (Below.refl _ _) (Nat.le_refl _) (by simp) ?_; (case hd => rfl); (case hg => rfl); (case hr => first | (go_simp; done) | (go_simp; rfl)); (case hp => exact (Reps.one (show Kd.M (Kd.int .i64) _ _ _ 0 [.int .i64 0] from rfl) (Reps.one (show Kd.M (Kd.int .i64) _ _ _ 31 [.int .i64 31] from rfl) (Reps.none _ _)))); intro v191 w35 ho36 hb hg_ hnew_; clear hg_ hnew_; (first | rw [← Ny190.out] at ho36 | (simp only [Int.reduceToNat] at ho36; rw [← Ny190.out] at ho36)); have n0_ := Aside0.mk (Kd.R_elder' ((Sqz.mvR HO_5.out)) (Kd.R_base ho36) hb); have n1_ := Aside0.mk (Kd.R_lower (Kd.R_new' ho36 (Kd.R_lt ((Sqz.mvR HO_5.out)))) (keep_size (w := w) (g := g) (row := none) (by repeat (first | (with_reducible first | exact HK.out | apply KeepBut.set_ | apply keep_drewN | apply keep_drew | apply keep_alloc) | exact HK.out)))); have n2_ := Aside0.mk (IsS83.below (by repeat (first | (with_reducible first | exact HI0.out | apply IsS83.alloc | apply IsS83.drewN | apply IsS83.drew | apply IsS83.set_1) | exact HI0.out)) hb); have n3_ := Aside0.mk (KeepBut.trans (by repeat (first | (with_reducible first | exact HK.out | apply KeepBut.set_ | apply keep_drewN | apply keep_drew | apply keep_alloc) | exact HK.out)) (KeepBut.of_below hb g none) (.inl rfl)); have n4_ := Aside0.mk (below_step (by repeat (first | (with_reducible first | exact HB.out | apply below_alloc | apply pw_below_drewN | apply below_drew1 | refine below_set ?_ (IsS83.ge HI0.out)) | exact HB.out)) hb); clear HO_5; clear HI0; clear HK; clear HB; have HO_5 := n0_; have HO192 := n1_; have HI0 := n2_; have HK := n3_; have HB := n4_; clear n0_ n1_ n2_ n3_ n4_; clear hb ho36) | ((with_reducible refine gate_callee (f := 43) rfl ?_); refine goesL_ (some 40) rfl rfl Tryz.func43 (by kernel_rfl) rfl #[.pointer (some ⟨g, 0, none⟩), .int .i64 2] rfl Sqz.auM ?_; (with_reducible refine (spec_l6Rd_pick.calls k1 g s0_0 t189 2 t193 t194 w0 _ ?side1 ?side2 A29.out).mono ?_); (case side1 => repeat (first | (with_reducible first | exact HI0.out | apply IsS83.alloc | apply IsS83.drewN | apply IsS83.drew | apply IsS83.set_1) | exact HI0.out)); (case side2 => repeat (first | (with_reducible first | exact HB.out | apply below_alloc | apply pw_below_drewN | apply below_drew1 | refine below_set ?_ (IsS83.ge HI0.out)) | exact HB.out)); rintro e w37 ⟨rfl, hi, hb, hk⟩; refine ⟨_, rfl, ?_⟩; have n0_ := Aside0.mk (Kd.R_mono (Kd.R_keep (IsS83.apart (show IsS83 w0 _ g s0_0 t189 from by repeat (first | (with_reducible first | exact HI0.out | apply IsS83.alloc | apply IsS83.drewN | apply IsS83.drew | apply IsS83.set_1) | exact HI0.out)) ((Sqz.mvR HO_5.out)) (by decide)) hk (fun _ h => h.2)) (fun _ h => h.1)); have n1_ := Aside0.mk (Kd.R_mono (Kd.R_keep (IsS83.apart (show IsS83 w0 _ g s0_0 t189 from by repeat (first | (with_reducible first | exact HI0.out | apply IsS83.alloc | apply IsS83.drewN | apply IsS83.drew | apply IsS83.set_1) | exact HI0.out)) ((Sqz.mvR HO192.out)) (by decide)) hk (fun _ h => h.2)) (fun _ h => h.1)); have n2_ := Aside0.mk (KeepBut.trans (by repeat (first | (with_reducible first | exact HK.out | apply KeepBut.set_ | apply keep_drewN | apply keep_drew | apply keep_alloc) | exact HK.out)) hk (.inl rfl)); have n3_ := Aside0.mk (hb); have n4_ := Aside0.mk (hi); clear HO_5; clear HO192; clear HK; clear HB; clear HI0; have HO_5 := n0_; have HO192 := n1_; have HK := n2_; have HB := n3_; have HI0 := n4_; clear n0_ n1_ n2_ n3_ n4_; (try clear hb); (try clear hb2); (try clear hk); (try clear hi); obtain ⟨Ao38, co38, eo38⟩ := Kd.R_slice HO192.out; subst eo38; have p195 : 0 ≤ (t193 : Int) := of_decide_eq_true (by first | (with_reducible assumption) | assumption); have q195 : t193 < (y190.length : Int) := of_decide_eq_true (by first | (with_reducible assumption) | assumption); obtain ⟨ad195, e195, hx195_0⟩ := Kd.at_int (Kd.R_reads' HO192.out).2.2 t193 p195 q195; cases e195; replace p195 := eq_true p195; replace q195 := eq_true q195; have p33 : 0 ≤ (0 : Int) := (by omega); have q33 : (0 : Int) < ((x5_1.length : Int) : Int) := of_decide_eq_true (by first | (with_reducible assumption) | assumption); have qi33 : (0 < x5_1.length) = True := eq_true (by omega); obtain ⟨go33, co33, eo33, gb33, gl33, cl33, HG33⟩ := Kd.R_form HO_5.out (by omega); (first | cases eo33 | (injection eo33 with ea_ en_ ec_; (first | subst ea_ | (injection ea_ with ea_; subst ea_)); subst ec_; clear en_)); have GB33 := Aside0.mk gb33; have GG33 := Aside0.mk HG33; clear gb33 gl33 HG33; obtain ⟨hx33_0, hf33_0⟩ := Kd.R_celln 0 HO_5.out (0 : Int) p33 q33; (try rw [show ((0 : Int)).toNat = 0 from rfl] at hx33_0); (try simp only [Nat.reduceMul, Nat.zero_mul, Nat.zero_add, Nat.reduceAdd] at hx33_0); (try rw [show ((0 : Int)).toNat = 0 from rfl] at hf33_0); (try simp only [Nat.reduceMul, Nat.zero_mul, Nat.zero_add, Nat.reduceAdd] at hf33_0); replace p33 := eq_true p33; replace q33 := eq_true q33; have n_ := Aside0.mk (Kd.R_mono (ok' := (fun k_ => some k_ ≠ (.slice (some ad195) y190.length co38 : Value).ownBlock)) HO_5.out (fun k_ hk => hk.2)); clear HO_5; have HO_5 := n_; clear n_; obtain ⟨hy39_, hz39_⟩ := Kd.R_celln 0 HO_5.out (0 : Int) (by omega) (of_decide_eq_true (by first | (with_reducible assumption) | assumption)); (try simp only [Int.reduceToNat, Int.toNat_zero, Int.toNat_ofNat, Nat.reduceMul, Nat.zero_mul, Nat.zero_add] at hy39_ hz39_); (try rw [show ((0 : Int)).toNat = 0 from rfl] at hy39_); (try rw [show ((0 : Int)).toNat = 0 from rfl] at hz39_); have HP39 := Kd.R_putg HO_5.out (0 : Int) (rd y190 t193)) | ((with_reducible refine gate_store (t := 3) (p := 43) rfl ?_); refine store_event (t := 3) (p := 43) (v := ?vo_w40) (w1 := (w37.setCell ⟨go33, (0 : Int).toNat, none⟩ (.int .i64 (rd y190 t193)))) ?hg ?ho ?hn ?hr ?_; (case ho => rfl); (case hg => rfl); (case hn => rfl); (case hr => first | (go_simp; done) | (go_simp; rfl)); intro w40 hw; have hg : w37.grownBy w40 (some go33) := (by rw [hw]; exact HP39.2); have hp_ : Kd.R (Kd.int .i64) 3 w40 w.heap.size (fun k_ => some k_ ≠ (.slice (some ad195) y190.length co38 : Value).ownBlock) (.slice (some ⟨go33, 0, none⟩) x5_1.length co33) y196 := (by rw [hw, Ny196.out]; exact HP39.1); clear HP39; have n0_ := Aside0.mk (hp_); have n1_ := Aside0.mk (IsS83.grown (by repeat (first | (with_reducible first | exact HI0.out | apply IsS83.alloc | apply IsS83.drewN | apply IsS83.drew | apply IsS83.set_1) | exact HI0.out)) hg (IsS83.own_ne HI0.out HO_5.out (by decide))); have n2_ := Aside0.mk (Kd.R_after (v := (.slice (some ⟨go33, 0, none⟩) x5_1.length co33)) (v1 := (.slice (some ⟨go33, 0, none⟩) x5_1.length co33)) (ok := (fun _ => True)) ((Sqz.mvR HO192.out)) hg (.inl rfl)); have n3_ := Aside0.mk ((by rw [hw]; exact below_set (HB.out) (Nat.le_trans HL.out GB33.out) : Below w0.heap.size w0 w40)); have n4_ := Aside0.mk (KeepBut.trans (by repeat (first | (with_reducible first | exact HK.out | apply KeepBut.set_ | apply keep_drewN | apply keep_drew | apply keep_alloc) | exact HK.out)) (KeepBut.of_grown hg g) (Kd.R_base2 HO_5.out)); clear HO_5; clear HI0; clear HO192; clear HB; clear HK; have HO_5 := n0_; have HI0 := n1_; have HO192 := n2_; have HB := n3_; have HK := n4_; clear n0_ n1_ n2_ n3_ n4_; clear hg hw hp_))
                go_ret
                exact ⟨_, Sqz.auR, (Sqz.mvR (Kd.R_mono HO_5.out (fun _ hk => trivial))), by repeat (first | (with_reducible first | exact HI0.out | apply IsS83.alloc | apply IsS83.drewN | apply IsS83.drew | apply IsS83.set_1) | exact HI0.out), by repeat (first | (with_reducible first | exact HB.out | apply below_alloc | apply pw_below_drewN | apply below_drew1 | refine below_set ?_ (IsS83.ge HI0.out)) | exact HB.out), by repeat (first | (with_reducible first | exact HK.out | apply KeepBut.set_ | apply keep_drewN | apply keep_drew | apply keep_alloc) | exact HK.out)⟩
              · rw [if_neg c32] at H
                exact absurd H (by simp)
            · rw [if_neg c31] at H
              exact absurd H (by simp)
          · rw [if_neg c30] at H
            exact absurd H (by simp)
        · rw [if_neg c28] at H
          have c28b0 : (t188 == 0) = false := beq_eq_false_iff_ne.mpr c28
          have c28b1 : (t188 != 0) = true := bne_iff_ne.mpr c28
          by_cases c41 : t188 = 1
          · rw [if_pos c41] at H
            have c41b0 : (t188 == 1) = true := beq_iff_eq.mpr c41
            have c41b1 : (t188 != 1) = false := bne_eq_false_iff_eq.mpr c41
            clear c41
            obtain ⟨y197, hy197⟩ : ∃ y_ : List Int, y_ = (([] : List Int)) := ⟨_, rfl⟩
            replace H : (some (y197, t189)) = some (r1, r2) := by first | (rw [hy197]; with_reducible exact H) | (have H2_ := (Option.bind_some _ _).symm.trans H; rw [hy197]; with_reducible exact H2_) | (have H2_ := (Option.bind_some _ _).symm.trans H; with_reducible exact H2_) | with_reducible exact H | (rw [hy197]; exact H) | exact H
            have Ny197 := Aside0.mk hy197
            clear hy197
            simp only [Option.some.injEq, Prod.mk.injEq] at H
            obtain ⟨rfl, rfl⟩ := H
            go_wp2_with (first | ((with_reducible refine gate_callee (f := 43) rfl ?_); refine goesL_ (some 34) rfl rfl Tryz.func43 (by kernel_rfl) rfl #[.pointer (some ⟨g, 0, none⟩), .int .i64 40] rfl Sqz.auM ?_; (with_reducible refine (spec_l6Rd_pick.calls k1 g s0_0 x1001_1 40 t188 t189 w0 _ ?side1 ?side2 A27.out).mono ?_); (case side1 => repeat (first | (with_reducible first | exact HI0.out | apply IsS83.alloc | apply IsS83.drewN | apply IsS83.drew | apply IsS83.set_1) | exact HI0.out)); (case side2 => repeat (first | (with_reducible first | exact HB.out | apply below_alloc | apply pw_below_drewN | apply below_drew1 | refine below_set ?_ (IsS83.ge HI0.out)) | exact HB.out)); rintro e w42 ⟨rfl, hi, hb, hk⟩; refine ⟨_, rfl, ?_⟩; have n0_ := Aside0.mk (Kd.R_mono (Kd.R_keep (IsS83.apart (show IsS83 w0 _ g s0_0 x1001_1 from by repeat (first | (with_reducible first | exact HI0.out | apply IsS83.alloc | apply IsS83.drewN | apply IsS83.drew | apply IsS83.set_1) | exact HI0.out)) ((Sqz.mvR HO_5.out)) (by decide)) hk (fun _ h => h.2)) (fun _ h => h.1)); have n1_ := Aside0.mk (KeepBut.trans (by repeat (first | (with_reducible first | exact HK.out | apply KeepBut.set_ | apply keep_drewN | apply keep_drew | apply keep_alloc) | exact HK.out)) hk (.inl rfl)); have n2_ := Aside0.mk (hb); have n3_ := Aside0.mk (hi); clear HO_5; clear HK; clear HB; clear HI0; have HO_5 := n0_; have HK := n1_; have HB := n2_; have HI0 := n3_; clear n0_ n1_ n2_ n3_; (try clear hb); (try clear hb2); (try clear hk); (try clear hi)) | ((with_reducible refine gate_dst (N := 46) rfl ?_); refine Kd.R_lit (Kd.int .i64) _ 3 ?hg (N := 46) ?hd (xs := ([] : List Int)) (inner := []) (ok := fun _ => True) (okp := fun _ => True) ?hr ?hp (fun _ hk => hk) trivial (Below.refl _ _) (Nat.le_refl _) (by simp) ?_; (case hd => rfl); (case hg => rfl); (case hr => first | (go_simp; done) | (go_simp; rfl)); (case hp => exact (Reps.none _ _)); intro v198 w43 ho44 hb hg_ hnew_; clear hg_ hnew_; (first | rw [← Ny197.out] at ho44 | (simp only [Int.reduceToNat] at ho44; rw [← Ny197.out] at ho44)); have n0_ := Aside0.mk (Kd.R_elder' ((Sqz.mvR HO_5.out)) (Kd.R_base ho44) hb); have n1_ := Aside0.mk (Kd.R_lower (Kd.R_new' ho44 (Kd.R_lt ((Sqz.mvR HO_5.out)))) (keep_size (w := w) (g := g) (row := none) (by repeat (first | (with_reducible first | exact HK.out | apply KeepBut.set_ | apply keep_drewN | apply keep_drew | apply keep_alloc) | exact HK.out)))); have n2_ := Aside0.mk (IsS83.below (by repeat (first | (with_reducible first | exact HI0.out | apply IsS83.alloc | apply IsS83.drewN | apply IsS83.drew | apply IsS83.set_1) | exact HI0.out)) hb); have n3_ := Aside0.mk (KeepBut.trans (by repeat (first | (with_reducible first | exact HK.out | apply KeepBut.set_ | apply keep_drewN | apply keep_drew | apply keep_alloc) | exact HK.out)) (KeepBut.of_below hb g none) (.inl rfl)); have n4_ := Aside0.mk (below_step (by repeat (first | (with_reducible first | exact HB.out | apply below_alloc | apply pw_below_drewN | apply below_drew1 | refine below_set ?_ (IsS83.ge HI0.out)) | exact HB.out)) hb); clear HO_5; clear HI0; clear HK; clear HB; have HO_5 := n0_; have HO199 := n1_; have HI0 := n2_; have HK := n3_; have HB := n4_; clear n0_ n1_ n2_ n3_ n4_; clear hb ho44))
            go_ret
            exact ⟨_, Sqz.auR, (Sqz.mvR (Kd.R_mono HO199.out (fun _ hk => trivial))), by repeat (first | (with_reducible first | exact HI0.out | apply IsS83.alloc | apply IsS83.drewN | apply IsS83.drew | apply IsS83.set_1) | exact HI0.out), by repeat (first | (with_reducible first | exact HB.out | apply below_alloc | apply pw_below_drewN | apply below_drew1 | refine below_set ?_ (IsS83.ge HI0.out)) | exact HB.out), by repeat (first | (with_reducible first | exact HK.out | apply KeepBut.set_ | apply keep_drewN | apply keep_drew | apply keep_alloc) | exact HK.out)⟩
          · rw [if_neg c41] at H
            have c41b0 : (t188 == 1) = false := beq_eq_false_iff_ne.mpr c41
            have c41b1 : (t188 != 1) = true := bne_iff_ne.mpr c41
            simp only [Option.some.injEq, Prod.mk.injEq] at H
            obtain ⟨rfl, rfl⟩ := H
            go_wp2_with (first | ((with_reducible refine gate_callee (f := 43) rfl ?_); refine goesL_ (some 34) rfl rfl Tryz.func43 (by kernel_rfl) rfl #[.pointer (some ⟨g, 0, none⟩), .int .i64 40] rfl Sqz.auM ?_; (with_reducible refine (spec_l6Rd_pick.calls k1 g s0_0 x1001_1 40 t188 t189 w0 _ ?side1 ?side2 A27.out).mono ?_); (case side1 => repeat (first | (with_reducible first | exact HI0.out | apply IsS83.alloc | apply IsS83.drewN | apply IsS83.drew | apply IsS83.set_1) | exact HI0.out)); (case side2 => repeat (first | (with_reducible first | exact HB.out | apply below_alloc | apply pw_below_drewN | apply below_drew1 | refine below_set ?_ (IsS83.ge HI0.out)) | exact HB.out)); rintro e w45 ⟨rfl, hi, hb, hk⟩; refine ⟨_, rfl, ?_⟩; have n0_ := Aside0.mk (Kd.R_mono (Kd.R_keep (IsS83.apart (show IsS83 w0 _ g s0_0 x1001_1 from by repeat (first | (with_reducible first | exact HI0.out | apply IsS83.alloc | apply IsS83.drewN | apply IsS83.drew | apply IsS83.set_1) | exact HI0.out)) ((Sqz.mvR HO_5.out)) (by decide)) hk (fun _ h => h.2)) (fun _ h => h.1)); have n1_ := Aside0.mk (KeepBut.trans (by repeat (first | (with_reducible first | exact HK.out | apply KeepBut.set_ | apply keep_drewN | apply keep_drew | apply keep_alloc) | exact HK.out)) hk (.inl rfl)); have n2_ := Aside0.mk (hb); have n3_ := Aside0.mk (hi); clear HO_5; clear HK; clear HB; clear HI0; have HO_5 := n0_; have HK := n1_; have HB := n2_; have HI0 := n3_; clear n0_ n1_ n2_ n3_; (try clear hb); (try clear hb2); (try clear hk); (try clear hi)))
            go_ret
            exact ⟨_, Sqz.auR, (Sqz.mvR HO_5.out), by repeat (first | (with_reducible first | exact HI0.out | apply IsS83.alloc | apply IsS83.drewN | apply IsS83.drew | apply IsS83.set_1) | exact HI0.out), by repeat (first | (with_reducible first | exact HB.out | apply below_alloc | apply pw_below_drewN | apply below_drew1 | refine below_set ?_ (IsS83.ge HI0.out)) | exact HB.out), by repeat (first | (with_reducible first | exact HK.out | apply KeepBut.set_ | apply keep_drewN | apply keep_drew | apply keep_alloc) | exact HK.out)⟩

/-! ### spec_DrawFormTimes: function 26 -/
def spec_DrawFormTimes.f (k : Nat) (l0 : List Int) : Option (List Int × Int) := (spec_l6Open.f l0).bind fun bt200 => ((spec_l91Form.f k bt200.1 bt200.2 4).bind fun bt203 => ((spec_l6Rd_pick.f k bt200.1 bt203.2 16).bind fun bt207 => (if bt207.1 = 0 then ((some (([0, 5001] : List Int) : List Int)).bind fun y209 => ((spec_l6Rd_pick.f k bt200.1 bt207.2 2).bind fun bt212 => (if 0 ≤ bt212.1 then (if bt212.1 < (y209.length : Int) then (some (bt203.1, rd y209 bt212.1)) else (none)) else (none)))) else ((some (([1, (-1), 2, 3, (-2), 4, 5, (-3)] : List Int) : List Int)).bind fun y215 => ((spec_l6Rd_pick.f k bt200.1 bt207.2 8).bind fun bt218 => (if 0 ≤ bt218.1 then (if bt218.1 < (y215.length : Int) then (some (bt203.1, rd y215 bt218.1)) else (none)) else (none)))))))
def spec_DrawFormTimes.T4 : Bool × List (List Nat × List Nat) := (true, [([], []), ([], []), ([], []), ([2], [2]), ([1, 3], [1, 3]), ([4], [4]), ([0, 3, 0], [0]), ([5, 6, 0, 1, 2, 3, 4, 5, 6], [5])])
def spec_DrawFormTimes.B4 : List Nat := [0, 0, 0, 4, 14, 30, 13, 127]
theorem spec_DrawFormTimes.tab4 : rtab .any (opsOf Tryz.f26 4) = spec_DrawFormTimes.T4 := by kernel_rfl
theorem spec_DrawFormTimes.bits4 : waitsOk spec_DrawFormTimes.T4.2 spec_DrawFormTimes.B4 = true := by kernel_rfl
def spec_DrawFormTimes.T5 : Bool × List (List Nat × List Nat) := (true, [([], []), ([], []), ([], []), ([2], [2]), ([1, 3], [1, 3]), ([4], [4]), ([0, 3, 0], [0]), ([5, 6, 0, 1, 2, 3, 4, 5, 6], [5])])
def spec_DrawFormTimes.B5 : List Nat := [0, 0, 0, 4, 14, 30, 13, 127]
theorem spec_DrawFormTimes.tab5 : rtab .any (opsOf Tryz.f26 5) = spec_DrawFormTimes.T5 := by kernel_rfl
theorem spec_DrawFormTimes.bits5 : waitsOk spec_DrawFormTimes.T5.2 spec_DrawFormTimes.B5 = true := by kernel_rfl
set_option maxHeartbeats 8000000 in
set_option maxRecDepth 100000 in
theorem spec_DrawFormTimes.calls (k : Nat) (A0 : Option Addr) (c0 : Nat) (l0 : List Int) (r1 : List Int) (r2 : Int) (w : World) (hr0 : Kd.C (Kd.int .u8) w A0 l0.length l0) (hc0 : l0.length ≤ c0) (h : spec_DrawFormTimes.f k l0 = some (r1, r2)) :
    Calls Tryz.prog 26 #[.slice A0 l0.length c0] w fun e w' => ∃ v0_ : Value, e = .returned (.tuple #[v0_, .int .i64 r2]) ∧ Kd.R (Kd.int .i64) 3 w' w.heap.size (fun _ => True) v0_ r1 ∧ Below w.heap.size w w' := by
  have HR0 := Aside0.mk hr0
  have HC0 := Aside0.mk hc0
  clear hr0 hc0
  have HB := Aside0.mk (Below.refl w.heap.size w)
  have H : ((spec_l6Open.f l0).bind fun bt200 => ((spec_l91Form.f k bt200.1 bt200.2 4).bind fun bt203 => ((spec_l6Rd_pick.f k bt200.1 bt203.2 16).bind fun bt207 => (if bt207.1 = 0 then ((some (([0, 5001] : List Int) : List Int)).bind fun y209 => ((spec_l6Rd_pick.f k bt200.1 bt207.2 2).bind fun bt212 => (if 0 ≤ bt212.1 then (if bt212.1 < (y209.length : Int) then (some (bt203.1, rd y209 bt212.1)) else (none)) else (none)))) else ((some (([1, (-1), 2, 3, (-2), 4, 5, (-3)] : List Int) : List Int)).bind fun y215 => ((spec_l6Rd_pick.f k bt200.1 bt207.2 8).bind fun bt218 => (if 0 ≤ bt218.1 then (if bt218.1 < (y215.length : Int) then (some (bt203.1, rd y215 bt218.1)) else (none)) else (none)))))))) = some (r1, r2) := h
  clear h
  replace H := Option.bind_eq_some_iff.mp H
  obtain ⟨⟨t200, t201⟩, A20, H⟩ := H
  replace H : ((spec_l91Form.f k t200 t201 4).bind fun bt203 => ((spec_l6Rd_pick.f k t200 bt203.2 16).bind fun bt207 => (if bt207.1 = 0 then ((some (([0, 5001] : List Int) : List Int)).bind fun y209 => ((spec_l6Rd_pick.f k t200 bt207.2 2).bind fun bt212 => (if 0 ≤ bt212.1 then (if bt212.1 < (y209.length : Int) then (some (bt203.1, rd y209 bt212.1)) else (none)) else (none)))) else ((some (([1, (-1), 2, 3, (-2), 4, 5, (-3)] : List Int) : List Int)).bind fun y215 => ((spec_l6Rd_pick.f k t200 bt207.2 8).bind fun bt218 => (if 0 ≤ bt218.1 then (if bt218.1 < (y215.length : Int) then (some (bt203.1, rd y215 bt218.1)) else (none)) else (none))))))) = some (r1, r2) := H
  have A2 := Aside0.mk A20
  clear A20
  replace H := Option.bind_eq_some_iff.mp H
  obtain ⟨⟨t203, t206⟩, A30, H⟩ := H
  replace H : ((spec_l6Rd_pick.f k t200 t206 16).bind fun bt207 => (if bt207.1 = 0 then ((some (([0, 5001] : List Int) : List Int)).bind fun y209 => ((spec_l6Rd_pick.f k t200 bt207.2 2).bind fun bt212 => (if 0 ≤ bt212.1 then (if bt212.1 < (y209.length : Int) then (some (t203, rd y209 bt212.1)) else (none)) else (none)))) else ((some (([1, (-1), 2, 3, (-2), 4, 5, (-3)] : List Int) : List Int)).bind fun y215 => ((spec_l6Rd_pick.f k t200 bt207.2 8).bind fun bt218 => (if 0 ≤ bt218.1 then (if bt218.1 < (y215.length : Int) then (some (t203, rd y215 bt218.1)) else (none)) else (none)))))) = some (r1, r2) := H
  have A3 := Aside0.mk A30
  clear A30
  replace H := Option.bind_eq_some_iff.mp H
  obtain ⟨⟨t207, t208⟩, A40, H⟩ := H
  replace H : (if t207 = 0 then ((some (([0, 5001] : List Int) : List Int)).bind fun y209 => ((spec_l6Rd_pick.f k t200 t208 2).bind fun bt212 => (if 0 ≤ bt212.1 then (if bt212.1 < (y209.length : Int) then (some (t203, rd y209 bt212.1)) else (none)) else (none)))) else ((some (([1, (-1), 2, 3, (-2), 4, 5, (-3)] : List Int) : List Int)).bind fun y215 => ((spec_l6Rd_pick.f k t200 t208 8).bind fun bt218 => (if 0 ≤ bt218.1 then (if bt218.1 < (y215.length : Int) then (some (t203, rd y215 bt218.1)) else (none)) else (none))))) = some (r1, r2) := H
  have A4 := Aside0.mk A40
  clear A40
  by_cases c5 : t207 = 0
  · rw [if_pos c5] at H
    have c5b0 : (t207 == 0) = true := beq_iff_eq.mpr c5
    have c5b1 : (t207 != 0) = false := bne_eq_false_iff_eq.mpr c5
    clear c5
    obtain ⟨y209, hy209⟩ : ∃ y_ : List Int, y_ = (([0, 5001] : List Int)) := ⟨_, rfl⟩
    replace H : ((spec_l6Rd_pick.f k t200 t208 2).bind fun bt212 => (if 0 ≤ bt212.1 then (if bt212.1 < (y209.length : Int) then (some (t203, rd y209 bt212.1)) else (none)) else (none))) = some (r1, r2) := by first | (rw [hy209]; with_reducible exact H) | (have H2_ := (Option.bind_some _ _).symm.trans H; rw [hy209]; with_reducible exact H2_) | (have H2_ := (Option.bind_some _ _).symm.trans H; with_reducible exact H2_) | with_reducible exact H | (rw [hy209]; exact H) | exact H
    have Ny209 := Aside0.mk hy209
    clear hy209
    replace H := Option.bind_eq_some_iff.mp H
    obtain ⟨⟨t212, t213⟩, A60, H⟩ := H
    replace H : (if 0 ≤ t212 then (if t212 < (y209.length : Int) then (some (t203, rd y209 t212)) else (none)) else (none)) = some (r1, r2) := H
    have A6 := Aside0.mk A60
    clear A60
    by_cases c7 : 0 ≤ t212
    · rw [if_pos c7] at H
      have c7b0 : decide (0 ≤ t212) = true := decide_eq_true c7
      clear c7
      by_cases c8 : t212 < (y209.length : Int)
      · rw [if_pos c8] at H
        have c8b0 : decide (t212 < (y209.length : Int)) = true := decide_eq_true c8
        clear c8
        simp only [Option.some.injEq, Prod.mk.injEq] at H
        obtain ⟨rfl, rfl⟩ := H
        go_enter Tryz.func26, Tryz.ntmps26
        try go_wp2_with (first | ((with_reducible refine gate_callee (f := 42) rfl ?_); refine goesL_ (some 7) rfl rfl Tryz.func42 (by kernel_rfl) rfl #[.slice A0 l0.length c0] rfl Sqz.auM ?_; (with_reducible refine (spec_l6Open.calls _ _ l0 t200 t201 w _ ?side1 ?side2 ?side3 A2.out).mono ?_); (case side1 => repeat (first | (with_reducible first | exact HB.out | apply below_alloc | apply pw_below_drewN | apply below_drew1) | exact HB.out)); (case side2 => exact HR0.out); (case side3 => exact HC0.out); rintro e w9 ⟨g202, rfl, hi, hb, hb2⟩; refine ⟨_, rfl, ?_⟩; have n0_ := Aside0.mk (hb); have n1_ := Aside0.mk (hi); clear HB; have HB := n0_; have HI202 := n1_; clear n0_ n1_; (try clear hb); (try clear hb2); (try clear hk); (try clear hi)) | ((with_reducible refine gate_callee (f := 58) rfl ?_); refine goesL_ (some 9) rfl rfl Tryz.func58 (by kernel_rfl) rfl #[.pointer (some ⟨g202, 0, none⟩), .int .i64 4] rfl Sqz.auM ?_; (with_reducible refine (spec_l91Form.calls k g202 t200 t201 4 t203 t206 w _ ?side1 ?side2 A3.out).mono ?_); (case side1 => repeat (first | (with_reducible first | exact HI202.out | apply IsS83.alloc | apply IsS83.drewN | apply IsS83.drew | apply IsS83.set_1) | exact HI202.out)); (case side2 => repeat (first | (with_reducible first | exact HB.out | apply below_alloc | apply pw_below_drewN | apply below_drew1 | refine below_set ?_ (IsS83.ge HI202.out)) | exact HB.out)); rintro e w10 ⟨v204, rfl, ho0, hi, hb, hk⟩; refine ⟨_, rfl, ?_⟩; have n0_ := Aside0.mk (Kd.R_lower ho0 (below_size (by repeat (first | (with_reducible first | exact HB.out | apply below_alloc | apply pw_below_drewN | apply below_drew1 | refine below_set ?_ (IsS83.ge HI202.out)) | exact HB.out)))); have n1_ := Aside0.mk (hb); have n2_ := Aside0.mk (hi); clear HB; clear HI202; have HO205 := n0_; have HB := n1_; have HI202 := n2_; clear n0_ n1_ n2_; (try clear hb); (try clear hb2); (try clear hk); (try clear hi); (try clear ho0)) | ((with_reducible refine gate_callee (f := 43) rfl ?_); refine goesL_ (some 11) rfl rfl Tryz.func43 (by kernel_rfl) rfl #[.pointer (some ⟨g202, 0, none⟩), .int .i64 16] rfl Sqz.auM ?_; (with_reducible refine (spec_l6Rd_pick.calls k g202 t200 t206 16 t207 t208 w _ ?side1 ?side2 A4.out).mono ?_); (case side1 => repeat (first | (with_reducible first | exact HI202.out | apply IsS83.alloc | apply IsS83.drewN | apply IsS83.drew | apply IsS83.set_1) | exact HI202.out)); (case side2 => repeat (first | (with_reducible first | exact HB.out | apply below_alloc | apply pw_below_drewN | apply below_drew1 | refine below_set ?_ (IsS83.ge HI202.out)) | exact HB.out)); rintro e w11 ⟨rfl, hi, hb, hk⟩; refine ⟨_, rfl, ?_⟩; have n0_ := Aside0.mk (Kd.R_mono (Kd.R_keep (IsS83.apart (show IsS83 w _ g202 t200 t206 from by repeat (first | (with_reducible first | exact HI202.out | apply IsS83.alloc | apply IsS83.drewN | apply IsS83.drew | apply IsS83.set_1) | exact HI202.out)) ((Sqz.mvR HO205.out)) (by decide)) hk (fun _ h => h.2)) (fun _ h => h.1)); have n1_ := Aside0.mk (hb); have n2_ := Aside0.mk (hi); clear HO205; clear HB; clear HI202; have HO205 := n0_; have HB := n1_; have HI202 := n2_; clear n0_ n1_ n2_; (try clear hb); (try clear hb2); (try clear hk); (try clear hi)))
        have pi214 : (0 ≤ (t212 : Int)) = True := eq_true (of_decide_eq_true (by first | (with_reducible assumption) | assumption))
        have qi214 : (t212 < (y209.length : Int)) = True := eq_true (of_decide_eq_true (by first | (with_reducible assumption) | assumption))
        have n0_ := Aside0.mk (Kd.R_drew HO205.out)
        have n1_ := Aside0.mk (IsS83.drew HI202.out)
        have n2_ := Aside0.mk (below_drew1 HB.out)
        clear HO205
        clear HI202
        clear HB
        have HO205 := n0_
        have HI202 := n1_
        have HB := n2_
        clear n0_ n1_ n2_
        refine start_ (n := 8) (S := fun w' => True) (ds := []) #[false, false, false, false, false, false, false, false] (by kernel_rfl) rfl rfl trivial (fun hHeld => ?_); refine with_tabW spec_DrawFormTimes.tab4 spec_DrawFormTimes.bits4 (fun HT_ HW_ => ?_)
        generalize w11.drew = w12 at HO205 HI202 HB hHeld ⊢
        refine pure_ (i := 0) (N := some 13) (v := ?_) (a' := ?_) #[true, false, false, false, false, false, false, false] rfl rfl (any_of HT_.out (by kernel_rfl)) (fun _ _ _ h => h) (Or.inl ⟨by rfl, ?_⟩) ?_ ?_
        rotate_left
        · intro w'
          go_simp
          with_reducible rfl
        rotate_left
        · simp only [Act.put, List.setIfInBounds_toArray, List.set_cons_zero, List.set_cons_succ, i64_w, i32_w]
          rfl
        refine pure_ (i := 2) (N := some 15) (v := ?_) (a' := ?_) #[true, false, true, false, false, false, false, false] rfl rfl (any_of HT_.out (by kernel_rfl)) (fun _ _ _ h => h) (Or.inl ⟨by rfl, ?_⟩) ?_ ?_
        rotate_left
        · intro w'
          go_simp
          with_reducible rfl
        rotate_left
        · simp only [Act.put, List.setIfInBounds_toArray, List.set_cons_zero, List.set_cons_succ, i64_w, i32_w]
          rfl
        refine inv_at [1, 3, 4, 5, 6, 7] (fun a0_ b a w' => ∃ (v210 : Value) (adz_v210 : Addr) (m4_ : Value), a = putSel a0_ b [(1, 14, v210), (3, 16, .int .i64 t212), (4, 17, m4_), (5, 18, .int .i64 (rd y209 t212)), (6, 2, v204), (7, 3, .int .i64 (rd y209 t212))] ∧ (Kd.R (Kd.int .i64) 3 w' w.heap.size (fun _ => True) v204 t203) ∧ (b 3 = false → IsS83 w w' g202 t200 t208) ∧ (Below w.heap.size w w') ∧ (b 1 = true → Kd.R (Kd.int .i64) 3 w' w.heap.size (fun k_ => some k_ ≠ (v204 : Value).ownBlock) v210 y209) ∧ (b 1 = true → ∃ c_, (v210 : Value) = .slice (some adz_v210) y209.length c_) ∧ (b 3 = true → IsS83 w w' g202 t200 t213) ∧ (b 4 = true → (m4_ : Value) = .pointer (some (adz_v210.add (t212).toNat)))) HT_.out HW_.out (by kernel_rfl) (by kernel_rfl) ?_ ?_ ?_
        · exact ⟨.bool false, ⟨0, 0, none⟩, .bool false, by simp only [putSel, Bool.false_eq_true, if_false], HO205.out, fun _ => HI202.out, HB.out, fun h_ => absurd h_ (by decide), fun h_ => absurd h_ (by decide), fun h_ => absurd h_ (by decide), fun h_ => absurd h_ (by decide)⟩
        · skip
          clear HB HI202 HO205
          refine steps_cons ?_ ?_
          · rintro b a w' ⟨v210, adz_v210, m4_, ha, Q_HO205, Q_HI202, Q_HB, Q_HO211, Q_HA_HO211, Q_HI202_e3, Q_X4_⟩ hb_ hon hoff
            refine ⟨_, rfl, fun K hK => ?_⟩
            replace ha := Aside0.mk ha
            have HO205 := Aside0.mk Q_HO205
            have HB := Aside0.mk Q_HB
            refine Kd.R_lit_step (Kd.int .i64) _ 3 ?hg (N := 14) ?hd (xs := ([0, 5001] : List Int)) (inner := [.int .i64 0, .int .i64 5001]) (ok := fun _ => True) (okp := fun _ => True) ?hr ?hp (fun _ hk => hk) trivial (Below.refl _ _) (Nat.le_refl _) (by simp) ?_; (case hd => rfl); (case hg => rfl); (case hr => first | (go_simp; done) | (go_simp; rfl)); (case hp => exact (Reps.one (show Kd.M (Kd.int .i64) _ _ _ 0 [.int .i64 0] from rfl) (Reps.one (show Kd.M (Kd.int .i64) _ _ _ 5001 [.int .i64 5001] from rfl) (Reps.none _ _))))
            intro v210 w13 ho14 hb hg_ hnew_
            clear hg_ hnew_
            (first | rw [← Ny209.out] at ho14 | (simp only [Int.reduceToNat] at ho14; rw [← Ny209.out] at ho14))
            have n0_ := Aside0.mk (Kd.R_elder' ((Sqz.mvR HO205.out)) (Kd.R_base ho14) hb)
            have n1_ := Aside0.mk (Kd.R_lower (Kd.R_new' ho14 (Kd.R_lt ((Sqz.mvR HO205.out)))) (below_size (Sqz.auHB)))
            have n3_ := Aside0.mk (below_step (Sqz.auHB) hb)
            have z_HI202 := fun (h0_ : b 3 = false) => (show IsS83 w w13 g202 t200 t208 from by first | exact (IsS83.below (by repeat (first | (with_reducible first | exact (Q_HI202 h0_) | apply IsS83.alloc | apply IsS83.drewN | apply IsS83.drew | apply IsS83.set_1) | exact (Q_HI202 h0_))) hb))
            have z_HI202_e3 := fun (h0_ : b 3 = true) => (show IsS83 w w13 g202 t200 t213 from by first | exact (IsS83.below (by repeat (first | (with_reducible first | exact (Q_HI202_e3 h0_) | apply IsS83.alloc | apply IsS83.drewN | apply IsS83.drew | apply IsS83.set_1) | exact (Q_HI202_e3 h0_))) hb))
            clear HO205
            clear HB
            have HO205 := n0_
            have HO211 := n1_
            have HB := n3_
            clear n0_ n1_ n3_
            clear hb ho14
            obtain ⟨Ao15, co15, eo15⟩ := Kd.R_slice HO211.out
            subst eo15
            obtain ⟨ado15, fo15, _⟩ := Kd.at_int (Kd.R_reads' HO211.out).2.2 0 (by decide) (by rw [Ny209.out]; simp)
            cases fo15
            refine hK.out _ _ ⟨.slice (some ado15) y209.length co15, ado15, m4_, (by rw [ha.out]; exact putSel_upk 0 hb_ rfl rfl rfl), ((Sqz.mvR (Kd.R_mono HO205.out (fun _ hk => (by first | exact hk.2 | exact trivial))))), z_HI202, (Sqz.auHB), fun _ => ((Sqz.mvR (Kd.R_mono HO211.out (fun _ hk => hk.2)))), fun _ => ⟨_, rfl⟩, z_HI202_e3, fun h0_ => absurd ((hoff 4 (by kernel_rfl)).symm.trans h0_) (by decide)⟩
          refine steps_cons ?_ ?_
          · rintro b a w' ⟨v210, adz_v210, m4_, ha, Q_HO205, Q_HI202, Q_HB, Q_HO211, Q_HA_HO211, Q_HI202_e3, Q_X4_⟩ hb_ hon hoff
            refine ⟨_, rfl, fun K hK => ?_⟩
            have e15 : a.tmps[15]? = some (.pointer (some ⟨g202, 0, none⟩)) := by rw [ha]; exact (putSel_off rfl).trans rfl
            replace ha := Aside0.mk ha
            have HO205 := Aside0.mk Q_HO205
            have HI202 := Aside0.mk (Q_HI202 hb_)
            have HB := Aside0.mk Q_HB
            refine goes_ Tryz.func43 (by kernel_rfl) rfl #[.pointer (some ⟨g202, 0, none⟩), .int .i64 2] (by rfl) rfl rfl (by first | (simp only [List.map_toArray, List.map_cons, List.map_nil, Act.eval, Array.getD_eq_getD_getElem?, Option.getD_some, e15]; done) | (simp only [List.map_toArray, List.map_cons, List.map_nil, Act.eval, Array.getD_eq_getD_getElem?, Option.getD_some, e15]; rfl)) ?_
            with_reducible refine (spec_l6Rd_pick.calls k g202 t200 t208 2 t212 t213 w _ ?side1 ?side2 A6.out).mono ?_
            (case side1 => repeat (first | (with_reducible first | exact HI202.out | apply IsS83.alloc | apply IsS83.drewN | apply IsS83.drew | apply IsS83.set_1) | exact HI202.out))
            (case side2 => repeat (first | (with_reducible first | exact HB.out | apply below_alloc | apply pw_below_drewN | apply below_drew1 | refine below_set ?_ (IsS83.ge HI202.out)) | exact HB.out))
            rintro e w13 ⟨rfl, hi, hb, hk⟩
            refine ⟨_, rfl, ?_⟩
            have n0_ := Aside0.mk (Kd.R_mono (Kd.R_keep (IsS83.apart (show IsS83 w _ g202 t200 t208 from by repeat (first | (with_reducible first | exact HI202.out | apply IsS83.alloc | apply IsS83.drewN | apply IsS83.drew | apply IsS83.set_1) | exact HI202.out)) ((Sqz.mvR HO205.out)) (by decide)) hk (fun _ h => h.2)) (fun _ h => h.1))
            have n1_ := Aside0.mk (hb)
            have n2_ := Aside0.mk (hi)
            have z_HO211 := fun (h0_ : b 1 = true) => (show Kd.R (Kd.int .i64) 3 w13 w.heap.size (fun k_ => some k_ ≠ (v204 : Value).ownBlock) v210 y209 from by first | exact (Kd.R_mono (Kd.R_keep (IsS83.apart (show IsS83 w _ g202 t200 t208 from by repeat (first | (with_reducible first | exact HI202.out | apply IsS83.alloc | apply IsS83.drewN | apply IsS83.drew | apply IsS83.set_1) | exact HI202.out)) ((Sqz.mvR ((Q_HO211 h0_)))) (by decide)) hk (fun _ h => h.2)) (fun _ h => h.1)) | exact Kd.R_mono (Kd.R_mono (Kd.R_keep (IsS83.apart (show IsS83 w _ g202 t200 t208 from by repeat (first | (with_reducible first | exact HI202.out | apply IsS83.alloc | apply IsS83.drewN | apply IsS83.drew | apply IsS83.set_1) | exact HI202.out)) ((Sqz.mvR ((Q_HO211 h0_)))) (by decide)) hk (fun _ h => h.2)) (fun _ h => h.1)) (fun _ h_ => by first | trivial | exact h_ | exact h_.1))
            clear HO205
            clear HB
            clear HI202
            have HO205 := n0_
            have HB := n1_
            have HI202 := n2_
            clear n0_ n1_ n2_
            (try clear hb)
            (try clear hb2)
            (try clear hk)
            (try clear hi)
            refine hK.out _ _ ⟨v210, adz_v210, m4_, (by rw [ha.out]; exact putSel_upk 1 hb_ rfl rfl rfl), ((Sqz.mvR HO205.out)), fun h0_ => absurd ((up_self b 3).symm.trans h0_) (by decide), (by repeat (first | (with_reducible first | exact HB.out | apply below_alloc | apply pw_below_drewN | apply below_drew1 | refine below_set ?_ (IsS83.ge HI202.out)) | exact HB.out)), z_HO211, Q_HA_HO211, fun _ => (by repeat (first | (with_reducible first | exact HI202.out | apply IsS83.alloc | apply IsS83.drewN | apply IsS83.drew | apply IsS83.set_1) | exact HI202.out)), fun h0_ => absurd ((hoff 4 (by kernel_rfl)).symm.trans h0_) (by decide)⟩
          refine steps_cons ?_ ?_
          · rintro b a w' ⟨v210, adz_v210, m4_, ha, Q_HO205, Q_HI202, Q_HB, Q_HO211, Q_HA_HO211, Q_HI202_e3, Q_X4_⟩ hb_ hon hoff
            refine ⟨_, rfl, fun K hK => ?_⟩
            have e14 : a.tmps[14]? = some (v210) := by rw [ha]; exact putSel_on (e := (1, 14, v210)) 0 rfl rfl (hon 1 (by kernel_rfl)) rfl
            have e16 : a.tmps[16]? = some (.int .i64 t212) := by rw [ha]; exact putSel_on (e := (3, 16, .int .i64 t212)) 1 rfl rfl (hon 3 (by kernel_rfl)) rfl
            replace ha := Aside0.mk ha
            have HO205 := Aside0.mk Q_HO205
            have HB := Aside0.mk Q_HB
            have HO211 := Aside0.mk (Q_HO211 (hon 1 (by kernel_rfl)))
            have HA_HO211 := Aside0.mk (Q_HA_HO211 (hon 1 (by kernel_rfl)))
            have HI202 := Aside0.mk (Q_HI202_e3 (hon 3 (by kernel_rfl)))
            obtain ⟨c_, hv_⟩ := HA_HO211.out
            rw [hv_] at e14
            refine value_ (w1 := w') (v := .pointer (some (adz_v210.add (t212).toNat))) (by rfl) rfl ?_ ?_
            · go_simp
              (try simp only [i64_w])
              try rfl
            refine hK.out _ _ ⟨v210, adz_v210, (.pointer (some (adz_v210.add (t212).toNat))), (by rw [ha.out]; exact putSel_upk 2 hb_ rfl rfl rfl), Q_HO205, fun h0_ => absurd ((hon 3 (by kernel_rfl)).symm.trans h0_) (by decide), Q_HB, Q_HO211, Q_HA_HO211, Q_HI202_e3, fun _ => rfl⟩
          refine steps_cons ?_ ?_
          · rintro b a w' ⟨v210, adz_v210, m4_, ha, Q_HO205, Q_HI202, Q_HB, Q_HO211, Q_HA_HO211, Q_HI202_e3, Q_X4_⟩ hb_ hon hoff
            refine ⟨_, rfl, fun K hK => ?_⟩
            have e17 : a.tmps[17]? = some (m4_) := by rw [ha]; exact putSel_on (e := (4, 17, m4_)) 2 rfl rfl (hon 4 (by kernel_rfl)) rfl
            rw [Q_X4_ (hon 4 (by kernel_rfl))] at e17
            replace ha := Aside0.mk ha
            have HO205 := Aside0.mk Q_HO205
            have HB := Aside0.mk Q_HB
            have HO211 := Aside0.mk (Q_HO211 (hon 1 (by kernel_rfl)))
            have HA_HO211 := Aside0.mk (Q_HA_HO211 (hon 1 (by kernel_rfl)))
            have HI202 := Aside0.mk (Q_HI202_e3 (hon 3 (by kernel_rfl)))
            obtain ⟨c_, hv_⟩ := HA_HO211.out
            have hF_ := HO211.out
            rw [hv_] at hF_
            obtain ⟨ad_, ea_, hx_⟩ := Kd.at_int (Kd.R_reads' hF_).2.2 t212 (of_eq_true pi214) (of_eq_true qi214)
            cases ea_
            refine value_ (w1 := w') (v := .int .i64 (rd y209 t212)) (by rfl) rfl ?_ ?_
            · go_simp
              (try simp only [i64_w])
              try rfl
            refine hK.out _ _ ⟨v210, adz_v210, m4_, (by rw [ha.out]; exact putSel_upk 3 hb_ rfl rfl rfl), Q_HO205, fun h0_ => absurd ((hon 3 (by kernel_rfl)).symm.trans h0_) (by decide), Q_HB, Q_HO211, Q_HA_HO211, Q_HI202_e3, Q_X4_⟩
          refine steps_cons ?_ ?_
          · rintro b a w' ⟨v210, adz_v210, m4_, ha, Q_HO205, Q_HI202, Q_HB, Q_HO211, Q_HA_HO211, Q_HI202_e3, Q_X4_⟩ hb_ hon hoff
            refine ⟨_, rfl, fun K hK => ?_⟩
            have e13 : a.tmps[13]? = some (v204) := by rw [ha]; exact (putSel_off rfl).trans rfl
            replace ha := Aside0.mk ha
            have HO205 := Aside0.mk Q_HO205
            have HB := Aside0.mk Q_HB
            have HI202 := Aside0.mk (Q_HI202_e3 (hon 3 (by kernel_rfl)))
            refine value_ (w1 := w') (v := v204) (by rfl) rfl ?_ ?_
            · go_simp
              (try simp only [i64_w])
              try rfl
            refine hK.out _ _ ⟨v210, adz_v210, m4_, (by rw [ha.out]; exact putSel_upk 4 hb_ rfl rfl rfl), Q_HO205, fun h0_ => absurd ((hon 3 (by kernel_rfl)).symm.trans h0_) (by decide), Q_HB, Q_HO211, Q_HA_HO211, Q_HI202_e3, Q_X4_⟩
          refine steps_cons ?_ ?_
          · rintro b a w' ⟨v210, adz_v210, m4_, ha, Q_HO205, Q_HI202, Q_HB, Q_HO211, Q_HA_HO211, Q_HI202_e3, Q_X4_⟩ hb_ hon hoff
            refine ⟨_, rfl, fun K hK => ?_⟩
            have e18 : a.tmps[18]? = some (.int .i64 (rd y209 t212)) := by rw [ha]; exact putSel_on (e := (5, 18, .int .i64 (rd y209 t212))) 3 rfl rfl (hon 5 (by kernel_rfl)) rfl
            replace ha := Aside0.mk ha
            have HO205 := Aside0.mk Q_HO205
            have HB := Aside0.mk Q_HB
            have HO211 := Aside0.mk (Q_HO211 (hon 1 (by kernel_rfl)))
            have HA_HO211 := Aside0.mk (Q_HA_HO211 (hon 1 (by kernel_rfl)))
            have HI202 := Aside0.mk (Q_HI202_e3 (hon 3 (by kernel_rfl)))
            refine value_ (w1 := w') (v := .int .i64 (rd y209 t212)) (by rfl) rfl ?_ ?_
            · go_simp
              (try simp only [i64_w])
              try rfl
            refine hK.out _ _ ⟨v210, adz_v210, m4_, (by rw [ha.out]; exact putSel_upk 5 hb_ rfl rfl rfl), Q_HO205, fun h0_ => absurd ((hon 3 (by kernel_rfl)).symm.trans h0_) (by decide), Q_HB, Q_HO211, Q_HA_HO211, Q_HI202_e3, Q_X4_⟩
          exact steps_nil
        rintro b a w17 hall ⟨v210, adz_v210, m4_, ha, Q_HO205, Q_HI202, Q_HB, Q_HO211, Q_HA_HO211, Q_HI202_e3, Q_X4_⟩
        clear HB HI202 HO205
        have hb1_ := hall 1 (by kernel_rfl)
        have hb3_ := hall 3 (by kernel_rfl)
        have hb4_ := hall 4 (by kernel_rfl)
        have hb5_ := hall 5 (by kernel_rfl)
        have hb6_ := hall 6 (by kernel_rfl)
        have hb7_ := hall 7 (by kernel_rfl)
        subst ha
        obtain rfl := Q_X4_ hb4_
        simp only [putSel, hb1_, hb3_, hb4_, hb5_, hb6_, hb7_, if_true, Act.put, List.setIfInBounds_toArray, List.set_cons_zero, List.set_cons_succ]
        have HO205 := Aside0.mk Q_HO205
        clear Q_HO205
        clear Q_HI202
        have HB := Aside0.mk Q_HB
        clear Q_HB
        have HO211 := Aside0.mk (Q_HO211 hb1_)
        clear Q_HO211
        have HA_HO211 := Aside0.mk (Q_HA_HO211 hb1_)
        clear Q_HA_HO211
        have HI202 := Aside0.mk (Q_HI202_e3 hb3_)
        clear Q_HI202_e3
        clear hall hb1_ hb3_ hb4_ hb5_ hb6_ hb7_
        obtain ⟨co18, eo18⟩ := HA_HO211.out
        clear HA_HO211
        subst eo18
        try go_wp2
        go_ret2
        exact ⟨_, Sqz.auR, (Sqz.mvR (Kd.R_mono HO205.out (fun _ hk => trivial))), by repeat (first | (with_reducible first | exact HB.out | apply below_alloc | apply pw_below_drewN | apply below_drew1 | refine below_set ?_ (IsS83.ge HI202.out)) | exact HB.out)⟩
      · rw [if_neg c8] at H
        exact absurd H (by simp)
    · rw [if_neg c7] at H
      exact absurd H (by simp)
  · rw [if_neg c5] at H
    have c5b0 : (t207 == 0) = false := beq_eq_false_iff_ne.mpr c5
    have c5b1 : (t207 != 0) = true := bne_iff_ne.mpr c5
    obtain ⟨y215, hy215⟩ : ∃ y_ : List Int, y_ = (([1, (-1), 2, 3, (-2), 4, 5, (-3)] : List Int)) := ⟨_, rfl⟩
    replace H : ((spec_l6Rd_pick.f k t200 t208 8).bind fun bt218 => (if 0 ≤ bt218.1 then (if bt218.1 < (y215.length : Int) then (some (t203, rd y215 bt218.1)) else (none)) else (none))) = some (r1, r2) := by first | (rw [hy215]; with_reducible exact H) | (have H2_ := (Option.bind_some _ _).symm.trans H; rw [hy215]; with_reducible exact H2_) | (have H2_ := (Option.bind_some _ _).symm.trans H; with_reducible exact H2_) | with_reducible exact H | (rw [hy215]; exact H) | exact H
    have Ny215 := Aside0.mk hy215
    clear hy215
    replace H := Option.bind_eq_some_iff.mp H
    obtain ⟨⟨t218, t219⟩, A190, H⟩ := H
    replace H : (if 0 ≤ t218 then (if t218 < (y215.length : Int) then (some (t203, rd y215 t218)) else (none)) else (none)) = some (r1, r2) := H
    have A19 := Aside0.mk A190
    clear A190
    by_cases c20 : 0 ≤ t218
    · rw [if_pos c20] at H
      have c20b0 : decide (0 ≤ t218) = true := decide_eq_true c20
      clear c20
      by_cases c21 : t218 < (y215.length : Int)
      · rw [if_pos c21] at H
        have c21b0 : decide (t218 < (y215.length : Int)) = true := decide_eq_true c21
        clear c21
        simp only [Option.some.injEq, Prod.mk.injEq] at H
        obtain ⟨rfl, rfl⟩ := H
        go_enter Tryz.func26, Tryz.ntmps26
        try go_wp2_with (first | ((with_reducible refine gate_callee (f := 42) rfl ?_); refine goesL_ (some 7) rfl rfl Tryz.func42 (by kernel_rfl) rfl #[.slice A0 l0.length c0] rfl Sqz.auM ?_; (with_reducible refine (spec_l6Open.calls _ _ l0 t200 t201 w _ ?side1 ?side2 ?side3 A2.out).mono ?_); (case side1 => repeat (first | (with_reducible first | exact HB.out | apply below_alloc | apply pw_below_drewN | apply below_drew1) | exact HB.out)); (case side2 => exact HR0.out); (case side3 => exact HC0.out); rintro e w22 ⟨g202, rfl, hi, hb, hb2⟩; refine ⟨_, rfl, ?_⟩; have n0_ := Aside0.mk (hb); have n1_ := Aside0.mk (hi); clear HB; have HB := n0_; have HI202 := n1_; clear n0_ n1_; (try clear hb); (try clear hb2); (try clear hk); (try clear hi)) | ((with_reducible refine gate_callee (f := 58) rfl ?_); refine goesL_ (some 9) rfl rfl Tryz.func58 (by kernel_rfl) rfl #[.pointer (some ⟨g202, 0, none⟩), .int .i64 4] rfl Sqz.auM ?_; (with_reducible refine (spec_l91Form.calls k g202 t200 t201 4 t203 t206 w _ ?side1 ?side2 A3.out).mono ?_); (case side1 => repeat (first | (with_reducible first | exact HI202.out | apply IsS83.alloc | apply IsS83.drewN | apply IsS83.drew | apply IsS83.set_1) | exact HI202.out)); (case side2 => repeat (first | (with_reducible first | exact HB.out | apply below_alloc | apply pw_below_drewN | apply below_drew1 | refine below_set ?_ (IsS83.ge HI202.out)) | exact HB.out)); rintro e w23 ⟨v204, rfl, ho0, hi, hb, hk⟩; refine ⟨_, rfl, ?_⟩; have n0_ := Aside0.mk (Kd.R_lower ho0 (below_size (by repeat (first | (with_reducible first | exact HB.out | apply below_alloc | apply pw_below_drewN | apply below_drew1 | refine below_set ?_ (IsS83.ge HI202.out)) | exact HB.out)))); have n1_ := Aside0.mk (hb); have n2_ := Aside0.mk (hi); clear HB; clear HI202; have HO205 := n0_; have HB := n1_; have HI202 := n2_; clear n0_ n1_ n2_; (try clear hb); (try clear hb2); (try clear hk); (try clear hi); (try clear ho0)) | ((with_reducible refine gate_callee (f := 43) rfl ?_); refine goesL_ (some 11) rfl rfl Tryz.func43 (by kernel_rfl) rfl #[.pointer (some ⟨g202, 0, none⟩), .int .i64 16] rfl Sqz.auM ?_; (with_reducible refine (spec_l6Rd_pick.calls k g202 t200 t206 16 t207 t208 w _ ?side1 ?side2 A4.out).mono ?_); (case side1 => repeat (first | (with_reducible first | exact HI202.out | apply IsS83.alloc | apply IsS83.drewN | apply IsS83.drew | apply IsS83.set_1) | exact HI202.out)); (case side2 => repeat (first | (with_reducible first | exact HB.out | apply below_alloc | apply pw_below_drewN | apply below_drew1 | refine below_set ?_ (IsS83.ge HI202.out)) | exact HB.out)); rintro e w24 ⟨rfl, hi, hb, hk⟩; refine ⟨_, rfl, ?_⟩; have n0_ := Aside0.mk (Kd.R_mono (Kd.R_keep (IsS83.apart (show IsS83 w _ g202 t200 t206 from by repeat (first | (with_reducible first | exact HI202.out | apply IsS83.alloc | apply IsS83.drewN | apply IsS83.drew | apply IsS83.set_1) | exact HI202.out)) ((Sqz.mvR HO205.out)) (by decide)) hk (fun _ h => h.2)) (fun _ h => h.1)); have n1_ := Aside0.mk (hb); have n2_ := Aside0.mk (hi); clear HO205; clear HB; clear HI202; have HO205 := n0_; have HB := n1_; have HI202 := n2_; clear n0_ n1_ n2_; (try clear hb); (try clear hb2); (try clear hk); (try clear hi)))
        have pi220 : (0 ≤ (t218 : Int)) = True := eq_true (of_decide_eq_true (by first | (with_reducible assumption) | assumption))
        have qi220 : (t218 < (y215.length : Int)) = True := eq_true (of_decide_eq_true (by first | (with_reducible assumption) | assumption))
        have n0_ := Aside0.mk (Kd.R_drew HO205.out)
        have n1_ := Aside0.mk (IsS83.drew HI202.out)
        have n2_ := Aside0.mk (below_drew1 HB.out)
        clear HO205
        clear HI202
        clear HB
        have HO205 := n0_
        have HI202 := n1_
        have HB := n2_
        clear n0_ n1_ n2_
        refine start_ (n := 8) (S := fun w' => True) (ds := []) #[false, false, false, false, false, false, false, false] (by kernel_rfl) rfl rfl trivial (fun hHeld => ?_); refine with_tabW spec_DrawFormTimes.tab5 spec_DrawFormTimes.bits5 (fun HT_ HW_ => ?_)
        generalize w24.drew = w25 at HO205 HI202 HB hHeld ⊢
        refine pure_ (i := 0) (N := some 19) (v := ?_) (a' := ?_) #[true, false, false, false, false, false, false, false] rfl rfl (any_of HT_.out (by kernel_rfl)) (fun _ _ _ h => h) (Or.inl ⟨by rfl, ?_⟩) ?_ ?_
        rotate_left
        · intro w'
          go_simp
          with_reducible rfl
        rotate_left
        · simp only [Act.put, List.setIfInBounds_toArray, List.set_cons_zero, List.set_cons_succ, i64_w, i32_w]
          rfl
        refine pure_ (i := 2) (N := some 21) (v := ?_) (a' := ?_) #[true, false, true, false, false, false, false, false] rfl rfl (any_of HT_.out (by kernel_rfl)) (fun _ _ _ h => h) (Or.inl ⟨by rfl, ?_⟩) ?_ ?_
        rotate_left
        · intro w'
          go_simp
          with_reducible rfl
        rotate_left
        · simp only [Act.put, List.setIfInBounds_toArray, List.set_cons_zero, List.set_cons_succ, i64_w, i32_w]
          rfl
        refine inv_at [1, 3, 4, 5, 6, 7] (fun a0_ b a w' => ∃ (v216 : Value) (adz_v216 : Addr) (m4_ : Value), a = putSel a0_ b [(1, 20, v216), (3, 22, .int .i64 t218), (4, 23, m4_), (5, 24, .int .i64 (rd y215 t218)), (6, 2, v204), (7, 3, .int .i64 (rd y215 t218))] ∧ (Kd.R (Kd.int .i64) 3 w' w.heap.size (fun _ => True) v204 t203) ∧ (b 3 = false → IsS83 w w' g202 t200 t208) ∧ (Below w.heap.size w w') ∧ (b 1 = true → Kd.R (Kd.int .i64) 3 w' w.heap.size (fun k_ => some k_ ≠ (v204 : Value).ownBlock) v216 y215) ∧ (b 1 = true → ∃ c_, (v216 : Value) = .slice (some adz_v216) y215.length c_) ∧ (b 3 = true → IsS83 w w' g202 t200 t219) ∧ (b 4 = true → (m4_ : Value) = .pointer (some (adz_v216.add (t218).toNat)))) HT_.out HW_.out (by kernel_rfl) (by kernel_rfl) ?_ ?_ ?_
        · exact ⟨.bool false, ⟨0, 0, none⟩, .bool false, by simp only [putSel, Bool.false_eq_true, if_false], HO205.out, fun _ => HI202.out, HB.out, fun h_ => absurd h_ (by decide), fun h_ => absurd h_ (by decide), fun h_ => absurd h_ (by decide), fun h_ => absurd h_ (by decide)⟩
        · skip
          clear HB HI202 HO205
          refine steps_cons ?_ ?_
          · rintro b a w' ⟨v216, adz_v216, m4_, ha, Q_HO205, Q_HI202, Q_HB, Q_HO217, Q_HA_HO217, Q_HI202_e3, Q_X4_⟩ hb_ hon hoff
            refine ⟨_, rfl, fun K hK => ?_⟩
            replace ha := Aside0.mk ha
            have HO205 := Aside0.mk Q_HO205
            have HB := Aside0.mk Q_HB
            refine Kd.R_lit_step (Kd.int .i64) _ 3 ?hg (N := 20) ?hd (xs := ([1, (-1), 2, 3, (-2), 4, 5, (-3)] : List Int)) (inner := [.int .i64 1, .int .i64 (-1), .int .i64 2, .int .i64 3, .int .i64 (-2), .int .i64 4, .int .i64 5, .int .i64 (-3)]) (ok := fun _ => True) (okp := fun _ => True) ?hr ?hp (fun _ hk => hk) trivial (Below.refl _ _) (Nat.le_refl _) (by simp) ?_; (case hd => rfl); (case hg => rfl); (case hr => first | (go_simp; done) | (go_simp; rfl)); (case hp => exact (Reps.one (show Kd.M (Kd.int .i64) _ _ _ 1 [.int .i64 1] from rfl) (Reps.one (show Kd.M (Kd.int .i64) _ _ _ (-1) [.int .i64 (-1)] from rfl) (Reps.one (show Kd.M (Kd.int .i64) _ _ _ 2 [.int .i64 2] from rfl) (Reps.one (show Kd.M (Kd.int .i64) _ _ _ 3 [.int .i64 3] from rfl) (Reps.one (show Kd.M (Kd.int .i64) _ _ _ (-2) [.int .i64 (-2)] from rfl) (Reps.one (show Kd.M (Kd.int .i64) _ _ _ 4 [.int .i64 4] from rfl) (Reps.one (show Kd.M (Kd.int .i64) _ _ _ 5 [.int .i64 5] from rfl) (Reps.one (show Kd.M (Kd.int .i64) _ _ _ (-3) [.int .i64 (-3)] from rfl) (Reps.none _ _))))))))))
            intro v216 w26 ho27 hb hg_ hnew_
            clear hg_ hnew_
            (first | rw [← Ny215.out] at ho27 | (simp only [Int.reduceToNat] at ho27; rw [← Ny215.out] at ho27))
            have n0_ := Aside0.mk (Kd.R_elder' ((Sqz.mvR HO205.out)) (Kd.R_base ho27) hb)
            have n1_ := Aside0.mk (Kd.R_lower (Kd.R_new' ho27 (Kd.R_lt ((Sqz.mvR HO205.out)))) (below_size (Sqz.auHB)))
            have n3_ := Aside0.mk (below_step (Sqz.auHB) hb)
            have z_HI202 := fun (h0_ : b 3 = false) => (show IsS83 w w26 g202 t200 t208 from by first | exact (IsS83.below (by repeat (first | (with_reducible first | exact (Q_HI202 h0_) | apply IsS83.alloc | apply IsS83.drewN | apply IsS83.drew | apply IsS83.set_1) | exact (Q_HI202 h0_))) hb))
            have z_HI202_e3 := fun (h0_ : b 3 = true) => (show IsS83 w w26 g202 t200 t219 from by first | exact (IsS83.below (by repeat (first | (with_reducible first | exact (Q_HI202_e3 h0_) | apply IsS83.alloc | apply IsS83.drewN | apply IsS83.drew | apply IsS83.set_1) | exact (Q_HI202_e3 h0_))) hb))
            clear HO205
            clear HB
            have HO205 := n0_
            have HO217 := n1_
            have HB := n3_
            clear n0_ n1_ n3_
            clear hb ho27
            obtain ⟨Ao28, co28, eo28⟩ := Kd.R_slice HO217.out
            subst eo28
            obtain ⟨ado28, fo28, _⟩ := Kd.at_int (Kd.R_reads' HO217.out).2.2 0 (by decide) (by rw [Ny215.out]; simp)
            cases fo28
            refine hK.out _ _ ⟨.slice (some ado28) y215.length co28, ado28, m4_, (by rw [ha.out]; exact putSel_upk 0 hb_ rfl rfl rfl), ((Sqz.mvR (Kd.R_mono HO205.out (fun _ hk => (by first | exact hk.2 | exact trivial))))), z_HI202, (Sqz.auHB), fun _ => ((Sqz.mvR (Kd.R_mono HO217.out (fun _ hk => hk.2)))), fun _ => ⟨_, rfl⟩, z_HI202_e3, fun h0_ => absurd ((hoff 4 (by kernel_rfl)).symm.trans h0_) (by decide)⟩
          refine steps_cons ?_ ?_
          · rintro b a w' ⟨v216, adz_v216, m4_, ha, Q_HO205, Q_HI202, Q_HB, Q_HO217, Q_HA_HO217, Q_HI202_e3, Q_X4_⟩ hb_ hon hoff
            refine ⟨_, rfl, fun K hK => ?_⟩
            have e21 : a.tmps[21]? = some (.pointer (some ⟨g202, 0, none⟩)) := by rw [ha]; exact (putSel_off rfl).trans rfl
            replace ha := Aside0.mk ha
            have HO205 := Aside0.mk Q_HO205
            have HI202 := Aside0.mk (Q_HI202 hb_)
            have HB := Aside0.mk Q_HB
            refine goes_ Tryz.func43 (by kernel_rfl) rfl #[.pointer (some ⟨g202, 0, none⟩), .int .i64 8] (by rfl) rfl rfl (by first | (simp only [List.map_toArray, List.map_cons, List.map_nil, Act.eval, Array.getD_eq_getD_getElem?, Option.getD_some, e21]; done) | (simp only [List.map_toArray, List.map_cons, List.map_nil, Act.eval, Array.getD_eq_getD_getElem?, Option.getD_some, e21]; rfl)) ?_
            with_reducible refine (spec_l6Rd_pick.calls k g202 t200 t208 8 t218 t219 w _ ?side1 ?side2 A19.out).mono ?_
            (case side1 => repeat (first | (with_reducible first | exact HI202.out | apply IsS83.alloc | apply IsS83.drewN | apply IsS83.drew | apply IsS83.set_1) | exact HI202.out))
            (case side2 => repeat (first | (with_reducible first | exact HB.out | apply below_alloc | apply pw_below_drewN | apply below_drew1 | refine below_set ?_ (IsS83.ge HI202.out)) | exact HB.out))
            rintro e w26 ⟨rfl, hi, hb, hk⟩
            refine ⟨_, rfl, ?_⟩
            have n0_ := Aside0.mk (Kd.R_mono (Kd.R_keep (IsS83.apart (show IsS83 w _ g202 t200 t208 from by repeat (first | (with_reducible first | exact HI202.out | apply IsS83.alloc | apply IsS83.drewN | apply IsS83.drew | apply IsS83.set_1) | exact HI202.out)) ((Sqz.mvR HO205.out)) (by decide)) hk (fun _ h => h.2)) (fun _ h => h.1))
            have n1_ := Aside0.mk (hb)
            have n2_ := Aside0.mk (hi)
            have z_HO217 := fun (h0_ : b 1 = true) => (show Kd.R (Kd.int .i64) 3 w26 w.heap.size (fun k_ => some k_ ≠ (v204 : Value).ownBlock) v216 y215 from by first | exact (Kd.R_mono (Kd.R_keep (IsS83.apart (show IsS83 w _ g202 t200 t208 from by repeat (first | (with_reducible first | exact HI202.out | apply IsS83.alloc | apply IsS83.drewN | apply IsS83.drew | apply IsS83.set_1) | exact HI202.out)) ((Sqz.mvR ((Q_HO217 h0_)))) (by decide)) hk (fun _ h => h.2)) (fun _ h => h.1)) | exact Kd.R_mono (Kd.R_mono (Kd.R_keep (IsS83.apart (show IsS83 w _ g202 t200 t208 from by repeat (first | (with_reducible first | exact HI202.out | apply IsS83.alloc | apply IsS83.drewN | apply IsS83.drew | apply IsS83.set_1) | exact HI202.out)) ((Sqz.mvR ((Q_HO217 h0_)))) (by decide)) hk (fun _ h => h.2)) (fun _ h => h.1)) (fun _ h_ => by first | trivial | exact h_ | exact h_.1))
            clear HO205
            clear HB
            clear HI202
            have HO205 := n0_
            have HB := n1_
            have HI202 := n2_
            clear n0_ n1_ n2_
            (try clear hb)
            (try clear hb2)
            (try clear hk)
            (try clear hi)
            refine hK.out _ _ ⟨v216, adz_v216, m4_, (by rw [ha.out]; exact putSel_upk 1 hb_ rfl rfl rfl), ((Sqz.mvR HO205.out)), fun h0_ => absurd ((up_self b 3).symm.trans h0_) (by decide), (by repeat (first | (with_reducible first | exact HB.out | apply below_alloc | apply pw_below_drewN | apply below_drew1 | refine below_set ?_ (IsS83.ge HI202.out)) | exact HB.out)), z_HO217, Q_HA_HO217, fun _ => (by repeat (first | (with_reducible first | exact HI202.out | apply IsS83.alloc | apply IsS83.drewN | apply IsS83.drew | apply IsS83.set_1) | exact HI202.out)), fun h0_ => absurd ((hoff 4 (by kernel_rfl)).symm.trans h0_) (by decide)⟩
          refine steps_cons ?_ ?_
          · rintro b a w' ⟨v216, adz_v216, m4_, ha, Q_HO205, Q_HI202, Q_HB, Q_HO217, Q_HA_HO217, Q_HI202_e3, Q_X4_⟩ hb_ hon hoff
            refine ⟨_, rfl, fun K hK => ?_⟩
            have e20 : a.tmps[20]? = some (v216) := by rw [ha]; exact putSel_on (e := (1, 20, v216)) 0 rfl rfl (hon 1 (by kernel_rfl)) rfl
            have e22 : a.tmps[22]? = some (.int .i64 t218) := by rw [ha]; exact putSel_on (e := (3, 22, .int .i64 t218)) 1 rfl rfl (hon 3 (by kernel_rfl)) rfl
            replace ha := Aside0.mk ha
            have HO205 := Aside0.mk Q_HO205
            have HB := Aside0.mk Q_HB
            have HO217 := Aside0.mk (Q_HO217 (hon 1 (by kernel_rfl)))
            have HA_HO217 := Aside0.mk (Q_HA_HO217 (hon 1 (by kernel_rfl)))
            have HI202 := Aside0.mk (Q_HI202_e3 (hon 3 (by kernel_rfl)))
            obtain ⟨c_, hv_⟩ := HA_HO217.out
            rw [hv_] at e20
            refine value_ (w1 := w') (v := .pointer (some (adz_v216.add (t218).toNat))) (by rfl) rfl ?_ ?_
            · go_simp
              (try simp only [i64_w])
              try rfl
            refine hK.out _ _ ⟨v216, adz_v216, (.pointer (some (adz_v216.add (t218).toNat))), (by rw [ha.out]; exact putSel_upk 2 hb_ rfl rfl rfl), Q_HO205, fun h0_ => absurd ((hon 3 (by kernel_rfl)).symm.trans h0_) (by decide), Q_HB, Q_HO217, Q_HA_HO217, Q_HI202_e3, fun _ => rfl⟩
          refine steps_cons ?_ ?_
          · rintro b a w' ⟨v216, adz_v216, m4_, ha, Q_HO205, Q_HI202, Q_HB, Q_HO217, Q_HA_HO217, Q_HI202_e3, Q_X4_⟩ hb_ hon hoff
            refine ⟨_, rfl, fun K hK => ?_⟩
            have e23 : a.tmps[23]? = some (m4_) := by rw [ha]; exact putSel_on (e := (4, 23, m4_)) 2 rfl rfl (hon 4 (by kernel_rfl)) rfl
            rw [Q_X4_ (hon 4 (by kernel_rfl))] at e23
            replace ha := Aside0.mk ha
            have HO205 := Aside0.mk Q_HO205
            have HB := Aside0.mk Q_HB
            have HO217 := Aside0.mk (Q_HO217 (hon 1 (by kernel_rfl)))
            have HA_HO217 := Aside0.mk (Q_HA_HO217 (hon 1 (by kernel_rfl)))
            have HI202 := Aside0.mk (Q_HI202_e3 (hon 3 (by kernel_rfl)))
            obtain ⟨c_, hv_⟩ := HA_HO217.out
            have hF_ := HO217.out
            rw [hv_] at hF_
            obtain ⟨ad_, ea_, hx_⟩ := Kd.at_int (Kd.R_reads' hF_).2.2 t218 (of_eq_true pi220) (of_eq_true qi220)
            cases ea_
            refine value_ (w1 := w') (v := .int .i64 (rd y215 t218)) (by rfl) rfl ?_ ?_
            · go_simp
              (try simp only [i64_w])
              try rfl
            refine hK.out _ _ ⟨v216, adz_v216, m4_, (by rw [ha.out]; exact putSel_upk 3 hb_ rfl rfl rfl), Q_HO205, fun h0_ => absurd ((hon 3 (by kernel_rfl)).symm.trans h0_) (by decide), Q_HB, Q_HO217, Q_HA_HO217, Q_HI202_e3, Q_X4_⟩
          refine steps_cons ?_ ?_
          · rintro b a w' ⟨v216, adz_v216, m4_, ha, Q_HO205, Q_HI202, Q_HB, Q_HO217, Q_HA_HO217, Q_HI202_e3, Q_X4_⟩ hb_ hon hoff
            refine ⟨_, rfl, fun K hK => ?_⟩
            have e19 : a.tmps[19]? = some (v204) := by rw [ha]; exact (putSel_off rfl).trans rfl
            replace ha := Aside0.mk ha
            have HO205 := Aside0.mk Q_HO205
            have HB := Aside0.mk Q_HB
            have HI202 := Aside0.mk (Q_HI202_e3 (hon 3 (by kernel_rfl)))
            refine value_ (w1 := w') (v := v204) (by rfl) rfl ?_ ?_
            · go_simp
              (try simp only [i64_w])
              try rfl
            refine hK.out _ _ ⟨v216, adz_v216, m4_, (by rw [ha.out]; exact putSel_upk 4 hb_ rfl rfl rfl), Q_HO205, fun h0_ => absurd ((hon 3 (by kernel_rfl)).symm.trans h0_) (by decide), Q_HB, Q_HO217, Q_HA_HO217, Q_HI202_e3, Q_X4_⟩
          refine steps_cons ?_ ?_
          · rintro b a w' ⟨v216, adz_v216, m4_, ha, Q_HO205, Q_HI202, Q_HB, Q_HO217, Q_HA_HO217, Q_HI202_e3, Q_X4_⟩ hb_ hon hoff
            refine ⟨_, rfl, fun K hK => ?_⟩
            have e24 : a.tmps[24]? = some (.int .i64 (rd y215 t218)) := by rw [ha]; exact putSel_on (e := (5, 24, .int .i64 (rd y215 t218))) 3 rfl rfl (hon 5 (by kernel_rfl)) rfl
            replace ha := Aside0.mk ha
            have HO205 := Aside0.mk Q_HO205
            have HB := Aside0.mk Q_HB
            have HO217 := Aside0.mk (Q_HO217 (hon 1 (by kernel_rfl)))
            have HA_HO217 := Aside0.mk (Q_HA_HO217 (hon 1 (by kernel_rfl)))
            have HI202 := Aside0.mk (Q_HI202_e3 (hon 3 (by kernel_rfl)))
            refine value_ (w1 := w') (v := .int .i64 (rd y215 t218)) (by rfl) rfl ?_ ?_
            · go_simp
              (try simp only [i64_w])
              try rfl
            refine hK.out _ _ ⟨v216, adz_v216, m4_, (by rw [ha.out]; exact putSel_upk 5 hb_ rfl rfl rfl), Q_HO205, fun h0_ => absurd ((hon 3 (by kernel_rfl)).symm.trans h0_) (by decide), Q_HB, Q_HO217, Q_HA_HO217, Q_HI202_e3, Q_X4_⟩
          exact steps_nil
        rintro b a w30 hall ⟨v216, adz_v216, m4_, ha, Q_HO205, Q_HI202, Q_HB, Q_HO217, Q_HA_HO217, Q_HI202_e3, Q_X4_⟩
        clear HB HI202 HO205
        have hb1_ := hall 1 (by kernel_rfl)
        have hb3_ := hall 3 (by kernel_rfl)
        have hb4_ := hall 4 (by kernel_rfl)
        have hb5_ := hall 5 (by kernel_rfl)
        have hb6_ := hall 6 (by kernel_rfl)
        have hb7_ := hall 7 (by kernel_rfl)
        subst ha
        obtain rfl := Q_X4_ hb4_
        simp only [putSel, hb1_, hb3_, hb4_, hb5_, hb6_, hb7_, if_true, Act.put, List.setIfInBounds_toArray, List.set_cons_zero, List.set_cons_succ]
        have HO205 := Aside0.mk Q_HO205
        clear Q_HO205
        clear Q_HI202
        have HB := Aside0.mk Q_HB
        clear Q_HB
        have HO217 := Aside0.mk (Q_HO217 hb1_)
        clear Q_HO217
        have HA_HO217 := Aside0.mk (Q_HA_HO217 hb1_)
        clear Q_HA_HO217
        have HI202 := Aside0.mk (Q_HI202_e3 hb3_)
        clear Q_HI202_e3
        clear hall hb1_ hb3_ hb4_ hb5_ hb6_ hb7_
        obtain ⟨co31, eo31⟩ := HA_HO217.out
        clear HA_HO217
        subst eo31
        try go_wp2
        go_ret2
        exact ⟨_, Sqz.auR, (Sqz.mvR (Kd.R_mono HO205.out (fun _ hk => trivial))), by repeat (first | (with_reducible first | exact HB.out | apply below_alloc | apply pw_below_drewN | apply below_drew1 | refine below_set ?_ (IsS83.ge HI202.out)) | exact HB.out)⟩
      · rw [if_neg c21] at H
        exact absurd H (by simp)
    · rw [if_neg c20] at H
      exact absurd H (by simp)

/-! ### spec_l6In: function 111 -/
def spec_l6In.f (a0 : Int) (a1 : Int) (a2 : Int) : Option (Bool) := if a0 ≥ a1 then (some (decide (a0 ≤ a2))) else (some false)
set_option maxHeartbeats 8000000 in
set_option maxRecDepth 100000 in
theorem spec_l6In.calls (a0 : Int) (a1 : Int) (a2 : Int) (r : Bool) (w : World) (h : spec_l6In.f a0 a1 a2 = some r) :
    Calls Tryz.prog 111 #[.int .i64 a0, .int .i64 a1, .int .i64 a2] w fun e w' => e = .returned (.bool r) ∧ Drawn0 w w' := by
  have H : (if a0 ≥ a1 then (some (decide (a0 ≤ a2))) else (some false)) = some r := h
  clear h
  by_cases c4 : a0 ≥ a1
  · rw [if_pos c4] at H
    have c4b0 : decide (a1 ≤ a0) = true := decide_eq_true c4
    clear c4
    obtain rfl := Option.some.inj H
    go_enter Tryz.func111, Tryz.ntmps111
    go_wp2
    go_ret
    exact ⟨Sqz.auS, by repeat (first | exact Drawn0.refl _ | apply Drawn0.step)⟩
  · rw [if_neg c4] at H
    have c4b0 : decide (a1 ≤ a0) = false := decide_eq_false c4
    clear c4
    obtain rfl := Option.some.inj H
    go_enter Tryz.func111, Tryz.ntmps111
    go_wp2
    go_ret
    exact ⟨Sqz.auS, by repeat (first | exact Drawn0.refl _ | apply Drawn0.step)⟩

/-! ### spec_FormValid: function 62 -/
def spec_FormValid.l0 : Nat → List Int → Int → Option (Bool)
  | 0, _, _ => none
  | k + 1, x0, x3 => if x3 < (x0.length : Int) then (if 0 ≤ x3 then (if (rd x0 x3) = 0 then (some false) else ((spec_l6In.f (rd x0 x3) (-30) 30).bind fun t223 => (if t223 = true then (spec_FormValid.l0 k x0 (wrap64 (x3 + 1))) else (some false)))) else (none)) else ((spec_l6In.f (x0.length : Int) 1 4).bind fun t224 => (some t224))
def spec_FormValid.f (k : Nat) (l0 : List Int) : Option (Bool) := spec_FormValid.l0 k l0 0
set_option maxHeartbeats 8000000 in
set_option maxRecDepth 100000 in
theorem spec_FormValid.calls (k : Nat) (A0 : Option Addr) (c0 : Nat) (l0 : List Int) (r : Bool) (w : World) (hr0 : Kd.C (Kd.int .i64) w A0 l0.length l0) (hc0 : l0.length ≤ c0) (h : spec_FormValid.f k l0 = some r) :
    Calls Tryz.prog 62 #[.slice A0 l0.length c0] w fun e w' => e = .returned (.bool r) ∧ Drawn0 w w' := by
  have HR0 := Aside0.mk hr0
  have HC0 := Aside0.mk hc0
  clear hr0 hc0
  have H : (spec_FormValid.l0 k l0 0) = some r := h
  clear h
  have H' := Aside0.mk H
  clear H
  go_enter Tryz.func62, Tryz.ntmps62
  go_wp2
  go_loopg [3] k (fun kq v3 w' => ∃ (x3_1 : Int), v3 = .int .i64 x3_1 ∧ Aside0 (spec_FormValid.l0 kq l0 x3_1 = some r) ∧ Aside0 (kq ≤ k) ∧ Drawn0 w w')
  case atStart => exact ⟨(0), Sqz.auS, H', ⟨Nat.le_refl _⟩, by repeat (first | exact Drawn0.refl _ | apply Drawn0.step)⟩
  case round =>
    clear H'
    obtain ⟨x3_1, rfl, HA, HK1, ⟨m1, rfl⟩⟩ := hrel
    cases gk with
    | zero => exact absurd HA.out (by simp [spec_FormValid.l0])
    | succ k1 =>
      have H := HA.out
      clear HA
      simp only [spec_FormValid.l0] at H
      by_cases c2 : x3_1 < (l0.length : Int)
      · rw [if_pos c2] at H
        have c2b0 : decide (x3_1 < (l0.length : Int)) = true := decide_eq_true c2
        clear c2
        by_cases c3 : 0 ≤ x3_1
        · rw [if_pos c3] at H
          have c3b0 : decide (0 ≤ x3_1) = true := decide_eq_true c3
          clear c3
          by_cases c4 : (rd l0 x3_1) = 0
          · rw [if_pos c4] at H
            have c4b0 : ((rd l0 x3_1) == 0) = true := beq_iff_eq.mpr c4
            have c4b1 : ((rd l0 x3_1) != 0) = false := bne_eq_false_iff_eq.mpr c4
            clear c4
            obtain rfl := Option.some.inj H
            have p221 : 0 ≤ (x3_1 : Int) := of_decide_eq_true (by first | (with_reducible assumption) | assumption)
            have q221 : x3_1 < (l0.length : Int) := of_decide_eq_true (by first | (with_reducible assumption) | assumption)
            obtain ⟨ad221, e221, hx221_0⟩ := Kd.at_int HR0.out x3_1 p221 q221
            cases e221
            replace p221 := eq_true p221
            replace q221 := eq_true q221
            go_wp2
            go_ret
            exact ⟨Sqz.auS, by repeat (first | exact Drawn0.refl _ | apply Drawn0.step)⟩
          · rw [if_neg c4] at H
            have c4b0 : ((rd l0 x3_1) == 0) = false := beq_eq_false_iff_ne.mpr c4
            have c4b1 : ((rd l0 x3_1) != 0) = true := bne_iff_ne.mpr c4
            replace H := Option.bind_eq_some_iff.mp H
            obtain ⟨t223, A50, H⟩ := H
            replace H : (if t223 = true then (spec_FormValid.l0 k1 l0 (wrap64 (x3_1 + 1))) else (some false)) = some r := H
            have A5 := Aside0.mk A50
            clear A50
            by_cases c6 : t223 = true
            · subst c6
              have H1 : (spec_FormValid.l0 k1 l0 (wrap64 (x3_1 + 1))) = some r := by rw [if_pos rfl] at H; exact H
              clear H
              have H := H1
              clear H1
              have H' := Aside0.mk H
              clear H
              have p221 : 0 ≤ (x3_1 : Int) := of_decide_eq_true (by first | (with_reducible assumption) | assumption)
              have q221 : x3_1 < (l0.length : Int) := of_decide_eq_true (by first | (with_reducible assumption) | assumption)
              obtain ⟨ad221, e221, hx221_0⟩ := Kd.at_int HR0.out x3_1 p221 q221
              cases e221
              replace p221 := eq_true p221
              replace q221 := eq_true q221
              have p222 : 0 ≤ (x3_1 : Int) := of_decide_eq_true (by first | (with_reducible assumption) | assumption)
              have q222 : x3_1 < (l0.length : Int) := of_decide_eq_true (by first | (with_reducible assumption) | assumption)
              obtain ⟨ad222, e222, hx222_0⟩ := Kd.at_int HR0.out x3_1 p222 q222
              obtain rfl : ad221 = ad222 := (by injection e222)
              replace p222 := eq_true p222
              replace q222 := eq_true q222
              go_wp2_with (first | (go_at_call 111; (with_reducible refine (spec_l6In.calls (rd l0 x3_1) (-30) 30 true _ A5.out).mono ?_); rintro e w' ⟨rfl, ⟨nd, rfl⟩⟩))
              go_roundg k1
              case measure => have := HK1.out; omega
              case rel => exact ⟨(wrap64 (x3_1 + 1)), Sqz.auS, H', ⟨by have := HK1.out; omega⟩, by repeat (first | exact Drawn0.refl _ | apply Drawn0.step)⟩
            · replace c6 := Bool.eq_false_iff.mpr c6
              subst c6
              have H1 : (some false) = some r := by rw [if_neg (show ¬ (false = true) by decide)] at H; exact H
              clear H
              have H := H1
              clear H1
              obtain rfl := Option.some.inj H
              have p221 : 0 ≤ (x3_1 : Int) := of_decide_eq_true (by first | (with_reducible assumption) | assumption)
              have q221 : x3_1 < (l0.length : Int) := of_decide_eq_true (by first | (with_reducible assumption) | assumption)
              obtain ⟨ad221, e221, hx221_0⟩ := Kd.at_int HR0.out x3_1 p221 q221
              cases e221
              replace p221 := eq_true p221
              replace q221 := eq_true q221
              have p222 : 0 ≤ (x3_1 : Int) := of_decide_eq_true (by first | (with_reducible assumption) | assumption)
              have q222 : x3_1 < (l0.length : Int) := of_decide_eq_true (by first | (with_reducible assumption) | assumption)
              obtain ⟨ad222, e222, hx222_0⟩ := Kd.at_int HR0.out x3_1 p222 q222
              obtain rfl : ad221 = ad222 := (by injection e222)
              replace p222 := eq_true p222
              replace q222 := eq_true q222
              go_wp2_with (first | (go_at_call 111; (with_reducible refine (spec_l6In.calls (rd l0 x3_1) (-30) 30 false _ A5.out).mono ?_); rintro e w' ⟨rfl, ⟨nd, rfl⟩⟩))
              go_ret
              exact ⟨Sqz.auS, by repeat (first | exact Drawn0.refl _ | apply Drawn0.step)⟩
        · rw [if_neg c3] at H
          exact absurd H (by simp)
      · rw [if_neg c2] at H
        have c2b0 : decide (x3_1 < (l0.length : Int)) = false := decide_eq_false c2
        clear c2
        replace H := Option.bind_eq_some_iff.mp H
        obtain ⟨t224, A70, H⟩ := H
        replace H : (some t224) = some r := H
        have A7 := Aside0.mk A70
        clear A70
        obtain rfl := Option.some.inj H
        go_wp2_with (first | ((with_reducible refine gate_callee (f := 111) rfl ?_); refine goesL_ (some 25) rfl rfl Tryz.func111 (by kernel_rfl) rfl #[.int .i64 (l0.length : Int), .int .i64 1, .int .i64 4] rfl Sqz.auM ?_; (with_reducible refine (spec_l6In.calls (l0.length : Int) 1 4 t224 _ A7.out).mono ?_); rintro e w' ⟨rfl, ⟨nd, rfl⟩⟩; refine ⟨_, rfl, ?_⟩))
        go_ret
        exact ⟨Sqz.auS, by repeat (first | exact Drawn0.refl _ | apply Drawn0.step)⟩

/-! ### spec_l1Number: function 63 -/
def spec_l1Number.f (a0 : Int) : Option (Bool) := (spec_l6In.f a0 (-5000) 5000).bind fun t225 => (some t225)
set_option maxHeartbeats 8000000 in
set_option maxRecDepth 100000 in
theorem spec_l1Number.calls (a0 : Int) (r : Bool) (w : World) (h : spec_l1Number.f a0 = some r) :
    Calls Tryz.prog 63 #[.int .i64 a0] w fun e w' => e = .returned (.bool r) ∧ Drawn0 w w' := by
  have H : ((spec_l6In.f a0 (-5000) 5000).bind fun t225 => (some t225)) = some r := h
  clear h
  replace H := Option.bind_eq_some_iff.mp H
  obtain ⟨t225, A20, H⟩ := H
  replace H : (some t225) = some r := H
  have A2 := Aside0.mk A20
  clear A20
  obtain rfl := Option.some.inj H
  go_enter Tryz.func63, Tryz.ntmps63
  go_wp2_with (first | ((with_reducible refine gate_callee (f := 111) rfl ?_); refine goesL_ (some 4) rfl rfl Tryz.func111 (by kernel_rfl) rfl #[.int .i64 a0, .int .i64 (-5000), .int .i64 5000] rfl Sqz.auM ?_; (with_reducible refine (spec_l6In.calls a0 (-5000) 5000 t225 _ A2.out).mono ?_); rintro e w' ⟨rfl, ⟨nd, rfl⟩⟩; refine ⟨_, rfl, ?_⟩))
  go_ret
  exact ⟨Sqz.auS, by repeat (first | exact Drawn0.refl _ | apply Drawn0.step)⟩

/-! ### spec_l1Size: function 134 -/
def spec_l1Size.f (a0 : Int) : Option (Int) := some (mx a0 (wrap64 (-a0)))
set_option maxHeartbeats 8000000 in
set_option maxRecDepth 100000 in
theorem spec_l1Size.calls (a0 : Int) (r : Int) (w : World) (h : spec_l1Size.f a0 = some r) :
    Calls Tryz.prog 134 #[.int .i64 a0] w fun e w' => e = .returned (.int .i64 r) ∧ Below w.heap.size w w' := by
  have HB := Aside0.mk (Below.refl w.heap.size w)
  have H : (some (mx a0 (wrap64 (-a0)))) = some r := h
  clear h
  obtain ⟨ji2, hji2⟩ : ∃ j_ : Int, (mx a0 (wrap64 (-a0))) = j_ := ⟨_, rfl⟩
  replace H : (some ji2) = some r := by first | (rw [hji2] at H; exact H) | (simp only [hji2] at H ⊢; exact H)
  have hji2_ : (if a0 < (wrap64 (-a0)) then (wrap64 (-a0)) else a0) = ji2 := hji2
  obtain rfl := Option.some.inj H
  go_enter Tryz.func134, Tryz.ntmps134
  go_wp2
  go_ret
  exact ⟨by first | rfl | (simp [errW_none, errW_some] <;> rfl) | (simp only [← hji2]; first | rfl | (simp [errW_none, errW_some] <;> rfl)) | (simp [*, errW_none, errW_some] <;> rfl), Sqz.auHB⟩

end Go.Proofs.YtacfcoilmdhgnaaGreatDoor.PFnExecuteTimes
