/- A function's Lean twin and its walk, written by a program of this session. -/
import Derived.Test.YtacfcoilmdhgnaaGreatDoorTPFnExecuteSquaresx0
import Derived.Test.YtacfcoilmdhgnaaGreatDoorTPFnExecuteSquaresx1
import Derived.Test.YtacfcoilmdhgnaaGreatDoorTPFnExecuteSquaresx2
import Derived.Test.YtacfcoilmdhgnaaGreatDoorTPFnExecuteSquaresx3
namespace Go.Proofs.YtacfcoilmdhgnaaGreatDoor.PFnExecuteSquares
open Go.RowKit Go.Proofs.YtacfcoilmdhgnaaGreatDoorW.PrintWords Go.Proofs.YtacfcoilmdhgnaaGreatDoorW.PrintLast Go.Proofs.YtacfcoilmdhgnaaGreatDoorW.PrintMore
attribute [local go_sem] max2_int min2_int max_two min_two max_three min_three max_four min_four   -- for this text's walks alone
set_option linter.unusedVariables false
set_option linter.unusedSimpArgs false

/-! ### laws_digits: function 22 -/
def laws_digits.f : Nat → Int → Option (ByteArray)
  | 0, _ => none
  | k + 1, a0 => if a0 < 0 then ((laws_digits.f k (wrap64 (-a0))).bind fun t156 => (if 1 + t156.size ≤ 9223372036854775807 then (some ((⟨#[45]⟩ : ByteArray) ++ t156)) else (none))) else (if a0 < 10 then (some (strOfNums (([(wrap64 (48 + a0)) % 256] : List Int)))) else ((laws_digits.f k (wrap64 (Int.tdiv a0 10))).bind fun t160 => ((some (([(wrap64 (48 + (Int.tmod a0 10))) % 256] : List Int) : List Int)).bind fun y161 => (if t160.size + (strOfNums y161).size ≤ 9223372036854775807 then (some (t160 ++ (strOfNums y161))) else (none)))))
def laws_digits.T5 : Bool × List (List Nat × List Nat) := (true, [([], []), ([0], [0]), ([1], [1]), ([], []), ([3], [3]), ([4], [4]), ([5], [5]), ([6], [6]), ([7], [7]), ([2, 8], [2, 8]), ([9, 2, 0, 1, 2, 3, 4, 5, 6, 7, 8, 9], [9])])
def laws_digits.B5 : List Nat := [0, 1, 3, 0, 8, 24, 56, 120, 248, 511, 1023]
theorem laws_digits.tab5 : rtab .any (opsOf Tryz.f22 5) = laws_digits.T5 := by kernel_rfl
theorem laws_digits.bits5 : waitsOk laws_digits.T5.2 laws_digits.B5 = true := by kernel_rfl
set_option maxHeartbeats 8000000 in
set_option maxRecDepth 100000 in
theorem laws_digits.calls (k : Nat) : ∀ (a0 : Int) (r : ByteArray) (w : World) (h : laws_digits.f k a0 = some r),
    Calls Tryz.prog 22 #[.int .i64 a0] w fun e w' => e = .returned (.string r) ∧ Below w.heap.size w w' := by
  induction k using Nat.strongRecOn with
  | _ k ih =>
  intro a0 r w h
  cases k with
  | zero => exact absurd h (by simp [laws_digits.f])
  | succ k =>
  simp only [laws_digits.f] at h
  have HB := Aside0.mk (Below.refl w.heap.size w)
  have H : (if a0 < 0 then ((laws_digits.f k (wrap64 (-a0))).bind fun t156 => (if 1 + t156.size ≤ 9223372036854775807 then (some ((⟨#[45]⟩ : ByteArray) ++ t156)) else (none))) else (if a0 < 10 then (some (strOfNums (([(wrap64 (48 + a0)) % 256] : List Int)))) else ((laws_digits.f k (wrap64 (Int.tdiv a0 10))).bind fun t160 => ((some (([(wrap64 (48 + (Int.tmod a0 10))) % 256] : List Int) : List Int)).bind fun y161 => (if t160.size + (strOfNums y161).size ≤ 9223372036854775807 then (some (t160 ++ (strOfNums y161))) else (none)))))) = some r := h
  clear h
  by_cases c2 : a0 < 0
  · rw [if_pos c2] at H
    have c2b0 : decide (a0 < 0) = true := decide_eq_true c2
    clear c2
    replace H := Option.bind_eq_some_iff.mp H
    obtain ⟨t156, A30, H⟩ := H
    replace H : (if 1 + t156.size ≤ 9223372036854775807 then (some ((⟨#[45]⟩ : ByteArray) ++ t156)) else (none)) = some r := H
    have A3 := Aside0.mk A30
    clear A30
    by_cases c4 : 1 + t156.size ≤ 9223372036854775807
    · rw [if_pos c4] at H
      have c4b0 := eq_true c4
      have c4b1 : decide (1 + t156.size ≤ 9223372036854775807) = true := decide_eq_true c4
      try have c4b2 : (9223372036854775807 < 1 + t156.size) = False := eq_false (Nat.not_lt.2 c4)
      obtain rfl := Option.some.inj H
      go_enter Tryz.func22, Tryz.ntmps22
      go_wp2_with (first | ((with_reducible refine gate_callee (f := 22) rfl ?_); refine goesL_ (some 7) rfl rfl Tryz.func22 (by kernel_rfl) rfl #[.int .i64 (wrap64 (-a0))] rfl Sqz.auM ?_; (with_reducible refine (ih k (by omega) (wrap64 (-a0)) t156 _ A3.out).mono ?_); rintro e w5 ⟨rfl, hb⟩; refine ⟨_, rfl, ?_⟩; have n0_ := Aside0.mk (below_step (Sqz.auHB) hb); clear HB; have HB := n0_; clear n0_; (try clear hb); (try clear hb2); (try clear hk); (try clear hi)))
      go_ret
      exact ⟨Sqz.auR, Sqz.auHB⟩
    · rw [if_neg c4] at H
      exact absurd H (by simp)
  · rw [if_neg c2] at H
    have c2b0 : decide (a0 < 0) = false := decide_eq_false c2
    clear c2
    by_cases c6 : a0 < 10
    · rw [if_pos c6] at H
      have c6b0 : decide (a0 < 10) = true := decide_eq_true c6
      clear c6
      obtain ⟨y157, hy157⟩ : ∃ y_ : List Int, y_ = (([(wrap64 (48 + a0)) % 256] : List Int)) := ⟨_, rfl⟩
      replace H : (some (strOfNums y157)) = some r := by first | (rw [hy157]; with_reducible exact H) | (have H2_ := (Option.bind_some _ _).symm.trans H; rw [hy157]; with_reducible exact H2_) | (have H2_ := (Option.bind_some _ _).symm.trans H; with_reducible exact H2_) | with_reducible exact H | (rw [hy157]; exact H) | exact H
      have Ny157 := Aside0.mk hy157
      clear hy157
      obtain rfl := Option.some.inj H
      go_enter Tryz.func22, Tryz.ntmps22
      go_wp2_with (first | ((with_reducible refine gate_dst (N := 14) rfl ?_); refine Kd.R_lit (Kd.int .u8) _ 5 ?hg (N := 14) ?hd (xs := ([(wrap64 (48 + a0)) % 256] : List Int)) (inner := [.int .u8 ((wrap64 (48 + a0)) % 256)]) (ok := fun _ => True) (okp := fun _ => True) ?hr ?hp (fun _ hk => hk) trivial (Below.refl _ _) (Nat.le_refl _) (by simp) ?_; (case hd => rfl); (case hg => rfl); (case hr => first | (go_simp; done) | (go_simp; rfl)); (case hp => exact (Reps.one (show Kd.M (Kd.int .u8) _ _ _ ((wrap64 (48 + a0)) % 256) [.int .u8 ((wrap64 (48 + a0)) % 256)] from rfl) (Reps.none _ _))); intro v158 w7 ho8 hb hg_ hnew_; clear hg_ hnew_; (first | rw [← Ny157.out] at ho8 | (simp only [Int.reduceToNat] at ho8; rw [← Ny157.out] at ho8)); have n0_ := Aside0.mk (Kd.R_lower ho8 (below_size (Sqz.auHB))); have n1_ := Aside0.mk (below_step (Sqz.auHB) hb); clear HB; have HO159 := n0_; have HB := n1_; clear n0_ n1_; clear hb ho8; have hcv9 := own_string (P := Tryz.prog) Tryz.underlying22 Tryz.underlying5 Tryz.underlying9 (Kd.own_of_R HO159.out)))
      go_ret
      exact ⟨Sqz.auR, Sqz.auHB⟩
    · rw [if_neg c6] at H
      have c6b0 : decide (a0 < 10) = false := decide_eq_false c6
      clear c6
      replace H := Option.bind_eq_some_iff.mp H
      obtain ⟨t160, A100, H⟩ := H
      replace H : ((some (([(wrap64 (48 + (Int.tmod a0 10))) % 256] : List Int) : List Int)).bind fun y161 => (if t160.size + (strOfNums y161).size ≤ 9223372036854775807 then (some (t160 ++ (strOfNums y161))) else (none))) = some r := H
      have A10 := Aside0.mk A100
      clear A100
      obtain ⟨y161, hy161⟩ : ∃ y_ : List Int, y_ = (([(wrap64 (48 + (Int.tmod a0 10))) % 256] : List Int)) := ⟨_, rfl⟩
      replace H : (if t160.size + (strOfNums y161).size ≤ 9223372036854775807 then (some (t160 ++ (strOfNums y161))) else (none)) = some r := by first | (rw [hy161]; with_reducible exact H) | (have H2_ := (Option.bind_some _ _).symm.trans H; rw [hy161]; with_reducible exact H2_) | (have H2_ := (Option.bind_some _ _).symm.trans H; with_reducible exact H2_) | with_reducible exact H | (rw [hy161]; exact H) | exact H
      have Ny161 := Aside0.mk hy161
      clear hy161
      by_cases c11 : t160.size + (strOfNums y161).size ≤ 9223372036854775807
      · rw [if_pos c11] at H
        have c11b0 := eq_true c11
        have c11b1 : decide (t160.size + (strOfNums y161).size ≤ 9223372036854775807) = true := decide_eq_true c11
        try have c11b2 : (9223372036854775807 < t160.size + (strOfNums y161).size) = False := eq_false (Nat.not_lt.2 c11)
        obtain rfl := Option.some.inj H
        go_enter Tryz.func22, Tryz.ntmps22
        try go_wp2
        have n0_ := Aside0.mk (below_drew1 HB.out)
        clear HB
        have HB := n0_
        clear n0_
        refine start_ (n := 11) (S := fun w' => True) (ds := []) #[false, false, false, false, false, false, false, false, false, false, false] (by kernel_rfl) rfl rfl trivial (fun hHeld => ?_); refine with_tabW laws_digits.tab5 laws_digits.bits5 (fun HT_ HW_ => ?_)
        generalize w.drew = w12 at HB hHeld ⊢
        refine pure_ (i := 0) (N := some 16) (v := ?_) (a' := ?_) #[true, false, false, false, false, false, false, false, false, false, false] rfl rfl (any_of HT_.out (by kernel_rfl)) (fun _ _ _ h => h) (Or.inl ⟨by rfl, ?_⟩) ?_ ?_
        rotate_left
        · intro w'
          go_simp
          with_reducible rfl
        rotate_left
        · simp only [Act.put, List.setIfInBounds_toArray, List.set_cons_zero, List.set_cons_succ, i64_w, i32_w]
          rfl
        refine pure_ (i := 1) (N := some 17) (v := ?_) (a' := ?_) #[true, true, false, false, false, false, false, false, false, false, false] rfl rfl (any_of HT_.out (by kernel_rfl)) (fun _ _ _ h => h) (Or.inl ⟨by rfl, ?_⟩) ?_ ?_
        rotate_left
        · intro w'
          go_simp
          with_reducible rfl
        rotate_left
        · simp only [Act.put, List.setIfInBounds_toArray, List.set_cons_zero, List.set_cons_succ, i64_w, i32_w]
          rfl
        refine pure_ (i := 3) (N := some 19) (v := ?_) (a' := ?_) #[true, true, false, true, false, false, false, false, false, false, false] rfl rfl (any_of HT_.out (by kernel_rfl)) (fun _ _ _ h => h) (Or.inl ⟨by rfl, ?_⟩) ?_ ?_
        rotate_left
        · intro w'
          go_simp
          with_reducible rfl
        rotate_left
        · simp only [Act.put, List.setIfInBounds_toArray, List.set_cons_zero, List.set_cons_succ, i64_w, i32_w]
          rfl
        refine pure_ (i := 4) (N := some 20) (v := ?_) (a' := ?_) #[true, true, false, true, true, false, false, false, false, false, false] rfl rfl (any_of HT_.out (by kernel_rfl)) (fun _ _ _ h => h) (Or.inl ⟨by rfl, ?_⟩) ?_ ?_
        rotate_left
        · intro w'
          go_simp
          with_reducible rfl
        rotate_left
        · simp only [Act.put, List.setIfInBounds_toArray, List.set_cons_zero, List.set_cons_succ, i64_w, i32_w]
          rfl
        refine pure_ (i := 5) (N := some 21) (v := ?_) (a' := ?_) #[true, true, false, true, true, true, false, false, false, false, false] rfl rfl (any_of HT_.out (by kernel_rfl)) (fun _ _ _ h => h) (Or.inl ⟨by rfl, ?_⟩) ?_ ?_
        rotate_left
        · intro w'
          go_simp
          with_reducible rfl
        rotate_left
        · simp only [Act.put, List.setIfInBounds_toArray, List.set_cons_zero, List.set_cons_succ, i64_w, i32_w]
          rfl
        refine pure_ (i := 6) (N := some 22) (v := ?_) (a' := ?_) #[true, true, false, true, true, true, true, false, false, false, false] rfl rfl (any_of HT_.out (by kernel_rfl)) (fun _ _ _ h => h) (Or.inl ⟨by rfl, ?_⟩) ?_ ?_
        rotate_left
        · intro w'
          go_simp
          with_reducible rfl
        rotate_left
        · simp only [Act.put, List.setIfInBounds_toArray, List.set_cons_zero, List.set_cons_succ, i64_w, i32_w]
          rfl
        refine join_ (σ := Value) 2 #[true, true, true, true, true, true, true, true, true, false, false] (fun s_ => [(18, .string t160), (23, s_), (24, .string (strOfNums y161))]) (fun s_ w' => (Kd.R (Kd.int .u8) 5 w' w.heap.size (fun _ => True) s_ y161) ∧ (Below w.heap.size w w')) ?_ ?_
        rotate_left
        · intro hCont
          refine two_ (i := 2) (j := 7) (Ni := some 18) (Nj := some 23) #[true, true, true, true, true, true, true, false, false, false, false] #[true, true, false, true, true, true, true, true, false, false, false] rfl rfl rfl rfl (two_of HT_.out (by kernel_rfl)) (by decide) (by decide) (fun K hK => ?_) (fun K hK => ?_)
          · skip
            refine goes_ Tryz.func22 (by kernel_rfl) rfl #[.int .i64 (wrap64 (Int.tdiv a0 10))] (by rfl) rfl rfl Sqz.auM ?_
            with_reducible refine (ih k (by omega) (wrap64 (Int.tdiv a0 10)) t160 _ A10.out).mono ?_
            rintro e w13 ⟨rfl, hb⟩
            refine ⟨_, rfl, ?_⟩
            have n0_ := Aside0.mk (below_step (Sqz.auHB) hb)
            clear HB
            have HB := n0_
            clear n0_
            (try clear hb)
            (try clear hb2)
            (try clear hk)
            (try clear hi)
            refine hK.out _ _ trivial (fun hHeld => ?_)
            clear hK K
            refine norm_ (a' := ?_) ?_ ?_
            rotate_left
            · show Act.put _ (some 18) _ = _
              simp only [Act.put, List.setIfInBounds_toArray, List.set_cons_zero, List.set_cons_succ, i64_w, i32_w]
              rfl
            refine one_ (i := 7) (N := some 23) #[true, true, true, true, true, true, true, true, false, false, false] rfl rfl (one_of HT_.out (by kernel_rfl)) (by decide) (fun K hK => ?_)
            refine Kd.R_lit_step (Kd.int .u8) _ 5 ?hg (N := 23) ?hd (xs := ([(wrap64 (48 + (Int.tmod a0 10))) % 256] : List Int)) (inner := [.int .u8 ((wrap64 (48 + (Int.tmod a0 10))) % 256)]) (ok := fun _ => True) (okp := fun _ => True) ?hr ?hp (fun _ hk => hk) trivial (Below.refl _ _) (Nat.le_refl _) (by simp) ?_; (case hd => rfl); (case hg => rfl); (case hr => first | (go_simp; done) | (go_simp; rfl)); (case hp => exact (Reps.one (show Kd.M (Kd.int .u8) _ _ _ ((wrap64 (48 + (Int.tmod a0 10))) % 256) [.int .u8 ((wrap64 (48 + (Int.tmod a0 10))) % 256)] from rfl) (Reps.none _ _)))
            intro v162 w14 ho15 hb hg_ hnew_
            clear hg_ hnew_
            (first | rw [← Ny161.out] at ho15 | (simp only [Int.reduceToNat] at ho15; rw [← Ny161.out] at ho15))
            have n0_ := Aside0.mk (Kd.R_lower ho15 (below_size (Sqz.auHB)))
            have n1_ := Aside0.mk (below_step (Sqz.auHB) hb)
            clear HB
            have HO163 := n0_
            have HB := n1_
            clear n0_ n1_
            clear hb ho15
            refine hK.out _ _ trivial (fun hHeld => ?_)
            clear hK K
            refine norm_ (a' := ?_) ?_ ?_
            rotate_left
            · show Act.put _ (some 23) _ = _
              simp only [Act.put, List.setIfInBounds_toArray, List.set_cons_zero, List.set_cons_succ, i64_w, i32_w]
              rfl
            refine one_ (i := 8) (N := some 24) #[true, true, true, true, true, true, true, true, true, false, false] rfl rfl (one_of HT_.out (by kernel_rfl)) (by decide) (fun K hK => ?_)
            have hcv16 := own_string (P := Tryz.prog) Tryz.underlying22 Tryz.underlying5 Tryz.underlying9 (Kd.own_of_R HO163.out)
            refine value_ (w1 := ?_) (v := ?_) (by rfl) rfl ?_ ?_
            rotate_left 2
            · go_simp
              constructor
              · rfl
              · rfl
            clear hcv16
            refine hK.out _ _ trivial (fun hHeld => ?_)
            clear hK K
            refine norm_ (a' := ?_) ?_ ?_
            rotate_left
            · show Act.put _ (some 24) _ = _
              simp only [Act.put, List.setIfInBounds_toArray, List.set_cons_zero, List.set_cons_succ, i64_w, i32_w]
              rfl
            exact norm_ (by simp only [putAll, Act.put, List.setIfInBounds_toArray, List.set_cons_zero, List.set_cons_succ]) (hCont (v162) _ ⟨((Sqz.mvR HO163.out)), (Sqz.auHB)⟩)
          · skip
            refine Kd.R_lit_step (Kd.int .u8) _ 5 ?hg (N := 23) ?hd (xs := ([(wrap64 (48 + (Int.tmod a0 10))) % 256] : List Int)) (inner := [.int .u8 ((wrap64 (48 + (Int.tmod a0 10))) % 256)]) (ok := fun _ => True) (okp := fun _ => True) ?hr ?hp (fun _ hk => hk) trivial (Below.refl _ _) (Nat.le_refl _) (by simp) ?_; (case hd => rfl); (case hg => rfl); (case hr => first | (go_simp; done) | (go_simp; rfl)); (case hp => exact (Reps.one (show Kd.M (Kd.int .u8) _ _ _ ((wrap64 (48 + (Int.tmod a0 10))) % 256) [.int .u8 ((wrap64 (48 + (Int.tmod a0 10))) % 256)] from rfl) (Reps.none _ _)))
            intro v162 w13 ho14 hb hg_ hnew_
            clear hg_ hnew_
            (first | rw [← Ny161.out] at ho14 | (simp only [Int.reduceToNat] at ho14; rw [← Ny161.out] at ho14))
            have n0_ := Aside0.mk (Kd.R_lower ho14 (below_size (Sqz.auHB)))
            have n1_ := Aside0.mk (below_step (Sqz.auHB) hb)
            clear HB
            have HO163 := n0_
            have HB := n1_
            clear n0_ n1_
            clear hb ho14
            refine hK.out _ _ trivial (fun hHeld => ?_)
            clear hK K
            refine norm_ (a' := ?_) ?_ ?_
            rotate_left
            · show Act.put _ (some 23) _ = _
              simp only [Act.put, List.setIfInBounds_toArray, List.set_cons_zero, List.set_cons_succ, i64_w, i32_w]
              rfl
            refine two_ (i := 2) (j := 8) (Ni := some 18) (Nj := some 24) #[true, true, true, true, true, true, true, true, false, false, false] #[true, true, false, true, true, true, true, true, true, false, false] rfl rfl rfl rfl (two_of HT_.out (by kernel_rfl)) (by decide) (by decide) (fun K hK => ?_) (fun K hK => ?_)
            · skip
              refine goes_ Tryz.func22 (by kernel_rfl) rfl #[.int .i64 (wrap64 (Int.tdiv a0 10))] (by rfl) rfl rfl Sqz.auM ?_
              with_reducible refine (ih k (by omega) (wrap64 (Int.tdiv a0 10)) t160 _ A10.out).mono ?_
              rintro e w15 ⟨rfl, hb⟩
              refine ⟨_, rfl, ?_⟩
              have n0_ := Aside0.mk (Kd.R_below ((Sqz.mvR HO163.out)) hb)
              have n1_ := Aside0.mk (below_step (Sqz.auHB) hb)
              clear HO163
              clear HB
              have HO163 := n0_
              have HB := n1_
              clear n0_ n1_
              (try clear hb)
              (try clear hb2)
              (try clear hk)
              (try clear hi)
              refine hK.out _ _ trivial (fun hHeld => ?_)
              clear hK K
              refine norm_ (a' := ?_) ?_ ?_
              rotate_left
              · show Act.put _ (some 18) _ = _
                simp only [Act.put, List.setIfInBounds_toArray, List.set_cons_zero, List.set_cons_succ, i64_w, i32_w]
                rfl
              refine one_ (i := 8) (N := some 24) #[true, true, true, true, true, true, true, true, true, false, false] rfl rfl (one_of HT_.out (by kernel_rfl)) (by decide) (fun K hK => ?_)
              have hcv16 := own_string (P := Tryz.prog) Tryz.underlying22 Tryz.underlying5 Tryz.underlying9 (Kd.own_of_R HO163.out)
              refine value_ (w1 := ?_) (v := ?_) (by rfl) rfl ?_ ?_
              rotate_left 2
              · go_simp
                constructor
                · rfl
                · rfl
              clear hcv16
              refine hK.out _ _ trivial (fun hHeld => ?_)
              clear hK K
              refine norm_ (a' := ?_) ?_ ?_
              rotate_left
              · show Act.put _ (some 24) _ = _
                simp only [Act.put, List.setIfInBounds_toArray, List.set_cons_zero, List.set_cons_succ, i64_w, i32_w]
                rfl
              exact norm_ (by simp only [putAll, Act.put, List.setIfInBounds_toArray, List.set_cons_zero, List.set_cons_succ]) (hCont (v162) _ ⟨((Sqz.mvR HO163.out)), (Sqz.auHB)⟩)
            · skip
              have hcv15 := own_string (P := Tryz.prog) Tryz.underlying22 Tryz.underlying5 Tryz.underlying9 (Kd.own_of_R HO163.out)
              refine value_ (w1 := ?_) (v := ?_) (by rfl) rfl ?_ ?_
              rotate_left 2
              · go_simp
                constructor
                · rfl
                · rfl
              clear hcv15
              refine hK.out _ _ trivial (fun hHeld => ?_)
              clear hK K
              refine norm_ (a' := ?_) ?_ ?_
              rotate_left
              · show Act.put _ (some 24) _ = _
                simp only [Act.put, List.setIfInBounds_toArray, List.set_cons_zero, List.set_cons_succ, i64_w, i32_w]
                rfl
              refine one_ (i := 2) (N := some 18) #[true, true, true, true, true, true, true, true, true, false, false] rfl rfl (one_of HT_.out (by kernel_rfl)) (by decide) (fun K hK => ?_)
              refine goes_ Tryz.func22 (by kernel_rfl) rfl #[.int .i64 (wrap64 (Int.tdiv a0 10))] (by rfl) rfl rfl Sqz.auM ?_
              with_reducible refine (ih k (by omega) (wrap64 (Int.tdiv a0 10)) t160 _ A10.out).mono ?_
              rintro e w16 ⟨rfl, hb⟩
              refine ⟨_, rfl, ?_⟩
              have n0_ := Aside0.mk (Kd.R_below ((Sqz.mvR HO163.out)) hb)
              have n1_ := Aside0.mk (below_step (Sqz.auHB) hb)
              clear HO163
              clear HB
              have HO163 := n0_
              have HB := n1_
              clear n0_ n1_
              (try clear hb)
              (try clear hb2)
              (try clear hk)
              (try clear hi)
              refine hK.out _ _ trivial (fun hHeld => ?_)
              clear hK K
              refine norm_ (a' := ?_) ?_ ?_
              rotate_left
              · show Act.put _ (some 18) _ = _
                simp only [Act.put, List.setIfInBounds_toArray, List.set_cons_zero, List.set_cons_succ, i64_w, i32_w]
                rfl
              exact norm_ (by simp only [putAll, Act.put, List.setIfInBounds_toArray, List.set_cons_zero, List.set_cons_succ]) (hCont (v162) _ ⟨((Sqz.mvR HO163.out)), (Sqz.auHB)⟩)
        rintro v162 w17 ⟨h0_, h1_⟩
        have n0_ : Aside0 (Kd.R (Kd.int .u8) 5 w17 w.heap.size (fun _ => True) v162 y161) := ⟨h0_⟩
        have n1_ : Aside0 (Below w.heap.size w w17) := ⟨h1_⟩
        clear HB
        clear h0_ h1_
        have HO163 := n0_
        have HB := n1_
        clear n0_ n1_
        have hHeld := trivial
        refine norm_ (a' := ?_) ?_ ?_
        rotate_left
        · simp only [putAll, Act.put, List.setIfInBounds_toArray, List.set_cons_zero, List.set_cons_succ]
          rfl
        refine pure_ (i := 9) (N := some 25) (v := ?_) (a' := ?_) #[true, true, true, true, true, true, true, true, true, true, false] rfl rfl (any_of HT_.out (by kernel_rfl)) (fun _ _ _ h => h) (Or.inl ⟨by rfl, ?_⟩) ?_ ?_
        rotate_left
        · intro w'
          go_simp
          with_reducible rfl
        rotate_left
        · simp only [Act.put, List.setIfInBounds_toArray, List.set_cons_zero, List.set_cons_succ, i64_w, i32_w]
          rfl
        refine pure_ (i := 10) (N := some 2) (v := ?_) (a' := ?_) #[true, true, true, true, true, true, true, true, true, true, true] rfl rfl (any_of HT_.out (by kernel_rfl)) (fun _ _ _ h => h) (Or.inl ⟨by rfl, ?_⟩) ?_ ?_
        rotate_left
        · intro w'
          go_simp
          with_reducible rfl
        rotate_left
        · simp only [Act.put, List.setIfInBounds_toArray, List.set_cons_zero, List.set_cons_succ, i64_w, i32_w]
          rfl
        refine done_ (done_of HT_.out (by kernel_rfl)) ?_
        try go_wp2
        go_ret
        exact ⟨Sqz.auR, Sqz.auHB⟩
      · rw [if_neg c11] at H
        exact absurd H (by simp)

/-! ### laws_tail: function 23 -/
def laws_tail.f (a0 : ByteArray) : Option (ByteArray) := if a0.toList = ([] : List UInt8) then (some a0) else (if 1 ≤ (a0.size : Int) then (some (a0.extract 1 a0.size)) else (none))
set_option maxHeartbeats 8000000 in
set_option maxRecDepth 100000 in
theorem laws_tail.calls (a0 : ByteArray) (r : ByteArray) (w : World) (h : laws_tail.f a0 = some r) :
    Calls Tryz.prog 23 #[.string a0] w fun e w' => e = .returned (.string r) ∧ Drawn0 w w' := by
  have H : (if a0.toList = ([] : List UInt8) then (some a0) else (if 1 ≤ (a0.size : Int) then (some (a0.extract 1 a0.size)) else (none))) = some r := h
  clear h
  by_cases c2 : a0.toList = ([] : List UInt8)
  · rw [if_pos c2] at H
    have c2b0 : (a0.toList == ([] : List UInt8)) = true := beq_iff_eq.mpr c2
    have c2b1 : (a0.toList != ([] : List UInt8)) = false := bne_eq_false_iff_eq.mpr c2
    clear c2
    obtain rfl := Option.some.inj H
    go_enter Tryz.func23, Tryz.ntmps23
    go_wp2
    go_ret
    exact ⟨Sqz.auS, by repeat (first | exact Drawn0.refl _ | apply Drawn0.step)⟩
  · rw [if_neg c2] at H
    have c2b0 : (a0.toList == ([] : List UInt8)) = false := beq_eq_false_iff_ne.mpr c2
    have c2b1 : (a0.toList != ([] : List UInt8)) = true := bne_iff_ne.mpr c2
    by_cases c3 : 1 ≤ (a0.size : Int)
    · rw [if_pos c3] at H
      have c3b0 := eq_true c3
      have c3b1 : decide (1 ≤ (a0.size : Int)) = true := decide_eq_true c3
      clear c3
      obtain rfl := Option.some.inj H
      go_enter Tryz.func23, Tryz.ntmps23
      go_wp2
      go_ret
      exact ⟨Sqz.auS, by repeat (first | exact Drawn0.refl _ | apply Drawn0.step)⟩
    · rw [if_neg c3] at H
      exact absurd H (by simp)

/-! ### laws_spaced: function 24 -/
def laws_spaced.l0 : Nat → List Int → ByteArray → Int → Option (ByteArray)
  | 0, _, _, _ => none
  | k + 1, x0, x3, x4 => if x4 < (x0.length : Int) then (if x3.size + 1 ≤ 9223372036854775807 then (if 0 ≤ x4 then ((laws_digits.f k (rd x0 x4)).bind fun t165 => (if (x3 ++ (⟨#[32]⟩ : ByteArray)).size + t165.size ≤ 9223372036854775807 then (laws_spaced.l0 k x0 ((x3 ++ (⟨#[32]⟩ : ByteArray)) ++ t165) (wrap64 (x4 + 1))) else (none))) else (none)) else (none)) else (some x3)
def laws_spaced.f (k : Nat) (l0 : List Int) : Option (ByteArray) := laws_spaced.l0 k l0 (⟨#[]⟩ : ByteArray) 0
set_option maxHeartbeats 8000000 in
set_option maxRecDepth 100000 in
theorem laws_spaced.calls (k : Nat) (A0 : Option Addr) (c0 : Nat) (l0 : List Int) (r : ByteArray) (w : World) (hr0 : Kd.C (Kd.int .i64) w A0 l0.length l0) (hc0 : l0.length ≤ c0) (h : laws_spaced.f k l0 = some r) :
    Calls Tryz.prog 24 #[.slice A0 l0.length c0] w fun e w' => e = .returned (.string r) ∧ Below w.heap.size w w' := by
  have HR0 := Aside0.mk hr0
  have HC0 := Aside0.mk hc0
  clear hr0 hc0
  have HB := Aside0.mk (Below.refl w.heap.size w)
  have H : (laws_spaced.l0 k l0 (⟨#[]⟩ : ByteArray) 0) = some r := h
  clear h
  have H' := Aside0.mk H
  clear H
  go_enter Tryz.func24, Tryz.ntmps24
  go_wp2
  go_loopg [3, 4] k (fun kq v3 v4 w' => ∃ (x3_1 : ByteArray) (x4_1 : Int), v3 = .string x3_1 ∧ v4 = .int .i64 x4_1 ∧ Aside0 (laws_spaced.l0 kq l0 x3_1 x4_1 = some r) ∧ Aside0 (kq ≤ k) ∧ Aside0 (Below w.heap.size w w'))
  case atStart => exact ⟨((⟨#[]⟩ : ByteArray)), (0), Sqz.auS, Sqz.auS, H', ⟨Nat.le_refl _⟩, ⟨Sqz.auHB⟩⟩
  case round =>
    clear H'
    obtain ⟨x3_1, x4_1, rfl, rfl, HA, HK1, HB⟩ := hrel
    cases gk with
    | zero => exact absurd HA.out (by simp [laws_spaced.l0])
    | succ k1 =>
      have H := HA.out
      clear HA
      simp only [laws_spaced.l0] at H
      by_cases c2 : x4_1 < (l0.length : Int)
      · rw [if_pos c2] at H
        have c2b0 : decide (x4_1 < (l0.length : Int)) = true := decide_eq_true c2
        clear c2
        by_cases c3 : x3_1.size + 1 ≤ 9223372036854775807
        · rw [if_pos c3] at H
          have c3b0 := eq_true c3
          have c3b1 : decide (x3_1.size + 1 ≤ 9223372036854775807) = true := decide_eq_true c3
          try have c3b2 : (9223372036854775807 < x3_1.size + 1) = False := eq_false (Nat.not_lt.2 c3)
          by_cases c4 : 0 ≤ x4_1
          · rw [if_pos c4] at H
            have c4b0 : decide (0 ≤ x4_1) = true := decide_eq_true c4
            clear c4
            replace H := Option.bind_eq_some_iff.mp H
            obtain ⟨t165, A50, H⟩ := H
            replace H : (if (x3_1 ++ (⟨#[32]⟩ : ByteArray)).size + t165.size ≤ 9223372036854775807 then (laws_spaced.l0 k1 l0 ((x3_1 ++ (⟨#[32]⟩ : ByteArray)) ++ t165) (wrap64 (x4_1 + 1))) else (none)) = some r := H
            have A5 := Aside0.mk A50
            clear A50
            by_cases c6 : (x3_1 ++ (⟨#[32]⟩ : ByteArray)).size + t165.size ≤ 9223372036854775807
            · rw [if_pos c6] at H
              have c6b0 := eq_true c6
              have c6b1 : decide ((x3_1 ++ (⟨#[32]⟩ : ByteArray)).size + t165.size ≤ 9223372036854775807) = true := decide_eq_true c6
              try have c6b2 : (9223372036854775807 < (x3_1 ++ (⟨#[32]⟩ : ByteArray)).size + t165.size) = False := eq_false (Nat.not_lt.2 c6)
              have c6b3 := c6
              have c6b4 := eq_false (Nat.not_lt.2 c6)
              simp only [ByteArray.size_append, show (⟨#[32]⟩ : ByteArray).size = 1 from rfl] at c6b4
              have H' := Aside0.mk H
              clear H
              have p164 : 0 ≤ (x4_1 : Int) := of_decide_eq_true (by first | (with_reducible assumption) | assumption)
              have q164 : x4_1 < (l0.length : Int) := of_decide_eq_true (by first | (with_reducible assumption) | assumption)
              obtain ⟨ad164, e164, hx164_0⟩ := Kd.at_int HR0.out x4_1 p164 q164
              cases e164
              replace hx164_0 := (HB.out.cell (World.block_lt_of_cell? w _ hx164_0)).trans hx164_0
              replace p164 := eq_true p164
              replace q164 := eq_true q164
              go_wp2_with (first | ((with_reducible refine gate_callee (f := 22) rfl ?_); refine goesL_ (some 17) rfl rfl Tryz.func22 (by kernel_rfl) rfl #[.int .i64 (rd l0 x4_1)] rfl Sqz.auM ?_; (with_reducible refine (laws_digits.calls k1 (rd l0 x4_1) t165 _ A5.out).mono ?_); rintro e w7 ⟨rfl, hb⟩; refine ⟨_, rfl, ?_⟩; have n0_ := Aside0.mk (below_step (Sqz.auHB) hb); clear HB; have HB := n0_; clear n0_; (try clear hb); (try clear hb2); (try clear hk); (try clear hi)))
              go_roundg k1
              case measure => have := HK1.out; omega
              case rel => exact ⟨((x3_1 ++ (⟨#[32]⟩ : ByteArray)) ++ t165), (wrap64 (x4_1 + 1)), Sqz.auS, Sqz.auS, H', ⟨by have := HK1.out; omega⟩, ⟨Sqz.auHB⟩⟩
            · rw [if_neg c6] at H
              exact absurd H (by simp)
          · rw [if_neg c4] at H
            exact absurd H (by simp)
        · rw [if_neg c3] at H
          exact absurd H (by simp)
      · rw [if_neg c2] at H
        have c2b0 : decide (x4_1 < (l0.length : Int)) = false := decide_eq_false c2
        clear c2
        obtain rfl := Option.some.inj H
        go_wp2
        go_ret
        exact ⟨Sqz.auR, Sqz.auHB⟩

/-! ### laws_endLine: function 25 -/
def laws_endLine.f (k : Nat) (a0 : Int) : Option (ByteArray) := (laws_digits.f k a0).bind fun t166 => (if 6 + t166.size ≤ 9223372036854775807 then (if ((⟨#[116, 101, 114, 109, 115, 32]⟩ : ByteArray) ++ t166).size + 1 ≤ 9223372036854775807 then (some (((⟨#[116, 101, 114, 109, 115, 32]⟩ : ByteArray) ++ t166) ++ (⟨#[10]⟩ : ByteArray))) else (none)) else (none))
set_option maxHeartbeats 8000000 in
set_option maxRecDepth 100000 in
theorem laws_endLine.calls (k : Nat) (a0 : Int) (r : ByteArray) (w : World) (h : laws_endLine.f k a0 = some r) :
    Calls Tryz.prog 25 #[.int .i64 a0] w fun e w' => e = .returned (.string r) ∧ Below w.heap.size w w' := by
  have HB := Aside0.mk (Below.refl w.heap.size w)
  have H : ((laws_digits.f k a0).bind fun t166 => (if 6 + t166.size ≤ 9223372036854775807 then (if ((⟨#[116, 101, 114, 109, 115, 32]⟩ : ByteArray) ++ t166).size + 1 ≤ 9223372036854775807 then (some (((⟨#[116, 101, 114, 109, 115, 32]⟩ : ByteArray) ++ t166) ++ (⟨#[10]⟩ : ByteArray))) else (none)) else (none))) = some r := h
  clear h
  replace H := Option.bind_eq_some_iff.mp H
  obtain ⟨t166, A20, H⟩ := H
  replace H : (if 6 + t166.size ≤ 9223372036854775807 then (if ((⟨#[116, 101, 114, 109, 115, 32]⟩ : ByteArray) ++ t166).size + 1 ≤ 9223372036854775807 then (some (((⟨#[116, 101, 114, 109, 115, 32]⟩ : ByteArray) ++ t166) ++ (⟨#[10]⟩ : ByteArray))) else (none)) else (none)) = some r := H
  have A2 := Aside0.mk A20
  clear A20
  by_cases c3 : 6 + t166.size ≤ 9223372036854775807
  · rw [if_pos c3] at H
    have c3b0 := eq_true c3
    have c3b1 : decide (6 + t166.size ≤ 9223372036854775807) = true := decide_eq_true c3
    try have c3b2 : (9223372036854775807 < 6 + t166.size) = False := eq_false (Nat.not_lt.2 c3)
    by_cases c4 : ((⟨#[116, 101, 114, 109, 115, 32]⟩ : ByteArray) ++ t166).size + 1 ≤ 9223372036854775807
    · rw [if_pos c4] at H
      have c4b0 := eq_true c4
      have c4b1 : decide (((⟨#[116, 101, 114, 109, 115, 32]⟩ : ByteArray) ++ t166).size + 1 ≤ 9223372036854775807) = true := decide_eq_true c4
      try have c4b2 : (9223372036854775807 < ((⟨#[116, 101, 114, 109, 115, 32]⟩ : ByteArray) ++ t166).size + 1) = False := eq_false (Nat.not_lt.2 c4)
      have c4b3 := c4
      have c4b4 := eq_false (Nat.not_lt.2 c4)
      simp only [ByteArray.size_append, show (⟨#[116, 101, 114, 109, 115, 32]⟩ : ByteArray).size = 6 from rfl] at c4b4
      obtain rfl := Option.some.inj H
      go_enter Tryz.func25, Tryz.ntmps25
      go_wp2_with (first | ((with_reducible refine gate_callee (f := 22) rfl ?_); refine goesL_ (some 4) rfl rfl Tryz.func22 (by kernel_rfl) rfl #[.int .i64 a0] rfl Sqz.auM ?_; (with_reducible refine (laws_digits.calls k a0 t166 _ A2.out).mono ?_); rintro e w5 ⟨rfl, hb⟩; refine ⟨_, rfl, ?_⟩; have n0_ := Aside0.mk (below_step (Sqz.auHB) hb); clear HB; have HB := n0_; clear n0_; (try clear hb); (try clear hb2); (try clear hk); (try clear hi)))
      go_ret
      exact ⟨Sqz.auR, Sqz.auHB⟩
    · rw [if_neg c4] at H
      exact absurd H (by simp)
  · rw [if_neg c3] at H
    exact absurd H (by simp)

/-! ### laws_FnExecuteSquares: function 6 -/
def laws_FnExecuteSquares.j0 : Nat → Int → List Int → Bool → List Int → Bool → Bool → Option (Bool)
  | 0, _, _, _, _, _, _ => none
  | k + 1, x3, x4, x5, x6, x7, x35 => if x35 = true then (if (x5 == x7) = true then ((laws_sameInts.f k x4 x6).bind fun t177 => (some t177)) else (some false)) else ((laws_digits.f k x3).bind fun t178 => (if 8 + t178.size ≤ 9223372036854775807 then (if ((⟨#[115, 113, 117, 97, 114, 101, 115, 32]⟩ : ByteArray) ++ t178).size + 1 ≤ 9223372036854775807 then ((impl_Execute.f k (((⟨#[115, 113, 117, 97, 114, 101, 115, 32]⟩ : ByteArray) ++ t178) ++ (⟨#[10]⟩ : ByteArray))).bind fun t179 => ((laws_spaced.f k x4).bind fun t180 => ((laws_tail.f t180).bind fun t181 => (if t181.size + 1 ≤ 9223372036854775807 then ((laws_endLine.f k 1).bind fun t182 => (if (t181 ++ (⟨#[10]⟩ : ByteArray)).size + t182.size ≤ 9223372036854775807 then (some (t179.toList == ((t181 ++ (⟨#[10]⟩ : ByteArray)) ++ t182).toList)) else (none))) else (none))))) else (none)) else (none)))
def laws_FnExecuteSquares.f (k : Nat) (l0 : List Int) : Option (Bool) := if (l0.length : Int) > 1048576 then (some true) else ((spec_DrawFourFind.f k l0).bind fun t167 => ((impl_FourFind.f t167).bind fun bt168 => ((spec_FourFind.f k t167).bind fun bt172 => (if (bt168.2 != bt172.2) = true then (laws_FnExecuteSquares.j0 k t167 bt168.1 bt168.2 bt172.1 bt172.2 true) else ((laws_sameInts.f k bt168.1 bt172.1).bind fun t176 => (if t176 = true then (laws_FnExecuteSquares.j0 k t167 bt168.1 bt168.2 bt172.1 bt172.2 (!bt168.2)) else (laws_FnExecuteSquares.j0 k t167 bt168.1 bt168.2 bt172.1 bt172.2 true)))))))
set_option maxHeartbeats 8000000 in
set_option maxRecDepth 100000 in
theorem laws_FnExecuteSquares.calls (k : Nat) (A0 : Option Addr) (c0 : Nat) (l0 : List Int) (r : Bool) (w : World) (hG : GW w) (hr0 : Kd.C (Kd.int .u8) w A0 l0.length l0) (hc0 : l0.length ≤ c0) (h : laws_FnExecuteSquares.f k l0 = some r) :
    Calls Tryz.prog 6 #[.slice A0 l0.length c0] w fun e w' => e = .returned (.bool r) ∧ Below w.heap.size w w' := by
  have HG := Aside0.mk hG
  clear hG
  have HR0 := Aside0.mk hr0
  have HC0 := Aside0.mk hc0
  clear hr0 hc0
  have HB := Aside0.mk (Below.refl w.heap.size w)
  have H : (if (l0.length : Int) > 1048576 then (some true) else ((spec_DrawFourFind.f k l0).bind fun t167 => ((impl_FourFind.f t167).bind fun bt168 => ((spec_FourFind.f k t167).bind fun bt172 => (if (bt168.2 != bt172.2) = true then (laws_FnExecuteSquares.j0 k t167 bt168.1 bt168.2 bt172.1 bt172.2 true) else ((laws_sameInts.f k bt168.1 bt172.1).bind fun t176 => (if t176 = true then (laws_FnExecuteSquares.j0 k t167 bt168.1 bt168.2 bt172.1 bt172.2 (!bt168.2)) else (laws_FnExecuteSquares.j0 k t167 bt168.1 bt168.2 bt172.1 bt172.2 true)))))))) = some r := h
  clear h
  by_cases c2 : (l0.length : Int) > 1048576
  · rw [if_pos c2] at H
    have c2b0 : decide (1048576 < (l0.length : Int)) = true := decide_eq_true c2
    have c2b1 : decide (1048576 < l0.length) = true := decide_eq_true (by omega)
    clear c2
    obtain rfl := Option.some.inj H
    go_enter Tryz.func6, Tryz.ntmps6
    go_wp2
    go_ret
    exact ⟨Sqz.auR, Sqz.auHB⟩
  · rw [if_neg c2] at H
    have c2b0 : decide (1048576 < (l0.length : Int)) = false := decide_eq_false c2
    have c2b1 : decide (1048576 < l0.length) = false := decide_eq_false (by omega)
    clear c2
    replace H := Option.bind_eq_some_iff.mp H
    obtain ⟨t167, A30, H⟩ := H
    replace H : ((impl_FourFind.f t167).bind fun bt168 => ((spec_FourFind.f k t167).bind fun bt172 => (if (bt168.2 != bt172.2) = true then (laws_FnExecuteSquares.j0 k t167 bt168.1 bt168.2 bt172.1 bt172.2 true) else ((laws_sameInts.f k bt168.1 bt172.1).bind fun t176 => (if t176 = true then (laws_FnExecuteSquares.j0 k t167 bt168.1 bt168.2 bt172.1 bt172.2 (!bt168.2)) else (laws_FnExecuteSquares.j0 k t167 bt168.1 bt168.2 bt172.1 bt172.2 true)))))) = some r := H
    have A3 := Aside0.mk A30
    clear A30
    replace H := Option.bind_eq_some_iff.mp H
    obtain ⟨⟨t168, t169⟩, A40, H⟩ := H
    replace H : ((spec_FourFind.f k t167).bind fun bt172 => (if (t169 != bt172.2) = true then (laws_FnExecuteSquares.j0 k t167 t168 t169 bt172.1 bt172.2 true) else ((laws_sameInts.f k t168 bt172.1).bind fun t176 => (if t176 = true then (laws_FnExecuteSquares.j0 k t167 t168 t169 bt172.1 bt172.2 (!t169)) else (laws_FnExecuteSquares.j0 k t167 t168 t169 bt172.1 bt172.2 true))))) = some r := H
    have A4 := Aside0.mk A40
    clear A40
    replace H := Option.bind_eq_some_iff.mp H
    obtain ⟨⟨t172, t173⟩, A50, H⟩ := H
    replace H : (if (t169 != t173) = true then (laws_FnExecuteSquares.j0 k t167 t168 t169 t172 t173 true) else ((laws_sameInts.f k t168 t172).bind fun t176 => (if t176 = true then (laws_FnExecuteSquares.j0 k t167 t168 t169 t172 t173 (!t169)) else (laws_FnExecuteSquares.j0 k t167 t168 t169 t172 t173 true)))) = some r := H
    have A5 := Aside0.mk A50
    clear A50
    have HC6 := Aside0.mk H
    clear H
    go_enter Tryz.func6, Tryz.ntmps6
    go_upto_region 6 with (first | ((with_reducible refine gate_callee (f := 18) rfl ?_); refine goesL_ (some 12) rfl rfl Tryz.func18 (by kernel_rfl) rfl #[.slice A0 l0.length c0] rfl Sqz.auM ?_; (with_reducible refine (spec_DrawFourFind.calls k _ _ l0 t167 _ ?side1 ?side2 A3.out).mono ?_); (case side1 => exact Sqz.mvC (HR0.out)); (case side2 => exact HC0.out); rintro e w7 ⟨rfl, hb⟩; refine ⟨_, rfl, ?_⟩; have n0_ := Aside0.mk (below_step (Sqz.auHB) hb); clear HB; have HB := n0_; clear n0_; (try clear hb); (try clear hb2); (try clear hk); (try clear hi)) | ((with_reducible refine gate_callee (f := 19) rfl ?_); refine goesL_ (some 15) rfl rfl Tryz.func19 (by kernel_rfl) rfl #[.int .i64 t167] rfl Sqz.auM ?_; (with_reducible refine (impl_FourFind.calls t167 t168 t169 _ A4.out).mono ?_); rintro e w8 ⟨v170, rfl, ho0, hb⟩; refine ⟨_, rfl, ?_⟩; have n0_ := Aside0.mk (Kd.R_lower ho0 (below_size (Sqz.auHB))); have n1_ := Aside0.mk (below_step (Sqz.auHB) hb); clear HB; have HO171 := n0_; have HB := n1_; clear n0_ n1_; (try clear hb); (try clear hb2); (try clear hk); (try clear hi); (try clear ho0)) | ((with_reducible refine gate_callee (f := 20) rfl ?_); refine goesL_ (some 20) rfl rfl Tryz.func20 (by kernel_rfl) rfl #[.int .i64 t167] rfl Sqz.auM ?_; (with_reducible refine (spec_FourFind.calls k t167 t172 t173 _ A5.out).mono ?_); rintro e w9 ⟨v174, rfl, ho0, hb⟩; refine ⟨_, rfl, ?_⟩; have n0_ := Aside0.mk (Kd.R_elder' ((Sqz.mvR HO171.out)) (Kd.R_base ho0) hb); have n1_ := Aside0.mk (Kd.R_lower (Kd.R_new' ho0 (Kd.R_lt ((Sqz.mvR HO171.out)))) (below_size (Sqz.auHB))); have n2_ := Aside0.mk (below_step (Sqz.auHB) hb); clear HO171; clear HB; have HO171 := n0_; have HO175 := n1_; have HB := n2_; clear n0_ n1_ n2_; (try clear hb); (try clear hb2); (try clear hk); (try clear hi); (try clear ho0)))
    (try simp only [Act.put, List.setIfInBounds_toArray, List.set_cons_zero, List.set_cons_succ])
    go_cut [35] (fun v35 wc => ∃ (kq : Nat) (x35_5 : Bool), v35 = .bool x35_5 ∧ Aside0 (laws_FnExecuteSquares.j0 kq t167 t168 t169 t172 t173 x35_5 = some r) ∧ Aside0 (kq ≤ k) ∧ Aside0 (Kd.R (Kd.int .i64) 3 wc w.heap.size (fun k_ => some k_ ≠ (v174 : Value).ownBlock) v170 t168) ∧ Aside0 (Kd.R (Kd.int .i64) 3 wc w.heap.size (fun k_ => some k_ ≠ (v170 : Value).ownBlock) v174 t172) ∧ Aside0 (Below w.heap.size w wc))
    case first =>
      have H := HC6.out
      clear HC6
      by_cases c10 : (t169 != t173) = true
      · rw [if_pos c10] at H
        have c10b0 : (t169 != t173) = true := c10
        (try (have c10b1 : decide (t169 = t173) = false := by simpa using c10))
        (try (have c10b2 : (t169 == t173) = false := by simpa using c10))
        (try (have c10b3 : ¬ (t169 = t173) := by simpa using c10))
        clear c10
        (first | rw [c10b0] | (simp only [i64_w, i32_w]; rw [c10b0]) | skip)
        have H' := Aside0.mk H
        clear H
        go_wp2
        go_meet
        case rel => exact ⟨_, (true), Sqz.auS, H', ⟨Sqz.auN⟩, ⟨(Sqz.mvR (Kd.R_mono HO171.out (fun _ hk => hk.2)))⟩, ⟨(Sqz.mvR (Kd.R_mono HO175.out (fun _ hk => hk.2)))⟩, ⟨Sqz.auHB⟩⟩
      · rw [if_neg c10] at H
        have c10b0 : (t169 != t173) = false := by simpa using c10
        (try (have c10b1 : decide (t169 = t173) = true := by simpa using c10))
        (try (have c10b2 : (t169 == t173) = true := by simpa using c10))
        clear c10
        (first | rw [c10b0] | (simp only [i64_w, i32_w]; rw [c10b0]) | skip)
        replace H := Option.bind_eq_some_iff.mp H
        obtain ⟨t176, A110, H⟩ := H
        replace H : (if t176 = true then (laws_FnExecuteSquares.j0 k t167 t168 t169 t172 t173 (!t169)) else (laws_FnExecuteSquares.j0 k t167 t168 t169 t172 t173 true)) = some r := H
        have A11 := Aside0.mk A110
        clear A110
        by_cases c12 : t176 = true
        · subst c12
          have H1 : (laws_FnExecuteSquares.j0 k t167 t168 t169 t172 t173 (!t169)) = some r := by rw [if_pos rfl] at H; exact H
          clear H
          have H := H1
          clear H1
          have H' := Aside0.mk H
          clear H
          obtain ⟨Ao13, co13, eo13⟩ := Kd.R_slice HO171.out
          subst eo13
          obtain ⟨Ao14, co14, eo14⟩ := Kd.R_slice HO175.out
          subst eo14
          go_wp2_with (first | (go_at_call 21; (with_reducible refine (laws_sameInts.calls k _ _ t168 _ _ t172 true _ ?side1 ?side2 ?side3 ?side4 A11.out).mono ?_); (case side1 => exact Sqz.mvC ((Kd.R_reads' HO171.out).2.2)); (case side2 => exact (Kd.R_reads' HO171.out).2.1); (case side3 => exact Sqz.mvC ((Kd.R_reads' HO175.out).2.2)); (case side4 => exact (Kd.R_reads' HO175.out).2.1); rintro e w' ⟨rfl, ⟨nd, rfl⟩⟩))
          go_meet
          case rel => exact ⟨_, (!t169), Sqz.auS, H', ⟨Sqz.auN⟩, ⟨(Sqz.mvR (Kd.R_mono HO171.out (fun _ hk => hk.2)))⟩, ⟨(Sqz.mvR (Kd.R_mono HO175.out (fun _ hk => hk.2)))⟩, ⟨Sqz.auHB⟩⟩
        · replace c12 := Bool.eq_false_iff.mpr c12
          subst c12
          have H1 : (laws_FnExecuteSquares.j0 k t167 t168 t169 t172 t173 true) = some r := by rw [if_neg (show ¬ (false = true) by decide)] at H; exact H
          clear H
          have H := H1
          clear H1
          have H' := Aside0.mk H
          clear H
          obtain ⟨Ao15, co15, eo15⟩ := Kd.R_slice HO171.out
          subst eo15
          obtain ⟨Ao16, co16, eo16⟩ := Kd.R_slice HO175.out
          subst eo16
          go_wp2_with (first | (go_at_call 21; (with_reducible refine (laws_sameInts.calls k _ _ t168 _ _ t172 false _ ?side1 ?side2 ?side3 ?side4 A11.out).mono ?_); (case side1 => exact Sqz.mvC ((Kd.R_reads' HO171.out).2.2)); (case side2 => exact (Kd.R_reads' HO171.out).2.1); (case side3 => exact Sqz.mvC ((Kd.R_reads' HO175.out).2.2)); (case side4 => exact (Kd.R_reads' HO175.out).2.1); rintro e w' ⟨rfl, ⟨nd, rfl⟩⟩))
          go_meet
          case rel => exact ⟨_, (true), Sqz.auS, H', ⟨Sqz.auN⟩, ⟨(Sqz.mvR (Kd.R_mono HO171.out (fun _ hk => hk.2)))⟩, ⟨(Sqz.mvR (Kd.R_mono HO175.out (fun _ hk => hk.2)))⟩, ⟨Sqz.auHB⟩⟩
    case rest =>
      clear HC6
      try clear c1
      try clear c2
      try clear c2b0
      try clear c2b1
      try clear p2
      try clear c6
      try clear c10
      try clear c10b0
      try clear c10b1
      try clear c10b2
      try clear c12
      obtain ⟨kq, x35_5, rfl, HA, HJ5, HO_4, HO_6, HB⟩ := hcut
      cases kq with
      | zero => exact absurd HA.out (by simp [laws_FnExecuteSquares.j0])
      | succ kj5 =>
        have H := HA.out
        clear HA
        simp only [laws_FnExecuteSquares.j0] at H
        by_cases c17 : x35_5 = true
        · subst c17
          have H1 : (if (t169 == t173) = true then ((laws_sameInts.f kj5 t168 t172).bind fun t177 => (some t177)) else (some false)) = some r := by rw [if_pos rfl] at H; exact H
          clear H
          have H := H1
          clear H1
          by_cases c18 : (t169 == t173) = true
          · rw [if_pos c18] at H
            have c18b0 : (t169 == t173) = true := c18
            (try (have c18b1 : decide (t169 = t173) = true := by simpa using c18))
            (try (have c18b2 : (t169 == t173) = true := by simpa using c18))
            clear c18
            replace H := Option.bind_eq_some_iff.mp H
            obtain ⟨t177, A190, H⟩ := H
            replace H : (some t177) = some r := H
            have A19 := Aside0.mk A190
            clear A190
            obtain rfl := Option.some.inj H
            obtain ⟨Ao20, co20, eo20⟩ := Kd.R_slice HO_4.out
            subst eo20
            obtain ⟨Ao21, co21, eo21⟩ := Kd.R_slice HO_6.out
            subst eo21
            go_wp2_with (first | (go_at_call 21; (with_reducible refine (laws_sameInts.calls kj5 _ _ t168 _ _ t172 t177 _ ?side1 ?side2 ?side3 ?side4 A19.out).mono ?_); (case side1 => exact Sqz.mvC ((Kd.R_reads' HO_4.out).2.2)); (case side2 => exact (Kd.R_reads' HO_4.out).2.1); (case side3 => exact Sqz.mvC ((Kd.R_reads' HO_6.out).2.2)); (case side4 => exact (Kd.R_reads' HO_6.out).2.1); rintro e w' ⟨rfl, ⟨nd, rfl⟩⟩))
            go_ret
            exact ⟨Sqz.auR, Sqz.auHB⟩
          · rw [if_neg c18] at H
            have c18b0 : (t169 == t173) = false := by simpa using c18
            (try (have c18b1 : decide (t169 = t173) = false := by simpa using c18))
            (try (have c18b2 : (t169 == t173) = false := by simpa using c18))
            (try (have c18b3 : ¬ (t169 = t173) := by simpa using c18))
            clear c18
            obtain rfl := Option.some.inj H
            go_wp2
            go_ret
            exact ⟨Sqz.auR, Sqz.auHB⟩
        · replace c17 := Bool.eq_false_iff.mpr c17
          subst c17
          have H1 : ((laws_digits.f kj5 t167).bind fun t178 => (if 8 + t178.size ≤ 9223372036854775807 then (if ((⟨#[115, 113, 117, 97, 114, 101, 115, 32]⟩ : ByteArray) ++ t178).size + 1 ≤ 9223372036854775807 then ((impl_Execute.f kj5 (((⟨#[115, 113, 117, 97, 114, 101, 115, 32]⟩ : ByteArray) ++ t178) ++ (⟨#[10]⟩ : ByteArray))).bind fun t179 => ((laws_spaced.f kj5 t168).bind fun t180 => ((laws_tail.f t180).bind fun t181 => (if t181.size + 1 ≤ 9223372036854775807 then ((laws_endLine.f kj5 1).bind fun t182 => (if (t181 ++ (⟨#[10]⟩ : ByteArray)).size + t182.size ≤ 9223372036854775807 then (some (t179.toList == ((t181 ++ (⟨#[10]⟩ : ByteArray)) ++ t182).toList)) else (none))) else (none))))) else (none)) else (none))) = some r := by rw [if_neg (show ¬ (false = true) by decide)] at H; exact H
          clear H
          have H := H1
          clear H1
          replace H := Option.bind_eq_some_iff.mp H
          obtain ⟨t178, A220, H⟩ := H
          replace H : (if 8 + t178.size ≤ 9223372036854775807 then (if ((⟨#[115, 113, 117, 97, 114, 101, 115, 32]⟩ : ByteArray) ++ t178).size + 1 ≤ 9223372036854775807 then ((impl_Execute.f kj5 (((⟨#[115, 113, 117, 97, 114, 101, 115, 32]⟩ : ByteArray) ++ t178) ++ (⟨#[10]⟩ : ByteArray))).bind fun t179 => ((laws_spaced.f kj5 t168).bind fun t180 => ((laws_tail.f t180).bind fun t181 => (if t181.size + 1 ≤ 9223372036854775807 then ((laws_endLine.f kj5 1).bind fun t182 => (if (t181 ++ (⟨#[10]⟩ : ByteArray)).size + t182.size ≤ 9223372036854775807 then (some (t179.toList == ((t181 ++ (⟨#[10]⟩ : ByteArray)) ++ t182).toList)) else (none))) else (none))))) else (none)) else (none)) = some r := H
          have A22 := Aside0.mk A220
          clear A220
          by_cases c23 : 8 + t178.size ≤ 9223372036854775807
          · rw [if_pos c23] at H
            have c23b0 := eq_true c23
            have c23b1 : decide (8 + t178.size ≤ 9223372036854775807) = true := decide_eq_true c23
            try have c23b2 : (9223372036854775807 < 8 + t178.size) = False := eq_false (Nat.not_lt.2 c23)
            by_cases c24 : ((⟨#[115, 113, 117, 97, 114, 101, 115, 32]⟩ : ByteArray) ++ t178).size + 1 ≤ 9223372036854775807
            · rw [if_pos c24] at H
              have c24b0 := eq_true c24
              have c24b1 : decide (((⟨#[115, 113, 117, 97, 114, 101, 115, 32]⟩ : ByteArray) ++ t178).size + 1 ≤ 9223372036854775807) = true := decide_eq_true c24
              try have c24b2 : (9223372036854775807 < ((⟨#[115, 113, 117, 97, 114, 101, 115, 32]⟩ : ByteArray) ++ t178).size + 1) = False := eq_false (Nat.not_lt.2 c24)
              have c24b3 := c24
              have c24b4 := eq_false (Nat.not_lt.2 c24)
              simp only [ByteArray.size_append, show (⟨#[115, 113, 117, 97, 114, 101, 115, 32]⟩ : ByteArray).size = 8 from rfl] at c24b4
              replace H := Option.bind_eq_some_iff.mp H
              obtain ⟨t179, A250, H⟩ := H
              replace H : ((laws_spaced.f kj5 t168).bind fun t180 => ((laws_tail.f t180).bind fun t181 => (if t181.size + 1 ≤ 9223372036854775807 then ((laws_endLine.f kj5 1).bind fun t182 => (if (t181 ++ (⟨#[10]⟩ : ByteArray)).size + t182.size ≤ 9223372036854775807 then (some (t179.toList == ((t181 ++ (⟨#[10]⟩ : ByteArray)) ++ t182).toList)) else (none))) else (none)))) = some r := H
              have A25 := Aside0.mk A250
              clear A250
              replace H := Option.bind_eq_some_iff.mp H
              obtain ⟨t180, A260, H⟩ := H
              replace H : ((laws_tail.f t180).bind fun t181 => (if t181.size + 1 ≤ 9223372036854775807 then ((laws_endLine.f kj5 1).bind fun t182 => (if (t181 ++ (⟨#[10]⟩ : ByteArray)).size + t182.size ≤ 9223372036854775807 then (some (t179.toList == ((t181 ++ (⟨#[10]⟩ : ByteArray)) ++ t182).toList)) else (none))) else (none))) = some r := H
              have A26 := Aside0.mk A260
              clear A260
              replace H := Option.bind_eq_some_iff.mp H
              obtain ⟨t181, A270, H⟩ := H
              replace H : (if t181.size + 1 ≤ 9223372036854775807 then ((laws_endLine.f kj5 1).bind fun t182 => (if (t181 ++ (⟨#[10]⟩ : ByteArray)).size + t182.size ≤ 9223372036854775807 then (some (t179.toList == ((t181 ++ (⟨#[10]⟩ : ByteArray)) ++ t182).toList)) else (none))) else (none)) = some r := H
              have A27 := Aside0.mk A270
              clear A270
              by_cases c28 : t181.size + 1 ≤ 9223372036854775807
              · rw [if_pos c28] at H
                have c28b0 := eq_true c28
                have c28b1 : decide (t181.size + 1 ≤ 9223372036854775807) = true := decide_eq_true c28
                try have c28b2 : (9223372036854775807 < t181.size + 1) = False := eq_false (Nat.not_lt.2 c28)
                replace H := Option.bind_eq_some_iff.mp H
                obtain ⟨t182, A290, H⟩ := H
                replace H : (if (t181 ++ (⟨#[10]⟩ : ByteArray)).size + t182.size ≤ 9223372036854775807 then (some (t179.toList == ((t181 ++ (⟨#[10]⟩ : ByteArray)) ++ t182).toList)) else (none)) = some r := H
                have A29 := Aside0.mk A290
                clear A290
                by_cases c30 : (t181 ++ (⟨#[10]⟩ : ByteArray)).size + t182.size ≤ 9223372036854775807
                · rw [if_pos c30] at H
                  have c30b0 := eq_true c30
                  have c30b1 : decide ((t181 ++ (⟨#[10]⟩ : ByteArray)).size + t182.size ≤ 9223372036854775807) = true := decide_eq_true c30
                  try have c30b2 : (9223372036854775807 < (t181 ++ (⟨#[10]⟩ : ByteArray)).size + t182.size) = False := eq_false (Nat.not_lt.2 c30)
                  have c30b3 := c30
                  have c30b4 := eq_false (Nat.not_lt.2 c30)
                  simp only [ByteArray.size_append, show (⟨#[10]⟩ : ByteArray).size = 1 from rfl] at c30b4
                  obtain rfl := Option.some.inj H
                  go_wp2_with (first | ((with_reducible refine gate_callee (f := 22) rfl ?_); refine goesL_ (some 45) rfl rfl Tryz.func22 (by kernel_rfl) rfl #[.int .i64 t167] rfl Sqz.auM ?_; (with_reducible refine (laws_digits.calls kj5 t167 t178 _ A22.out).mono ?_); rintro e w31 ⟨rfl, hb⟩; refine ⟨_, rfl, ?_⟩; have n0_ := Aside0.mk (Kd.R_below ((Sqz.mvR HO_4.out)) hb); have n1_ := Aside0.mk (Kd.R_below ((Sqz.mvR HO_6.out)) hb); have n2_ := Aside0.mk (below_step (Sqz.auHB) hb); clear HO_4; clear HO_6; clear HB; have HO_4 := n0_; have HO_6 := n1_; have HB := n2_; clear n0_ n1_ n2_; (try clear hb); (try clear hb2); (try clear hk); (try clear hi)) | ((with_reducible refine gate_callee (f := 14) rfl ?_); refine goesL_ (some 48) rfl rfl Tryz.func14 (by kernel_rfl) rfl #[.string (((⟨#[115, 113, 117, 97, 114, 101, 115, 32]⟩ : ByteArray) ++ t178) ++ (⟨#[10]⟩ : ByteArray))] rfl Sqz.auM ?_; (with_reducible refine (impl_Execute.calls kj5 (((⟨#[115, 113, 117, 97, 114, 101, 115, 32]⟩ : ByteArray) ++ t178) ++ (⟨#[10]⟩ : ByteArray)) t179 _ ?sideG A25.out).mono ?_); (case sideG => exact GW.below HG.out (by repeat (first | (with_reducible first | exact HB.out | apply below_alloc | apply pw_below_drewN | apply below_drew1) | exact HB.out))); rintro e w32 ⟨rfl, hb⟩; refine ⟨_, rfl, ?_⟩; have n0_ := Aside0.mk (Kd.R_below ((Sqz.mvR HO_4.out)) hb); have n1_ := Aside0.mk (Kd.R_below ((Sqz.mvR HO_6.out)) hb); have n2_ := Aside0.mk (below_step (Sqz.auHB) hb); clear HO_4; clear HO_6; clear HB; have HO_4 := n0_; have HO_6 := n1_; have HB := n2_; clear n0_ n1_ n2_; (try clear hb); (try clear hb2); (try clear hk); (try clear hi); obtain ⟨Ao33, co33, eo33⟩ := Kd.R_slice HO_4.out; subst eo33) | ((with_reducible refine gate_callee (f := 24) rfl ?_); refine goesL_ (some 50) rfl rfl Tryz.func24 (by kernel_rfl) rfl #[.slice Ao33 t168.length co33] rfl Sqz.auM ?_; (with_reducible refine (laws_spaced.calls kj5 _ _ t168 t180 _ ?side1 ?side2 A26.out).mono ?_); (case side1 => exact Sqz.mvC ((Kd.R_reads' HO_4.out).2.2)); (case side2 => exact (Kd.R_reads' HO_4.out).2.1); rintro e w34 ⟨rfl, hb⟩; refine ⟨_, rfl, ?_⟩; have n0_ := Aside0.mk (Kd.R_below ((Sqz.mvR HO_4.out)) hb); have n1_ := Aside0.mk (Kd.R_below ((Sqz.mvR HO_6.out)) hb); have n2_ := Aside0.mk (below_step (Sqz.auHB) hb); clear HO_4; clear HO_6; clear HB; have HO_4 := n0_; have HO_6 := n1_; have HB := n2_; clear n0_ n1_ n2_; (try clear hb); (try clear hb2); (try clear hk); (try clear hi)) | ((with_reducible refine gate_callee (f := 23) rfl ?_); refine goesL_ (some 51) rfl rfl Tryz.func23 (by kernel_rfl) rfl #[.string t180] rfl Sqz.auM ?_; (with_reducible refine (laws_tail.calls t180 t181 _ A27.out).mono ?_); rintro e w' ⟨rfl, ⟨nd, rfl⟩⟩; refine ⟨_, rfl, ?_⟩) | ((with_reducible refine gate_callee (f := 25) rfl ?_); refine goesL_ (some 53) rfl rfl Tryz.func25 (by kernel_rfl) rfl #[.int .i64 1] rfl Sqz.auM ?_; (with_reducible refine (laws_endLine.calls kj5 1 t182 _ A29.out).mono ?_); rintro e w35 ⟨rfl, hb⟩; refine ⟨_, rfl, ?_⟩; have n0_ := Aside0.mk (Kd.R_below ((Sqz.mvR HO_4.out)) hb); have n1_ := Aside0.mk (Kd.R_below ((Sqz.mvR HO_6.out)) hb); have n2_ := Aside0.mk (below_step (Sqz.auHB) hb); clear HO_4; clear HO_6; clear HB; have HO_4 := n0_; have HO_6 := n1_; have HB := n2_; clear n0_ n1_ n2_; (try clear hb); (try clear hb2); (try clear hk); (try clear hi)))
                  go_ret
                  exact ⟨Sqz.auR, Sqz.auHB⟩
                · rw [if_neg c30] at H
                  exact absurd H (by simp)
              · rw [if_neg c28] at H
                exact absurd H (by simp)
            · rw [if_neg c24] at H
              exact absurd H (by simp)
          · rw [if_neg c23] at H
            exact absurd H (by simp)

/-- THE ONE PURE STATEMENT of laws_FnExecuteSquares: yours. -/
def laws_FnExecuteSquares.Pure : Prop := ∀ (l0 : List Int), l0.length ≤ maxLen → l0.length * 1 ≤ 140737488351232 → (∀ x ∈ l0, (Lit.int .u8 x).wf = true) → ∃ k, laws_FnExecuteSquares.f k l0 = some true
theorem laws_FnExecuteSquares.walk (P : laws_FnExecuteSquares.Pure) (a0 : Option Addr) (len0 cap0 : Nat) (z0 : List Int) (w : World) (w0 : (a0 = none ∧ len0 = 0 ∧ cap0 = 0 ∧ z0 = []) ∨ ∃ x, a0 = some x ∧ len0 ≤ cap0 ∧ cap0 ≤ maxLen ∧ z0.length = cap0 ∧ (∀ i, i < z0.length → w.cell? (x.add i) = some (.int .u8 (z0.getD i 0))) ∧ ∀ n ∈ z0, (Lit.int .u8 n).wf = true) (y0 : len0 * 1 ≤ 140737488351232) (hG : GW w) :
    Calls Tryz.prog 6 #[.slice a0 len0 cap0] w fun e w' => e = .returned (.bool true) ∧ Below w.heap.size w w' := by
  obtain ⟨l0, rfl, hr0, hm0, hw0, hc0⟩ := ReadsInt.ofRowC w0
  obtain ⟨k, h⟩ := P l0 hm0 y0 hw0
  refine (laws_FnExecuteSquares.calls k _ _ l0 true w hG (Kd.C_of_reads (d := (0 : Int)) (h1 := fun _ => rfl) hr0) hc0 h).mono ?_
  rintro e w' ⟨rfl, hd⟩
  exact ⟨rfl, hd⟩

end Go.Proofs.YtacfcoilmdhgnaaGreatDoor.PFnExecuteSquares
