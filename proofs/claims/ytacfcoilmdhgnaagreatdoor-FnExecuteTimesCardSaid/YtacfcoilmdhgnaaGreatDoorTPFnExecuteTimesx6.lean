/- A function's Lean twin and its walk, written by a program of this session. -/
import Derived.Test.YtacfcoilmdhgnaaGreatDoorTPFnExecuteTimesx0
import Derived.Test.YtacfcoilmdhgnaaGreatDoorTPFnExecuteTimesx2
import Derived.Test.YtacfcoilmdhgnaaGreatDoorTPFnExecuteTimesx3
import Derived.Test.YtacfcoilmdhgnaaGreatDoorTPFnExecuteTimesx4
import Derived.Test.YtacfcoilmdhgnaaGreatDoorTPFnExecuteTimesx5
namespace Go.Proofs.YtacfcoilmdhgnaaGreatDoor.PFnExecuteTimes
open Go.RowKit Go.Proofs.YtacfcoilmdhgnaaGreatDoorW.PrintWords Go.Proofs.YtacfcoilmdhgnaaGreatDoorW.PrintLast Go.Proofs.YtacfcoilmdhgnaaGreatDoorW.PrintMore
attribute [local go_sem] max2_int min2_int max_two min_two max_three min_three max_four min_four   -- for this text's walks alone
set_option linter.unusedVariables false
set_option linter.unusedSimpArgs false

/-! ### spec_l1Core: function 81 -/
mutual
def spec_l1Core.l0 : Nat → Int → Int → Int → Option (Int × Int)
  | 0, _, _, _ => none
  | k + 1, x0, x4, x5 => (spec_l1Size.f x0).bind fun t226 => (if (wrap64 (x5 * x5)) ≤ t226 then (spec_l1Core.l1 k x0 x4 x5) else (some (x0, x4)))
def spec_l1Core.l1 : Nat → Int → Int → Int → Option (Int × Int)
  | 0, _, _, _ => none
  | k + 1, x0, x4, x5 => if (wrap64 (x5 * x5)) = 0 then (none) else (if (Int.tmod x0 (wrap64 (x5 * x5))) = 0 then (spec_l1Core.l1 k (wrap64 (Int.tdiv x0 (wrap64 (x5 * x5)))) (wrap64 (x4 * x5)) x5) else (spec_l1Core.l0 k x0 x4 (wrap64 (x5 + 1))))
end
def spec_l1Core.f (k : Nat) (a0 : Int) : Option (Int × Int) := spec_l1Core.l0 k a0 1 2
set_option maxHeartbeats 8000000 in
set_option maxRecDepth 100000 in
theorem spec_l1Core.calls (k : Nat) (a0 : Int) (r1 : Int) (r2 : Int) (w : World) (h : spec_l1Core.f k a0 = some (r1, r2)) :
    Calls Tryz.prog 81 #[.int .i64 a0] w fun e w' => e = .returned (.tuple #[.int .i64 r1, .int .i64 r2]) ∧ Below w.heap.size w w' := by
  have HB := Aside0.mk (Below.refl w.heap.size w)
  have H : (spec_l1Core.l0 k a0 1 2) = some (r1, r2) := h
  clear h
  have H' := Aside0.mk H
  clear H
  go_enter Tryz.func81, Tryz.ntmps81
  go_wp2
  go_loopg [0, 4, 5] k (fun kq v0 v4 v5 w' => ∃ (x0_1 : Int) (x4_1 : Int) (x5_1 : Int), v0 = .int .i64 x0_1 ∧ v4 = .int .i64 x4_1 ∧ v5 = .int .i64 x5_1 ∧ Aside0 (spec_l1Core.l0 kq x0_1 x4_1 x5_1 = some (r1, r2)) ∧ Aside0 (kq ≤ k) ∧ Aside0 (Below w.heap.size w w'))
  case atStart => exact ⟨(a0), (1), (2), Sqz.auS, Sqz.auS, Sqz.auS, H', ⟨Nat.le_refl _⟩, ⟨Sqz.auHB⟩⟩
  case round =>
    clear H'
    obtain ⟨x0_1, x4_1, x5_1, rfl, rfl, rfl, HA, HK1, HB⟩ := hrel
    cases gk with
    | zero => exact absurd HA.out (by simp [spec_l1Core.l0])
    | succ k1 =>
      have H := HA.out
      clear HA
      simp only [spec_l1Core.l0] at H
      replace H := Option.bind_eq_some_iff.mp H
      obtain ⟨t226, A20, H⟩ := H
      replace H : (if (wrap64 (x5_1 * x5_1)) ≤ t226 then (spec_l1Core.l1 k1 x0_1 x4_1 x5_1) else (some (x0_1, x4_1))) = some (r1, r2) := H
      have A2 := Aside0.mk A20
      clear A20
      by_cases c3 : (wrap64 (x5_1 * x5_1)) ≤ t226
      · rw [if_pos c3] at H
        have c3b0 : decide ((wrap64 (x5_1 * x5_1)) ≤ t226) = true := decide_eq_true c3
        clear c3
        have H' := Aside0.mk H
        clear H
        go_wp2_with (first | ((with_reducible refine gate_callee (f := 134) rfl ?_); refine goesL_ (some 10) rfl rfl Tryz.func134 (by kernel_rfl) rfl #[.int .i64 x0_1] rfl Sqz.auM ?_; (with_reducible refine (spec_l1Size.calls x0_1 t226 _ A2.out).mono ?_); rintro e w4 ⟨rfl, hb⟩; refine ⟨_, rfl, ?_⟩; have n0_ := Aside0.mk (below_step (Sqz.auHB) hb); clear HB; have HB := n0_; clear n0_; (try clear hb); (try clear hb2); (try clear hk); (try clear hi)))
        go_loopg [0, 4] k1 (fun kq v0 v4 w' => ∃ (x0_2 : Int) (x4_2 : Int), v0 = .int .i64 x0_2 ∧ v4 = .int .i64 x4_2 ∧ Aside0 (spec_l1Core.l1 kq x0_2 x4_2 x5_1 = some (r1, r2)) ∧ Aside0 (kq ≤ k1) ∧ Aside0 (Below w.heap.size w w'))
        case atStart => exact ⟨(x0_1), (x4_1), Sqz.auS, Sqz.auS, H', ⟨Nat.le_refl _⟩, ⟨Sqz.auHB⟩⟩
        case round =>
          clear H'
          try clear c1
          try clear p2
          try clear c3
          try clear c3b0
          obtain ⟨x0_2, x4_2, rfl, rfl, HA, HK2, HB⟩ := hrel
          cases gk with
          | zero => exact absurd HA.out (by simp [spec_l1Core.l1])
          | succ k2 =>
            have H := HA.out
            clear HA
            simp only [spec_l1Core.l1] at H
            by_cases c5 : (wrap64 (x5_1 * x5_1)) = 0
            · rw [if_pos c5] at H
              exact absurd H (by simp)
            · rw [if_neg c5] at H
              have c5b0 : ((wrap64 (x5_1 * x5_1)) == 0) = false := beq_eq_false_iff_ne.mpr c5
              have c5b1 : ((wrap64 (x5_1 * x5_1)) != 0) = true := bne_iff_ne.mpr c5
              by_cases c6 : (Int.tmod x0_2 (wrap64 (x5_1 * x5_1))) = 0
              · rw [if_pos c6] at H
                have c6b0 : ((Int.tmod x0_2 (wrap64 (x5_1 * x5_1))) == 0) = true := beq_iff_eq.mpr c6
                have c6b1 : ((Int.tmod x0_2 (wrap64 (x5_1 * x5_1))) != 0) = false := bne_eq_false_iff_eq.mpr c6
                clear c6
                have H' := Aside0.mk H
                clear H
                go_wp2
                go_roundg k2
                case measure => have := HK1.out; have := HK2.out; omega
                case rel => exact ⟨(wrap64 (Int.tdiv x0_2 (wrap64 (x5_1 * x5_1)))), (wrap64 (x4_2 * x5_1)), Sqz.auS, Sqz.auS, H', ⟨by have := HK1.out; have := HK2.out; omega⟩, ⟨Sqz.auHB⟩⟩
              · rw [if_neg c6] at H
                have c6b0 : ((Int.tmod x0_2 (wrap64 (x5_1 * x5_1))) == 0) = false := beq_eq_false_iff_ne.mpr c6
                have c6b1 : ((Int.tmod x0_2 (wrap64 (x5_1 * x5_1))) != 0) = true := bne_iff_ne.mpr c6
                have H' := Aside0.mk H
                clear H
                go_wp2
                go_roundg k2
                case measure => have := HK1.out; have := HK2.out; omega
                case rel => exact ⟨(x0_2), (x4_2), (wrap64 (x5_1 + 1)), Sqz.auS, Sqz.auS, Sqz.auS, H', ⟨by have := HK1.out; have := HK2.out; omega⟩, ⟨Sqz.auHB⟩⟩
      · rw [if_neg c3] at H
        have c3b0 : decide ((wrap64 (x5_1 * x5_1)) ≤ t226) = false := decide_eq_false c3
        clear c3
        simp only [Option.some.injEq, Prod.mk.injEq] at H
        obtain ⟨rfl, rfl⟩ := H
        go_wp2_with (first | ((with_reducible refine gate_callee (f := 134) rfl ?_); refine goesL_ (some 10) rfl rfl Tryz.func134 (by kernel_rfl) rfl #[.int .i64 x0_1] rfl Sqz.auM ?_; (with_reducible refine (spec_l1Size.calls x0_1 t226 _ A2.out).mono ?_); rintro e w7 ⟨rfl, hb⟩; refine ⟨_, rfl, ?_⟩; have n0_ := Aside0.mk (below_step (Sqz.auHB) hb); clear HB; have HB := n0_; clear n0_; (try clear hb); (try clear hb2); (try clear hk); (try clear hi)))
        go_ret2
        exact ⟨Sqz.auR, Sqz.auHB⟩

/-! ### spec_l4Times: function 64 -/
def spec_l4Times.l0 : Nat → List Int → Int → List Int → Int → Option (List Int)
  | 0, _, _, _, _ => none
  | k + 1, x0, x1, x5, x6 => if x6 < (x0.length : Int) then (if 0 ≤ x6 then ((spec_l1Core.f k (wrap64 (x1 * (rd x0 x6)))).bind fun bt231 => (if x5.length < 17592186044416 then (spec_l4Times.l0 k x0 x1 (x5 ++ [bt231.1]) (wrap64 (x6 + 1))) else (none))) else (none)) else (some x5)
def spec_l4Times.f (k : Nat) (l0 : List Int) (a1 : Int) : Option (List Int) := spec_l4Times.l0 k l0 a1 (([] : List Int)) 0
set_option maxHeartbeats 8000000 in
set_option maxRecDepth 100000 in
theorem spec_l4Times.calls (k : Nat) (A0 : Option Addr) (c0 : Nat) (l0 : List Int) (a1 : Int) (r : List Int) (w : World) (hr0 : Kd.C (Kd.int .i64) w A0 l0.length l0) (hc0 : l0.length ≤ c0) (h : spec_l4Times.f k l0 a1 = some r) :
    Calls Tryz.prog 64 #[.slice A0 l0.length c0, .int .i64 a1] w fun e w' => ∃ v0_ : Value, e = .returned (v0_) ∧ Kd.R (Kd.int .i64) 3 w' w.heap.size (fun _ => True) v0_ r ∧ Below w.heap.size w w' := by
  have HR0 := Aside0.mk hr0
  have HC0 := Aside0.mk hc0
  clear hr0 hc0
  have HB := Aside0.mk (Below.refl w.heap.size w)
  have H : (spec_l4Times.l0 k l0 a1 (([] : List Int)) 0) = some r := h
  clear h
  obtain ⟨y227, hy227⟩ : ∃ y_ : List Int, y_ = (([] : List Int)) := ⟨_, rfl⟩
  replace H : (spec_l4Times.l0 k l0 a1 y227 0) = some r := by first | (rw [hy227]; with_reducible exact H) | (have H2_ := (Option.bind_some _ _).symm.trans H; rw [hy227]; with_reducible exact H2_) | (have H2_ := (Option.bind_some _ _).symm.trans H; with_reducible exact H2_) | with_reducible exact H | (rw [hy227]; exact H) | exact H
  have Ny227 := Aside0.mk hy227
  clear hy227
  have H' := Aside0.mk H
  clear H
  go_enter Tryz.func64, Tryz.ntmps64
  go_wp2_with (first | ((with_reducible refine gate_dst (N := 9) rfl ?_); refine Kd.R_lit (Kd.int .i64) _ 3 ?hg (N := 9) ?hd (xs := ([] : List Int)) (inner := []) (ok := fun _ => True) (okp := fun _ => True) ?hr ?hp (fun _ hk => hk) trivial (Below.refl _ _) (Nat.le_refl _) (by simp) ?_; (case hd => rfl); (case hg => rfl); (case hr => first | (go_simp; done) | (go_simp; rfl)); (case hp => exact (Reps.none _ _)); intro v228 w3 ho4 hb hg_ hnew_; clear hg_ hnew_; (first | rw [← Ny227.out] at ho4 | (simp only [Int.reduceToNat] at ho4; rw [← Ny227.out] at ho4)); have n0_ := Aside0.mk (Kd.R_lower ho4 (below_size (Sqz.auHB))); have n1_ := Aside0.mk (below_step (Sqz.auHB) hb); clear HB; have HO229 := n0_; have HB := n1_; clear n0_ n1_; clear hb ho4))
  go_loopg [5, 6] k (fun kq v5 v6 w' => ∃ (x5_1 : List Int) (x6_1 : Int), v6 = .int .i64 x6_1 ∧ Aside0 (spec_l4Times.l0 kq l0 a1 x5_1 x6_1 = some r) ∧ Aside0 (kq ≤ k) ∧ Aside0 (Kd.R (Kd.int .i64) 3 w' w.heap.size (fun _ => True) v5 x5_1) ∧ Aside0 (Below w.heap.size w w'))
  case atStart => exact ⟨(y227), (0), Sqz.auS, H', ⟨Nat.le_refl _⟩, ⟨(Sqz.mvR HO229.out)⟩, ⟨Sqz.auHB⟩⟩
  case round =>
    clear H'
    try clear p2
    obtain ⟨x5_1, x6_1, rfl, HA, HK1, HO_5, HB⟩ := hrel
    cases gk with
    | zero => exact absurd HA.out (by simp [spec_l4Times.l0])
    | succ k1 =>
      have H := HA.out
      clear HA
      simp only [spec_l4Times.l0] at H
      by_cases c5 : x6_1 < (l0.length : Int)
      · rw [if_pos c5] at H
        have c5b0 : decide (x6_1 < (l0.length : Int)) = true := decide_eq_true c5
        clear c5
        by_cases c6 : 0 ≤ x6_1
        · rw [if_pos c6] at H
          have c6b0 : decide (0 ≤ x6_1) = true := decide_eq_true c6
          clear c6
          replace H := Option.bind_eq_some_iff.mp H
          obtain ⟨⟨t231, t232⟩, A70, H⟩ := H
          replace H : (if x5_1.length < 17592186044416 then (spec_l4Times.l0 k1 l0 a1 (x5_1 ++ [t231]) (wrap64 (x6_1 + 1))) else (none)) = some r := H
          have A7 := Aside0.mk A70
          clear A70
          by_cases c8 : x5_1.length < 17592186044416
          · rw [if_pos c8] at H
            have LMc8 := Aside0.mk c8
            clear c8
            obtain ⟨y233, hy233⟩ : ∃ y_ : List Int, y_ = (x5_1 ++ [t231]) := ⟨_, rfl⟩
            replace H : (spec_l4Times.l0 k1 l0 a1 y233 (wrap64 (x6_1 + 1))) = some r := by first | (rw [hy233]; with_reducible exact H) | (have H2_ := (Option.bind_some _ _).symm.trans H; rw [hy233]; with_reducible exact H2_) | (have H2_ := (Option.bind_some _ _).symm.trans H; with_reducible exact H2_) | with_reducible exact H | (rw [hy233]; exact H) | exact H
            have Ny233 := Aside0.mk hy233
            clear hy233
            have H' := Aside0.mk H
            clear H
            have p230 : 0 ≤ (x6_1 : Int) := of_decide_eq_true (by first | (with_reducible assumption) | assumption)
            have q230 : x6_1 < (l0.length : Int) := of_decide_eq_true (by first | (with_reducible assumption) | assumption)
            obtain ⟨ad230, e230, hx230_0⟩ := Kd.at_int HR0.out x6_1 p230 q230
            cases e230
            replace hx230_0 := (HB.out.cell (World.block_lt_of_cell? w _ hx230_0)).trans hx230_0
            replace p230 := eq_true p230
            replace q230 := eq_true q230
            go_wp2_with (first | ((with_reducible refine gate_callee (f := 81) rfl ?_); refine goesL_ (some 23) rfl rfl Tryz.func81 (by kernel_rfl) rfl #[.int .i64 (wrap64 (a1 * (rd l0 x6_1)))] rfl Sqz.auM ?_; (with_reducible refine (spec_l1Core.calls k1 (wrap64 (a1 * (rd l0 x6_1))) t231 t232 _ A7.out).mono ?_); rintro e w9 ⟨rfl, hb⟩; refine ⟨_, rfl, ?_⟩; have n0_ := Aside0.mk (Kd.R_below ((Sqz.mvR HO_5.out)) hb); have n1_ := Aside0.mk (below_step (Sqz.auHB) hb); clear HO_5; clear HB; have HO_5 := n0_; have HB := n1_; clear n0_ n1_; (try clear hb); (try clear hb2); (try clear hk); (try clear hi)) | ((with_reducible refine gate_builtin (b := .append) (xs := #[.tmp 26, .tmp 28]) rfl ?_); at_builtin; refine Kd.R_append (Kd.int .i64) (w0 := w) w.heap.size rfl (.tmp 26) (.tmp 28) 27 3 (.int .i64 0) 8 rfl Tryz.underlying27 info3 rfl (by decide) (by omega) u5 x5_1 t231 [.int .i64 t231] (fun _ => True) (fun _ => False) rfl rfl ?aP (fun _ hk => hk.elim) ?aF ?aO ?aB ?aS ?aL ?_; (case aP => exact rfl); (case aB => exact (Sqz.auHB)); (case aF => exact (fun _ _ => trivial)); (case aO => exact ((Sqz.mvR HO_5.out))); (case aS => exact (below_size (Sqz.auHB))); (case aL => have := LMc8.out; omega); intro v234 w10 ho hb hg hat; rw [← Ny233.out] at ho; have n0_ := Aside0.mk (hb); have n1_ := Aside0.mk (ho); clear HB; clear HO_5; have HB := n0_; have HO235 := n1_; clear n0_ n1_; clear ho hb hg hat))
            go_roundg k1
            case measure => have := HK1.out; omega
            case rel => exact ⟨(y233), (wrap64 (x6_1 + 1)), Sqz.auS, H', ⟨by have := HK1.out; omega⟩, ⟨(Sqz.mvR HO235.out)⟩, ⟨Sqz.auHB⟩⟩
          · rw [if_neg c8] at H
            exact absurd H (by simp)
        · rw [if_neg c6] at H
          exact absurd H (by simp)
      · rw [if_neg c5] at H
        have c5b0 : decide (x6_1 < (l0.length : Int)) = false := decide_eq_false c5
        clear c5
        obtain rfl := Option.some.inj H
        go_wp2
        go_ret
        exact ⟨_, Sqz.auR, (Sqz.mvR HO_5.out), Sqz.auHB⟩

/-! ### spec_FormTimes: function 28 -/
def spec_FormTimes.j0 : Nat → List Int → Int → Bool → Option (List Int × Bool)
  | 0, _, _, _ => none
  | k + 1, x0, x1, x18 => if x18 = true then (some ((([] : List Int)), false)) else ((spec_l4Times.f k x0 x1).bind fun t241 => ((spec_FormValid.f k t241).bind fun t244 => (if t244 = true then (some (t241, true)) else (some ((([] : List Int)), false)))))
def spec_FormTimes.f (k : Nat) (l0 : List Int) (a1 : Int) : Option (List Int × Bool) := (spec_FormValid.f k l0).bind fun t236 => (if t236 = true then ((spec_l1Number.f a1).bind fun t237 => (if t237 = true then (spec_FormTimes.j0 k l0 a1 (a1 == 0)) else (spec_FormTimes.j0 k l0 a1 true))) else (spec_FormTimes.j0 k l0 a1 true))
set_option maxHeartbeats 8000000 in
set_option maxRecDepth 100000 in
theorem spec_FormTimes.calls (k : Nat) (A0 : Option Addr) (c0 : Nat) (l0 : List Int) (a1 : Int) (r1 : List Int) (r2 : Bool) (w : World) (hr0 : Kd.C (Kd.int .i64) w A0 l0.length l0) (hc0 : l0.length ≤ c0) (h : spec_FormTimes.f k l0 a1 = some (r1, r2)) :
    Calls Tryz.prog 28 #[.slice A0 l0.length c0, .int .i64 a1] w fun e w' => ∃ v0_ : Value, e = .returned (.tuple #[v0_, .bool r2]) ∧ Kd.R (Kd.int .i64) 3 w' w.heap.size (fun _ => True) v0_ r1 ∧ Below w.heap.size w w' := by
  have HR0 := Aside0.mk hr0
  have HC0 := Aside0.mk hc0
  clear hr0 hc0
  have HB := Aside0.mk (Below.refl w.heap.size w)
  have H : ((spec_FormValid.f k l0).bind fun t236 => (if t236 = true then ((spec_l1Number.f a1).bind fun t237 => (if t237 = true then (spec_FormTimes.j0 k l0 a1 (a1 == 0)) else (spec_FormTimes.j0 k l0 a1 true))) else (spec_FormTimes.j0 k l0 a1 true))) = some (r1, r2) := h
  clear h
  have HC3 := Aside0.mk H
  clear H
  go_enter Tryz.func28, Tryz.ntmps28
  go_upto_region 1 with (fail)
  go_cut [18] (fun v18 wc => ∃ (kq : Nat) (x18_2 : Bool), v18 = .bool x18_2 ∧ Aside0 (spec_FormTimes.j0 kq l0 a1 x18_2 = some (r1, r2)) ∧ Aside0 (kq ≤ k) ∧ Aside0 (Below w.heap.size w wc))
  case first =>
    have H := HC3.out
    clear HC3
    replace H := Option.bind_eq_some_iff.mp H
    obtain ⟨t236, A40, H⟩ := H
    replace H : (if t236 = true then ((spec_l1Number.f a1).bind fun t237 => (if t237 = true then (spec_FormTimes.j0 k l0 a1 (a1 == 0)) else (spec_FormTimes.j0 k l0 a1 true))) else (spec_FormTimes.j0 k l0 a1 true)) = some (r1, r2) := H
    have A4 := Aside0.mk A40
    clear A40
    by_cases c5 : t236 = true
    · subst c5
      have H1 : ((spec_l1Number.f a1).bind fun t237 => (if t237 = true then (spec_FormTimes.j0 k l0 a1 (a1 == 0)) else (spec_FormTimes.j0 k l0 a1 true))) = some (r1, r2) := by rw [if_pos rfl] at H; exact H
      clear H
      have H := H1
      clear H1
      replace H := Option.bind_eq_some_iff.mp H
      obtain ⟨t237, A60, H⟩ := H
      replace H : (if t237 = true then (spec_FormTimes.j0 k l0 a1 (a1 == 0)) else (spec_FormTimes.j0 k l0 a1 true)) = some (r1, r2) := H
      have A6 := Aside0.mk A60
      clear A60
      by_cases c7 : t237 = true
      · subst c7
        have H1 : (spec_FormTimes.j0 k l0 a1 (a1 == 0)) = some (r1, r2) := by rw [if_pos rfl] at H; exact H
        clear H
        have H := H1
        clear H1
        have H' := Aside0.mk H
        clear H
        go_wp2_with (first | ((with_reducible refine gate_callee (f := 62) rfl ?_); refine goesL_ (some 8) rfl rfl Tryz.func62 (by kernel_rfl) rfl #[.slice A0 l0.length c0] rfl Sqz.auM ?_; (with_reducible refine (spec_FormValid.calls k _ _ l0 true _ ?side1 ?side2 A4.out).mono ?_); (case side1 => exact Sqz.mvC ((Kd.C_below HR0.out HB.out))); (case side2 => exact HC0.out); rintro e w' ⟨rfl, ⟨nd, rfl⟩⟩; refine ⟨_, rfl, ?_⟩) | (go_at_call 63; (with_reducible refine (spec_l1Number.calls a1 true _ A6.out).mono ?_); rintro e w' ⟨rfl, ⟨nd, rfl⟩⟩))
        go_meet
        case rel => exact ⟨_, ((a1 == 0)), Sqz.auS, H', ⟨Sqz.auN⟩, ⟨Sqz.auHB⟩⟩
      · replace c7 := Bool.eq_false_iff.mpr c7
        subst c7
        have H1 : (spec_FormTimes.j0 k l0 a1 true) = some (r1, r2) := by rw [if_neg (show ¬ (false = true) by decide)] at H; exact H
        clear H
        have H := H1
        clear H1
        have H' := Aside0.mk H
        clear H
        go_wp2_with (first | ((with_reducible refine gate_callee (f := 62) rfl ?_); refine goesL_ (some 8) rfl rfl Tryz.func62 (by kernel_rfl) rfl #[.slice A0 l0.length c0] rfl Sqz.auM ?_; (with_reducible refine (spec_FormValid.calls k _ _ l0 true _ ?side1 ?side2 A4.out).mono ?_); (case side1 => exact Sqz.mvC ((Kd.C_below HR0.out HB.out))); (case side2 => exact HC0.out); rintro e w' ⟨rfl, ⟨nd, rfl⟩⟩; refine ⟨_, rfl, ?_⟩) | (go_at_call 63; (with_reducible refine (spec_l1Number.calls a1 false _ A6.out).mono ?_); rintro e w' ⟨rfl, ⟨nd, rfl⟩⟩))
        go_meet
        case rel => exact ⟨_, (true), Sqz.auS, H', ⟨Sqz.auN⟩, ⟨Sqz.auHB⟩⟩
    · replace c5 := Bool.eq_false_iff.mpr c5
      subst c5
      have H1 : (spec_FormTimes.j0 k l0 a1 true) = some (r1, r2) := by rw [if_neg (show ¬ (false = true) by decide)] at H; exact H
      clear H
      have H := H1
      clear H1
      have H' := Aside0.mk H
      clear H
      go_wp2_with (first | ((with_reducible refine gate_callee (f := 62) rfl ?_); refine goesL_ (some 8) rfl rfl Tryz.func62 (by kernel_rfl) rfl #[.slice A0 l0.length c0] rfl Sqz.auM ?_; (with_reducible refine (spec_FormValid.calls k _ _ l0 false _ ?side1 ?side2 A4.out).mono ?_); (case side1 => exact Sqz.mvC ((Kd.C_below HR0.out HB.out))); (case side2 => exact HC0.out); rintro e w' ⟨rfl, ⟨nd, rfl⟩⟩; refine ⟨_, rfl, ?_⟩))
      go_meet
      case rel => exact ⟨_, (true), Sqz.auS, H', ⟨Sqz.auN⟩, ⟨Sqz.auHB⟩⟩
  case rest =>
    clear HC3
    try clear c2
    try clear p2
    try clear c5
    try clear c6
    try clear c7
    obtain ⟨kq, x18_2, rfl, HA, HJ2, HB⟩ := hcut
    cases kq with
    | zero => exact absurd HA.out (by simp [spec_FormTimes.j0])
    | succ kj2 =>
      have H := HA.out
      clear HA
      simp only [spec_FormTimes.j0] at H
      by_cases c8 : x18_2 = true
      · subst c8
        have H1 : (some ((([] : List Int)), false)) = some (r1, r2) := by rw [if_pos rfl] at H; exact H
        clear H
        have H := H1
        clear H1
        obtain ⟨y238, hy238⟩ : ∃ y_ : List Int, y_ = (([] : List Int)) := ⟨_, rfl⟩
        replace H : (some (y238, false)) = some (r1, r2) := by first | (rw [hy238]; with_reducible exact H) | (have H2_ := (Option.bind_some _ _).symm.trans H; rw [hy238]; with_reducible exact H2_) | (have H2_ := (Option.bind_some _ _).symm.trans H; with_reducible exact H2_) | with_reducible exact H | (rw [hy238]; exact H) | exact H
        have Ny238 := Aside0.mk hy238
        clear hy238
        simp only [Option.some.injEq, Prod.mk.injEq] at H
        obtain ⟨rfl, rfl⟩ := H
        go_wp2_with (first | ((with_reducible refine gate_dst (N := 19) rfl ?_); refine Kd.R_lit (Kd.int .i64) _ 3 ?hg (N := 19) ?hd (xs := ([] : List Int)) (inner := []) (ok := fun _ => True) (okp := fun _ => True) ?hr ?hp (fun _ hk => hk) trivial (Below.refl _ _) (Nat.le_refl _) (by simp) ?_; (case hd => rfl); (case hg => rfl); (case hr => first | (go_simp; done) | (go_simp; rfl)); (case hp => exact (Reps.none _ _)); intro v239 w9 ho10 hb hg_ hnew_; clear hg_ hnew_; (first | rw [← Ny238.out] at ho10 | (simp only [Int.reduceToNat] at ho10; rw [← Ny238.out] at ho10)); have n0_ := Aside0.mk (Kd.R_lower ho10 (below_size (Sqz.auHB))); have n1_ := Aside0.mk (below_step (Sqz.auHB) hb); clear HB; have HO240 := n0_; have HB := n1_; clear n0_ n1_; clear hb ho10))
        go_ret2
        exact ⟨_, Sqz.auR, (Sqz.mvR HO240.out), Sqz.auHB⟩
      · replace c8 := Bool.eq_false_iff.mpr c8
        subst c8
        have H1 : ((spec_l4Times.f kj2 l0 a1).bind fun t241 => ((spec_FormValid.f kj2 t241).bind fun t244 => (if t244 = true then (some (t241, true)) else (some ((([] : List Int)), false))))) = some (r1, r2) := by rw [if_neg (show ¬ (false = true) by decide)] at H; exact H
        clear H
        have H := H1
        clear H1
        replace H := Option.bind_eq_some_iff.mp H
        obtain ⟨t241, A110, H⟩ := H
        replace H : ((spec_FormValid.f kj2 t241).bind fun t244 => (if t244 = true then (some (t241, true)) else (some ((([] : List Int)), false)))) = some (r1, r2) := H
        have A11 := Aside0.mk A110
        clear A110
        replace H := Option.bind_eq_some_iff.mp H
        obtain ⟨t244, A120, H⟩ := H
        replace H : (if t244 = true then (some (t241, true)) else (some ((([] : List Int)), false))) = some (r1, r2) := H
        have A12 := Aside0.mk A120
        clear A120
        by_cases c13 : t244 = true
        · subst c13
          have H1 : (some (t241, true)) = some (r1, r2) := by rw [if_pos rfl] at H; exact H
          clear H
          have H := H1
          clear H1
          simp only [Option.some.injEq, Prod.mk.injEq] at H
          obtain ⟨rfl, rfl⟩ := H
          go_wp2_with (first | ((with_reducible refine gate_callee (f := 64) rfl ?_); refine goesL_ (some 22) rfl rfl Tryz.func64 (by kernel_rfl) rfl #[.slice A0 l0.length c0, .int .i64 a1] rfl Sqz.auM ?_; (with_reducible refine (spec_l4Times.calls kj2 _ _ l0 a1 t241 _ ?side1 ?side2 A11.out).mono ?_); (case side1 => exact Sqz.mvC ((Kd.C_below HR0.out HB.out))); (case side2 => exact HC0.out); rintro e w14 ⟨v242, rfl, ho0, hb⟩; refine ⟨_, rfl, ?_⟩; have n0_ := Aside0.mk (Kd.R_lower ho0 (below_size (Sqz.auHB))); have n1_ := Aside0.mk (below_step (Sqz.auHB) hb); clear HB; have HO243 := n0_; have HB := n1_; clear n0_ n1_; (try clear hb); (try clear hb2); (try clear hk); (try clear hi); (try clear ho0); obtain ⟨Ao15, co15, eo15⟩ := Kd.R_slice HO243.out; subst eo15) | ((with_reducible refine gate_callee (f := 62) rfl ?_); refine goesL_ (some 24) rfl rfl Tryz.func62 (by kernel_rfl) rfl #[.slice Ao15 t241.length co15] rfl Sqz.auM ?_; (with_reducible refine (spec_FormValid.calls kj2 _ _ t241 true _ ?side1 ?side2 A12.out).mono ?_); (case side1 => exact Sqz.mvC ((Kd.R_reads' HO243.out).2.2)); (case side2 => exact (Kd.R_reads' HO243.out).2.1); rintro e w' ⟨rfl, ⟨nd, rfl⟩⟩; refine ⟨_, rfl, ?_⟩))
          go_ret2
          exact ⟨_, Sqz.auR, (Sqz.mvR HO243.out), Sqz.auHB⟩
        · replace c13 := Bool.eq_false_iff.mpr c13
          subst c13
          have H1 : (some ((([] : List Int)), false)) = some (r1, r2) := by rw [if_neg (show ¬ (false = true) by decide)] at H; exact H
          clear H
          have H := H1
          clear H1
          obtain ⟨y245, hy245⟩ : ∃ y_ : List Int, y_ = (([] : List Int)) := ⟨_, rfl⟩
          replace H : (some (y245, false)) = some (r1, r2) := by first | (rw [hy245]; with_reducible exact H) | (have H2_ := (Option.bind_some _ _).symm.trans H; rw [hy245]; with_reducible exact H2_) | (have H2_ := (Option.bind_some _ _).symm.trans H; with_reducible exact H2_) | with_reducible exact H | (rw [hy245]; exact H) | exact H
          have Ny245 := Aside0.mk hy245
          clear hy245
          simp only [Option.some.injEq, Prod.mk.injEq] at H
          obtain ⟨rfl, rfl⟩ := H
          go_wp2_with (first | ((with_reducible refine gate_callee (f := 64) rfl ?_); refine goesL_ (some 22) rfl rfl Tryz.func64 (by kernel_rfl) rfl #[.slice A0 l0.length c0, .int .i64 a1] rfl Sqz.auM ?_; (with_reducible refine (spec_l4Times.calls kj2 _ _ l0 a1 t241 _ ?side1 ?side2 A11.out).mono ?_); (case side1 => exact Sqz.mvC ((Kd.C_below HR0.out HB.out))); (case side2 => exact HC0.out); rintro e w16 ⟨v242, rfl, ho0, hb⟩; refine ⟨_, rfl, ?_⟩; have n0_ := Aside0.mk (Kd.R_lower ho0 (below_size (Sqz.auHB))); have n1_ := Aside0.mk (below_step (Sqz.auHB) hb); clear HB; have HO243 := n0_; have HB := n1_; clear n0_ n1_; (try clear hb); (try clear hb2); (try clear hk); (try clear hi); (try clear ho0); obtain ⟨Ao17, co17, eo17⟩ := Kd.R_slice HO243.out; subst eo17) | ((with_reducible refine gate_callee (f := 62) rfl ?_); refine goesL_ (some 24) rfl rfl Tryz.func62 (by kernel_rfl) rfl #[.slice Ao17 t241.length co17] rfl Sqz.auM ?_; (with_reducible refine (spec_FormValid.calls kj2 _ _ t241 false _ ?side1 ?side2 A12.out).mono ?_); (case side1 => exact Sqz.mvC ((Kd.R_reads' HO243.out).2.2)); (case side2 => exact (Kd.R_reads' HO243.out).2.1); rintro e w' ⟨rfl, ⟨nd, rfl⟩⟩; refine ⟨_, rfl, ?_⟩) | ((with_reducible refine gate_dst (N := 26) rfl ?_); refine Kd.R_lit (Kd.int .i64) _ 3 ?hg (N := 26) ?hd (xs := ([] : List Int)) (inner := []) (ok := fun _ => True) (okp := fun _ => True) ?hr ?hp (fun _ hk => hk) trivial (Below.refl _ _) (Nat.le_refl _) (by simp) ?_; (case hd => rfl); (case hg => rfl); (case hr => first | (go_simp; done) | (go_simp; rfl)); (case hp => exact (Reps.none _ _)); intro v246 w18 ho19 hb hg_ hnew_; clear hg_ hnew_; (first | rw [← Ny245.out] at ho19 | (simp only [Int.reduceToNat] at ho19; rw [← Ny245.out] at ho19)); have n0_ := Aside0.mk (Kd.R_elder' ((Sqz.mvR HO243.out)) (Kd.R_base ho19) hb); have n1_ := Aside0.mk (Kd.R_lower (Kd.R_new' ho19 (Kd.R_lt ((Sqz.mvR HO243.out)))) (below_size (Sqz.auHB))); have n2_ := Aside0.mk (below_step (Sqz.auHB) hb); clear HO243; clear HB; have HO243 := n0_; have HO247 := n1_; have HB := n2_; clear n0_ n1_ n2_; clear hb ho19))
          go_ret2
          exact ⟨_, Sqz.auR, (Sqz.mvR (Kd.R_mono HO247.out (fun _ hk => trivial))), Sqz.auHB⟩

/-! ### laws_FnExecuteTimes: function 7 -/
def laws_FnExecuteTimes.j0 : Nat → List Int → Int → List Int → Bool → List Int → Bool → Bool → Option (Bool)
  | 0, _, _, _, _, _, _, _ => none
  | k + 1, x3, x4, x5, x6, x7, x8, x41 => if x41 = true then (if (x6 == x8) = true then ((laws_sameInts.f k x5 x7).bind fun t261 => (some t261)) else (some false)) else ((laws_spaced.f k x3).bind fun t262 => (if 4 + t262.size ≤ 9223372036854775807 then (if ((⟨#[102, 111, 114, 109]⟩ : ByteArray) ++ t262).size + 7 ≤ 9223372036854775807 then ((laws_digits.f k x4).bind fun t263 => (if (((⟨#[102, 111, 114, 109]⟩ : ByteArray) ++ t262) ++ (⟨#[10, 116, 105, 109, 101, 115, 32]⟩ : ByteArray)).size + t263.size ≤ 9223372036854775807 then (if ((((⟨#[102, 111, 114, 109]⟩ : ByteArray) ++ t262) ++ (⟨#[10, 116, 105, 109, 101, 115, 32]⟩ : ByteArray)) ++ t263).size + 11 ≤ 9223372036854775807 then ((impl_Execute.f k (((((⟨#[102, 111, 114, 109]⟩ : ByteArray) ++ t262) ++ (⟨#[10, 116, 105, 109, 101, 115, 32]⟩ : ByteArray)) ++ t263) ++ (⟨#[10, 115, 104, 111, 119, 10, 100, 105, 115, 99, 10]⟩ : ByteArray))).bind fun t264 => ((laws_spaced.f k x5).bind fun t265 => ((laws_tail.f t265).bind fun t266 => (if 6 + t266.size ≤ 9223372036854775807 then (if ((⟨#[111, 107, 10, 111, 107, 10]⟩ : ByteArray) ++ t266).size + 1 ≤ 9223372036854775807 then ((impl_FormDisc.f k x5).bind fun t267 => ((laws_digits.f k t267).bind fun t268 => (if (((⟨#[111, 107, 10, 111, 107, 10]⟩ : ByteArray) ++ t266) ++ (⟨#[10]⟩ : ByteArray)).size + t268.size ≤ 9223372036854775807 then (if ((((⟨#[111, 107, 10, 111, 107, 10]⟩ : ByteArray) ++ t266) ++ (⟨#[10]⟩ : ByteArray)) ++ t268).size + 1 ≤ 9223372036854775807 then ((laws_endLine.f k (x5.length : Int)).bind fun t269 => (if (((((⟨#[111, 107, 10, 111, 107, 10]⟩ : ByteArray) ++ t266) ++ (⟨#[10]⟩ : ByteArray)) ++ t268) ++ (⟨#[10]⟩ : ByteArray)).size + t269.size ≤ 9223372036854775807 then (some (t264.toList == ((((((⟨#[111, 107, 10, 111, 107, 10]⟩ : ByteArray) ++ t266) ++ (⟨#[10]⟩ : ByteArray)) ++ t268) ++ (⟨#[10]⟩ : ByteArray)) ++ t269).toList)) else (none))) else (none)) else (none)))) else (none)) else (none))))) else (none)) else (none))) else (none)) else (none)))
def laws_FnExecuteTimes.f (k : Nat) (l0 : List Int) : Option (Bool) := if (l0.length : Int) > 1048576 then (some true) else ((spec_DrawFormTimes.f k l0).bind fun bt248 => ((impl_FormTimes.f k bt248.1 bt248.2).bind fun bt252 => ((spec_FormTimes.f k bt248.1 bt248.2).bind fun bt256 => (if (bt252.2 != bt256.2) = true then (laws_FnExecuteTimes.j0 k bt248.1 bt248.2 bt252.1 bt252.2 bt256.1 bt256.2 true) else ((laws_sameInts.f k bt252.1 bt256.1).bind fun t260 => (if t260 = true then (laws_FnExecuteTimes.j0 k bt248.1 bt248.2 bt252.1 bt252.2 bt256.1 bt256.2 (!bt252.2)) else (laws_FnExecuteTimes.j0 k bt248.1 bt248.2 bt252.1 bt252.2 bt256.1 bt256.2 true)))))))
set_option maxHeartbeats 8000000 in
set_option maxRecDepth 100000 in
theorem laws_FnExecuteTimes.calls (k : Nat) (A0 : Option Addr) (c0 : Nat) (l0 : List Int) (r : Bool) (w : World) (hG : GW w) (hr0 : Kd.C (Kd.int .u8) w A0 l0.length l0) (hc0 : l0.length ≤ c0) (h : laws_FnExecuteTimes.f k l0 = some r) :
    Calls Tryz.prog 7 #[.slice A0 l0.length c0] w fun e w' => e = .returned (.bool r) ∧ Below w.heap.size w w' := by
  have HG := Aside0.mk hG
  clear hG
  have HR0 := Aside0.mk hr0
  have HC0 := Aside0.mk hc0
  clear hr0 hc0
  have HB := Aside0.mk (Below.refl w.heap.size w)
  have H : (if (l0.length : Int) > 1048576 then (some true) else ((spec_DrawFormTimes.f k l0).bind fun bt248 => ((impl_FormTimes.f k bt248.1 bt248.2).bind fun bt252 => ((spec_FormTimes.f k bt248.1 bt248.2).bind fun bt256 => (if (bt252.2 != bt256.2) = true then (laws_FnExecuteTimes.j0 k bt248.1 bt248.2 bt252.1 bt252.2 bt256.1 bt256.2 true) else ((laws_sameInts.f k bt252.1 bt256.1).bind fun t260 => (if t260 = true then (laws_FnExecuteTimes.j0 k bt248.1 bt248.2 bt252.1 bt252.2 bt256.1 bt256.2 (!bt252.2)) else (laws_FnExecuteTimes.j0 k bt248.1 bt248.2 bt252.1 bt252.2 bt256.1 bt256.2 true)))))))) = some r := h
  clear h
  by_cases c2 : (l0.length : Int) > 1048576
  · rw [if_pos c2] at H
    have c2b0 : decide (1048576 < (l0.length : Int)) = true := decide_eq_true c2
    have c2b1 : decide (1048576 < l0.length) = true := decide_eq_true (by omega)
    clear c2
    obtain rfl := Option.some.inj H
    go_enter Tryz.func7, Tryz.ntmps7
    go_wp2
    go_ret
    exact ⟨Sqz.auR, Sqz.auHB⟩
  · rw [if_neg c2] at H
    have c2b0 : decide (1048576 < (l0.length : Int)) = false := decide_eq_false c2
    have c2b1 : decide (1048576 < l0.length) = false := decide_eq_false (by omega)
    clear c2
    replace H := Option.bind_eq_some_iff.mp H
    obtain ⟨⟨t248, t249⟩, A30, H⟩ := H
    replace H : ((impl_FormTimes.f k t248 t249).bind fun bt252 => ((spec_FormTimes.f k t248 t249).bind fun bt256 => (if (bt252.2 != bt256.2) = true then (laws_FnExecuteTimes.j0 k t248 t249 bt252.1 bt252.2 bt256.1 bt256.2 true) else ((laws_sameInts.f k bt252.1 bt256.1).bind fun t260 => (if t260 = true then (laws_FnExecuteTimes.j0 k t248 t249 bt252.1 bt252.2 bt256.1 bt256.2 (!bt252.2)) else (laws_FnExecuteTimes.j0 k t248 t249 bt252.1 bt252.2 bt256.1 bt256.2 true)))))) = some r := H
    have A3 := Aside0.mk A30
    clear A30
    replace H := Option.bind_eq_some_iff.mp H
    obtain ⟨⟨t252, t253⟩, A40, H⟩ := H
    replace H : ((spec_FormTimes.f k t248 t249).bind fun bt256 => (if (t253 != bt256.2) = true then (laws_FnExecuteTimes.j0 k t248 t249 t252 t253 bt256.1 bt256.2 true) else ((laws_sameInts.f k t252 bt256.1).bind fun t260 => (if t260 = true then (laws_FnExecuteTimes.j0 k t248 t249 t252 t253 bt256.1 bt256.2 (!t253)) else (laws_FnExecuteTimes.j0 k t248 t249 t252 t253 bt256.1 bt256.2 true))))) = some r := H
    have A4 := Aside0.mk A40
    clear A40
    replace H := Option.bind_eq_some_iff.mp H
    obtain ⟨⟨t256, t257⟩, A50, H⟩ := H
    replace H : (if (t253 != t257) = true then (laws_FnExecuteTimes.j0 k t248 t249 t252 t253 t256 t257 true) else ((laws_sameInts.f k t252 t256).bind fun t260 => (if t260 = true then (laws_FnExecuteTimes.j0 k t248 t249 t252 t253 t256 t257 (!t253)) else (laws_FnExecuteTimes.j0 k t248 t249 t252 t253 t256 t257 true)))) = some r := H
    have A5 := Aside0.mk A50
    clear A50
    have HC6 := Aside0.mk H
    clear H
    go_enter Tryz.func7, Tryz.ntmps7
    go_upto_region 6 with (first | ((with_reducible refine gate_callee (f := 26) rfl ?_); refine goesL_ (some 14) rfl rfl Tryz.func26 (by kernel_rfl) rfl #[.slice A0 l0.length c0] rfl Sqz.auM ?_; (with_reducible refine (spec_DrawFormTimes.calls k _ _ l0 t248 t249 _ ?side1 ?side2 A3.out).mono ?_); (case side1 => exact Sqz.mvC (HR0.out)); (case side2 => exact HC0.out); rintro e w7 ⟨v250, rfl, ho0, hb⟩; refine ⟨_, rfl, ?_⟩; have n0_ := Aside0.mk (Kd.R_lower ho0 (below_size (Sqz.auHB))); have n1_ := Aside0.mk (below_step (Sqz.auHB) hb); clear HB; have HO251 := n0_; have HB := n1_; clear n0_ n1_; (try clear hb); (try clear hb2); (try clear hk); (try clear hi); (try clear ho0); obtain ⟨Ao8, co8, eo8⟩ := Kd.R_slice HO251.out; subst eo8) | ((with_reducible refine gate_callee (f := 27) rfl ?_); refine goesL_ (some 20) rfl rfl Tryz.func27 (by kernel_rfl) rfl #[.slice Ao8 t248.length co8, .int .i64 t249] rfl Sqz.auM ?_; (with_reducible refine (impl_FormTimes.calls k _ _ t248 t249 t252 t253 _ ?side1 ?side2 A4.out).mono ?_); (case side1 => exact Sqz.mvC ((Kd.R_reads' HO251.out).2.2)); (case side2 => exact (Kd.R_reads' HO251.out).2.1); rintro e w9 ⟨v254, rfl, ho0, hb⟩; refine ⟨_, rfl, ?_⟩; have n0_ := Aside0.mk (Kd.R_elder' ((Sqz.mvR HO251.out)) (Kd.R_base ho0) hb); have n1_ := Aside0.mk (Kd.R_lower (Kd.R_new' ho0 (Kd.R_lt ((Sqz.mvR HO251.out)))) (below_size (Sqz.auHB))); have n2_ := Aside0.mk (below_step (Sqz.auHB) hb); clear HO251; clear HB; have HO251 := n0_; have HO255 := n1_; have HB := n2_; clear n0_ n1_ n2_; (try clear hb); (try clear hb2); (try clear hk); (try clear hi); (try clear ho0)) | ((with_reducible refine gate_callee (f := 28) rfl ?_); refine goesL_ (some 26) rfl rfl Tryz.func28 (by kernel_rfl) rfl #[.slice Ao8 t248.length co8, .int .i64 t249] rfl Sqz.auM ?_; (with_reducible refine (spec_FormTimes.calls k _ _ t248 t249 t256 t257 _ ?side1 ?side2 A5.out).mono ?_); (case side1 => exact Sqz.mvC ((Kd.R_reads' HO251.out).2.2)); (case side2 => exact (Kd.R_reads' HO251.out).2.1); rintro e w10 ⟨v258, rfl, ho0, hb⟩; refine ⟨_, rfl, ?_⟩; have n0_ := Aside0.mk (Kd.R_elder' ((Sqz.mvR HO251.out)) (Kd.R_base ho0) hb); have n1_ := Aside0.mk (Kd.R_elder' ((Sqz.mvR HO255.out)) (Kd.R_base ho0) hb); have n2_ := Aside0.mk (Kd.R_lower (Kd.R_new' (Kd.R_new' ho0 (Kd.R_lt ((Sqz.mvR HO251.out)))) (Kd.R_lt ((Sqz.mvR HO255.out)))) (below_size (Sqz.auHB))); have n3_ := Aside0.mk (below_step (Sqz.auHB) hb); clear HO251; clear HO255; clear HB; have HO251 := n0_; have HO255 := n1_; have HO259 := n2_; have HB := n3_; clear n0_ n1_ n2_ n3_; (try clear hb); (try clear hb2); (try clear hk); (try clear hi); (try clear ho0)))
    (try simp only [Act.put, List.setIfInBounds_toArray, List.set_cons_zero, List.set_cons_succ])
    go_cut [41] (fun v41 wc => ∃ (kq : Nat) (x41_5 : Bool), v41 = .bool x41_5 ∧ Aside0 (laws_FnExecuteTimes.j0 kq t248 t249 t252 t253 t256 t257 x41_5 = some r) ∧ Aside0 (kq ≤ k) ∧ Aside0 (Kd.R (Kd.int .i64) 3 wc w.heap.size (fun k_ => some k_ ≠ (v254 : Value).ownBlock ∧ some k_ ≠ (v258 : Value).ownBlock) (.slice Ao8 t248.length co8) t248) ∧ Aside0 (Kd.R (Kd.int .i64) 3 wc w.heap.size (fun k_ => some k_ ≠ ((.slice Ao8 t248.length co8) : Value).ownBlock ∧ some k_ ≠ (v258 : Value).ownBlock) v254 t252) ∧ Aside0 (Kd.R (Kd.int .i64) 3 wc w.heap.size (fun k_ => some k_ ≠ ((.slice Ao8 t248.length co8) : Value).ownBlock ∧ some k_ ≠ (v254 : Value).ownBlock) v258 t256) ∧ Aside0 (Below w.heap.size w wc))
    case first =>
      have H := HC6.out
      clear HC6
      by_cases c11 : (t253 != t257) = true
      · rw [if_pos c11] at H
        have c11b0 : (t253 != t257) = true := c11
        (try (have c11b1 : decide (t253 = t257) = false := by simpa using c11))
        (try (have c11b2 : (t253 == t257) = false := by simpa using c11))
        (try (have c11b3 : ¬ (t253 = t257) := by simpa using c11))
        clear c11
        (first | rw [c11b0] | (simp only [i64_w, i32_w]; rw [c11b0]) | skip)
        have H' := Aside0.mk H
        clear H
        go_wp2
        go_meet
        case rel => exact ⟨_, (true), Sqz.auS, H', ⟨Sqz.auN⟩, ⟨(Sqz.mvR (Kd.R_mono HO251.out (fun _ hk => ⟨hk.1.2, hk.2⟩)))⟩, ⟨(Sqz.mvR (Kd.R_mono HO255.out (fun _ hk => ⟨hk.1.2, hk.2⟩)))⟩, ⟨(Sqz.mvR (Kd.R_mono HO259.out (fun _ hk => ⟨hk.1.2, hk.2⟩)))⟩, ⟨Sqz.auHB⟩⟩
      · rw [if_neg c11] at H
        have c11b0 : (t253 != t257) = false := by simpa using c11
        (try (have c11b1 : decide (t253 = t257) = true := by simpa using c11))
        (try (have c11b2 : (t253 == t257) = true := by simpa using c11))
        clear c11
        (first | rw [c11b0] | (simp only [i64_w, i32_w]; rw [c11b0]) | skip)
        replace H := Option.bind_eq_some_iff.mp H
        obtain ⟨t260, A120, H⟩ := H
        replace H : (if t260 = true then (laws_FnExecuteTimes.j0 k t248 t249 t252 t253 t256 t257 (!t253)) else (laws_FnExecuteTimes.j0 k t248 t249 t252 t253 t256 t257 true)) = some r := H
        have A12 := Aside0.mk A120
        clear A120
        by_cases c13 : t260 = true
        · subst c13
          have H1 : (laws_FnExecuteTimes.j0 k t248 t249 t252 t253 t256 t257 (!t253)) = some r := by rw [if_pos rfl] at H; exact H
          clear H
          have H := H1
          clear H1
          have H' := Aside0.mk H
          clear H
          obtain ⟨Ao14, co14, eo14⟩ := Kd.R_slice HO255.out
          subst eo14
          obtain ⟨Ao15, co15, eo15⟩ := Kd.R_slice HO259.out
          subst eo15
          go_wp2_with (first | (go_at_call 21; (with_reducible refine (laws_sameInts.calls k _ _ t252 _ _ t256 true _ ?side1 ?side2 ?side3 ?side4 A12.out).mono ?_); (case side1 => exact Sqz.mvC ((Kd.R_reads' HO255.out).2.2)); (case side2 => exact (Kd.R_reads' HO255.out).2.1); (case side3 => exact Sqz.mvC ((Kd.R_reads' HO259.out).2.2)); (case side4 => exact (Kd.R_reads' HO259.out).2.1); rintro e w' ⟨rfl, ⟨nd, rfl⟩⟩))
          go_meet
          case rel => exact ⟨_, (!t253), Sqz.auS, H', ⟨Sqz.auN⟩, ⟨(Sqz.mvR (Kd.R_mono HO251.out (fun _ hk => ⟨hk.1.2, hk.2⟩)))⟩, ⟨(Sqz.mvR (Kd.R_mono HO255.out (fun _ hk => ⟨hk.1.2, hk.2⟩)))⟩, ⟨(Sqz.mvR (Kd.R_mono HO259.out (fun _ hk => ⟨hk.1.2, hk.2⟩)))⟩, ⟨Sqz.auHB⟩⟩
        · replace c13 := Bool.eq_false_iff.mpr c13
          subst c13
          have H1 : (laws_FnExecuteTimes.j0 k t248 t249 t252 t253 t256 t257 true) = some r := by rw [if_neg (show ¬ (false = true) by decide)] at H; exact H
          clear H
          have H := H1
          clear H1
          have H' := Aside0.mk H
          clear H
          obtain ⟨Ao16, co16, eo16⟩ := Kd.R_slice HO255.out
          subst eo16
          obtain ⟨Ao17, co17, eo17⟩ := Kd.R_slice HO259.out
          subst eo17
          go_wp2_with (first | (go_at_call 21; (with_reducible refine (laws_sameInts.calls k _ _ t252 _ _ t256 false _ ?side1 ?side2 ?side3 ?side4 A12.out).mono ?_); (case side1 => exact Sqz.mvC ((Kd.R_reads' HO255.out).2.2)); (case side2 => exact (Kd.R_reads' HO255.out).2.1); (case side3 => exact Sqz.mvC ((Kd.R_reads' HO259.out).2.2)); (case side4 => exact (Kd.R_reads' HO259.out).2.1); rintro e w' ⟨rfl, ⟨nd, rfl⟩⟩))
          go_meet
          case rel => exact ⟨_, (true), Sqz.auS, H', ⟨Sqz.auN⟩, ⟨(Sqz.mvR (Kd.R_mono HO251.out (fun _ hk => ⟨hk.1.2, hk.2⟩)))⟩, ⟨(Sqz.mvR (Kd.R_mono HO255.out (fun _ hk => ⟨hk.1.2, hk.2⟩)))⟩, ⟨(Sqz.mvR (Kd.R_mono HO259.out (fun _ hk => ⟨hk.1.2, hk.2⟩)))⟩, ⟨Sqz.auHB⟩⟩
    case rest =>
      clear HC6
      try clear c1
      try clear c2
      try clear c2b0
      try clear c2b1
      try clear p2
      try clear c7
      try clear c11
      try clear c11b0
      try clear c11b1
      try clear c11b2
      try clear c13
      obtain ⟨kq, x41_5, rfl, HA, HJ5, HO_3, HO_5, HO_7, HB⟩ := hcut
      cases kq with
      | zero => exact absurd HA.out (by simp [laws_FnExecuteTimes.j0])
      | succ kj5 =>
        have H := HA.out
        clear HA
        simp only [laws_FnExecuteTimes.j0] at H
        by_cases c18 : x41_5 = true
        · subst c18
          have H1 : (if (t253 == t257) = true then ((laws_sameInts.f kj5 t252 t256).bind fun t261 => (some t261)) else (some false)) = some r := by rw [if_pos rfl] at H; exact H
          clear H
          have H := H1
          clear H1
          by_cases c19 : (t253 == t257) = true
          · rw [if_pos c19] at H
            have c19b0 : (t253 == t257) = true := c19
            (try (have c19b1 : decide (t253 = t257) = true := by simpa using c19))
            (try (have c19b2 : (t253 == t257) = true := by simpa using c19))
            clear c19
            replace H := Option.bind_eq_some_iff.mp H
            obtain ⟨t261, A200, H⟩ := H
            replace H : (some t261) = some r := H
            have A20 := Aside0.mk A200
            clear A200
            obtain rfl := Option.some.inj H
            obtain ⟨Ao21, co21, eo21⟩ := Kd.R_slice HO_5.out
            subst eo21
            obtain ⟨Ao22, co22, eo22⟩ := Kd.R_slice HO_7.out
            subst eo22
            go_wp2_with (first | (go_at_call 21; (with_reducible refine (laws_sameInts.calls kj5 _ _ t252 _ _ t256 t261 _ ?side1 ?side2 ?side3 ?side4 A20.out).mono ?_); (case side1 => exact Sqz.mvC ((Kd.R_reads' HO_5.out).2.2)); (case side2 => exact (Kd.R_reads' HO_5.out).2.1); (case side3 => exact Sqz.mvC ((Kd.R_reads' HO_7.out).2.2)); (case side4 => exact (Kd.R_reads' HO_7.out).2.1); rintro e w' ⟨rfl, ⟨nd, rfl⟩⟩))
            go_ret
            exact ⟨Sqz.auR, Sqz.auHB⟩
          · rw [if_neg c19] at H
            have c19b0 : (t253 == t257) = false := by simpa using c19
            (try (have c19b1 : decide (t253 = t257) = false := by simpa using c19))
            (try (have c19b2 : (t253 == t257) = false := by simpa using c19))
            (try (have c19b3 : ¬ (t253 = t257) := by simpa using c19))
            clear c19
            obtain rfl := Option.some.inj H
            go_wp2
            go_ret
            exact ⟨Sqz.auR, Sqz.auHB⟩
        · replace c18 := Bool.eq_false_iff.mpr c18
          subst c18
          have H1 : ((laws_spaced.f kj5 t248).bind fun t262 => (if 4 + t262.size ≤ 9223372036854775807 then (if ((⟨#[102, 111, 114, 109]⟩ : ByteArray) ++ t262).size + 7 ≤ 9223372036854775807 then ((laws_digits.f kj5 t249).bind fun t263 => (if (((⟨#[102, 111, 114, 109]⟩ : ByteArray) ++ t262) ++ (⟨#[10, 116, 105, 109, 101, 115, 32]⟩ : ByteArray)).size + t263.size ≤ 9223372036854775807 then (if ((((⟨#[102, 111, 114, 109]⟩ : ByteArray) ++ t262) ++ (⟨#[10, 116, 105, 109, 101, 115, 32]⟩ : ByteArray)) ++ t263).size + 11 ≤ 9223372036854775807 then ((impl_Execute.f kj5 (((((⟨#[102, 111, 114, 109]⟩ : ByteArray) ++ t262) ++ (⟨#[10, 116, 105, 109, 101, 115, 32]⟩ : ByteArray)) ++ t263) ++ (⟨#[10, 115, 104, 111, 119, 10, 100, 105, 115, 99, 10]⟩ : ByteArray))).bind fun t264 => ((laws_spaced.f kj5 t252).bind fun t265 => ((laws_tail.f t265).bind fun t266 => (if 6 + t266.size ≤ 9223372036854775807 then (if ((⟨#[111, 107, 10, 111, 107, 10]⟩ : ByteArray) ++ t266).size + 1 ≤ 9223372036854775807 then ((impl_FormDisc.f kj5 t252).bind fun t267 => ((laws_digits.f kj5 t267).bind fun t268 => (if (((⟨#[111, 107, 10, 111, 107, 10]⟩ : ByteArray) ++ t266) ++ (⟨#[10]⟩ : ByteArray)).size + t268.size ≤ 9223372036854775807 then (if ((((⟨#[111, 107, 10, 111, 107, 10]⟩ : ByteArray) ++ t266) ++ (⟨#[10]⟩ : ByteArray)) ++ t268).size + 1 ≤ 9223372036854775807 then ((laws_endLine.f kj5 (t252.length : Int)).bind fun t269 => (if (((((⟨#[111, 107, 10, 111, 107, 10]⟩ : ByteArray) ++ t266) ++ (⟨#[10]⟩ : ByteArray)) ++ t268) ++ (⟨#[10]⟩ : ByteArray)).size + t269.size ≤ 9223372036854775807 then (some (t264.toList == ((((((⟨#[111, 107, 10, 111, 107, 10]⟩ : ByteArray) ++ t266) ++ (⟨#[10]⟩ : ByteArray)) ++ t268) ++ (⟨#[10]⟩ : ByteArray)) ++ t269).toList)) else (none))) else (none)) else (none)))) else (none)) else (none))))) else (none)) else (none))) else (none)) else (none))) = some r := by rw [if_neg (show ¬ (false = true) by decide)] at H; exact H
          clear H
          have H := H1
          clear H1
          replace H := Option.bind_eq_some_iff.mp H
          obtain ⟨t262, A230, H⟩ := H
          replace H : (if 4 + t262.size ≤ 9223372036854775807 then (if ((⟨#[102, 111, 114, 109]⟩ : ByteArray) ++ t262).size + 7 ≤ 9223372036854775807 then ((laws_digits.f kj5 t249).bind fun t263 => (if (((⟨#[102, 111, 114, 109]⟩ : ByteArray) ++ t262) ++ (⟨#[10, 116, 105, 109, 101, 115, 32]⟩ : ByteArray)).size + t263.size ≤ 9223372036854775807 then (if ((((⟨#[102, 111, 114, 109]⟩ : ByteArray) ++ t262) ++ (⟨#[10, 116, 105, 109, 101, 115, 32]⟩ : ByteArray)) ++ t263).size + 11 ≤ 9223372036854775807 then ((impl_Execute.f kj5 (((((⟨#[102, 111, 114, 109]⟩ : ByteArray) ++ t262) ++ (⟨#[10, 116, 105, 109, 101, 115, 32]⟩ : ByteArray)) ++ t263) ++ (⟨#[10, 115, 104, 111, 119, 10, 100, 105, 115, 99, 10]⟩ : ByteArray))).bind fun t264 => ((laws_spaced.f kj5 t252).bind fun t265 => ((laws_tail.f t265).bind fun t266 => (if 6 + t266.size ≤ 9223372036854775807 then (if ((⟨#[111, 107, 10, 111, 107, 10]⟩ : ByteArray) ++ t266).size + 1 ≤ 9223372036854775807 then ((impl_FormDisc.f kj5 t252).bind fun t267 => ((laws_digits.f kj5 t267).bind fun t268 => (if (((⟨#[111, 107, 10, 111, 107, 10]⟩ : ByteArray) ++ t266) ++ (⟨#[10]⟩ : ByteArray)).size + t268.size ≤ 9223372036854775807 then (if ((((⟨#[111, 107, 10, 111, 107, 10]⟩ : ByteArray) ++ t266) ++ (⟨#[10]⟩ : ByteArray)) ++ t268).size + 1 ≤ 9223372036854775807 then ((laws_endLine.f kj5 (t252.length : Int)).bind fun t269 => (if (((((⟨#[111, 107, 10, 111, 107, 10]⟩ : ByteArray) ++ t266) ++ (⟨#[10]⟩ : ByteArray)) ++ t268) ++ (⟨#[10]⟩ : ByteArray)).size + t269.size ≤ 9223372036854775807 then (some (t264.toList == ((((((⟨#[111, 107, 10, 111, 107, 10]⟩ : ByteArray) ++ t266) ++ (⟨#[10]⟩ : ByteArray)) ++ t268) ++ (⟨#[10]⟩ : ByteArray)) ++ t269).toList)) else (none))) else (none)) else (none)))) else (none)) else (none))))) else (none)) else (none))) else (none)) else (none)) = some r := H
          have A23 := Aside0.mk A230
          clear A230
          by_cases c24 : 4 + t262.size ≤ 9223372036854775807
          · rw [if_pos c24] at H
            have c24b0 := eq_true c24
            have c24b1 : decide (4 + t262.size ≤ 9223372036854775807) = true := decide_eq_true c24
            try have c24b2 : (9223372036854775807 < 4 + t262.size) = False := eq_false (Nat.not_lt.2 c24)
            by_cases c25 : ((⟨#[102, 111, 114, 109]⟩ : ByteArray) ++ t262).size + 7 ≤ 9223372036854775807
            · rw [if_pos c25] at H
              have c25b0 := eq_true c25
              have c25b1 : decide (((⟨#[102, 111, 114, 109]⟩ : ByteArray) ++ t262).size + 7 ≤ 9223372036854775807) = true := decide_eq_true c25
              try have c25b2 : (9223372036854775807 < ((⟨#[102, 111, 114, 109]⟩ : ByteArray) ++ t262).size + 7) = False := eq_false (Nat.not_lt.2 c25)
              have c25b3 := c25
              have c25b4 := eq_false (Nat.not_lt.2 c25)
              simp only [ByteArray.size_append, show (⟨#[102, 111, 114, 109]⟩ : ByteArray).size = 4 from rfl] at c25b4
              replace H := Option.bind_eq_some_iff.mp H
              obtain ⟨t263, A260, H⟩ := H
              replace H : (if (((⟨#[102, 111, 114, 109]⟩ : ByteArray) ++ t262) ++ (⟨#[10, 116, 105, 109, 101, 115, 32]⟩ : ByteArray)).size + t263.size ≤ 9223372036854775807 then (if ((((⟨#[102, 111, 114, 109]⟩ : ByteArray) ++ t262) ++ (⟨#[10, 116, 105, 109, 101, 115, 32]⟩ : ByteArray)) ++ t263).size + 11 ≤ 9223372036854775807 then ((impl_Execute.f kj5 (((((⟨#[102, 111, 114, 109]⟩ : ByteArray) ++ t262) ++ (⟨#[10, 116, 105, 109, 101, 115, 32]⟩ : ByteArray)) ++ t263) ++ (⟨#[10, 115, 104, 111, 119, 10, 100, 105, 115, 99, 10]⟩ : ByteArray))).bind fun t264 => ((laws_spaced.f kj5 t252).bind fun t265 => ((laws_tail.f t265).bind fun t266 => (if 6 + t266.size ≤ 9223372036854775807 then (if ((⟨#[111, 107, 10, 111, 107, 10]⟩ : ByteArray) ++ t266).size + 1 ≤ 9223372036854775807 then ((impl_FormDisc.f kj5 t252).bind fun t267 => ((laws_digits.f kj5 t267).bind fun t268 => (if (((⟨#[111, 107, 10, 111, 107, 10]⟩ : ByteArray) ++ t266) ++ (⟨#[10]⟩ : ByteArray)).size + t268.size ≤ 9223372036854775807 then (if ((((⟨#[111, 107, 10, 111, 107, 10]⟩ : ByteArray) ++ t266) ++ (⟨#[10]⟩ : ByteArray)) ++ t268).size + 1 ≤ 9223372036854775807 then ((laws_endLine.f kj5 (t252.length : Int)).bind fun t269 => (if (((((⟨#[111, 107, 10, 111, 107, 10]⟩ : ByteArray) ++ t266) ++ (⟨#[10]⟩ : ByteArray)) ++ t268) ++ (⟨#[10]⟩ : ByteArray)).size + t269.size ≤ 9223372036854775807 then (some (t264.toList == ((((((⟨#[111, 107, 10, 111, 107, 10]⟩ : ByteArray) ++ t266) ++ (⟨#[10]⟩ : ByteArray)) ++ t268) ++ (⟨#[10]⟩ : ByteArray)) ++ t269).toList)) else (none))) else (none)) else (none)))) else (none)) else (none))))) else (none)) else (none)) = some r := H
              have A26 := Aside0.mk A260
              clear A260
              by_cases c27 : (((⟨#[102, 111, 114, 109]⟩ : ByteArray) ++ t262) ++ (⟨#[10, 116, 105, 109, 101, 115, 32]⟩ : ByteArray)).size + t263.size ≤ 9223372036854775807
              · rw [if_pos c27] at H
                have c27b0 := eq_true c27
                have c27b1 : decide ((((⟨#[102, 111, 114, 109]⟩ : ByteArray) ++ t262) ++ (⟨#[10, 116, 105, 109, 101, 115, 32]⟩ : ByteArray)).size + t263.size ≤ 9223372036854775807) = true := decide_eq_true c27
                try have c27b2 : (9223372036854775807 < (((⟨#[102, 111, 114, 109]⟩ : ByteArray) ++ t262) ++ (⟨#[10, 116, 105, 109, 101, 115, 32]⟩ : ByteArray)).size + t263.size) = False := eq_false (Nat.not_lt.2 c27)
                have c27b3 := c27
                have c27b4 := eq_false (Nat.not_lt.2 c27)
                simp only [ByteArray.size_append, show (⟨#[10, 116, 105, 109, 101, 115, 32]⟩ : ByteArray).size = 7 from rfl, show (⟨#[102, 111, 114, 109]⟩ : ByteArray).size = 4 from rfl] at c27b4
                by_cases c28 : ((((⟨#[102, 111, 114, 109]⟩ : ByteArray) ++ t262) ++ (⟨#[10, 116, 105, 109, 101, 115, 32]⟩ : ByteArray)) ++ t263).size + 11 ≤ 9223372036854775807
                · rw [if_pos c28] at H
                  have c28b0 := eq_true c28
                  have c28b1 : decide (((((⟨#[102, 111, 114, 109]⟩ : ByteArray) ++ t262) ++ (⟨#[10, 116, 105, 109, 101, 115, 32]⟩ : ByteArray)) ++ t263).size + 11 ≤ 9223372036854775807) = true := decide_eq_true c28
                  try have c28b2 : (9223372036854775807 < ((((⟨#[102, 111, 114, 109]⟩ : ByteArray) ++ t262) ++ (⟨#[10, 116, 105, 109, 101, 115, 32]⟩ : ByteArray)) ++ t263).size + 11) = False := eq_false (Nat.not_lt.2 c28)
                  have c28b3 := c28
                  have c28b4 := eq_false (Nat.not_lt.2 c28)
                  simp only [ByteArray.size_append, show (⟨#[10, 116, 105, 109, 101, 115, 32]⟩ : ByteArray).size = 7 from rfl, show (⟨#[102, 111, 114, 109]⟩ : ByteArray).size = 4 from rfl] at c28b4
                  replace H := Option.bind_eq_some_iff.mp H
                  obtain ⟨t264, A290, H⟩ := H
                  replace H : ((laws_spaced.f kj5 t252).bind fun t265 => ((laws_tail.f t265).bind fun t266 => (if 6 + t266.size ≤ 9223372036854775807 then (if ((⟨#[111, 107, 10, 111, 107, 10]⟩ : ByteArray) ++ t266).size + 1 ≤ 9223372036854775807 then ((impl_FormDisc.f kj5 t252).bind fun t267 => ((laws_digits.f kj5 t267).bind fun t268 => (if (((⟨#[111, 107, 10, 111, 107, 10]⟩ : ByteArray) ++ t266) ++ (⟨#[10]⟩ : ByteArray)).size + t268.size ≤ 9223372036854775807 then (if ((((⟨#[111, 107, 10, 111, 107, 10]⟩ : ByteArray) ++ t266) ++ (⟨#[10]⟩ : ByteArray)) ++ t268).size + 1 ≤ 9223372036854775807 then ((laws_endLine.f kj5 (t252.length : Int)).bind fun t269 => (if (((((⟨#[111, 107, 10, 111, 107, 10]⟩ : ByteArray) ++ t266) ++ (⟨#[10]⟩ : ByteArray)) ++ t268) ++ (⟨#[10]⟩ : ByteArray)).size + t269.size ≤ 9223372036854775807 then (some (t264.toList == ((((((⟨#[111, 107, 10, 111, 107, 10]⟩ : ByteArray) ++ t266) ++ (⟨#[10]⟩ : ByteArray)) ++ t268) ++ (⟨#[10]⟩ : ByteArray)) ++ t269).toList)) else (none))) else (none)) else (none)))) else (none)) else (none)))) = some r := H
                  have A29 := Aside0.mk A290
                  clear A290
                  replace H := Option.bind_eq_some_iff.mp H
                  obtain ⟨t265, A300, H⟩ := H
                  replace H : ((laws_tail.f t265).bind fun t266 => (if 6 + t266.size ≤ 9223372036854775807 then (if ((⟨#[111, 107, 10, 111, 107, 10]⟩ : ByteArray) ++ t266).size + 1 ≤ 9223372036854775807 then ((impl_FormDisc.f kj5 t252).bind fun t267 => ((laws_digits.f kj5 t267).bind fun t268 => (if (((⟨#[111, 107, 10, 111, 107, 10]⟩ : ByteArray) ++ t266) ++ (⟨#[10]⟩ : ByteArray)).size + t268.size ≤ 9223372036854775807 then (if ((((⟨#[111, 107, 10, 111, 107, 10]⟩ : ByteArray) ++ t266) ++ (⟨#[10]⟩ : ByteArray)) ++ t268).size + 1 ≤ 9223372036854775807 then ((laws_endLine.f kj5 (t252.length : Int)).bind fun t269 => (if (((((⟨#[111, 107, 10, 111, 107, 10]⟩ : ByteArray) ++ t266) ++ (⟨#[10]⟩ : ByteArray)) ++ t268) ++ (⟨#[10]⟩ : ByteArray)).size + t269.size ≤ 9223372036854775807 then (some (t264.toList == ((((((⟨#[111, 107, 10, 111, 107, 10]⟩ : ByteArray) ++ t266) ++ (⟨#[10]⟩ : ByteArray)) ++ t268) ++ (⟨#[10]⟩ : ByteArray)) ++ t269).toList)) else (none))) else (none)) else (none)))) else (none)) else (none))) = some r := H
                  have A30 := Aside0.mk A300
                  clear A300
                  replace H := Option.bind_eq_some_iff.mp H
                  obtain ⟨t266, A310, H⟩ := H
                  replace H : (if 6 + t266.size ≤ 9223372036854775807 then (if ((⟨#[111, 107, 10, 111, 107, 10]⟩ : ByteArray) ++ t266).size + 1 ≤ 9223372036854775807 then ((impl_FormDisc.f kj5 t252).bind fun t267 => ((laws_digits.f kj5 t267).bind fun t268 => (if (((⟨#[111, 107, 10, 111, 107, 10]⟩ : ByteArray) ++ t266) ++ (⟨#[10]⟩ : ByteArray)).size + t268.size ≤ 9223372036854775807 then (if ((((⟨#[111, 107, 10, 111, 107, 10]⟩ : ByteArray) ++ t266) ++ (⟨#[10]⟩ : ByteArray)) ++ t268).size + 1 ≤ 9223372036854775807 then ((laws_endLine.f kj5 (t252.length : Int)).bind fun t269 => (if (((((⟨#[111, 107, 10, 111, 107, 10]⟩ : ByteArray) ++ t266) ++ (⟨#[10]⟩ : ByteArray)) ++ t268) ++ (⟨#[10]⟩ : ByteArray)).size + t269.size ≤ 9223372036854775807 then (some (t264.toList == ((((((⟨#[111, 107, 10, 111, 107, 10]⟩ : ByteArray) ++ t266) ++ (⟨#[10]⟩ : ByteArray)) ++ t268) ++ (⟨#[10]⟩ : ByteArray)) ++ t269).toList)) else (none))) else (none)) else (none)))) else (none)) else (none)) = some r := H
                  have A31 := Aside0.mk A310
                  clear A310
                  by_cases c32 : 6 + t266.size ≤ 9223372036854775807
                  · rw [if_pos c32] at H
                    have c32b0 := eq_true c32
                    have c32b1 : decide (6 + t266.size ≤ 9223372036854775807) = true := decide_eq_true c32
                    try have c32b2 : (9223372036854775807 < 6 + t266.size) = False := eq_false (Nat.not_lt.2 c32)
                    by_cases c33 : ((⟨#[111, 107, 10, 111, 107, 10]⟩ : ByteArray) ++ t266).size + 1 ≤ 9223372036854775807
                    · rw [if_pos c33] at H
                      have c33b0 := eq_true c33
                      have c33b1 : decide (((⟨#[111, 107, 10, 111, 107, 10]⟩ : ByteArray) ++ t266).size + 1 ≤ 9223372036854775807) = true := decide_eq_true c33
                      try have c33b2 : (9223372036854775807 < ((⟨#[111, 107, 10, 111, 107, 10]⟩ : ByteArray) ++ t266).size + 1) = False := eq_false (Nat.not_lt.2 c33)
                      have c33b3 := c33
                      have c33b4 := eq_false (Nat.not_lt.2 c33)
                      simp only [ByteArray.size_append, show (⟨#[111, 107, 10, 111, 107, 10]⟩ : ByteArray).size = 6 from rfl] at c33b4
                      replace H := Option.bind_eq_some_iff.mp H
                      obtain ⟨t267, A340, H⟩ := H
                      replace H : ((laws_digits.f kj5 t267).bind fun t268 => (if (((⟨#[111, 107, 10, 111, 107, 10]⟩ : ByteArray) ++ t266) ++ (⟨#[10]⟩ : ByteArray)).size + t268.size ≤ 9223372036854775807 then (if ((((⟨#[111, 107, 10, 111, 107, 10]⟩ : ByteArray) ++ t266) ++ (⟨#[10]⟩ : ByteArray)) ++ t268).size + 1 ≤ 9223372036854775807 then ((laws_endLine.f kj5 (t252.length : Int)).bind fun t269 => (if (((((⟨#[111, 107, 10, 111, 107, 10]⟩ : ByteArray) ++ t266) ++ (⟨#[10]⟩ : ByteArray)) ++ t268) ++ (⟨#[10]⟩ : ByteArray)).size + t269.size ≤ 9223372036854775807 then (some (t264.toList == ((((((⟨#[111, 107, 10, 111, 107, 10]⟩ : ByteArray) ++ t266) ++ (⟨#[10]⟩ : ByteArray)) ++ t268) ++ (⟨#[10]⟩ : ByteArray)) ++ t269).toList)) else (none))) else (none)) else (none))) = some r := H
                      have A34 := Aside0.mk A340
                      clear A340
                      replace H := Option.bind_eq_some_iff.mp H
                      obtain ⟨t268, A350, H⟩ := H
                      replace H : (if (((⟨#[111, 107, 10, 111, 107, 10]⟩ : ByteArray) ++ t266) ++ (⟨#[10]⟩ : ByteArray)).size + t268.size ≤ 9223372036854775807 then (if ((((⟨#[111, 107, 10, 111, 107, 10]⟩ : ByteArray) ++ t266) ++ (⟨#[10]⟩ : ByteArray)) ++ t268).size + 1 ≤ 9223372036854775807 then ((laws_endLine.f kj5 (t252.length : Int)).bind fun t269 => (if (((((⟨#[111, 107, 10, 111, 107, 10]⟩ : ByteArray) ++ t266) ++ (⟨#[10]⟩ : ByteArray)) ++ t268) ++ (⟨#[10]⟩ : ByteArray)).size + t269.size ≤ 9223372036854775807 then (some (t264.toList == ((((((⟨#[111, 107, 10, 111, 107, 10]⟩ : ByteArray) ++ t266) ++ (⟨#[10]⟩ : ByteArray)) ++ t268) ++ (⟨#[10]⟩ : ByteArray)) ++ t269).toList)) else (none))) else (none)) else (none)) = some r := H
                      have A35 := Aside0.mk A350
                      clear A350
                      by_cases c36 : (((⟨#[111, 107, 10, 111, 107, 10]⟩ : ByteArray) ++ t266) ++ (⟨#[10]⟩ : ByteArray)).size + t268.size ≤ 9223372036854775807
                      · rw [if_pos c36] at H
                        have c36b0 := eq_true c36
                        have c36b1 : decide ((((⟨#[111, 107, 10, 111, 107, 10]⟩ : ByteArray) ++ t266) ++ (⟨#[10]⟩ : ByteArray)).size + t268.size ≤ 9223372036854775807) = true := decide_eq_true c36
                        try have c36b2 : (9223372036854775807 < (((⟨#[111, 107, 10, 111, 107, 10]⟩ : ByteArray) ++ t266) ++ (⟨#[10]⟩ : ByteArray)).size + t268.size) = False := eq_false (Nat.not_lt.2 c36)
                        have c36b3 := c36
                        have c36b4 := eq_false (Nat.not_lt.2 c36)
                        simp only [ByteArray.size_append, show (⟨#[10]⟩ : ByteArray).size = 1 from rfl, show (⟨#[111, 107, 10, 111, 107, 10]⟩ : ByteArray).size = 6 from rfl] at c36b4
                        by_cases c37 : ((((⟨#[111, 107, 10, 111, 107, 10]⟩ : ByteArray) ++ t266) ++ (⟨#[10]⟩ : ByteArray)) ++ t268).size + 1 ≤ 9223372036854775807
                        · rw [if_pos c37] at H
                          have c37b0 := eq_true c37
                          have c37b1 : decide (((((⟨#[111, 107, 10, 111, 107, 10]⟩ : ByteArray) ++ t266) ++ (⟨#[10]⟩ : ByteArray)) ++ t268).size + 1 ≤ 9223372036854775807) = true := decide_eq_true c37
                          try have c37b2 : (9223372036854775807 < ((((⟨#[111, 107, 10, 111, 107, 10]⟩ : ByteArray) ++ t266) ++ (⟨#[10]⟩ : ByteArray)) ++ t268).size + 1) = False := eq_false (Nat.not_lt.2 c37)
                          have c37b3 := c37
                          have c37b4 := eq_false (Nat.not_lt.2 c37)
                          simp only [ByteArray.size_append, show (⟨#[10]⟩ : ByteArray).size = 1 from rfl, show (⟨#[111, 107, 10, 111, 107, 10]⟩ : ByteArray).size = 6 from rfl] at c37b4
                          replace H := Option.bind_eq_some_iff.mp H
                          obtain ⟨t269, A380, H⟩ := H
                          replace H : (if (((((⟨#[111, 107, 10, 111, 107, 10]⟩ : ByteArray) ++ t266) ++ (⟨#[10]⟩ : ByteArray)) ++ t268) ++ (⟨#[10]⟩ : ByteArray)).size + t269.size ≤ 9223372036854775807 then (some (t264.toList == ((((((⟨#[111, 107, 10, 111, 107, 10]⟩ : ByteArray) ++ t266) ++ (⟨#[10]⟩ : ByteArray)) ++ t268) ++ (⟨#[10]⟩ : ByteArray)) ++ t269).toList)) else (none)) = some r := H
                          have A38 := Aside0.mk A380
                          clear A380
                          by_cases c39 : (((((⟨#[111, 107, 10, 111, 107, 10]⟩ : ByteArray) ++ t266) ++ (⟨#[10]⟩ : ByteArray)) ++ t268) ++ (⟨#[10]⟩ : ByteArray)).size + t269.size ≤ 9223372036854775807
                          · rw [if_pos c39] at H
                            have c39b0 := eq_true c39
                            have c39b1 : decide ((((((⟨#[111, 107, 10, 111, 107, 10]⟩ : ByteArray) ++ t266) ++ (⟨#[10]⟩ : ByteArray)) ++ t268) ++ (⟨#[10]⟩ : ByteArray)).size + t269.size ≤ 9223372036854775807) = true := decide_eq_true c39
                            try have c39b2 : (9223372036854775807 < (((((⟨#[111, 107, 10, 111, 107, 10]⟩ : ByteArray) ++ t266) ++ (⟨#[10]⟩ : ByteArray)) ++ t268) ++ (⟨#[10]⟩ : ByteArray)).size + t269.size) = False := eq_false (Nat.not_lt.2 c39)
                            have c39b3 := c39
                            have c39b4 := eq_false (Nat.not_lt.2 c39)
                            simp only [ByteArray.size_append, show (⟨#[10]⟩ : ByteArray).size = 1 from rfl, show (⟨#[111, 107, 10, 111, 107, 10]⟩ : ByteArray).size = 6 from rfl] at c39b4
                            obtain rfl := Option.some.inj H
                            go_wp2_with (first | ((with_reducible refine gate_callee (f := 24) rfl ?_); refine goesL_ (some 51) rfl rfl Tryz.func24 (by kernel_rfl) rfl #[.slice Ao8 t248.length co8] rfl Sqz.auM ?_; (with_reducible refine (laws_spaced.calls kj5 _ _ t248 t262 _ ?side1 ?side2 A23.out).mono ?_); (case side1 => exact Sqz.mvC ((Kd.R_reads' HO_3.out).2.2)); (case side2 => exact (Kd.R_reads' HO_3.out).2.1); rintro e w40 ⟨rfl, hb⟩; refine ⟨_, rfl, ?_⟩; have n0_ := Aside0.mk (Kd.R_below ((Sqz.mvR HO_3.out)) hb); have n1_ := Aside0.mk (Kd.R_below ((Sqz.mvR HO_5.out)) hb); have n2_ := Aside0.mk (Kd.R_below ((Sqz.mvR HO_7.out)) hb); have n3_ := Aside0.mk (below_step (Sqz.auHB) hb); clear HO_3; clear HO_5; clear HO_7; clear HB; have HO_3 := n0_; have HO_5 := n1_; have HO_7 := n2_; have HB := n3_; clear n0_ n1_ n2_ n3_; (try clear hb); (try clear hb2); (try clear hk); (try clear hi)) | ((with_reducible refine gate_callee (f := 22) rfl ?_); refine goesL_ (some 55) rfl rfl Tryz.func22 (by kernel_rfl) rfl #[.int .i64 t249] rfl Sqz.auM ?_; (with_reducible refine (laws_digits.calls kj5 t249 t263 _ A26.out).mono ?_); rintro e w41 ⟨rfl, hb⟩; refine ⟨_, rfl, ?_⟩; have n0_ := Aside0.mk (Kd.R_below ((Sqz.mvR HO_3.out)) hb); have n1_ := Aside0.mk (Kd.R_below ((Sqz.mvR HO_5.out)) hb); have n2_ := Aside0.mk (Kd.R_below ((Sqz.mvR HO_7.out)) hb); have n3_ := Aside0.mk (below_step (Sqz.auHB) hb); clear HO_3; clear HO_5; clear HO_7; clear HB; have HO_3 := n0_; have HO_5 := n1_; have HO_7 := n2_; have HB := n3_; clear n0_ n1_ n2_ n3_; (try clear hb); (try clear hb2); (try clear hk); (try clear hi)) | ((with_reducible refine gate_callee (f := 14) rfl ?_); refine goesL_ (some 58) rfl rfl Tryz.func14 (by kernel_rfl) rfl #[.string (((((⟨#[102, 111, 114, 109]⟩ : ByteArray) ++ t262) ++ (⟨#[10, 116, 105, 109, 101, 115, 32]⟩ : ByteArray)) ++ t263) ++ (⟨#[10, 115, 104, 111, 119, 10, 100, 105, 115, 99, 10]⟩ : ByteArray))] rfl Sqz.auM ?_; (with_reducible refine (impl_Execute.calls kj5 (((((⟨#[102, 111, 114, 109]⟩ : ByteArray) ++ t262) ++ (⟨#[10, 116, 105, 109, 101, 115, 32]⟩ : ByteArray)) ++ t263) ++ (⟨#[10, 115, 104, 111, 119, 10, 100, 105, 115, 99, 10]⟩ : ByteArray)) t264 _ ?sideG A29.out).mono ?_); (case sideG => exact GW.below HG.out (by repeat (first | (with_reducible first | exact HB.out | apply below_alloc | apply pw_below_drewN | apply below_drew1) | exact HB.out))); rintro e w42 ⟨rfl, hb⟩; refine ⟨_, rfl, ?_⟩; have n0_ := Aside0.mk (Kd.R_below ((Sqz.mvR HO_3.out)) hb); have n1_ := Aside0.mk (Kd.R_below ((Sqz.mvR HO_5.out)) hb); have n2_ := Aside0.mk (Kd.R_below ((Sqz.mvR HO_7.out)) hb); have n3_ := Aside0.mk (below_step (Sqz.auHB) hb); clear HO_3; clear HO_5; clear HO_7; clear HB; have HO_3 := n0_; have HO_5 := n1_; have HO_7 := n2_; have HB := n3_; clear n0_ n1_ n2_ n3_; (try clear hb); (try clear hb2); (try clear hk); (try clear hi); obtain ⟨Ao43, co43, eo43⟩ := Kd.R_slice HO_5.out; subst eo43) | ((with_reducible refine gate_callee (f := 24) rfl ?_); refine goesL_ (some 60) rfl rfl Tryz.func24 (by kernel_rfl) rfl #[.slice Ao43 t252.length co43] rfl Sqz.auM ?_; (with_reducible refine (laws_spaced.calls kj5 _ _ t252 t265 _ ?side1 ?side2 A30.out).mono ?_); (case side1 => exact Sqz.mvC ((Kd.R_reads' HO_5.out).2.2)); (case side2 => exact (Kd.R_reads' HO_5.out).2.1); rintro e w44 ⟨rfl, hb⟩; refine ⟨_, rfl, ?_⟩; have n0_ := Aside0.mk (Kd.R_below ((Sqz.mvR HO_3.out)) hb); have n1_ := Aside0.mk (Kd.R_below ((Sqz.mvR HO_5.out)) hb); have n2_ := Aside0.mk (Kd.R_below ((Sqz.mvR HO_7.out)) hb); have n3_ := Aside0.mk (below_step (Sqz.auHB) hb); clear HO_3; clear HO_5; clear HO_7; clear HB; have HO_3 := n0_; have HO_5 := n1_; have HO_7 := n2_; have HB := n3_; clear n0_ n1_ n2_ n3_; (try clear hb); (try clear hb2); (try clear hk); (try clear hi)) | ((with_reducible refine gate_callee (f := 23) rfl ?_); refine goesL_ (some 61) rfl rfl Tryz.func23 (by kernel_rfl) rfl #[.string t265] rfl Sqz.auM ?_; (with_reducible refine (laws_tail.calls t265 t266 _ A31.out).mono ?_); rintro e w' ⟨rfl, ⟨nd, rfl⟩⟩; refine ⟨_, rfl, ?_⟩) | ((with_reducible refine gate_callee (f := 29) rfl ?_); refine goesL_ (some 65) rfl rfl Tryz.func29 (by kernel_rfl) rfl #[.slice Ao43 t252.length co43] rfl Sqz.auM ?_; (with_reducible refine (impl_FormDisc.calls kj5 _ _ t252 t267 _ ?side1 ?side2 A34.out).mono ?_); (case side1 => exact Sqz.mvC ((Kd.R_reads' HO_5.out).2.2)); (case side2 => exact (Kd.R_reads' HO_5.out).2.1); rintro e w45 ⟨rfl, hb⟩; refine ⟨_, rfl, ?_⟩; have n0_ := Aside0.mk (Kd.R_below ((Sqz.mvR HO_3.out)) hb); have n1_ := Aside0.mk (Kd.R_below ((Sqz.mvR HO_5.out)) hb); have n2_ := Aside0.mk (Kd.R_below ((Sqz.mvR HO_7.out)) hb); have n3_ := Aside0.mk (below_step (Sqz.auHB) hb); clear HO_3; clear HO_5; clear HO_7; clear HB; have HO_3 := n0_; have HO_5 := n1_; have HO_7 := n2_; have HB := n3_; clear n0_ n1_ n2_ n3_; (try clear hb); (try clear hb2); (try clear hk); (try clear hi)) | ((with_reducible refine gate_callee (f := 22) rfl ?_); refine goesL_ (some 66) rfl rfl Tryz.func22 (by kernel_rfl) rfl #[.int .i64 t267] rfl Sqz.auM ?_; (with_reducible refine (laws_digits.calls kj5 t267 t268 _ A35.out).mono ?_); rintro e w46 ⟨rfl, hb⟩; refine ⟨_, rfl, ?_⟩; have n0_ := Aside0.mk (Kd.R_below ((Sqz.mvR HO_3.out)) hb); have n1_ := Aside0.mk (Kd.R_below ((Sqz.mvR HO_5.out)) hb); have n2_ := Aside0.mk (Kd.R_below ((Sqz.mvR HO_7.out)) hb); have n3_ := Aside0.mk (below_step (Sqz.auHB) hb); clear HO_3; clear HO_5; clear HO_7; clear HB; have HO_3 := n0_; have HO_5 := n1_; have HO_7 := n2_; have HB := n3_; clear n0_ n1_ n2_ n3_; (try clear hb); (try clear hb2); (try clear hk); (try clear hi)) | ((with_reducible refine gate_callee (f := 25) rfl ?_); refine goesL_ (some 71) rfl rfl Tryz.func25 (by kernel_rfl) rfl #[.int .i64 (t252.length : Int)] rfl Sqz.auM ?_; (with_reducible refine (laws_endLine.calls kj5 (t252.length : Int) t269 _ A38.out).mono ?_); rintro e w47 ⟨rfl, hb⟩; refine ⟨_, rfl, ?_⟩; have n0_ := Aside0.mk (Kd.R_below ((Sqz.mvR HO_3.out)) hb); have n1_ := Aside0.mk (Kd.R_below ((Sqz.mvR HO_5.out)) hb); have n2_ := Aside0.mk (Kd.R_below ((Sqz.mvR HO_7.out)) hb); have n3_ := Aside0.mk (below_step (Sqz.auHB) hb); clear HO_3; clear HO_5; clear HO_7; clear HB; have HO_3 := n0_; have HO_5 := n1_; have HO_7 := n2_; have HB := n3_; clear n0_ n1_ n2_ n3_; (try clear hb); (try clear hb2); (try clear hk); (try clear hi)))
                            go_ret
                            exact ⟨Sqz.auR, Sqz.auHB⟩
                          · rw [if_neg c39] at H
                            exact absurd H (by simp)
                        · rw [if_neg c37] at H
                          exact absurd H (by simp)
                      · rw [if_neg c36] at H
                        exact absurd H (by simp)
                    · rw [if_neg c33] at H
                      exact absurd H (by simp)
                  · rw [if_neg c32] at H
                    exact absurd H (by simp)
                · rw [if_neg c28] at H
                  exact absurd H (by simp)
              · rw [if_neg c27] at H
                exact absurd H (by simp)
            · rw [if_neg c25] at H
              exact absurd H (by simp)
          · rw [if_neg c24] at H
            exact absurd H (by simp)

/-- THE ONE PURE STATEMENT of laws_FnExecuteTimes: yours. -/
def laws_FnExecuteTimes.Pure : Prop := ∀ (l0 : List Int), l0.length ≤ maxLen → l0.length * 1 ≤ 140737488351232 → (∀ x ∈ l0, (Lit.int .u8 x).wf = true) → ∃ k, laws_FnExecuteTimes.f k l0 = some true
theorem laws_FnExecuteTimes.walk (P : laws_FnExecuteTimes.Pure) (a0 : Option Addr) (len0 cap0 : Nat) (z0 : List Int) (w : World) (w0 : (a0 = none ∧ len0 = 0 ∧ cap0 = 0 ∧ z0 = []) ∨ ∃ x, a0 = some x ∧ len0 ≤ cap0 ∧ cap0 ≤ maxLen ∧ z0.length = cap0 ∧ (∀ i, i < z0.length → w.cell? (x.add i) = some (.int .u8 (z0.getD i 0))) ∧ ∀ n ∈ z0, (Lit.int .u8 n).wf = true) (y0 : len0 * 1 ≤ 140737488351232) (hG : GW w) :
    Calls Tryz.prog 7 #[.slice a0 len0 cap0] w fun e w' => e = .returned (.bool true) ∧ Below w.heap.size w w' := by
  obtain ⟨l0, rfl, hr0, hm0, hw0, hc0⟩ := ReadsInt.ofRowC w0
  obtain ⟨k, h⟩ := P l0 hm0 y0 hw0
  refine (laws_FnExecuteTimes.calls k _ _ l0 true w hG (Kd.C_of_reads (d := (0 : Int)) (h1 := fun _ => rfl) hr0) hc0 h).mono ?_
  rintro e w' ⟨rfl, hd⟩
  exact ⟨rfl, hd⟩

end Go.Proofs.YtacfcoilmdhgnaaGreatDoor.PFnExecuteTimes
