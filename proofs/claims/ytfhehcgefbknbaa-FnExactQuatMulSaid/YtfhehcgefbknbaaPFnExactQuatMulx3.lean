/- A function's Lean twin and its walk, written by a program of this session. -/
import Derived.Test.YtfhehcgefbknbaaPFnExactQuatMulx0
namespace Go.Proofs.Ytfhehcgefbknbaa.PFnExactQuatMul
open Go.RowKit Go.Proofs.YtfhehcgefbknbaaW.PrintWords Go.Proofs.YtfhehcgefbknbaaW.PrintLast Go.Proofs.YtfhehcgefbknbaaW.PrintMore
attribute [local go_sem] max2_int min2_int max_two min_two max_three min_three max_four min_four   -- for this text's walks alone
set_option linter.unusedVariables false
set_option linter.unusedSimpArgs false

/-! ### laws_toIntS: function 20 -/
def laws_toIntS.l0 : Nat → List Int → List Int → Int → Option (List Int)
  | 0, _, _, _ => none
  | k + 1, x0, x3, x4 => if x4 < (x0.length : Int) then (if 0 ≤ x4 then (if x4 < (x3.length : Int) then (laws_toIntS.l0 k x0 (x3.set (x4 : Int).toNat (rd x0 x4)) (wrap64 (x4 + 1))) else (none)) else (none)) else (some x3)
def laws_toIntS.f (k : Nat) (l0 : List Int) : Option (List Int) := if 0 ≤ (l0.length : Int) then (if ((l0.length : Int) : Int).toNat ≤ 35184372088832 then (laws_toIntS.l0 k l0 (List.replicate ((l0.length : Int) : Int).toNat 0) 0) else (none)) else (none)
set_option maxHeartbeats 8000000 in
set_option maxRecDepth 100000 in
theorem laws_toIntS.calls (k : Nat) (A0 : Option Addr) (c0 : Nat) (l0 : List Int) (r : List Int) (w : World) (hr0 : Kd.C (Kd.int .i64) w A0 l0.length l0) (hc0 : l0.length ≤ c0) (h : laws_toIntS.f k l0 = some r) :
    Calls Try.prog 20 #[.slice A0 l0.length c0] w fun e w' => ∃ v0_ : Value, e = .returned (v0_) ∧ Kd.R (Kd.int .i64) 3 w' w.heap.size (fun _ => True) v0_ r ∧ Below w.heap.size w w' := by
  have HR0 := Aside0.mk hr0
  have HC0 := Aside0.mk hc0
  clear hr0 hc0
  have HB := Aside0.mk (Below.refl w.heap.size w)
  have H : (if 0 ≤ (l0.length : Int) then (if ((l0.length : Int) : Int).toNat ≤ 35184372088832 then (laws_toIntS.l0 k l0 (List.replicate ((l0.length : Int) : Int).toNat 0) 0) else (none)) else (none)) = some r := h
  clear h
  by_cases c2 : 0 ≤ (l0.length : Int)
  · rw [if_pos c2] at H
    have c2b0 := eq_true c2
    have c2b1 : decide (0 ≤ (l0.length : Int)) = true := decide_eq_true c2
    clear c2
    by_cases c3 : ((l0.length : Int) : Int).toNat ≤ 35184372088832
    · rw [if_pos c3] at H
      have c3b0 := eq_true c3
      have c3b1 : decide (((l0.length : Int) : Int).toNat ≤ 35184372088832) = true := decide_eq_true c3
      clear c3
      obtain ⟨y103, hy103⟩ : ∃ y_ : List Int, y_ = (List.replicate ((l0.length : Int) : Int).toNat 0) := ⟨_, rfl⟩
      replace H : (laws_toIntS.l0 k l0 y103 0) = some r := by first | (rw [hy103]; with_reducible exact H) | (have H2_ := (Option.bind_some _ _).symm.trans H; rw [hy103]; with_reducible exact H2_) | (have H2_ := (Option.bind_some _ _).symm.trans H; with_reducible exact H2_) | with_reducible exact H | (rw [hy103]; exact H) | exact H
      have Ny103 := Aside0.mk hy103
      clear hy103
      have H' := Aside0.mk H
      clear H
      go_enter Try.func20, Try.ntmps20
      go_wp2_with (first | ((with_reducible refine gate_dst (N := 7) rfl ?_); refine Kd.R_make (Kd.int .i64) _ 3 rfl (N := 7) rfl 26 _ _ rfl (l0.length : Int) rfl rfl Try.underlying26 (.int .i64 0) 8 info3 rfl (by decide) (by omega) 0 (ok := fun _ => True) (okp := fun _ => True) rfl (fun _ hk => hk) trivial (of_decide_eq_true (by first | (with_reducible assumption) | assumption)) (Nat.le_trans (Nat.mul_le_mul_right _ (of_decide_eq_true (by first | (with_reducible assumption) | assumption) : (l0.length : Int).toNat ≤ 35184372088832)) (by omega)) (Below.refl _ _) (Nat.le_refl _) ?_; intro v104 w4 ho5 hb hg_ hnew_; clear hg_ hnew_; (first | rw [← Ny103.out] at ho5 | (simp only [Int.reduceToNat] at ho5; rw [← Ny103.out] at ho5)); have n0_ := Aside0.mk (Kd.R_lower ho5 (below_size (by repeat (first | (with_reducible first | exact HB.out | apply below_alloc | apply pw_below_drewN | apply below_drew1) | exact HB.out)))); have n1_ := Aside0.mk (below_step (by repeat (first | (with_reducible first | exact HB.out | apply below_alloc | apply pw_below_drewN | apply below_drew1) | exact HB.out)) hb); clear HB; have HO105 := n0_; have HB := n1_; clear n0_ n1_; clear hb ho5))
      go_loopg [4] k (fun kq v4 w' => ∃ (x3_1 : List Int) (x4_1 : Int), v4 = .int .i64 x4_1 ∧ Aside0 (laws_toIntS.l0 kq l0 x3_1 x4_1 = some r) ∧ Aside0 (kq ≤ k) ∧ Aside0 (Kd.R (Kd.int .i64) 3 w' w.heap.size (fun _ => True) v104 x3_1) ∧ Aside0 (Below w.heap.size w w'))
      case atStart => exact ⟨(y103), (0), (by first | rfl | (simp; done) | (simp [*]; done)), H', ⟨Nat.le_refl _⟩, ⟨by (with_reducible repeat (first | apply Kd.R_alloc | apply Kd.R_drewN | apply Kd.R_drew)); exact HO105.out⟩, ⟨by repeat (first | (with_reducible first | exact HB.out | apply below_alloc | apply pw_below_drewN | apply below_drew1) | exact HB.out)⟩⟩
      case round =>
        clear H'
        try clear c2
        try clear c2b0
        try clear c2b1
        try clear p2
        try clear c3
        try clear c3b0
        try clear c3b1
        obtain ⟨x3_1, x4_1, rfl, HA, HK1, HO_3, HB⟩ := hrel
        cases gk with
        | zero => exact absurd HA.out (by simp [laws_toIntS.l0])
        | succ k1 =>
          have H := HA.out
          clear HA
          simp only [laws_toIntS.l0] at H
          by_cases c6 : x4_1 < (l0.length : Int)
          · rw [if_pos c6] at H
            have c6b0 : decide (x4_1 < (l0.length : Int)) = true := decide_eq_true c6
            clear c6
            by_cases c7 : 0 ≤ x4_1
            · rw [if_pos c7] at H
              have c7b0 : decide (0 ≤ x4_1) = true := decide_eq_true c7
              clear c7
              by_cases c8 : x4_1 < (x3_1.length : Int)
              · rw [if_pos c8] at H
                have c8b0 : decide (x4_1 < (x3_1.length : Int)) = true := decide_eq_true c8
                clear c8
                obtain ⟨y107, hy107⟩ : ∃ y_ : List Int, y_ = (x3_1.set (x4_1 : Int).toNat (rd l0 x4_1)) := ⟨_, rfl⟩
                replace H : (laws_toIntS.l0 k1 l0 y107 (wrap64 (x4_1 + 1))) = some r := by first | (rw [hy107]; with_reducible exact H) | (have H2_ := (Option.bind_some _ _).symm.trans H; rw [hy107]; with_reducible exact H2_) | (have H2_ := (Option.bind_some _ _).symm.trans H; with_reducible exact H2_) | with_reducible exact H | (rw [hy107]; exact H) | exact H
                have Ny107 := Aside0.mk hy107
                clear hy107
                have H' := Aside0.mk H
                clear H
                have p106 : 0 ≤ (x4_1 : Int) := of_decide_eq_true (by first | (with_reducible assumption) | assumption)
                have q106 : x4_1 < (l0.length : Int) := of_decide_eq_true (by first | (with_reducible assumption) | assumption)
                obtain ⟨ad106, e106, hx106_0⟩ := Kd.at_int HR0.out x4_1 p106 q106
                cases e106
                replace hx106_0 := (HB.out.cell (World.block_lt_of_cell? w _ hx106_0)).trans hx106_0
                replace p106 := eq_true p106
                replace q106 := eq_true q106
                have p9 : 0 ≤ (x4_1 : Int) := of_decide_eq_true (by first | (with_reducible assumption) | assumption)
                have q9 : (x4_1 : Int) < ((x3_1.length : Int) : Int) := of_decide_eq_true (by first | (with_reducible assumption) | assumption)
                obtain ⟨go9, co9, eo9, gb9, gl9, cl9, HG9⟩ := Kd.R_form HO_3.out (by omega)
                (first | cases eo9 | (injection eo9 with ea_ en_ ec_; (first | subst ea_ | (injection ea_ with ea_; subst ea_)); subst ec_; clear en_))
                have GB9 := Aside0.mk gb9
                have GG9 := Aside0.mk HG9
                clear gb9 gl9 HG9
                obtain ⟨hx9_0, hf9_0⟩ := Kd.R_celln 0 HO_3.out (x4_1 : Int) p9 q9
                replace p9 := eq_true p9
                replace q9 := eq_true q9
                have HP10 := Kd.R_putg HO_3.out (x4_1 : Int) (rd l0 x4_1)
                go_wp2_with (first | ((with_reducible refine gate_store (t := 3) (p := 20) rfl ?_); refine store_event (t := 3) (p := 20) (v := ?vo_w11) (w1 := (wr.setCell ⟨go9, (x4_1 : Int).toNat, none⟩ (.int .i64 (rd l0 x4_1)))) ?hg ?ho ?hn ?hr ?_; (case ho => rfl); (case hg => rfl); (case hn => rfl); (case hr => first | (go_simp; done) | (go_simp; rfl)); intro w11 hw; have hg : wr.grownBy w11 (some go9) := (by rw [hw]; exact HP10.2); have hp_ : Kd.R (Kd.int .i64) 3 w11 w.heap.size (fun _ => True) (.slice (some ⟨go9, 0, none⟩) x3_1.length co9) y107 := (by rw [hw, Ny107.out]; exact HP10.1); clear HP10; have n0_ := Aside0.mk (hp_); have n1_ := Aside0.mk ((by rw [hw]; exact below_set (HB.out) GB9.out : Below w.heap.size w w11)); clear HO_3; clear HB; have HO_3 := n0_; have HB := n1_; clear n0_ n1_; clear hg hw hp_))
                go_roundg k1
                case measure => have := HK1.out; omega
                case rel => exact ⟨(y107), (wrap64 (x4_1 + 1)), (by first | rfl | (simp; done) | (simp [*]; done)), H', ⟨by have := HK1.out; omega⟩, ⟨by (with_reducible repeat (first | apply Kd.R_alloc | apply Kd.R_drewN | apply Kd.R_drew)); exact HO_3.out⟩, ⟨by repeat (first | (with_reducible first | exact HB.out | apply below_alloc | apply pw_below_drewN | apply below_drew1) | exact HB.out)⟩⟩
              · rw [if_neg c8] at H
                exact absurd H (by simp)
            · rw [if_neg c7] at H
              exact absurd H (by simp)
          · rw [if_neg c6] at H
            have c6b0 : decide (x4_1 < (l0.length : Int)) = false := decide_eq_false c6
            clear c6
            obtain rfl := Option.some.inj H
            go_wp2
            go_ret
            exact ⟨_, by first | rfl | (simp [errW_none, errW_some] <;> rfl) | (simp [*, errW_none, errW_some] <;> rfl), by (with_reducible repeat (first | apply Kd.R_alloc | apply Kd.R_drewN | apply Kd.R_drew)); exact HO_3.out, by repeat (first | (with_reducible first | exact HB.out | apply below_alloc | apply pw_below_drewN | apply below_drew1) | exact HB.out)⟩
    · rw [if_neg c3] at H
      exact absurd H (by simp)
  · rw [if_neg c2] at H
    exact absurd H (by simp)

/-! ### impl_size: function 67 -/
def impl_size.f (a0 : Int) : Option (Int) := some (mx a0 (wrap64 (-a0)))
set_option maxHeartbeats 8000000 in
set_option maxRecDepth 100000 in
theorem impl_size.calls (a0 : Int) (r : Int) (w : World) (h : impl_size.f a0 = some r) :
    Calls Try.prog 67 #[.int .i64 a0] w fun e w' => e = .returned (.int .i64 r) ∧ Below w.heap.size w w' := by
  have HB := Aside0.mk (Below.refl w.heap.size w)
  have H : (some (mx a0 (wrap64 (-a0)))) = some r := h
  clear h
  obtain ⟨ji2, hji2⟩ : ∃ j_ : Int, (mx a0 (wrap64 (-a0))) = j_ := ⟨_, rfl⟩
  replace H : (some ji2) = some r := by first | (rw [hji2] at H; exact H) | (simp only [hji2] at H ⊢; exact H)
  have hji2_ : (if a0 < (wrap64 (-a0)) then (wrap64 (-a0)) else a0) = ji2 := hji2
  obtain rfl := Option.some.inj H
  go_enter Try.func67, Try.ntmps67
  go_wp2
  go_ret
  exact ⟨by first | rfl | (simp [errW_none, errW_some] <;> rfl) | (simp only [← hji2]; first | rfl | (simp [errW_none, errW_some] <;> rfl)) | (simp [*, errW_none, errW_some] <;> rfl), by repeat (first | (with_reducible first | exact HB.out | apply below_alloc | apply pw_below_drewN | apply below_drew1) | exact HB.out)⟩

/-! ### impl_QuatValid: function 52 -/
def impl_QuatValid.l0 : Nat → List Int → List Int → Int → Int → Option (Bool)
  | 0, _, _, _, _ => none
  | k + 1, x0, x5, x6, x7 => if x7 < x6 then (if 0 ≤ x7 then (if x7 < (x5.length : Int) then ((impl_size.f (rd x5 x7)).bind fun t109 => (if t109 > 10000 then (some false) else (if (rd x5 x7) < (-10000) then (some false) else (impl_QuatValid.l0 k x0 x5 x6 (wrap64 (x7 + 1)))))) else (none)) else (none)) else (some ((x0.length : Int) == 4))
def impl_QuatValid.f (k : Nat) (l0 : List Int) : Option (Bool) := impl_QuatValid.l0 k l0 l0 (l0.length : Int) 0
set_option maxHeartbeats 8000000 in
set_option maxRecDepth 100000 in
theorem impl_QuatValid.calls (k : Nat) (A0 : Option Addr) (c0 : Nat) (l0 : List Int) (r : Bool) (w : World) (hr0 : Kd.C (Kd.int .i64) w A0 l0.length l0) (hc0 : l0.length ≤ c0) (h : impl_QuatValid.f k l0 = some r) :
    Calls Try.prog 52 #[.slice A0 l0.length c0] w fun e w' => e = .returned (.bool r) ∧ Below w.heap.size w w' := by
  have HR0 := Aside0.mk hr0
  have HC0 := Aside0.mk hc0
  clear hr0 hc0
  have HB := Aside0.mk (Below.refl w.heap.size w)
  have H : (impl_QuatValid.l0 k l0 l0 (l0.length : Int) 0) = some r := h
  clear h
  have H' := Aside0.mk H
  clear H
  go_enter Try.func52, Try.ntmps52
  go_wp2
  go_loopg [7] k (fun kq v7 w' => ∃ (x7_1 : Int), v7 = .int .i64 x7_1 ∧ Aside0 (impl_QuatValid.l0 kq l0 l0 (l0.length : Int) x7_1 = some r) ∧ Aside0 (kq ≤ k) ∧ Aside0 (Below w.heap.size w w'))
  case atStart => exact ⟨(0), (by first | rfl | (simp; done) | (simp [*]; done)), H', ⟨Nat.le_refl _⟩, ⟨by repeat (first | (with_reducible first | exact HB.out | apply below_alloc | apply pw_below_drewN | apply below_drew1) | exact HB.out)⟩⟩
  case round =>
    clear H'
    obtain ⟨x7_1, rfl, HA, HK1, HB⟩ := hrel
    cases gk with
    | zero => exact absurd HA.out (by simp [impl_QuatValid.l0])
    | succ k1 =>
      have H := HA.out
      clear HA
      simp only [impl_QuatValid.l0] at H
      by_cases c2 : x7_1 < (l0.length : Int)
      · rw [if_pos c2] at H
        have c2b0 : decide (x7_1 < (l0.length : Int)) = true := decide_eq_true c2
        clear c2
        by_cases c3 : 0 ≤ x7_1
        · rw [if_pos c3] at H
          have c3b0 : decide (0 ≤ x7_1) = true := decide_eq_true c3
          clear c3
          by_cases c4 : x7_1 < (l0.length : Int)
          · rw [if_pos c4] at H
            have c4b0 : decide (x7_1 < (l0.length : Int)) = true := decide_eq_true c4
            clear c4
            replace H := Option.bind_eq_some_iff.mp H
            obtain ⟨t109, A50, H⟩ := H
            replace H : (if t109 > 10000 then (some false) else (if (rd l0 x7_1) < (-10000) then (some false) else (impl_QuatValid.l0 k1 l0 l0 (l0.length : Int) (wrap64 (x7_1 + 1))))) = some r := H
            have A5 := Aside0.mk A50
            clear A50
            by_cases c6 : t109 > 10000
            · rw [if_pos c6] at H
              have c6b0 : decide (10000 < t109) = true := decide_eq_true c6
              clear c6
              obtain rfl := Option.some.inj H
              have p108 : 0 ≤ (x7_1 : Int) := of_decide_eq_true (by first | (with_reducible assumption) | assumption)
              have q108 : x7_1 < (l0.length : Int) := of_decide_eq_true (by first | (with_reducible assumption) | assumption)
              obtain ⟨ad108, e108, hx108_0⟩ := Kd.at_int HR0.out x7_1 p108 q108
              cases e108
              replace hx108_0 := (HB.out.cell (World.block_lt_of_cell? w _ hx108_0)).trans hx108_0
              replace p108 := eq_true p108
              replace q108 := eq_true q108
              go_wp2_with (first | ((with_reducible refine gate_callee (f := 67) rfl ?_); refine goesL_ (some 12) rfl rfl Try.func67 (by kernel_rfl) rfl #[.int .i64 (rd l0 x7_1)] rfl (by (try simp only [List.map_toArray, List.map_cons, List.map_nil]); first | done | rfl | (simp only [List.length_drop, List.length_take]; rfl)) ?_; (with_reducible refine (impl_size.calls (rd l0 x7_1) t109 _ A5.out).mono ?_); rintro e w7 ⟨rfl, hb⟩; refine ⟨_, rfl, ?_⟩; have n0_ := Aside0.mk (below_step (by repeat (first | (with_reducible first | exact HB.out | apply below_alloc | apply pw_below_drewN | apply below_drew1) | exact HB.out)) hb); clear HB; have HB := n0_; clear n0_; (try clear hb); (try clear hb2); (try clear hk); (try clear hi)))
              go_ret
              exact ⟨by first | rfl | (simp [errW_none, errW_some] <;> rfl) | (simp [*, errW_none, errW_some] <;> rfl), by repeat (first | (with_reducible first | exact HB.out | apply below_alloc | apply pw_below_drewN | apply below_drew1) | exact HB.out)⟩
            · rw [if_neg c6] at H
              have c6b0 : decide (10000 < t109) = false := decide_eq_false c6
              clear c6
              by_cases c8 : (rd l0 x7_1) < (-10000)
              · rw [if_pos c8] at H
                have c8b0 : decide ((rd l0 x7_1) < (-10000)) = true := decide_eq_true c8
                clear c8
                obtain rfl := Option.some.inj H
                have p108 : 0 ≤ (x7_1 : Int) := of_decide_eq_true (by first | (with_reducible assumption) | assumption)
                have q108 : x7_1 < (l0.length : Int) := of_decide_eq_true (by first | (with_reducible assumption) | assumption)
                obtain ⟨ad108, e108, hx108_0⟩ := Kd.at_int HR0.out x7_1 p108 q108
                cases e108
                replace hx108_0 := (HB.out.cell (World.block_lt_of_cell? w _ hx108_0)).trans hx108_0
                replace p108 := eq_true p108
                replace q108 := eq_true q108
                go_wp2_with (first | ((with_reducible refine gate_callee (f := 67) rfl ?_); refine goesL_ (some 12) rfl rfl Try.func67 (by kernel_rfl) rfl #[.int .i64 (rd l0 x7_1)] rfl (by (try simp only [List.map_toArray, List.map_cons, List.map_nil]); first | done | rfl | (simp only [List.length_drop, List.length_take]; rfl)) ?_; (with_reducible refine (impl_size.calls (rd l0 x7_1) t109 _ A5.out).mono ?_); rintro e w9 ⟨rfl, hb⟩; refine ⟨_, rfl, ?_⟩; have n0_ := Aside0.mk (below_step (by repeat (first | (with_reducible first | exact HB.out | apply below_alloc | apply pw_below_drewN | apply below_drew1) | exact HB.out)) hb); clear HB; have HB := n0_; clear n0_; (try clear hb); (try clear hb2); (try clear hk); (try clear hi)))
                go_ret
                exact ⟨by first | rfl | (simp [errW_none, errW_some] <;> rfl) | (simp [*, errW_none, errW_some] <;> rfl), by repeat (first | (with_reducible first | exact HB.out | apply below_alloc | apply pw_below_drewN | apply below_drew1) | exact HB.out)⟩
              · rw [if_neg c8] at H
                have c8b0 : decide ((rd l0 x7_1) < (-10000)) = false := decide_eq_false c8
                clear c8
                have H' := Aside0.mk H
                clear H
                have p108 : 0 ≤ (x7_1 : Int) := of_decide_eq_true (by first | (with_reducible assumption) | assumption)
                have q108 : x7_1 < (l0.length : Int) := of_decide_eq_true (by first | (with_reducible assumption) | assumption)
                obtain ⟨ad108, e108, hx108_0⟩ := Kd.at_int HR0.out x7_1 p108 q108
                cases e108
                replace hx108_0 := (HB.out.cell (World.block_lt_of_cell? w _ hx108_0)).trans hx108_0
                replace p108 := eq_true p108
                replace q108 := eq_true q108
                go_wp2_with (first | ((with_reducible refine gate_callee (f := 67) rfl ?_); refine goesL_ (some 12) rfl rfl Try.func67 (by kernel_rfl) rfl #[.int .i64 (rd l0 x7_1)] rfl (by (try simp only [List.map_toArray, List.map_cons, List.map_nil]); first | done | rfl | (simp only [List.length_drop, List.length_take]; rfl)) ?_; (with_reducible refine (impl_size.calls (rd l0 x7_1) t109 _ A5.out).mono ?_); rintro e w10 ⟨rfl, hb⟩; refine ⟨_, rfl, ?_⟩; have n0_ := Aside0.mk (below_step (by repeat (first | (with_reducible first | exact HB.out | apply below_alloc | apply pw_below_drewN | apply below_drew1) | exact HB.out)) hb); clear HB; have HB := n0_; clear n0_; (try clear hb); (try clear hb2); (try clear hk); (try clear hi)))
                go_roundg k1
                case measure => have := HK1.out; omega
                case rel => exact ⟨(wrap64 (x7_1 + 1)), (by first | rfl | (simp; done) | (simp [*]; done)), H', ⟨by have := HK1.out; omega⟩, ⟨by repeat (first | (with_reducible first | exact HB.out | apply below_alloc | apply pw_below_drewN | apply below_drew1) | exact HB.out)⟩⟩
          · rw [if_neg c4] at H
            exact absurd H (by simp)
        · rw [if_neg c3] at H
          exact absurd H (by simp)
      · rw [if_neg c2] at H
        have c2b0 : decide (x7_1 < (l0.length : Int)) = false := decide_eq_false c2
        clear c2
        obtain rfl := Option.some.inj H
        go_wp2
        go_ret
        exact ⟨by first | rfl | (simp [errW_none, errW_some] <;> rfl) | (simp [*, errW_none, errW_some] <;> rfl), by repeat (first | (with_reducible first | exact HB.out | apply below_alloc | apply pw_below_drewN | apply below_drew1) | exact HB.out)⟩

/-! ### impl_QuatMul: function 21 -/
def impl_QuatMul.j0 : Nat → List Int → List Int → Bool → Option (List Int × Bool)
  | 0, _, _, _ => none
  | k + 1, x0, x1, x22 => if x22 = true then (some (([] : List Int), false)) else (if 0 < (x0.length : Int) then (if 1 < (x0.length : Int) then (if 2 < (x0.length : Int) then (if 3 < (x0.length : Int) then (if 0 < (x1.length : Int) then (if 1 < (x1.length : Int) then (if 2 < (x1.length : Int) then (if 3 < (x1.length : Int) then ((some (([wrap64 ((wrap64 ((wrap64 ((wrap64 ((rd x0 0) * (rd x1 0))) - (wrap64 ((rd x0 1) * (rd x1 1))))) - (wrap64 ((rd x0 2) * (rd x1 2))))) - (wrap64 ((rd x0 3) * (rd x1 3)))), wrap64 ((wrap64 ((wrap64 ((wrap64 ((rd x0 0) * (rd x1 1))) + (wrap64 ((rd x0 1) * (rd x1 0))))) + (wrap64 ((rd x0 2) * (rd x1 3))))) - (wrap64 ((rd x0 3) * (rd x1 2)))), wrap64 ((wrap64 ((wrap64 ((wrap64 ((rd x0 0) * (rd x1 2))) - (wrap64 ((rd x0 1) * (rd x1 3))))) + (wrap64 ((rd x0 2) * (rd x1 0))))) + (wrap64 ((rd x0 3) * (rd x1 1)))), wrap64 ((wrap64 ((wrap64 ((wrap64 ((rd x0 0) * (rd x1 3))) + (wrap64 ((rd x0 1) * (rd x1 2))))) - (wrap64 ((rd x0 2) * (rd x1 1))))) + (wrap64 ((rd x0 3) * (rd x1 0))))] : List Int) : List Int)).bind fun y120 => ((impl_QuatValid.f k y120).bind fun t123 => (if t123 = true then (some (y120, true)) else (some (([] : List Int), false))))) else (none)) else (none)) else (none)) else (none)) else (none)) else (none)) else (none)) else (none))
def impl_QuatMul.f (k : Nat) (l0 : List Int) (l1 : List Int) : Option (List Int × Bool) := (impl_QuatValid.f k l0).bind fun t110 => (if t110 = true then ((impl_QuatValid.f k l1).bind fun t111 => (impl_QuatMul.j0 k l0 l1 (!t111))) else (impl_QuatMul.j0 k l0 l1 true))
set_option maxHeartbeats 8000000 in
set_option maxRecDepth 100000 in
theorem impl_QuatMul.calls (k : Nat) (A0 : Option Addr) (c0 : Nat) (l0 : List Int) (A1 : Option Addr) (c1 : Nat) (l1 : List Int) (r1 : List Int) (r2 : Bool) (w : World) (hr0 : Kd.C (Kd.int .i64) w A0 l0.length l0) (hc0 : l0.length ≤ c0) (hr1 : Kd.C (Kd.int .i64) w A1 l1.length l1) (hc1 : l1.length ≤ c1) (h : impl_QuatMul.f k l0 l1 = some (r1, r2)) :
    Calls Try.prog 21 #[.slice A0 l0.length c0, .slice A1 l1.length c1] w fun e w' => ∃ v0_ : Value, e = .returned (.tuple #[v0_, .bool r2]) ∧ Kd.R (Kd.int .i64) 3 w' w.heap.size (fun _ => True) v0_ r1 ∧ Below w.heap.size w w' := by
  have HR0 := Aside0.mk hr0
  have HC0 := Aside0.mk hc0
  clear hr0 hc0
  have HR1 := Aside0.mk hr1
  have HC1 := Aside0.mk hc1
  clear hr1 hc1
  have HB := Aside0.mk (Below.refl w.heap.size w)
  have H : ((impl_QuatValid.f k l0).bind fun t110 => (if t110 = true then ((impl_QuatValid.f k l1).bind fun t111 => (impl_QuatMul.j0 k l0 l1 (!t111))) else (impl_QuatMul.j0 k l0 l1 true))) = some (r1, r2) := h
  clear h
  have HC3 := Aside0.mk H
  clear H
  go_enter Try.func21, Try.ntmps21
  go_upto_region 1 with (fail)
  repeat (go_quiet (fail); go_upto_region 1 with (fail))
  go_cut [22] (fun v22 wc => ∃ (kq : Nat) (x22_2 : Bool), v22 = .bool x22_2 ∧ Aside0 (impl_QuatMul.j0 kq l0 l1 x22_2 = some (r1, r2)) ∧ Aside0 (kq ≤ k) ∧ Aside0 (Below w.heap.size w wc))
  case first =>
    have H := HC3.out
    clear HC3
    replace H := Option.bind_eq_some_iff.mp H
    obtain ⟨t110, A40, H⟩ := H
    replace H : (if t110 = true then ((impl_QuatValid.f k l1).bind fun t111 => (impl_QuatMul.j0 k l0 l1 (!t111))) else (impl_QuatMul.j0 k l0 l1 true)) = some (r1, r2) := H
    have A4 := Aside0.mk A40
    clear A40
    by_cases c5 : t110 = true
    · subst c5
      have H1 : ((impl_QuatValid.f k l1).bind fun t111 => (impl_QuatMul.j0 k l0 l1 (!t111))) = some (r1, r2) := by rw [if_pos rfl] at H; exact H
      clear H
      have H := H1
      clear H1
      replace H := Option.bind_eq_some_iff.mp H
      obtain ⟨t111, A60, H⟩ := H
      replace H : (impl_QuatMul.j0 k l0 l1 (!t111)) = some (r1, r2) := H
      have A6 := Aside0.mk A60
      clear A60
      have H' := Aside0.mk H
      clear H
      go_wp2_with (first | (go_at_call 52; (with_reducible refine (impl_QuatValid.calls k _ _ l0 true _ ?side1 ?side2 A4.out).mono ?_); (case side1 => repeat (first | exact (Kd.C_below HR0.out HB.out) | (with_reducible refine Kd.C_alloc ?_ _) | (with_reducible refine Kd.C_drewN ?_ _) | (with_reducible refine Kd.C_drew ?_))); (case side2 => exact HC0.out); rintro e w7 ⟨rfl, hb⟩; have n0_ := Aside0.mk (below_step (by repeat (first | (with_reducible first | exact HB.out | apply below_alloc | apply pw_below_drewN | apply below_drew1) | exact HB.out)) hb); clear HB; have HB := n0_; clear n0_; (try clear hb); (try clear hb2); (try clear hk); (try clear hi)) | (go_at_call 52; (with_reducible refine (impl_QuatValid.calls k _ _ l1 t111 _ ?side1 ?side2 A6.out).mono ?_); (case side1 => repeat (first | exact (Kd.C_below HR1.out HB.out) | (with_reducible refine Kd.C_alloc ?_ _) | (with_reducible refine Kd.C_drewN ?_ _) | (with_reducible refine Kd.C_drew ?_))); (case side2 => exact HC1.out); rintro e w8 ⟨rfl, hb⟩; have n0_ := Aside0.mk (below_step (by repeat (first | (with_reducible first | exact HB.out | apply below_alloc | apply pw_below_drewN | apply below_drew1) | exact HB.out)) hb); clear HB; have HB := n0_; clear n0_; (try clear hb); (try clear hb2); (try clear hk); (try clear hi)))
      repeat (go_quiet (first | (go_at_call 52; (with_reducible refine (impl_QuatValid.calls k _ _ l0 true _ ?side1 ?side2 A4.out).mono ?_); (case side1 => repeat (first | exact (Kd.C_below HR0.out HB.out) | (with_reducible refine Kd.C_alloc ?_ _) | (with_reducible refine Kd.C_drewN ?_ _) | (with_reducible refine Kd.C_drew ?_))); (case side2 => exact HC0.out); rintro e w7 ⟨rfl, hb⟩; have n0_ := Aside0.mk (below_step (by repeat (first | (with_reducible first | exact HB.out | apply below_alloc | apply pw_below_drewN | apply below_drew1) | exact HB.out)) hb); clear HB; have HB := n0_; clear n0_; (try clear hb); (try clear hb2); (try clear hk); (try clear hi)) | (go_at_call 52; (with_reducible refine (impl_QuatValid.calls k _ _ l1 t111 _ ?side1 ?side2 A6.out).mono ?_); (case side1 => repeat (first | exact (Kd.C_below HR1.out HB.out) | (with_reducible refine Kd.C_alloc ?_ _) | (with_reducible refine Kd.C_drewN ?_ _) | (with_reducible refine Kd.C_drew ?_))); (case side2 => exact HC1.out); rintro e w8 ⟨rfl, hb⟩; have n0_ := Aside0.mk (below_step (by repeat (first | (with_reducible first | exact HB.out | apply below_alloc | apply pw_below_drewN | apply below_drew1) | exact HB.out)) hb); clear HB; have HB := n0_; clear n0_; (try clear hb); (try clear hb2); (try clear hk); (try clear hi))); try go_wp2_with (first | (go_at_call 52; (with_reducible refine (impl_QuatValid.calls k _ _ l0 true _ ?side1 ?side2 A4.out).mono ?_); (case side1 => repeat (first | exact (Kd.C_below HR0.out HB.out) | (with_reducible refine Kd.C_alloc ?_ _) | (with_reducible refine Kd.C_drewN ?_ _) | (with_reducible refine Kd.C_drew ?_))); (case side2 => exact HC0.out); rintro e w7 ⟨rfl, hb⟩; have n0_ := Aside0.mk (below_step (by repeat (first | (with_reducible first | exact HB.out | apply below_alloc | apply pw_below_drewN | apply below_drew1) | exact HB.out)) hb); clear HB; have HB := n0_; clear n0_; (try clear hb); (try clear hb2); (try clear hk); (try clear hi)) | (go_at_call 52; (with_reducible refine (impl_QuatValid.calls k _ _ l1 t111 _ ?side1 ?side2 A6.out).mono ?_); (case side1 => repeat (first | exact (Kd.C_below HR1.out HB.out) | (with_reducible refine Kd.C_alloc ?_ _) | (with_reducible refine Kd.C_drewN ?_ _) | (with_reducible refine Kd.C_drew ?_))); (case side2 => exact HC1.out); rintro e w8 ⟨rfl, hb⟩; have n0_ := Aside0.mk (below_step (by repeat (first | (with_reducible first | exact HB.out | apply below_alloc | apply pw_below_drewN | apply below_drew1) | exact HB.out)) hb); clear HB; have HB := n0_; clear n0_; (try clear hb); (try clear hb2); (try clear hk); (try clear hi))))
      go_meet
      case rel => exact ⟨_, (!t111), (by first | rfl | (simp; done) | (simp [*]; done)), H', ⟨by first | omega | exact Nat.le_refl _⟩, ⟨by repeat (first | (with_reducible first | exact HB.out | apply below_alloc | apply pw_below_drewN | apply below_drew1) | exact HB.out)⟩⟩
    · replace c5 := Bool.eq_false_iff.mpr c5
      subst c5
      have H1 : (impl_QuatMul.j0 k l0 l1 true) = some (r1, r2) := by rw [if_neg (show ¬ (false = true) by decide)] at H; exact H
      clear H
      have H := H1
      clear H1
      have H' := Aside0.mk H
      clear H
      go_wp2_with (first | (go_at_call 52; (with_reducible refine (impl_QuatValid.calls k _ _ l0 false _ ?side1 ?side2 A4.out).mono ?_); (case side1 => repeat (first | exact (Kd.C_below HR0.out HB.out) | (with_reducible refine Kd.C_alloc ?_ _) | (with_reducible refine Kd.C_drewN ?_ _) | (with_reducible refine Kd.C_drew ?_))); (case side2 => exact HC0.out); rintro e w9 ⟨rfl, hb⟩; have n0_ := Aside0.mk (below_step (by repeat (first | (with_reducible first | exact HB.out | apply below_alloc | apply pw_below_drewN | apply below_drew1) | exact HB.out)) hb); clear HB; have HB := n0_; clear n0_; (try clear hb); (try clear hb2); (try clear hk); (try clear hi)))
      repeat (go_quiet (first | (go_at_call 52; (with_reducible refine (impl_QuatValid.calls k _ _ l0 false _ ?side1 ?side2 A4.out).mono ?_); (case side1 => repeat (first | exact (Kd.C_below HR0.out HB.out) | (with_reducible refine Kd.C_alloc ?_ _) | (with_reducible refine Kd.C_drewN ?_ _) | (with_reducible refine Kd.C_drew ?_))); (case side2 => exact HC0.out); rintro e w9 ⟨rfl, hb⟩; have n0_ := Aside0.mk (below_step (by repeat (first | (with_reducible first | exact HB.out | apply below_alloc | apply pw_below_drewN | apply below_drew1) | exact HB.out)) hb); clear HB; have HB := n0_; clear n0_; (try clear hb); (try clear hb2); (try clear hk); (try clear hi))); try go_wp2_with (first | (go_at_call 52; (with_reducible refine (impl_QuatValid.calls k _ _ l0 false _ ?side1 ?side2 A4.out).mono ?_); (case side1 => repeat (first | exact (Kd.C_below HR0.out HB.out) | (with_reducible refine Kd.C_alloc ?_ _) | (with_reducible refine Kd.C_drewN ?_ _) | (with_reducible refine Kd.C_drew ?_))); (case side2 => exact HC0.out); rintro e w9 ⟨rfl, hb⟩; have n0_ := Aside0.mk (below_step (by repeat (first | (with_reducible first | exact HB.out | apply below_alloc | apply pw_below_drewN | apply below_drew1) | exact HB.out)) hb); clear HB; have HB := n0_; clear n0_; (try clear hb); (try clear hb2); (try clear hk); (try clear hi))))
      go_meet
      case rel => exact ⟨_, (true), (by first | rfl | (simp; done) | (simp [*]; done)), H', ⟨by first | omega | exact Nat.le_refl _⟩, ⟨by repeat (first | (with_reducible first | exact HB.out | apply below_alloc | apply pw_below_drewN | apply below_drew1) | exact HB.out)⟩⟩
  case rest =>
    clear HC3
    try clear c1
    try clear c2
    try clear p2
    try clear c5
    obtain ⟨kq, x22_2, rfl, HA, HJ2, HB⟩ := hcut
    cases kq with
    | zero => exact absurd HA.out (by simp [impl_QuatMul.j0])
    | succ kj2 =>
      have H := HA.out
      clear HA
      simp only [impl_QuatMul.j0] at H
      by_cases c10 : x22_2 = true
      · subst c10
        have H1 : (some (([] : List Int), false)) = some (r1, r2) := by rw [if_pos rfl] at H; exact H
        clear H
        have H := H1
        clear H1
        simp only [Option.some.injEq, Prod.mk.injEq] at H
        obtain ⟨rfl, rfl⟩ := H
        go_wp2
        repeat (go_quiet (fail); try go_wp2)
        go_ret2
        exact ⟨_, by first | rfl | (simp [errW_none, errW_some] <;> rfl) | (simp [*, errW_none, errW_some] <;> rfl), by first | exact Kd.R_nil _ _ _ _ _ | exact Kd.N_nil _ _ _ _ _ | exact Kd.V_nil _ _ _ _ _ | exact Kd.Q_nil _ _ _ _ _ | exact Kd.S_nil _ _ _ _ _, by repeat (first | (with_reducible first | exact HB.out | apply below_alloc | apply pw_below_drewN | apply below_drew1) | exact HB.out)⟩
      · replace c10 := Bool.eq_false_iff.mpr c10
        subst c10
        have H1 : (if 0 < (l0.length : Int) then (if 1 < (l0.length : Int) then (if 2 < (l0.length : Int) then (if 3 < (l0.length : Int) then (if 0 < (l1.length : Int) then (if 1 < (l1.length : Int) then (if 2 < (l1.length : Int) then (if 3 < (l1.length : Int) then ((some (([wrap64 ((wrap64 ((wrap64 ((wrap64 ((rd l0 0) * (rd l1 0))) - (wrap64 ((rd l0 1) * (rd l1 1))))) - (wrap64 ((rd l0 2) * (rd l1 2))))) - (wrap64 ((rd l0 3) * (rd l1 3)))), wrap64 ((wrap64 ((wrap64 ((wrap64 ((rd l0 0) * (rd l1 1))) + (wrap64 ((rd l0 1) * (rd l1 0))))) + (wrap64 ((rd l0 2) * (rd l1 3))))) - (wrap64 ((rd l0 3) * (rd l1 2)))), wrap64 ((wrap64 ((wrap64 ((wrap64 ((rd l0 0) * (rd l1 2))) - (wrap64 ((rd l0 1) * (rd l1 3))))) + (wrap64 ((rd l0 2) * (rd l1 0))))) + (wrap64 ((rd l0 3) * (rd l1 1)))), wrap64 ((wrap64 ((wrap64 ((wrap64 ((rd l0 0) * (rd l1 3))) + (wrap64 ((rd l0 1) * (rd l1 2))))) - (wrap64 ((rd l0 2) * (rd l1 1))))) + (wrap64 ((rd l0 3) * (rd l1 0))))] : List Int) : List Int)).bind fun y120 => ((impl_QuatValid.f kj2 y120).bind fun t123 => (if t123 = true then (some (y120, true)) else (some (([] : List Int), false))))) else (none)) else (none)) else (none)) else (none)) else (none)) else (none)) else (none)) else (none)) = some (r1, r2) := by rw [if_neg (show ¬ (false = true) by decide)] at H; exact H
        clear H
        have H := H1
        clear H1
        by_cases c11 : 0 < (l0.length : Int)
        · rw [if_pos c11] at H
          have c11b0 : decide (0 < (l0.length : Int)) = true := decide_eq_true c11
          have c11b1 : decide (0 < l0.length) = true := decide_eq_true (by omega)
          clear c11
          by_cases c12 : 1 < (l0.length : Int)
          · rw [if_pos c12] at H
            have c12b0 : decide (1 < (l0.length : Int)) = true := decide_eq_true c12
            have c12b1 : decide (1 < l0.length) = true := decide_eq_true (by omega)
            clear c12
            by_cases c13 : 2 < (l0.length : Int)
            · rw [if_pos c13] at H
              have c13b0 : decide (2 < (l0.length : Int)) = true := decide_eq_true c13
              have c13b1 : decide (2 < l0.length) = true := decide_eq_true (by omega)
              clear c13
              by_cases c14 : 3 < (l0.length : Int)
              · rw [if_pos c14] at H
                have c14b0 : decide (3 < (l0.length : Int)) = true := decide_eq_true c14
                have c14b1 : decide (3 < l0.length) = true := decide_eq_true (by omega)
                clear c14
                by_cases c15 : 0 < (l1.length : Int)
                · rw [if_pos c15] at H
                  have c15b0 : decide (0 < (l1.length : Int)) = true := decide_eq_true c15
                  have c15b1 : decide (0 < l1.length) = true := decide_eq_true (by omega)
                  clear c15
                  by_cases c16 : 1 < (l1.length : Int)
                  · rw [if_pos c16] at H
                    have c16b0 : decide (1 < (l1.length : Int)) = true := decide_eq_true c16
                    have c16b1 : decide (1 < l1.length) = true := decide_eq_true (by omega)
                    clear c16
                    by_cases c17 : 2 < (l1.length : Int)
                    · rw [if_pos c17] at H
                      have c17b0 : decide (2 < (l1.length : Int)) = true := decide_eq_true c17
                      have c17b1 : decide (2 < l1.length) = true := decide_eq_true (by omega)
                      clear c17
                      by_cases c18 : 3 < (l1.length : Int)
                      · rw [if_pos c18] at H
                        have c18b0 : decide (3 < (l1.length : Int)) = true := decide_eq_true c18
                        have c18b1 : decide (3 < l1.length) = true := decide_eq_true (by omega)
                        clear c18
                        obtain ⟨y120, hy120⟩ : ∃ y_ : List Int, y_ = (([wrap64 ((wrap64 ((wrap64 ((wrap64 ((rd l0 0) * (rd l1 0))) - (wrap64 ((rd l0 1) * (rd l1 1))))) - (wrap64 ((rd l0 2) * (rd l1 2))))) - (wrap64 ((rd l0 3) * (rd l1 3)))), wrap64 ((wrap64 ((wrap64 ((wrap64 ((rd l0 0) * (rd l1 1))) + (wrap64 ((rd l0 1) * (rd l1 0))))) + (wrap64 ((rd l0 2) * (rd l1 3))))) - (wrap64 ((rd l0 3) * (rd l1 2)))), wrap64 ((wrap64 ((wrap64 ((wrap64 ((rd l0 0) * (rd l1 2))) - (wrap64 ((rd l0 1) * (rd l1 3))))) + (wrap64 ((rd l0 2) * (rd l1 0))))) + (wrap64 ((rd l0 3) * (rd l1 1)))), wrap64 ((wrap64 ((wrap64 ((wrap64 ((rd l0 0) * (rd l1 3))) + (wrap64 ((rd l0 1) * (rd l1 2))))) - (wrap64 ((rd l0 2) * (rd l1 1))))) + (wrap64 ((rd l0 3) * (rd l1 0))))] : List Int)) := ⟨_, rfl⟩
                        replace H : ((impl_QuatValid.f kj2 y120).bind fun t123 => (if t123 = true then (some (y120, true)) else (some (([] : List Int), false)))) = some (r1, r2) := by first | (rw [hy120]; with_reducible exact H) | (have H2_ := (Option.bind_some _ _).symm.trans H; rw [hy120]; with_reducible exact H2_) | (have H2_ := (Option.bind_some _ _).symm.trans H; with_reducible exact H2_) | with_reducible exact H | (rw [hy120]; exact H) | exact H
                        have Ny120 := Aside0.mk hy120
                        clear hy120
                        replace H := Option.bind_eq_some_iff.mp H
                        obtain ⟨t123, A190, H⟩ := H
                        replace H : (if t123 = true then (some (y120, true)) else (some (([] : List Int), false))) = some (r1, r2) := H
                        have A19 := Aside0.mk A190
                        clear A190
                        by_cases c20 : t123 = true
                        · subst c20
                          have H1 : (some (y120, true)) = some (r1, r2) := by rw [if_pos rfl] at H; exact H
                          clear H
                          have H := H1
                          clear H1
                          simp only [Option.some.injEq, Prod.mk.injEq] at H
                          obtain ⟨rfl, rfl⟩ := H
                          have p112 : 0 ≤ (0 : Int) := (by omega)
                          have q112 : 0 < (l0.length : Int) := of_decide_eq_true (by first | (with_reducible assumption) | assumption)
                          obtain ⟨ad112, e112, hx112_0⟩ := Kd.at_int HR0.out 0 p112 q112
                          cases e112
                          have qi112 : (0 < l0.length) = True := eq_true (by omega)
                          (try rw [show ((0 : Int)).toNat = 0 from rfl] at hx112_0)
                          (try rw [Addr.add_zero'] at hx112_0)
                          replace hx112_0 := (HB.out.cell (World.block_lt_of_cell? w _ hx112_0)).trans hx112_0
                          replace p112 := eq_true p112
                          replace q112 := eq_true q112
                          have p113 : 0 ≤ (1 : Int) := (by omega)
                          have q113 : 1 < (l0.length : Int) := of_decide_eq_true (by first | (with_reducible assumption) | assumption)
                          obtain ⟨ad113, e113, hx113_0⟩ := Kd.at_int HR0.out 1 p113 q113
                          obtain rfl : ad112 = ad113 := (by injection e113)
                          (try simp only [show (1 : Int).toNat = 1 from rfl, Nat.reduceMul, Nat.reduceEqDiff, Go.Addr.add, ↓reduceIte] at hx113_0)
                          have qi113 : (1 < l0.length) = True := eq_true (by omega)
                          (try rw [show ((1 : Int)).toNat = 1 from rfl] at hx113_0)
                          replace hx113_0 := (HB.out.cell (World.block_lt_of_cell? w _ hx113_0)).trans hx113_0
                          replace p113 := eq_true p113
                          replace q113 := eq_true q113
                          have p114 : 0 ≤ (2 : Int) := (by omega)
                          have q114 : 2 < (l0.length : Int) := of_decide_eq_true (by first | (with_reducible assumption) | assumption)
                          obtain ⟨ad114, e114, hx114_0⟩ := Kd.at_int HR0.out 2 p114 q114
                          obtain rfl : ad112 = ad114 := (by injection e114)
                          (try simp only [show (2 : Int).toNat = 2 from rfl, Nat.reduceMul, Nat.reduceEqDiff, Go.Addr.add, ↓reduceIte] at hx114_0)
                          have qi114 : (2 < l0.length) = True := eq_true (by omega)
                          (try rw [show ((2 : Int)).toNat = 2 from rfl] at hx114_0)
                          replace hx114_0 := (HB.out.cell (World.block_lt_of_cell? w _ hx114_0)).trans hx114_0
                          replace p114 := eq_true p114
                          replace q114 := eq_true q114
                          have p115 : 0 ≤ (3 : Int) := (by omega)
                          have q115 : 3 < (l0.length : Int) := of_decide_eq_true (by first | (with_reducible assumption) | assumption)
                          obtain ⟨ad115, e115, hx115_0⟩ := Kd.at_int HR0.out 3 p115 q115
                          obtain rfl : ad112 = ad115 := (by injection e115)
                          (try simp only [show (3 : Int).toNat = 3 from rfl, Nat.reduceMul, Nat.reduceEqDiff, Go.Addr.add, ↓reduceIte] at hx115_0)
                          have qi115 : (3 < l0.length) = True := eq_true (by omega)
                          (try rw [show ((3 : Int)).toNat = 3 from rfl] at hx115_0)
                          replace hx115_0 := (HB.out.cell (World.block_lt_of_cell? w _ hx115_0)).trans hx115_0
                          replace p115 := eq_true p115
                          replace q115 := eq_true q115
                          have p116 : 0 ≤ (0 : Int) := (by omega)
                          have q116 : 0 < (l1.length : Int) := of_decide_eq_true (by first | (with_reducible assumption) | assumption)
                          obtain ⟨ad116, e116, hx116_0⟩ := Kd.at_int HR1.out 0 p116 q116
                          cases e116
                          have qi116 : (0 < l1.length) = True := eq_true (by omega)
                          (try rw [show ((0 : Int)).toNat = 0 from rfl] at hx116_0)
                          (try rw [Addr.add_zero'] at hx116_0)
                          replace hx116_0 := (HB.out.cell (World.block_lt_of_cell? w _ hx116_0)).trans hx116_0
                          replace p116 := eq_true p116
                          replace q116 := eq_true q116
                          have p117 : 0 ≤ (1 : Int) := (by omega)
                          have q117 : 1 < (l1.length : Int) := of_decide_eq_true (by first | (with_reducible assumption) | assumption)
                          obtain ⟨ad117, e117, hx117_0⟩ := Kd.at_int HR1.out 1 p117 q117
                          obtain rfl : ad116 = ad117 := (by injection e117)
                          (try simp only [show (1 : Int).toNat = 1 from rfl, Nat.reduceMul, Nat.reduceEqDiff, Go.Addr.add, ↓reduceIte] at hx117_0)
                          have qi117 : (1 < l1.length) = True := eq_true (by omega)
                          (try rw [show ((1 : Int)).toNat = 1 from rfl] at hx117_0)
                          replace hx117_0 := (HB.out.cell (World.block_lt_of_cell? w _ hx117_0)).trans hx117_0
                          replace p117 := eq_true p117
                          replace q117 := eq_true q117
                          have p118 : 0 ≤ (2 : Int) := (by omega)
                          have q118 : 2 < (l1.length : Int) := of_decide_eq_true (by first | (with_reducible assumption) | assumption)
                          obtain ⟨ad118, e118, hx118_0⟩ := Kd.at_int HR1.out 2 p118 q118
                          obtain rfl : ad116 = ad118 := (by injection e118)
                          (try simp only [show (2 : Int).toNat = 2 from rfl, Nat.reduceMul, Nat.reduceEqDiff, Go.Addr.add, ↓reduceIte] at hx118_0)
                          have qi118 : (2 < l1.length) = True := eq_true (by omega)
                          (try rw [show ((2 : Int)).toNat = 2 from rfl] at hx118_0)
                          replace hx118_0 := (HB.out.cell (World.block_lt_of_cell? w _ hx118_0)).trans hx118_0
                          replace p118 := eq_true p118
                          replace q118 := eq_true q118
                          have p119 : 0 ≤ (3 : Int) := (by omega)
                          have q119 : 3 < (l1.length : Int) := of_decide_eq_true (by first | (with_reducible assumption) | assumption)
                          obtain ⟨ad119, e119, hx119_0⟩ := Kd.at_int HR1.out 3 p119 q119
                          obtain rfl : ad116 = ad119 := (by injection e119)
                          (try simp only [show (3 : Int).toNat = 3 from rfl, Nat.reduceMul, Nat.reduceEqDiff, Go.Addr.add, ↓reduceIte] at hx119_0)
                          have qi119 : (3 < l1.length) = True := eq_true (by omega)
                          (try rw [show ((3 : Int)).toNat = 3 from rfl] at hx119_0)
                          replace hx119_0 := (HB.out.cell (World.block_lt_of_cell? w _ hx119_0)).trans hx119_0
                          replace p119 := eq_true p119
                          replace q119 := eq_true q119
                          go_wp2_with (first | ((with_reducible refine gate_dst (N := 107) rfl ?_); refine Kd.R_lit (Kd.int .i64) _ 3 ?hg (N := 107) ?hd (xs := ([wrap64 ((wrap64 ((wrap64 ((wrap64 ((rd l0 0) * (rd l1 0))) - (wrap64 ((rd l0 1) * (rd l1 1))))) - (wrap64 ((rd l0 2) * (rd l1 2))))) - (wrap64 ((rd l0 3) * (rd l1 3)))), wrap64 ((wrap64 ((wrap64 ((wrap64 ((rd l0 0) * (rd l1 1))) + (wrap64 ((rd l0 1) * (rd l1 0))))) + (wrap64 ((rd l0 2) * (rd l1 3))))) - (wrap64 ((rd l0 3) * (rd l1 2)))), wrap64 ((wrap64 ((wrap64 ((wrap64 ((rd l0 0) * (rd l1 2))) - (wrap64 ((rd l0 1) * (rd l1 3))))) + (wrap64 ((rd l0 2) * (rd l1 0))))) + (wrap64 ((rd l0 3) * (rd l1 1)))), wrap64 ((wrap64 ((wrap64 ((wrap64 ((rd l0 0) * (rd l1 3))) + (wrap64 ((rd l0 1) * (rd l1 2))))) - (wrap64 ((rd l0 2) * (rd l1 1))))) + (wrap64 ((rd l0 3) * (rd l1 0))))] : List Int)) (inner := [.int .i64 (wrap64 ((wrap64 ((wrap64 ((wrap64 ((rd l0 0) * (rd l1 0))) - (wrap64 ((rd l0 1) * (rd l1 1))))) - (wrap64 ((rd l0 2) * (rd l1 2))))) - (wrap64 ((rd l0 3) * (rd l1 3))))), .int .i64 (wrap64 ((wrap64 ((wrap64 ((wrap64 ((rd l0 0) * (rd l1 1))) + (wrap64 ((rd l0 1) * (rd l1 0))))) + (wrap64 ((rd l0 2) * (rd l1 3))))) - (wrap64 ((rd l0 3) * (rd l1 2))))), .int .i64 (wrap64 ((wrap64 ((wrap64 ((wrap64 ((rd l0 0) * (rd l1 2))) - (wrap64 ((rd l0 1) * (rd l1 3))))) + (wrap64 ((rd l0 2) * (rd l1 0))))) + (wrap64 ((rd l0 3) * (rd l1 1))))), .int .i64 (wrap64 ((wrap64 ((wrap64 ((wrap64 ((rd l0 0) * (rd l1 3))) + (wrap64 ((rd l0 1) * (rd l1 2))))) - (wrap64 ((rd l0 2) * (rd l1 1))))) + (wrap64 ((rd l0 3) * (rd l1 0)))))]) (ok := fun _ => True) (okp := fun _ => True) ?hr ?hp (fun _ hk => hk) trivial (Below.refl _ _) (Nat.le_refl _) (by simp) ?_; (case hd => rfl); (case hg => rfl); (case hr => first | (go_simp; done) | (go_simp; rfl)); (case hp => exact (Reps.one (show Kd.M (Kd.int .i64) _ _ _ (wrap64 ((wrap64 ((wrap64 ((wrap64 ((rd l0 0) * (rd l1 0))) - (wrap64 ((rd l0 1) * (rd l1 1))))) - (wrap64 ((rd l0 2) * (rd l1 2))))) - (wrap64 ((rd l0 3) * (rd l1 3))))) [.int .i64 (wrap64 ((wrap64 ((wrap64 ((wrap64 ((rd l0 0) * (rd l1 0))) - (wrap64 ((rd l0 1) * (rd l1 1))))) - (wrap64 ((rd l0 2) * (rd l1 2))))) - (wrap64 ((rd l0 3) * (rd l1 3)))))] from rfl) (Reps.one (show Kd.M (Kd.int .i64) _ _ _ (wrap64 ((wrap64 ((wrap64 ((wrap64 ((rd l0 0) * (rd l1 1))) + (wrap64 ((rd l0 1) * (rd l1 0))))) + (wrap64 ((rd l0 2) * (rd l1 3))))) - (wrap64 ((rd l0 3) * (rd l1 2))))) [.int .i64 (wrap64 ((wrap64 ((wrap64 ((wrap64 ((rd l0 0) * (rd l1 1))) + (wrap64 ((rd l0 1) * (rd l1 0))))) + (wrap64 ((rd l0 2) * (rd l1 3))))) - (wrap64 ((rd l0 3) * (rd l1 2)))))] from rfl) (Reps.one (show Kd.M (Kd.int .i64) _ _ _ (wrap64 ((wrap64 ((wrap64 ((wrap64 ((rd l0 0) * (rd l1 2))) - (wrap64 ((rd l0 1) * (rd l1 3))))) + (wrap64 ((rd l0 2) * (rd l1 0))))) + (wrap64 ((rd l0 3) * (rd l1 1))))) [.int .i64 (wrap64 ((wrap64 ((wrap64 ((wrap64 ((rd l0 0) * (rd l1 2))) - (wrap64 ((rd l0 1) * (rd l1 3))))) + (wrap64 ((rd l0 2) * (rd l1 0))))) + (wrap64 ((rd l0 3) * (rd l1 1)))))] from rfl) (Reps.one (show Kd.M (Kd.int .i64) _ _ _ (wrap64 ((wrap64 ((wrap64 ((wrap64 ((rd l0 0) * (rd l1 3))) + (wrap64 ((rd l0 1) * (rd l1 2))))) - (wrap64 ((rd l0 2) * (rd l1 1))))) + (wrap64 ((rd l0 3) * (rd l1 0))))) [.int .i64 (wrap64 ((wrap64 ((wrap64 ((wrap64 ((rd l0 0) * (rd l1 3))) + (wrap64 ((rd l0 1) * (rd l1 2))))) - (wrap64 ((rd l0 2) * (rd l1 1))))) + (wrap64 ((rd l0 3) * (rd l1 0)))))] from rfl) (Reps.none _ _)))))); intro v121 w21 ho22 hb hg_ hnew_; clear hg_ hnew_; (first | rw [← Ny120.out] at ho22 | (simp only [Int.reduceToNat] at ho22; rw [← Ny120.out] at ho22)); have n0_ := Aside0.mk (Kd.R_lower ho22 (below_size (by repeat (first | (with_reducible first | exact HB.out | apply below_alloc | apply pw_below_drewN | apply below_drew1) | exact HB.out)))); have n1_ := Aside0.mk (below_step (by repeat (first | (with_reducible first | exact HB.out | apply below_alloc | apply pw_below_drewN | apply below_drew1) | exact HB.out)) hb); clear HB; have HO122 := n0_; have HB := n1_; clear n0_ n1_; clear hb ho22; obtain ⟨Ao23, co23, eo23⟩ := Kd.R_slice HO122.out; subst eo23) | (go_at_call 52; (with_reducible refine (impl_QuatValid.calls kj2 _ _ y120 true _ ?side1 ?side2 A19.out).mono ?_); (case side1 => repeat (first | exact (Kd.R_reads' HO122.out).2.2 | (with_reducible refine Kd.C_alloc ?_ _) | (with_reducible refine Kd.C_drewN ?_ _) | (with_reducible refine Kd.C_drew ?_))); (case side2 => exact (Kd.R_reads' HO122.out).2.1); rintro e w24 ⟨rfl, hb⟩; have n0_ := Aside0.mk (Kd.R_below (by (with_reducible repeat (first | apply Kd.R_alloc | apply Kd.R_drewN | apply Kd.R_drew)); exact HO122.out) hb); have n1_ := Aside0.mk (below_step (by repeat (first | (with_reducible first | exact HB.out | apply below_alloc | apply pw_below_drewN | apply below_drew1) | exact HB.out)) hb); clear HO122; clear HB; have HO122 := n0_; have HB := n1_; clear n0_ n1_; (try clear hb); (try clear hb2); (try clear hk); (try clear hi)))
                          repeat (go_quiet (first | ((with_reducible refine gate_dst (N := 107) rfl ?_); refine Kd.R_lit (Kd.int .i64) _ 3 ?hg (N := 107) ?hd (xs := ([wrap64 ((wrap64 ((wrap64 ((wrap64 ((rd l0 0) * (rd l1 0))) - (wrap64 ((rd l0 1) * (rd l1 1))))) - (wrap64 ((rd l0 2) * (rd l1 2))))) - (wrap64 ((rd l0 3) * (rd l1 3)))), wrap64 ((wrap64 ((wrap64 ((wrap64 ((rd l0 0) * (rd l1 1))) + (wrap64 ((rd l0 1) * (rd l1 0))))) + (wrap64 ((rd l0 2) * (rd l1 3))))) - (wrap64 ((rd l0 3) * (rd l1 2)))), wrap64 ((wrap64 ((wrap64 ((wrap64 ((rd l0 0) * (rd l1 2))) - (wrap64 ((rd l0 1) * (rd l1 3))))) + (wrap64 ((rd l0 2) * (rd l1 0))))) + (wrap64 ((rd l0 3) * (rd l1 1)))), wrap64 ((wrap64 ((wrap64 ((wrap64 ((rd l0 0) * (rd l1 3))) + (wrap64 ((rd l0 1) * (rd l1 2))))) - (wrap64 ((rd l0 2) * (rd l1 1))))) + (wrap64 ((rd l0 3) * (rd l1 0))))] : List Int)) (inner := [.int .i64 (wrap64 ((wrap64 ((wrap64 ((wrap64 ((rd l0 0) * (rd l1 0))) - (wrap64 ((rd l0 1) * (rd l1 1))))) - (wrap64 ((rd l0 2) * (rd l1 2))))) - (wrap64 ((rd l0 3) * (rd l1 3))))), .int .i64 (wrap64 ((wrap64 ((wrap64 ((wrap64 ((rd l0 0) * (rd l1 1))) + (wrap64 ((rd l0 1) * (rd l1 0))))) + (wrap64 ((rd l0 2) * (rd l1 3))))) - (wrap64 ((rd l0 3) * (rd l1 2))))), .int .i64 (wrap64 ((wrap64 ((wrap64 ((wrap64 ((rd l0 0) * (rd l1 2))) - (wrap64 ((rd l0 1) * (rd l1 3))))) + (wrap64 ((rd l0 2) * (rd l1 0))))) + (wrap64 ((rd l0 3) * (rd l1 1))))), .int .i64 (wrap64 ((wrap64 ((wrap64 ((wrap64 ((rd l0 0) * (rd l1 3))) + (wrap64 ((rd l0 1) * (rd l1 2))))) - (wrap64 ((rd l0 2) * (rd l1 1))))) + (wrap64 ((rd l0 3) * (rd l1 0)))))]) (ok := fun _ => True) (okp := fun _ => True) ?hr ?hp (fun _ hk => hk) trivial (Below.refl _ _) (Nat.le_refl _) (by simp) ?_; (case hd => rfl); (case hg => rfl); (case hr => first | (go_simp; done) | (go_simp; rfl)); (case hp => exact (Reps.one (show Kd.M (Kd.int .i64) _ _ _ (wrap64 ((wrap64 ((wrap64 ((wrap64 ((rd l0 0) * (rd l1 0))) - (wrap64 ((rd l0 1) * (rd l1 1))))) - (wrap64 ((rd l0 2) * (rd l1 2))))) - (wrap64 ((rd l0 3) * (rd l1 3))))) [.int .i64 (wrap64 ((wrap64 ((wrap64 ((wrap64 ((rd l0 0) * (rd l1 0))) - (wrap64 ((rd l0 1) * (rd l1 1))))) - (wrap64 ((rd l0 2) * (rd l1 2))))) - (wrap64 ((rd l0 3) * (rd l1 3)))))] from rfl) (Reps.one (show Kd.M (Kd.int .i64) _ _ _ (wrap64 ((wrap64 ((wrap64 ((wrap64 ((rd l0 0) * (rd l1 1))) + (wrap64 ((rd l0 1) * (rd l1 0))))) + (wrap64 ((rd l0 2) * (rd l1 3))))) - (wrap64 ((rd l0 3) * (rd l1 2))))) [.int .i64 (wrap64 ((wrap64 ((wrap64 ((wrap64 ((rd l0 0) * (rd l1 1))) + (wrap64 ((rd l0 1) * (rd l1 0))))) + (wrap64 ((rd l0 2) * (rd l1 3))))) - (wrap64 ((rd l0 3) * (rd l1 2)))))] from rfl) (Reps.one (show Kd.M (Kd.int .i64) _ _ _ (wrap64 ((wrap64 ((wrap64 ((wrap64 ((rd l0 0) * (rd l1 2))) - (wrap64 ((rd l0 1) * (rd l1 3))))) + (wrap64 ((rd l0 2) * (rd l1 0))))) + (wrap64 ((rd l0 3) * (rd l1 1))))) [.int .i64 (wrap64 ((wrap64 ((wrap64 ((wrap64 ((rd l0 0) * (rd l1 2))) - (wrap64 ((rd l0 1) * (rd l1 3))))) + (wrap64 ((rd l0 2) * (rd l1 0))))) + (wrap64 ((rd l0 3) * (rd l1 1)))))] from rfl) (Reps.one (show Kd.M (Kd.int .i64) _ _ _ (wrap64 ((wrap64 ((wrap64 ((wrap64 ((rd l0 0) * (rd l1 3))) + (wrap64 ((rd l0 1) * (rd l1 2))))) - (wrap64 ((rd l0 2) * (rd l1 1))))) + (wrap64 ((rd l0 3) * (rd l1 0))))) [.int .i64 (wrap64 ((wrap64 ((wrap64 ((wrap64 ((rd l0 0) * (rd l1 3))) + (wrap64 ((rd l0 1) * (rd l1 2))))) - (wrap64 ((rd l0 2) * (rd l1 1))))) + (wrap64 ((rd l0 3) * (rd l1 0)))))] from rfl) (Reps.none _ _)))))); intro v121 w21 ho22 hb hg_ hnew_; clear hg_ hnew_; (first | rw [← Ny120.out] at ho22 | (simp only [Int.reduceToNat] at ho22; rw [← Ny120.out] at ho22)); have n0_ := Aside0.mk (Kd.R_lower ho22 (below_size (by repeat (first | (with_reducible first | exact HB.out | apply below_alloc | apply pw_below_drewN | apply below_drew1) | exact HB.out)))); have n1_ := Aside0.mk (below_step (by repeat (first | (with_reducible first | exact HB.out | apply below_alloc | apply pw_below_drewN | apply below_drew1) | exact HB.out)) hb); clear HB; have HO122 := n0_; have HB := n1_; clear n0_ n1_; clear hb ho22; obtain ⟨Ao23, co23, eo23⟩ := Kd.R_slice HO122.out; subst eo23) | (go_at_call 52; (with_reducible refine (impl_QuatValid.calls kj2 _ _ y120 true _ ?side1 ?side2 A19.out).mono ?_); (case side1 => repeat (first | exact (Kd.R_reads' HO122.out).2.2 | (with_reducible refine Kd.C_alloc ?_ _) | (with_reducible refine Kd.C_drewN ?_ _) | (with_reducible refine Kd.C_drew ?_))); (case side2 => exact (Kd.R_reads' HO122.out).2.1); rintro e w24 ⟨rfl, hb⟩; have n0_ := Aside0.mk (Kd.R_below (by (with_reducible repeat (first | apply Kd.R_alloc | apply Kd.R_drewN | apply Kd.R_drew)); exact HO122.out) hb); have n1_ := Aside0.mk (below_step (by repeat (first | (with_reducible first | exact HB.out | apply below_alloc | apply pw_below_drewN | apply below_drew1) | exact HB.out)) hb); clear HO122; clear HB; have HO122 := n0_; have HB := n1_; clear n0_ n1_; (try clear hb); (try clear hb2); (try clear hk); (try clear hi))); try go_wp2_with (first | ((with_reducible refine gate_dst (N := 107) rfl ?_); refine Kd.R_lit (Kd.int .i64) _ 3 ?hg (N := 107) ?hd (xs := ([wrap64 ((wrap64 ((wrap64 ((wrap64 ((rd l0 0) * (rd l1 0))) - (wrap64 ((rd l0 1) * (rd l1 1))))) - (wrap64 ((rd l0 2) * (rd l1 2))))) - (wrap64 ((rd l0 3) * (rd l1 3)))), wrap64 ((wrap64 ((wrap64 ((wrap64 ((rd l0 0) * (rd l1 1))) + (wrap64 ((rd l0 1) * (rd l1 0))))) + (wrap64 ((rd l0 2) * (rd l1 3))))) - (wrap64 ((rd l0 3) * (rd l1 2)))), wrap64 ((wrap64 ((wrap64 ((wrap64 ((rd l0 0) * (rd l1 2))) - (wrap64 ((rd l0 1) * (rd l1 3))))) + (wrap64 ((rd l0 2) * (rd l1 0))))) + (wrap64 ((rd l0 3) * (rd l1 1)))), wrap64 ((wrap64 ((wrap64 ((wrap64 ((rd l0 0) * (rd l1 3))) + (wrap64 ((rd l0 1) * (rd l1 2))))) - (wrap64 ((rd l0 2) * (rd l1 1))))) + (wrap64 ((rd l0 3) * (rd l1 0))))] : List Int)) (inner := [.int .i64 (wrap64 ((wrap64 ((wrap64 ((wrap64 ((rd l0 0) * (rd l1 0))) - (wrap64 ((rd l0 1) * (rd l1 1))))) - (wrap64 ((rd l0 2) * (rd l1 2))))) - (wrap64 ((rd l0 3) * (rd l1 3))))), .int .i64 (wrap64 ((wrap64 ((wrap64 ((wrap64 ((rd l0 0) * (rd l1 1))) + (wrap64 ((rd l0 1) * (rd l1 0))))) + (wrap64 ((rd l0 2) * (rd l1 3))))) - (wrap64 ((rd l0 3) * (rd l1 2))))), .int .i64 (wrap64 ((wrap64 ((wrap64 ((wrap64 ((rd l0 0) * (rd l1 2))) - (wrap64 ((rd l0 1) * (rd l1 3))))) + (wrap64 ((rd l0 2) * (rd l1 0))))) + (wrap64 ((rd l0 3) * (rd l1 1))))), .int .i64 (wrap64 ((wrap64 ((wrap64 ((wrap64 ((rd l0 0) * (rd l1 3))) + (wrap64 ((rd l0 1) * (rd l1 2))))) - (wrap64 ((rd l0 2) * (rd l1 1))))) + (wrap64 ((rd l0 3) * (rd l1 0)))))]) (ok := fun _ => True) (okp := fun _ => True) ?hr ?hp (fun _ hk => hk) trivial (Below.refl _ _) (Nat.le_refl _) (by simp) ?_; (case hd => rfl); (case hg => rfl); (case hr => first | (go_simp; done) | (go_simp; rfl)); (case hp => exact (Reps.one (show Kd.M (Kd.int .i64) _ _ _ (wrap64 ((wrap64 ((wrap64 ((wrap64 ((rd l0 0) * (rd l1 0))) - (wrap64 ((rd l0 1) * (rd l1 1))))) - (wrap64 ((rd l0 2) * (rd l1 2))))) - (wrap64 ((rd l0 3) * (rd l1 3))))) [.int .i64 (wrap64 ((wrap64 ((wrap64 ((wrap64 ((rd l0 0) * (rd l1 0))) - (wrap64 ((rd l0 1) * (rd l1 1))))) - (wrap64 ((rd l0 2) * (rd l1 2))))) - (wrap64 ((rd l0 3) * (rd l1 3)))))] from rfl) (Reps.one (show Kd.M (Kd.int .i64) _ _ _ (wrap64 ((wrap64 ((wrap64 ((wrap64 ((rd l0 0) * (rd l1 1))) + (wrap64 ((rd l0 1) * (rd l1 0))))) + (wrap64 ((rd l0 2) * (rd l1 3))))) - (wrap64 ((rd l0 3) * (rd l1 2))))) [.int .i64 (wrap64 ((wrap64 ((wrap64 ((wrap64 ((rd l0 0) * (rd l1 1))) + (wrap64 ((rd l0 1) * (rd l1 0))))) + (wrap64 ((rd l0 2) * (rd l1 3))))) - (wrap64 ((rd l0 3) * (rd l1 2)))))] from rfl) (Reps.one (show Kd.M (Kd.int .i64) _ _ _ (wrap64 ((wrap64 ((wrap64 ((wrap64 ((rd l0 0) * (rd l1 2))) - (wrap64 ((rd l0 1) * (rd l1 3))))) + (wrap64 ((rd l0 2) * (rd l1 0))))) + (wrap64 ((rd l0 3) * (rd l1 1))))) [.int .i64 (wrap64 ((wrap64 ((wrap64 ((wrap64 ((rd l0 0) * (rd l1 2))) - (wrap64 ((rd l0 1) * (rd l1 3))))) + (wrap64 ((rd l0 2) * (rd l1 0))))) + (wrap64 ((rd l0 3) * (rd l1 1)))))] from rfl) (Reps.one (show Kd.M (Kd.int .i64) _ _ _ (wrap64 ((wrap64 ((wrap64 ((wrap64 ((rd l0 0) * (rd l1 3))) + (wrap64 ((rd l0 1) * (rd l1 2))))) - (wrap64 ((rd l0 2) * (rd l1 1))))) + (wrap64 ((rd l0 3) * (rd l1 0))))) [.int .i64 (wrap64 ((wrap64 ((wrap64 ((wrap64 ((rd l0 0) * (rd l1 3))) + (wrap64 ((rd l0 1) * (rd l1 2))))) - (wrap64 ((rd l0 2) * (rd l1 1))))) + (wrap64 ((rd l0 3) * (rd l1 0)))))] from rfl) (Reps.none _ _)))))); intro v121 w21 ho22 hb hg_ hnew_; clear hg_ hnew_; (first | rw [← Ny120.out] at ho22 | (simp only [Int.reduceToNat] at ho22; rw [← Ny120.out] at ho22)); have n0_ := Aside0.mk (Kd.R_lower ho22 (below_size (by repeat (first | (with_reducible first | exact HB.out | apply below_alloc | apply pw_below_drewN | apply below_drew1) | exact HB.out)))); have n1_ := Aside0.mk (below_step (by repeat (first | (with_reducible first | exact HB.out | apply below_alloc | apply pw_below_drewN | apply below_drew1) | exact HB.out)) hb); clear HB; have HO122 := n0_; have HB := n1_; clear n0_ n1_; clear hb ho22; obtain ⟨Ao23, co23, eo23⟩ := Kd.R_slice HO122.out; subst eo23) | (go_at_call 52; (with_reducible refine (impl_QuatValid.calls kj2 _ _ y120 true _ ?side1 ?side2 A19.out).mono ?_); (case side1 => repeat (first | exact (Kd.R_reads' HO122.out).2.2 | (with_reducible refine Kd.C_alloc ?_ _) | (with_reducible refine Kd.C_drewN ?_ _) | (with_reducible refine Kd.C_drew ?_))); (case side2 => exact (Kd.R_reads' HO122.out).2.1); rintro e w24 ⟨rfl, hb⟩; have n0_ := Aside0.mk (Kd.R_below (by (with_reducible repeat (first | apply Kd.R_alloc | apply Kd.R_drewN | apply Kd.R_drew)); exact HO122.out) hb); have n1_ := Aside0.mk (below_step (by repeat (first | (with_reducible first | exact HB.out | apply below_alloc | apply pw_below_drewN | apply below_drew1) | exact HB.out)) hb); clear HO122; clear HB; have HO122 := n0_; have HB := n1_; clear n0_ n1_; (try clear hb); (try clear hb2); (try clear hk); (try clear hi))))
                          go_ret2
                          exact ⟨_, by first | rfl | (simp [errW_none, errW_some] <;> rfl) | (simp [*, errW_none, errW_some] <;> rfl), by (with_reducible repeat (first | apply Kd.R_alloc | apply Kd.R_drewN | apply Kd.R_drew)); exact HO122.out, by repeat (first | (with_reducible first | exact HB.out | apply below_alloc | apply pw_below_drewN | apply below_drew1) | exact HB.out)⟩
                        · replace c20 := Bool.eq_false_iff.mpr c20
                          subst c20
                          have H1 : (some (([] : List Int), false)) = some (r1, r2) := by rw [if_neg (show ¬ (false = true) by decide)] at H; exact H
                          clear H
                          have H := H1
                          clear H1
                          simp only [Option.some.injEq, Prod.mk.injEq] at H
                          obtain ⟨rfl, rfl⟩ := H
                          have p112 : 0 ≤ (0 : Int) := (by omega)
                          have q112 : 0 < (l0.length : Int) := of_decide_eq_true (by first | (with_reducible assumption) | assumption)
                          obtain ⟨ad112, e112, hx112_0⟩ := Kd.at_int HR0.out 0 p112 q112
                          cases e112
                          have qi112 : (0 < l0.length) = True := eq_true (by omega)
                          (try rw [show ((0 : Int)).toNat = 0 from rfl] at hx112_0)
                          (try rw [Addr.add_zero'] at hx112_0)
                          replace hx112_0 := (HB.out.cell (World.block_lt_of_cell? w _ hx112_0)).trans hx112_0
                          replace p112 := eq_true p112
                          replace q112 := eq_true q112
                          have p113 : 0 ≤ (1 : Int) := (by omega)
                          have q113 : 1 < (l0.length : Int) := of_decide_eq_true (by first | (with_reducible assumption) | assumption)
                          obtain ⟨ad113, e113, hx113_0⟩ := Kd.at_int HR0.out 1 p113 q113
                          obtain rfl : ad112 = ad113 := (by injection e113)
                          (try simp only [show (1 : Int).toNat = 1 from rfl, Nat.reduceMul, Nat.reduceEqDiff, Go.Addr.add, ↓reduceIte] at hx113_0)
                          have qi113 : (1 < l0.length) = True := eq_true (by omega)
                          (try rw [show ((1 : Int)).toNat = 1 from rfl] at hx113_0)
                          replace hx113_0 := (HB.out.cell (World.block_lt_of_cell? w _ hx113_0)).trans hx113_0
                          replace p113 := eq_true p113
                          replace q113 := eq_true q113
                          have p114 : 0 ≤ (2 : Int) := (by omega)
                          have q114 : 2 < (l0.length : Int) := of_decide_eq_true (by first | (with_reducible assumption) | assumption)
                          obtain ⟨ad114, e114, hx114_0⟩ := Kd.at_int HR0.out 2 p114 q114
                          obtain rfl : ad112 = ad114 := (by injection e114)
                          (try simp only [show (2 : Int).toNat = 2 from rfl, Nat.reduceMul, Nat.reduceEqDiff, Go.Addr.add, ↓reduceIte] at hx114_0)
                          have qi114 : (2 < l0.length) = True := eq_true (by omega)
                          (try rw [show ((2 : Int)).toNat = 2 from rfl] at hx114_0)
                          replace hx114_0 := (HB.out.cell (World.block_lt_of_cell? w _ hx114_0)).trans hx114_0
                          replace p114 := eq_true p114
                          replace q114 := eq_true q114
                          have p115 : 0 ≤ (3 : Int) := (by omega)
                          have q115 : 3 < (l0.length : Int) := of_decide_eq_true (by first | (with_reducible assumption) | assumption)
                          obtain ⟨ad115, e115, hx115_0⟩ := Kd.at_int HR0.out 3 p115 q115
                          obtain rfl : ad112 = ad115 := (by injection e115)
                          (try simp only [show (3 : Int).toNat = 3 from rfl, Nat.reduceMul, Nat.reduceEqDiff, Go.Addr.add, ↓reduceIte] at hx115_0)
                          have qi115 : (3 < l0.length) = True := eq_true (by omega)
                          (try rw [show ((3 : Int)).toNat = 3 from rfl] at hx115_0)
                          replace hx115_0 := (HB.out.cell (World.block_lt_of_cell? w _ hx115_0)).trans hx115_0
                          replace p115 := eq_true p115
                          replace q115 := eq_true q115
                          have p116 : 0 ≤ (0 : Int) := (by omega)
                          have q116 : 0 < (l1.length : Int) := of_decide_eq_true (by first | (with_reducible assumption) | assumption)
                          obtain ⟨ad116, e116, hx116_0⟩ := Kd.at_int HR1.out 0 p116 q116
                          cases e116
                          have qi116 : (0 < l1.length) = True := eq_true (by omega)
                          (try rw [show ((0 : Int)).toNat = 0 from rfl] at hx116_0)
                          (try rw [Addr.add_zero'] at hx116_0)
                          replace hx116_0 := (HB.out.cell (World.block_lt_of_cell? w _ hx116_0)).trans hx116_0
                          replace p116 := eq_true p116
                          replace q116 := eq_true q116
                          have p117 : 0 ≤ (1 : Int) := (by omega)
                          have q117 : 1 < (l1.length : Int) := of_decide_eq_true (by first | (with_reducible assumption) | assumption)
                          obtain ⟨ad117, e117, hx117_0⟩ := Kd.at_int HR1.out 1 p117 q117
                          obtain rfl : ad116 = ad117 := (by injection e117)
                          (try simp only [show (1 : Int).toNat = 1 from rfl, Nat.reduceMul, Nat.reduceEqDiff, Go.Addr.add, ↓reduceIte] at hx117_0)
                          have qi117 : (1 < l1.length) = True := eq_true (by omega)
                          (try rw [show ((1 : Int)).toNat = 1 from rfl] at hx117_0)
                          replace hx117_0 := (HB.out.cell (World.block_lt_of_cell? w _ hx117_0)).trans hx117_0
                          replace p117 := eq_true p117
                          replace q117 := eq_true q117
                          have p118 : 0 ≤ (2 : Int) := (by omega)
                          have q118 : 2 < (l1.length : Int) := of_decide_eq_true (by first | (with_reducible assumption) | assumption)
                          obtain ⟨ad118, e118, hx118_0⟩ := Kd.at_int HR1.out 2 p118 q118
                          obtain rfl : ad116 = ad118 := (by injection e118)
                          (try simp only [show (2 : Int).toNat = 2 from rfl, Nat.reduceMul, Nat.reduceEqDiff, Go.Addr.add, ↓reduceIte] at hx118_0)
                          have qi118 : (2 < l1.length) = True := eq_true (by omega)
                          (try rw [show ((2 : Int)).toNat = 2 from rfl] at hx118_0)
                          replace hx118_0 := (HB.out.cell (World.block_lt_of_cell? w _ hx118_0)).trans hx118_0
                          replace p118 := eq_true p118
                          replace q118 := eq_true q118
                          have p119 : 0 ≤ (3 : Int) := (by omega)
                          have q119 : 3 < (l1.length : Int) := of_decide_eq_true (by first | (with_reducible assumption) | assumption)
                          obtain ⟨ad119, e119, hx119_0⟩ := Kd.at_int HR1.out 3 p119 q119
                          obtain rfl : ad116 = ad119 := (by injection e119)
                          (try simp only [show (3 : Int).toNat = 3 from rfl, Nat.reduceMul, Nat.reduceEqDiff, Go.Addr.add, ↓reduceIte] at hx119_0)
                          have qi119 : (3 < l1.length) = True := eq_true (by omega)
                          (try rw [show ((3 : Int)).toNat = 3 from rfl] at hx119_0)
                          replace hx119_0 := (HB.out.cell (World.block_lt_of_cell? w _ hx119_0)).trans hx119_0
                          replace p119 := eq_true p119
                          replace q119 := eq_true q119
                          go_wp2_with (first | ((with_reducible refine gate_dst (N := 107) rfl ?_); refine Kd.R_lit (Kd.int .i64) _ 3 ?hg (N := 107) ?hd (xs := ([wrap64 ((wrap64 ((wrap64 ((wrap64 ((rd l0 0) * (rd l1 0))) - (wrap64 ((rd l0 1) * (rd l1 1))))) - (wrap64 ((rd l0 2) * (rd l1 2))))) - (wrap64 ((rd l0 3) * (rd l1 3)))), wrap64 ((wrap64 ((wrap64 ((wrap64 ((rd l0 0) * (rd l1 1))) + (wrap64 ((rd l0 1) * (rd l1 0))))) + (wrap64 ((rd l0 2) * (rd l1 3))))) - (wrap64 ((rd l0 3) * (rd l1 2)))), wrap64 ((wrap64 ((wrap64 ((wrap64 ((rd l0 0) * (rd l1 2))) - (wrap64 ((rd l0 1) * (rd l1 3))))) + (wrap64 ((rd l0 2) * (rd l1 0))))) + (wrap64 ((rd l0 3) * (rd l1 1)))), wrap64 ((wrap64 ((wrap64 ((wrap64 ((rd l0 0) * (rd l1 3))) + (wrap64 ((rd l0 1) * (rd l1 2))))) - (wrap64 ((rd l0 2) * (rd l1 1))))) + (wrap64 ((rd l0 3) * (rd l1 0))))] : List Int)) (inner := [.int .i64 (wrap64 ((wrap64 ((wrap64 ((wrap64 ((rd l0 0) * (rd l1 0))) - (wrap64 ((rd l0 1) * (rd l1 1))))) - (wrap64 ((rd l0 2) * (rd l1 2))))) - (wrap64 ((rd l0 3) * (rd l1 3))))), .int .i64 (wrap64 ((wrap64 ((wrap64 ((wrap64 ((rd l0 0) * (rd l1 1))) + (wrap64 ((rd l0 1) * (rd l1 0))))) + (wrap64 ((rd l0 2) * (rd l1 3))))) - (wrap64 ((rd l0 3) * (rd l1 2))))), .int .i64 (wrap64 ((wrap64 ((wrap64 ((wrap64 ((rd l0 0) * (rd l1 2))) - (wrap64 ((rd l0 1) * (rd l1 3))))) + (wrap64 ((rd l0 2) * (rd l1 0))))) + (wrap64 ((rd l0 3) * (rd l1 1))))), .int .i64 (wrap64 ((wrap64 ((wrap64 ((wrap64 ((rd l0 0) * (rd l1 3))) + (wrap64 ((rd l0 1) * (rd l1 2))))) - (wrap64 ((rd l0 2) * (rd l1 1))))) + (wrap64 ((rd l0 3) * (rd l1 0)))))]) (ok := fun _ => True) (okp := fun _ => True) ?hr ?hp (fun _ hk => hk) trivial (Below.refl _ _) (Nat.le_refl _) (by simp) ?_; (case hd => rfl); (case hg => rfl); (case hr => first | (go_simp; done) | (go_simp; rfl)); (case hp => exact (Reps.one (show Kd.M (Kd.int .i64) _ _ _ (wrap64 ((wrap64 ((wrap64 ((wrap64 ((rd l0 0) * (rd l1 0))) - (wrap64 ((rd l0 1) * (rd l1 1))))) - (wrap64 ((rd l0 2) * (rd l1 2))))) - (wrap64 ((rd l0 3) * (rd l1 3))))) [.int .i64 (wrap64 ((wrap64 ((wrap64 ((wrap64 ((rd l0 0) * (rd l1 0))) - (wrap64 ((rd l0 1) * (rd l1 1))))) - (wrap64 ((rd l0 2) * (rd l1 2))))) - (wrap64 ((rd l0 3) * (rd l1 3)))))] from rfl) (Reps.one (show Kd.M (Kd.int .i64) _ _ _ (wrap64 ((wrap64 ((wrap64 ((wrap64 ((rd l0 0) * (rd l1 1))) + (wrap64 ((rd l0 1) * (rd l1 0))))) + (wrap64 ((rd l0 2) * (rd l1 3))))) - (wrap64 ((rd l0 3) * (rd l1 2))))) [.int .i64 (wrap64 ((wrap64 ((wrap64 ((wrap64 ((rd l0 0) * (rd l1 1))) + (wrap64 ((rd l0 1) * (rd l1 0))))) + (wrap64 ((rd l0 2) * (rd l1 3))))) - (wrap64 ((rd l0 3) * (rd l1 2)))))] from rfl) (Reps.one (show Kd.M (Kd.int .i64) _ _ _ (wrap64 ((wrap64 ((wrap64 ((wrap64 ((rd l0 0) * (rd l1 2))) - (wrap64 ((rd l0 1) * (rd l1 3))))) + (wrap64 ((rd l0 2) * (rd l1 0))))) + (wrap64 ((rd l0 3) * (rd l1 1))))) [.int .i64 (wrap64 ((wrap64 ((wrap64 ((wrap64 ((rd l0 0) * (rd l1 2))) - (wrap64 ((rd l0 1) * (rd l1 3))))) + (wrap64 ((rd l0 2) * (rd l1 0))))) + (wrap64 ((rd l0 3) * (rd l1 1)))))] from rfl) (Reps.one (show Kd.M (Kd.int .i64) _ _ _ (wrap64 ((wrap64 ((wrap64 ((wrap64 ((rd l0 0) * (rd l1 3))) + (wrap64 ((rd l0 1) * (rd l1 2))))) - (wrap64 ((rd l0 2) * (rd l1 1))))) + (wrap64 ((rd l0 3) * (rd l1 0))))) [.int .i64 (wrap64 ((wrap64 ((wrap64 ((wrap64 ((rd l0 0) * (rd l1 3))) + (wrap64 ((rd l0 1) * (rd l1 2))))) - (wrap64 ((rd l0 2) * (rd l1 1))))) + (wrap64 ((rd l0 3) * (rd l1 0)))))] from rfl) (Reps.none _ _)))))); intro v121 w25 ho26 hb hg_ hnew_; clear hg_ hnew_; (first | rw [← Ny120.out] at ho26 | (simp only [Int.reduceToNat] at ho26; rw [← Ny120.out] at ho26)); have n0_ := Aside0.mk (Kd.R_lower ho26 (below_size (by repeat (first | (with_reducible first | exact HB.out | apply below_alloc | apply pw_below_drewN | apply below_drew1) | exact HB.out)))); have n1_ := Aside0.mk (below_step (by repeat (first | (with_reducible first | exact HB.out | apply below_alloc | apply pw_below_drewN | apply below_drew1) | exact HB.out)) hb); clear HB; have HO122 := n0_; have HB := n1_; clear n0_ n1_; clear hb ho26; obtain ⟨Ao27, co27, eo27⟩ := Kd.R_slice HO122.out; subst eo27) | (go_at_call 52; (with_reducible refine (impl_QuatValid.calls kj2 _ _ y120 false _ ?side1 ?side2 A19.out).mono ?_); (case side1 => repeat (first | exact (Kd.R_reads' HO122.out).2.2 | (with_reducible refine Kd.C_alloc ?_ _) | (with_reducible refine Kd.C_drewN ?_ _) | (with_reducible refine Kd.C_drew ?_))); (case side2 => exact (Kd.R_reads' HO122.out).2.1); rintro e w28 ⟨rfl, hb⟩; have n0_ := Aside0.mk (Kd.R_below (by (with_reducible repeat (first | apply Kd.R_alloc | apply Kd.R_drewN | apply Kd.R_drew)); exact HO122.out) hb); have n1_ := Aside0.mk (below_step (by repeat (first | (with_reducible first | exact HB.out | apply below_alloc | apply pw_below_drewN | apply below_drew1) | exact HB.out)) hb); clear HO122; clear HB; have HO122 := n0_; have HB := n1_; clear n0_ n1_; (try clear hb); (try clear hb2); (try clear hk); (try clear hi)))
                          repeat (go_quiet (first | ((with_reducible refine gate_dst (N := 107) rfl ?_); refine Kd.R_lit (Kd.int .i64) _ 3 ?hg (N := 107) ?hd (xs := ([wrap64 ((wrap64 ((wrap64 ((wrap64 ((rd l0 0) * (rd l1 0))) - (wrap64 ((rd l0 1) * (rd l1 1))))) - (wrap64 ((rd l0 2) * (rd l1 2))))) - (wrap64 ((rd l0 3) * (rd l1 3)))), wrap64 ((wrap64 ((wrap64 ((wrap64 ((rd l0 0) * (rd l1 1))) + (wrap64 ((rd l0 1) * (rd l1 0))))) + (wrap64 ((rd l0 2) * (rd l1 3))))) - (wrap64 ((rd l0 3) * (rd l1 2)))), wrap64 ((wrap64 ((wrap64 ((wrap64 ((rd l0 0) * (rd l1 2))) - (wrap64 ((rd l0 1) * (rd l1 3))))) + (wrap64 ((rd l0 2) * (rd l1 0))))) + (wrap64 ((rd l0 3) * (rd l1 1)))), wrap64 ((wrap64 ((wrap64 ((wrap64 ((rd l0 0) * (rd l1 3))) + (wrap64 ((rd l0 1) * (rd l1 2))))) - (wrap64 ((rd l0 2) * (rd l1 1))))) + (wrap64 ((rd l0 3) * (rd l1 0))))] : List Int)) (inner := [.int .i64 (wrap64 ((wrap64 ((wrap64 ((wrap64 ((rd l0 0) * (rd l1 0))) - (wrap64 ((rd l0 1) * (rd l1 1))))) - (wrap64 ((rd l0 2) * (rd l1 2))))) - (wrap64 ((rd l0 3) * (rd l1 3))))), .int .i64 (wrap64 ((wrap64 ((wrap64 ((wrap64 ((rd l0 0) * (rd l1 1))) + (wrap64 ((rd l0 1) * (rd l1 0))))) + (wrap64 ((rd l0 2) * (rd l1 3))))) - (wrap64 ((rd l0 3) * (rd l1 2))))), .int .i64 (wrap64 ((wrap64 ((wrap64 ((wrap64 ((rd l0 0) * (rd l1 2))) - (wrap64 ((rd l0 1) * (rd l1 3))))) + (wrap64 ((rd l0 2) * (rd l1 0))))) + (wrap64 ((rd l0 3) * (rd l1 1))))), .int .i64 (wrap64 ((wrap64 ((wrap64 ((wrap64 ((rd l0 0) * (rd l1 3))) + (wrap64 ((rd l0 1) * (rd l1 2))))) - (wrap64 ((rd l0 2) * (rd l1 1))))) + (wrap64 ((rd l0 3) * (rd l1 0)))))]) (ok := fun _ => True) (okp := fun _ => True) ?hr ?hp (fun _ hk => hk) trivial (Below.refl _ _) (Nat.le_refl _) (by simp) ?_; (case hd => rfl); (case hg => rfl); (case hr => first | (go_simp; done) | (go_simp; rfl)); (case hp => exact (Reps.one (show Kd.M (Kd.int .i64) _ _ _ (wrap64 ((wrap64 ((wrap64 ((wrap64 ((rd l0 0) * (rd l1 0))) - (wrap64 ((rd l0 1) * (rd l1 1))))) - (wrap64 ((rd l0 2) * (rd l1 2))))) - (wrap64 ((rd l0 3) * (rd l1 3))))) [.int .i64 (wrap64 ((wrap64 ((wrap64 ((wrap64 ((rd l0 0) * (rd l1 0))) - (wrap64 ((rd l0 1) * (rd l1 1))))) - (wrap64 ((rd l0 2) * (rd l1 2))))) - (wrap64 ((rd l0 3) * (rd l1 3)))))] from rfl) (Reps.one (show Kd.M (Kd.int .i64) _ _ _ (wrap64 ((wrap64 ((wrap64 ((wrap64 ((rd l0 0) * (rd l1 1))) + (wrap64 ((rd l0 1) * (rd l1 0))))) + (wrap64 ((rd l0 2) * (rd l1 3))))) - (wrap64 ((rd l0 3) * (rd l1 2))))) [.int .i64 (wrap64 ((wrap64 ((wrap64 ((wrap64 ((rd l0 0) * (rd l1 1))) + (wrap64 ((rd l0 1) * (rd l1 0))))) + (wrap64 ((rd l0 2) * (rd l1 3))))) - (wrap64 ((rd l0 3) * (rd l1 2)))))] from rfl) (Reps.one (show Kd.M (Kd.int .i64) _ _ _ (wrap64 ((wrap64 ((wrap64 ((wrap64 ((rd l0 0) * (rd l1 2))) - (wrap64 ((rd l0 1) * (rd l1 3))))) + (wrap64 ((rd l0 2) * (rd l1 0))))) + (wrap64 ((rd l0 3) * (rd l1 1))))) [.int .i64 (wrap64 ((wrap64 ((wrap64 ((wrap64 ((rd l0 0) * (rd l1 2))) - (wrap64 ((rd l0 1) * (rd l1 3))))) + (wrap64 ((rd l0 2) * (rd l1 0))))) + (wrap64 ((rd l0 3) * (rd l1 1)))))] from rfl) (Reps.one (show Kd.M (Kd.int .i64) _ _ _ (wrap64 ((wrap64 ((wrap64 ((wrap64 ((rd l0 0) * (rd l1 3))) + (wrap64 ((rd l0 1) * (rd l1 2))))) - (wrap64 ((rd l0 2) * (rd l1 1))))) + (wrap64 ((rd l0 3) * (rd l1 0))))) [.int .i64 (wrap64 ((wrap64 ((wrap64 ((wrap64 ((rd l0 0) * (rd l1 3))) + (wrap64 ((rd l0 1) * (rd l1 2))))) - (wrap64 ((rd l0 2) * (rd l1 1))))) + (wrap64 ((rd l0 3) * (rd l1 0)))))] from rfl) (Reps.none _ _)))))); intro v121 w25 ho26 hb hg_ hnew_; clear hg_ hnew_; (first | rw [← Ny120.out] at ho26 | (simp only [Int.reduceToNat] at ho26; rw [← Ny120.out] at ho26)); have n0_ := Aside0.mk (Kd.R_lower ho26 (below_size (by repeat (first | (with_reducible first | exact HB.out | apply below_alloc | apply pw_below_drewN | apply below_drew1) | exact HB.out)))); have n1_ := Aside0.mk (below_step (by repeat (first | (with_reducible first | exact HB.out | apply below_alloc | apply pw_below_drewN | apply below_drew1) | exact HB.out)) hb); clear HB; have HO122 := n0_; have HB := n1_; clear n0_ n1_; clear hb ho26; obtain ⟨Ao27, co27, eo27⟩ := Kd.R_slice HO122.out; subst eo27) | (go_at_call 52; (with_reducible refine (impl_QuatValid.calls kj2 _ _ y120 false _ ?side1 ?side2 A19.out).mono ?_); (case side1 => repeat (first | exact (Kd.R_reads' HO122.out).2.2 | (with_reducible refine Kd.C_alloc ?_ _) | (with_reducible refine Kd.C_drewN ?_ _) | (with_reducible refine Kd.C_drew ?_))); (case side2 => exact (Kd.R_reads' HO122.out).2.1); rintro e w28 ⟨rfl, hb⟩; have n0_ := Aside0.mk (Kd.R_below (by (with_reducible repeat (first | apply Kd.R_alloc | apply Kd.R_drewN | apply Kd.R_drew)); exact HO122.out) hb); have n1_ := Aside0.mk (below_step (by repeat (first | (with_reducible first | exact HB.out | apply below_alloc | apply pw_below_drewN | apply below_drew1) | exact HB.out)) hb); clear HO122; clear HB; have HO122 := n0_; have HB := n1_; clear n0_ n1_; (try clear hb); (try clear hb2); (try clear hk); (try clear hi))); try go_wp2_with (first | ((with_reducible refine gate_dst (N := 107) rfl ?_); refine Kd.R_lit (Kd.int .i64) _ 3 ?hg (N := 107) ?hd (xs := ([wrap64 ((wrap64 ((wrap64 ((wrap64 ((rd l0 0) * (rd l1 0))) - (wrap64 ((rd l0 1) * (rd l1 1))))) - (wrap64 ((rd l0 2) * (rd l1 2))))) - (wrap64 ((rd l0 3) * (rd l1 3)))), wrap64 ((wrap64 ((wrap64 ((wrap64 ((rd l0 0) * (rd l1 1))) + (wrap64 ((rd l0 1) * (rd l1 0))))) + (wrap64 ((rd l0 2) * (rd l1 3))))) - (wrap64 ((rd l0 3) * (rd l1 2)))), wrap64 ((wrap64 ((wrap64 ((wrap64 ((rd l0 0) * (rd l1 2))) - (wrap64 ((rd l0 1) * (rd l1 3))))) + (wrap64 ((rd l0 2) * (rd l1 0))))) + (wrap64 ((rd l0 3) * (rd l1 1)))), wrap64 ((wrap64 ((wrap64 ((wrap64 ((rd l0 0) * (rd l1 3))) + (wrap64 ((rd l0 1) * (rd l1 2))))) - (wrap64 ((rd l0 2) * (rd l1 1))))) + (wrap64 ((rd l0 3) * (rd l1 0))))] : List Int)) (inner := [.int .i64 (wrap64 ((wrap64 ((wrap64 ((wrap64 ((rd l0 0) * (rd l1 0))) - (wrap64 ((rd l0 1) * (rd l1 1))))) - (wrap64 ((rd l0 2) * (rd l1 2))))) - (wrap64 ((rd l0 3) * (rd l1 3))))), .int .i64 (wrap64 ((wrap64 ((wrap64 ((wrap64 ((rd l0 0) * (rd l1 1))) + (wrap64 ((rd l0 1) * (rd l1 0))))) + (wrap64 ((rd l0 2) * (rd l1 3))))) - (wrap64 ((rd l0 3) * (rd l1 2))))), .int .i64 (wrap64 ((wrap64 ((wrap64 ((wrap64 ((rd l0 0) * (rd l1 2))) - (wrap64 ((rd l0 1) * (rd l1 3))))) + (wrap64 ((rd l0 2) * (rd l1 0))))) + (wrap64 ((rd l0 3) * (rd l1 1))))), .int .i64 (wrap64 ((wrap64 ((wrap64 ((wrap64 ((rd l0 0) * (rd l1 3))) + (wrap64 ((rd l0 1) * (rd l1 2))))) - (wrap64 ((rd l0 2) * (rd l1 1))))) + (wrap64 ((rd l0 3) * (rd l1 0)))))]) (ok := fun _ => True) (okp := fun _ => True) ?hr ?hp (fun _ hk => hk) trivial (Below.refl _ _) (Nat.le_refl _) (by simp) ?_; (case hd => rfl); (case hg => rfl); (case hr => first | (go_simp; done) | (go_simp; rfl)); (case hp => exact (Reps.one (show Kd.M (Kd.int .i64) _ _ _ (wrap64 ((wrap64 ((wrap64 ((wrap64 ((rd l0 0) * (rd l1 0))) - (wrap64 ((rd l0 1) * (rd l1 1))))) - (wrap64 ((rd l0 2) * (rd l1 2))))) - (wrap64 ((rd l0 3) * (rd l1 3))))) [.int .i64 (wrap64 ((wrap64 ((wrap64 ((wrap64 ((rd l0 0) * (rd l1 0))) - (wrap64 ((rd l0 1) * (rd l1 1))))) - (wrap64 ((rd l0 2) * (rd l1 2))))) - (wrap64 ((rd l0 3) * (rd l1 3)))))] from rfl) (Reps.one (show Kd.M (Kd.int .i64) _ _ _ (wrap64 ((wrap64 ((wrap64 ((wrap64 ((rd l0 0) * (rd l1 1))) + (wrap64 ((rd l0 1) * (rd l1 0))))) + (wrap64 ((rd l0 2) * (rd l1 3))))) - (wrap64 ((rd l0 3) * (rd l1 2))))) [.int .i64 (wrap64 ((wrap64 ((wrap64 ((wrap64 ((rd l0 0) * (rd l1 1))) + (wrap64 ((rd l0 1) * (rd l1 0))))) + (wrap64 ((rd l0 2) * (rd l1 3))))) - (wrap64 ((rd l0 3) * (rd l1 2)))))] from rfl) (Reps.one (show Kd.M (Kd.int .i64) _ _ _ (wrap64 ((wrap64 ((wrap64 ((wrap64 ((rd l0 0) * (rd l1 2))) - (wrap64 ((rd l0 1) * (rd l1 3))))) + (wrap64 ((rd l0 2) * (rd l1 0))))) + (wrap64 ((rd l0 3) * (rd l1 1))))) [.int .i64 (wrap64 ((wrap64 ((wrap64 ((wrap64 ((rd l0 0) * (rd l1 2))) - (wrap64 ((rd l0 1) * (rd l1 3))))) + (wrap64 ((rd l0 2) * (rd l1 0))))) + (wrap64 ((rd l0 3) * (rd l1 1)))))] from rfl) (Reps.one (show Kd.M (Kd.int .i64) _ _ _ (wrap64 ((wrap64 ((wrap64 ((wrap64 ((rd l0 0) * (rd l1 3))) + (wrap64 ((rd l0 1) * (rd l1 2))))) - (wrap64 ((rd l0 2) * (rd l1 1))))) + (wrap64 ((rd l0 3) * (rd l1 0))))) [.int .i64 (wrap64 ((wrap64 ((wrap64 ((wrap64 ((rd l0 0) * (rd l1 3))) + (wrap64 ((rd l0 1) * (rd l1 2))))) - (wrap64 ((rd l0 2) * (rd l1 1))))) + (wrap64 ((rd l0 3) * (rd l1 0)))))] from rfl) (Reps.none _ _)))))); intro v121 w25 ho26 hb hg_ hnew_; clear hg_ hnew_; (first | rw [← Ny120.out] at ho26 | (simp only [Int.reduceToNat] at ho26; rw [← Ny120.out] at ho26)); have n0_ := Aside0.mk (Kd.R_lower ho26 (below_size (by repeat (first | (with_reducible first | exact HB.out | apply below_alloc | apply pw_below_drewN | apply below_drew1) | exact HB.out)))); have n1_ := Aside0.mk (below_step (by repeat (first | (with_reducible first | exact HB.out | apply below_alloc | apply pw_below_drewN | apply below_drew1) | exact HB.out)) hb); clear HB; have HO122 := n0_; have HB := n1_; clear n0_ n1_; clear hb ho26; obtain ⟨Ao27, co27, eo27⟩ := Kd.R_slice HO122.out; subst eo27) | (go_at_call 52; (with_reducible refine (impl_QuatValid.calls kj2 _ _ y120 false _ ?side1 ?side2 A19.out).mono ?_); (case side1 => repeat (first | exact (Kd.R_reads' HO122.out).2.2 | (with_reducible refine Kd.C_alloc ?_ _) | (with_reducible refine Kd.C_drewN ?_ _) | (with_reducible refine Kd.C_drew ?_))); (case side2 => exact (Kd.R_reads' HO122.out).2.1); rintro e w28 ⟨rfl, hb⟩; have n0_ := Aside0.mk (Kd.R_below (by (with_reducible repeat (first | apply Kd.R_alloc | apply Kd.R_drewN | apply Kd.R_drew)); exact HO122.out) hb); have n1_ := Aside0.mk (below_step (by repeat (first | (with_reducible first | exact HB.out | apply below_alloc | apply pw_below_drewN | apply below_drew1) | exact HB.out)) hb); clear HO122; clear HB; have HO122 := n0_; have HB := n1_; clear n0_ n1_; (try clear hb); (try clear hb2); (try clear hk); (try clear hi))))
                          go_ret2
                          exact ⟨_, by first | rfl | (simp [errW_none, errW_some] <;> rfl) | (simp [*, errW_none, errW_some] <;> rfl), by first | exact Kd.R_nil _ _ _ _ _ | exact Kd.N_nil _ _ _ _ _ | exact Kd.V_nil _ _ _ _ _ | exact Kd.Q_nil _ _ _ _ _ | exact Kd.S_nil _ _ _ _ _, by repeat (first | (with_reducible first | exact HB.out | apply below_alloc | apply pw_below_drewN | apply below_drew1) | exact HB.out)⟩
                      · rw [if_neg c18] at H
                        exact absurd H (by simp)
                    · rw [if_neg c17] at H
                      exact absurd H (by simp)
                  · rw [if_neg c16] at H
                    exact absurd H (by simp)
                · rw [if_neg c15] at H
                  exact absurd H (by simp)
              · rw [if_neg c14] at H
                exact absurd H (by simp)
            · rw [if_neg c13] at H
              exact absurd H (by simp)
          · rw [if_neg c12] at H
            exact absurd H (by simp)
        · rw [if_neg c11] at H
          exact absurd H (by simp)

/-! ### laws_eqIntS: function 22 -/
def laws_eqIntS.l0 : Nat → List Int → List Int → Int → Option (Bool)
  | 0, _, _, _ => none
  | k + 1, x0, x1, x5 => if x5 < (x0.length : Int) then (if 0 ≤ x5 then (if x5 < (x1.length : Int) then (if (rd x0 x5) = (rd x1 x5) then (laws_eqIntS.l0 k x0 x1 (wrap64 (x5 + 1))) else (some false)) else (none)) else (none)) else (some true)
def laws_eqIntS.f (k : Nat) (l0 : List Int) (l1 : List Int) : Option (Bool) := if (l0.length : Int) = (l1.length : Int) then (laws_eqIntS.l0 k l0 l1 0) else (some false)
set_option maxHeartbeats 8000000 in
set_option maxRecDepth 100000 in
theorem laws_eqIntS.calls (k : Nat) (A0 : Option Addr) (c0 : Nat) (l0 : List Int) (A1 : Option Addr) (c1 : Nat) (l1 : List Int) (r : Bool) (w : World) (hr0 : Kd.C (Kd.int .i64) w A0 l0.length l0) (hc0 : l0.length ≤ c0) (hr1 : Kd.C (Kd.int .i64) w A1 l1.length l1) (hc1 : l1.length ≤ c1) (h : laws_eqIntS.f k l0 l1 = some r) :
    Calls Try.prog 22 #[.slice A0 l0.length c0, .slice A1 l1.length c1] w fun e w' => e = .returned (.bool r) ∧ Drawn0 w w' := by
  have HR0 := Aside0.mk hr0
  have HC0 := Aside0.mk hc0
  clear hr0 hc0
  have HR1 := Aside0.mk hr1
  have HC1 := Aside0.mk hc1
  clear hr1 hc1
  have H : (if (l0.length : Int) = (l1.length : Int) then (laws_eqIntS.l0 k l0 l1 0) else (some false)) = some r := h
  clear h
  by_cases c3 : (l0.length : Int) = (l1.length : Int)
  · rw [if_pos c3] at H
    have c3b0 : ((l0.length : Int) == (l1.length : Int)) = true := beq_iff_eq.mpr c3
    have c3b1 : ((l0.length : Int) != (l1.length : Int)) = false := bne_eq_false_iff_eq.mpr c3
    have c3b2 : (l0.length == l1.length) = true := by first | simpa using c3 | (simp at c3 ⊢; omega)
    clear c3
    have H' := Aside0.mk H
    clear H
    go_enter Try.func22, Try.ntmps22
    go_wp2
    repeat (go_quiet (fail); try go_wp2)
    go_loopg [5] k (fun kq v5 w' => ∃ (x5_1 : Int), v5 = .int .i64 x5_1 ∧ Aside0 (laws_eqIntS.l0 kq l0 l1 x5_1 = some r) ∧ Aside0 (kq ≤ k) ∧ Drawn0 w w')
    case atStart => exact ⟨(0), (by first | rfl | (simp; done) | (simp [*]; done)), H', ⟨Nat.le_refl _⟩, by repeat (first | exact Drawn0.refl _ | apply Drawn0.step)⟩
    case round =>
      clear H'
      try clear c1
      try clear c2
      try clear p2
      try clear c3
      try clear c3b0
      try clear c3b1
      try clear c3b2
      obtain ⟨x5_1, rfl, HA, HK1, ⟨m1, rfl⟩⟩ := hrel
      cases gk with
      | zero => exact absurd HA.out (by simp [laws_eqIntS.l0])
      | succ k1 =>
        have H := HA.out
        clear HA
        simp only [laws_eqIntS.l0] at H
        by_cases c4 : x5_1 < (l0.length : Int)
        · rw [if_pos c4] at H
          have c4b0 : decide (x5_1 < (l0.length : Int)) = true := decide_eq_true c4
          clear c4
          by_cases c5 : 0 ≤ x5_1
          · rw [if_pos c5] at H
            have c5b0 : decide (0 ≤ x5_1) = true := decide_eq_true c5
            clear c5
            by_cases c6 : x5_1 < (l1.length : Int)
            · rw [if_pos c6] at H
              have c6b0 : decide (x5_1 < (l1.length : Int)) = true := decide_eq_true c6
              clear c6
              by_cases c7 : (rd l0 x5_1) = (rd l1 x5_1)
              · rw [if_pos c7] at H
                have c7b0 : ((rd l0 x5_1) == (rd l1 x5_1)) = true := beq_iff_eq.mpr c7
                have c7b1 : ((rd l0 x5_1) != (rd l1 x5_1)) = false := bne_eq_false_iff_eq.mpr c7
                clear c7
                have H' := Aside0.mk H
                clear H
                have p124 : 0 ≤ (x5_1 : Int) := of_decide_eq_true (by first | (with_reducible assumption) | assumption)
                have q124 : x5_1 < (l0.length : Int) := of_decide_eq_true (by first | (with_reducible assumption) | assumption)
                obtain ⟨ad124, e124, hx124_0⟩ := Kd.at_int HR0.out x5_1 p124 q124
                cases e124
                replace p124 := eq_true p124
                replace q124 := eq_true q124
                have p125 : 0 ≤ (x5_1 : Int) := of_decide_eq_true (by first | (with_reducible assumption) | assumption)
                have q125 : x5_1 < (l1.length : Int) := of_decide_eq_true (by first | (with_reducible assumption) | assumption)
                obtain ⟨ad125, e125, hx125_0⟩ := Kd.at_int HR1.out x5_1 p125 q125
                cases e125
                replace p125 := eq_true p125
                replace q125 := eq_true q125
                go_wp2
                repeat (go_quiet (fail); try go_wp2)
                go_roundg k1
                case measure => have := HK1.out; omega
                case rel => exact ⟨(wrap64 (x5_1 + 1)), (by first | rfl | (simp; done) | (simp [*]; done)), H', ⟨by have := HK1.out; omega⟩, by repeat (first | exact Drawn0.refl _ | apply Drawn0.step)⟩
              · rw [if_neg c7] at H
                have c7b0 : ((rd l0 x5_1) == (rd l1 x5_1)) = false := beq_eq_false_iff_ne.mpr c7
                have c7b1 : ((rd l0 x5_1) != (rd l1 x5_1)) = true := bne_iff_ne.mpr c7
                obtain rfl := Option.some.inj H
                have p124 : 0 ≤ (x5_1 : Int) := of_decide_eq_true (by first | (with_reducible assumption) | assumption)
                have q124 : x5_1 < (l0.length : Int) := of_decide_eq_true (by first | (with_reducible assumption) | assumption)
                obtain ⟨ad124, e124, hx124_0⟩ := Kd.at_int HR0.out x5_1 p124 q124
                cases e124
                replace p124 := eq_true p124
                replace q124 := eq_true q124
                have p125 : 0 ≤ (x5_1 : Int) := of_decide_eq_true (by first | (with_reducible assumption) | assumption)
                have q125 : x5_1 < (l1.length : Int) := of_decide_eq_true (by first | (with_reducible assumption) | assumption)
                obtain ⟨ad125, e125, hx125_0⟩ := Kd.at_int HR1.out x5_1 p125 q125
                cases e125
                replace p125 := eq_true p125
                replace q125 := eq_true q125
                go_wp2
                repeat (go_quiet (fail); try go_wp2)
                go_ret
                exact ⟨by first | rfl | (simp; done) | (simp [*]; done), by repeat (first | exact Drawn0.refl _ | apply Drawn0.step)⟩
            · rw [if_neg c6] at H
              exact absurd H (by simp)
          · rw [if_neg c5] at H
            exact absurd H (by simp)
        · rw [if_neg c4] at H
          have c4b0 : decide (x5_1 < (l0.length : Int)) = false := decide_eq_false c4
          clear c4
          obtain rfl := Option.some.inj H
          go_wp2
          repeat (go_quiet (fail); try go_wp2)
          go_ret
          exact ⟨by first | rfl | (simp; done) | (simp [*]; done), by repeat (first | exact Drawn0.refl _ | apply Drawn0.step)⟩
  · rw [if_neg c3] at H
    have c3b0 : ((l0.length : Int) == (l1.length : Int)) = false := beq_eq_false_iff_ne.mpr c3
    have c3b1 : ((l0.length : Int) != (l1.length : Int)) = true := bne_iff_ne.mpr c3
    have c3b2 : (l0.length == l1.length) = false := by first | simpa using c3 | (simp at c3 ⊢; omega)
    obtain rfl := Option.some.inj H
    go_enter Try.func22, Try.ntmps22
    go_wp2
    repeat (go_quiet (fail); try go_wp2)
    go_ret
    exact ⟨by first | rfl | (simp; done) | (simp [*]; done), by repeat (first | exact Drawn0.refl _ | apply Drawn0.step)⟩

/-! ### laws_markIntS: function 23 -/
def laws_markIntS.l0 : Nat → List Int → Int → Int → Option (Int × List Int)
  | 0, _, _, _ => none
  | k + 1, x0, x1, x5 => if x5 < (x0.length : Int) then (if 0 ≤ x5 then (laws_markIntS.l0 k (x0.set (x5 : Int).toNat x1) (wrap64 (x1 + 1)) (wrap64 (x5 + 1))) else (none)) else (some (x1, x0))
def laws_markIntS.f (k : Nat) (l0 : List Int) (a1 : Int) : Option (Int × List Int) := laws_markIntS.l0 k l0 a1 0
set_option maxHeartbeats 8000000 in
set_option maxRecDepth 100000 in
theorem laws_markIntS.calls (k : Nat) (P0_ : Nat → Prop) (u9000_ : Value) (l0 : List Int) (a1 : Int) (r1 : Int) (r2 : List Int) (w0 w : World) (hB : Below w0.heap.size w0 w) (ho0 : Kd.R (Kd.int .i64) 3 w w0.heap.size P0_ u9000_ l0) (h : laws_markIntS.f k l0 a1 = some (r1, r2)) :
    Calls Try.prog 23 #[u9000_, .int .i64 a1] w fun e w' => e = .returned (.int .i64 r1) ∧ Kd.R (Kd.int .i64) 3 w' w0.heap.size (fun k_ => (P0_ k_ ∨ w.heap.size ≤ k_)) u9000_ r2 ∧ Below w0.heap.size w0 w' ∧ Kept w w' (fun k_ => P0_ k_) := by
  have HO0 := Aside0.mk (show Kd.R (Kd.int .i64) 3 w w0.heap.size (fun k_ => (P0_ k_ ∨ w.heap.size ≤ k_)) u9000_ l0 from Kd.R_mono ho0 (fun k_ hk => (.inl hk)))
  have HK := Aside0.mk (Kept.refl w (fun k_ => P0_ k_))
  have HW0 := Aside0.mk hB.size
  have HB := Aside0.mk hB
  clear hB
  have H : (laws_markIntS.l0 k l0 a1 0) = some (r1, r2) := h
  clear h
  have H' := Aside0.mk H
  clear H
  go_enter Try.func23, Try.ntmps23
  go_wp2
  go_loopg [1, 5] k (fun kq v1 v5 w' => ∃ (x0_1 : List Int) (x1_1 : Int) (x5_1 : Int), v1 = .int .i64 x1_1 ∧ v5 = .int .i64 x5_1 ∧ Aside0 (laws_markIntS.l0 kq x0_1 x1_1 x5_1 = some (r1, r2)) ∧ Aside0 (kq ≤ k) ∧ Aside0 (Kd.R (Kd.int .i64) 3 w' w0.heap.size (fun k_ => (P0_ k_ ∨ w.heap.size ≤ k_)) u9000_ x0_1) ∧ Aside0 (Kept w w' (fun k_ => P0_ k_)) ∧ Aside0 (Below w0.heap.size w0 w'))
  case atStart => exact ⟨(l0), (a1), (0), (by first | rfl | (simp; done) | (simp [*]; done)), (by first | rfl | (simp; done) | (simp [*]; done)), H', ⟨Nat.le_refl _⟩, ⟨by (with_reducible repeat (first | apply Kd.R_alloc | apply Kd.R_drewN | apply Kd.R_drew)); exact HO0.out⟩, ⟨by repeat (first | (with_reducible first | exact HK.out | apply Kept.alloc | apply Kept.drewN | apply Kept.drew) | exact HK.out)⟩, ⟨by repeat (first | (with_reducible first | exact HB.out | apply below_alloc | apply pw_below_drewN | apply below_drew1) | exact HB.out)⟩⟩
  case round =>
    clear H'
    try clear c2
    try clear p2
    obtain ⟨x0_1, x1_1, x5_1, rfl, rfl, HA, HK1, HO_0, HK, HB⟩ := hrel
    cases gk with
    | zero => exact absurd HA.out (by simp [laws_markIntS.l0])
    | succ k1 =>
      have H := HA.out
      clear HA
      simp only [laws_markIntS.l0] at H
      by_cases c3 : x5_1 < (x0_1.length : Int)
      · rw [if_pos c3] at H
        have c3b0 : decide (x5_1 < (x0_1.length : Int)) = true := decide_eq_true c3
        clear c3
        by_cases c4 : 0 ≤ x5_1
        · rw [if_pos c4] at H
          have c4b0 : decide (0 ≤ x5_1) = true := decide_eq_true c4
          clear c4
          obtain ⟨y126, hy126⟩ : ∃ y_ : List Int, y_ = (x0_1.set (x5_1 : Int).toNat x1_1) := ⟨_, rfl⟩
          replace H : (laws_markIntS.l0 k1 y126 (wrap64 (x1_1 + 1)) (wrap64 (x5_1 + 1))) = some (r1, r2) := by first | (rw [hy126]; with_reducible exact H) | (have H2_ := (Option.bind_some _ _).symm.trans H; rw [hy126]; with_reducible exact H2_) | (have H2_ := (Option.bind_some _ _).symm.trans H; with_reducible exact H2_) | with_reducible exact H | (rw [hy126]; exact H) | exact H
          have Ny126 := Aside0.mk hy126
          clear hy126
          have H' := Aside0.mk H
          clear H
          obtain ⟨Ao6, co6, eo6⟩ := Kd.R_slice HO_0.out
          subst eo6
          have p5 : 0 ≤ (x5_1 : Int) := of_decide_eq_true (by first | (with_reducible assumption) | assumption)
          have q5 : (x5_1 : Int) < ((x0_1.length : Int) : Int) := of_decide_eq_true (by first | (with_reducible assumption) | assumption)
          obtain ⟨go5, co5, eo5, gb5, gl5, cl5, HG5⟩ := Kd.R_form HO_0.out (by omega)
          (first | cases eo5 | (injection eo5 with ea_ en_ ec_; (first | subst ea_ | (injection ea_ with ea_; subst ea_)); subst ec_; clear en_))
          have GB5 := Aside0.mk gb5
          have GG5 := Aside0.mk HG5
          clear gb5 gl5 HG5
          have HMgo5 := Aside0.mk (show (P0_ go5 ∨ w.heap.size ≤ go5) from (HO_0.out.1 _ rfl))
          obtain ⟨hx5_0, hf5_0⟩ := Kd.R_celln 0 HO_0.out (x5_1 : Int) p5 q5
          replace p5 := eq_true p5
          replace q5 := eq_true q5
          have HP7 := Kd.R_putg HO_0.out (x5_1 : Int) x1_1
          go_wp2_with (first | ((with_reducible refine gate_store (t := 3) (p := 15) rfl ?_); refine store_event (t := 3) (p := 15) (v := ?vo_w8) (w1 := (wr.setCell ⟨go5, (x5_1 : Int).toNat, none⟩ (.int .i64 x1_1))) ?hg ?ho ?hn ?hr ?_; (case ho => rfl); (case hg => rfl); (case hn => rfl); (case hr => first | (go_simp; done) | (go_simp; rfl)); intro w8 hw; have hg : wr.grownBy w8 (some go5) := (by rw [hw]; exact HP7.2); have hp_ : Kd.R (Kd.int .i64) 3 w8 w0.heap.size (fun k_ => (P0_ k_ ∨ w.heap.size ≤ k_)) (.slice (some ⟨go5, 0, none⟩) x0_1.length co6) y126 := (by rw [hw, Ny126.out]; exact HP7.1); clear HP7; have n0_ := Aside0.mk (hp_); have n1_ := Aside0.mk ((by rw [hw]; exact below_set (HB.out) GB5.out : Below w0.heap.size w0 w8)); have n2_ := Aside0.mk (Kept.of_grown (S := (fun k_ => P0_ k_)) hg (by repeat (first | (with_reducible first | exact HK.out | apply Kept.alloc | apply Kept.drewN | apply Kept.drew) | exact HK.out)) (fun k_ e_ => (HO_0.out.1 k_ e_))); clear HO_0; clear HB; clear HK; have HO_0 := n0_; have HB := n1_; have HK := n2_; clear n0_ n1_ n2_; clear hg hw hp_))
          go_roundg k1
          case measure => have := HK1.out; omega
          case rel => exact ⟨(y126), (wrap64 (x1_1 + 1)), (wrap64 (x5_1 + 1)), (by first | rfl | (simp; done) | (simp [*]; done)), (by first | rfl | (simp; done) | (simp [*]; done)), H', ⟨by have := HK1.out; omega⟩, ⟨by (with_reducible repeat (first | apply Kd.R_alloc | apply Kd.R_drewN | apply Kd.R_drew)); exact HO_0.out⟩, ⟨by repeat (first | (with_reducible first | exact HK.out | apply Kept.alloc | apply Kept.drewN | apply Kept.drew) | exact HK.out)⟩, ⟨by repeat (first | (with_reducible first | exact HB.out | apply below_alloc | apply pw_below_drewN | apply below_drew1) | exact HB.out)⟩⟩
        · rw [if_neg c4] at H
          exact absurd H (by simp)
      · rw [if_neg c3] at H
        have c3b0 : decide (x5_1 < (x0_1.length : Int)) = false := decide_eq_false c3
        clear c3
        simp only [Option.some.injEq, Prod.mk.injEq] at H
        obtain ⟨rfl, rfl⟩ := H
        obtain ⟨Ao9, co9, eo9⟩ := Kd.R_slice HO_0.out
        subst eo9
        go_wp2
        go_ret
        exact ⟨by first | rfl | (simp [errW_none, errW_some] <;> rfl) | (simp [*, errW_none, errW_some] <;> rfl), by (with_reducible repeat (first | apply Kd.R_alloc | apply Kd.R_drewN | apply Kd.R_drew)); exact HO_0.out, by repeat (first | (with_reducible first | exact HB.out | apply below_alloc | apply pw_below_drewN | apply below_drew1) | exact HB.out), by repeat (first | (with_reducible first | exact HK.out | apply Kept.alloc | apply Kept.drewN | apply Kept.drew) | exact HK.out)⟩

/-! ### laws_heldIntS: function 24 -/
def laws_heldIntS.l0 : Nat → List Int → Int → Int → Option (Int)
  | 0, _, _, _ => none
  | k + 1, x0, x1, x5 => if x5 < (x0.length : Int) then (if 0 ≤ x5 then (if (rd x0 x5) = x1 then (laws_heldIntS.l0 k x0 (wrap64 (x1 + 1)) (wrap64 (x5 + 1))) else (some (-1))) else (none)) else (some x1)
def laws_heldIntS.f (k : Nat) (l0 : List Int) (a1 : Int) : Option (Int) := laws_heldIntS.l0 k l0 a1 0
set_option maxHeartbeats 8000000 in
set_option maxRecDepth 100000 in
theorem laws_heldIntS.calls (k : Nat) (A0 : Option Addr) (c0 : Nat) (l0 : List Int) (a1 : Int) (r : Int) (w : World) (hr0 : Kd.C (Kd.int .i64) w A0 l0.length l0) (hc0 : l0.length ≤ c0) (h : laws_heldIntS.f k l0 a1 = some r) :
    Calls Try.prog 24 #[.slice A0 l0.length c0, .int .i64 a1] w fun e w' => e = .returned (.int .i64 r) ∧ Drawn0 w w' := by
  have HR0 := Aside0.mk hr0
  have HC0 := Aside0.mk hc0
  clear hr0 hc0
  have H : (laws_heldIntS.l0 k l0 a1 0) = some r := h
  clear h
  have H' := Aside0.mk H
  clear H
  go_enter Try.func24, Try.ntmps24
  go_wp2
  go_loopg [1, 5] k (fun kq v1 v5 w' => ∃ (x1_1 : Int) (x5_1 : Int), v1 = .int .i64 x1_1 ∧ v5 = .int .i64 x5_1 ∧ Aside0 (laws_heldIntS.l0 kq l0 x1_1 x5_1 = some r) ∧ Aside0 (kq ≤ k) ∧ Drawn0 w w')
  case atStart => exact ⟨(a1), (0), (by first | rfl | (simp; done) | (simp [*]; done)), (by first | rfl | (simp; done) | (simp [*]; done)), H', ⟨Nat.le_refl _⟩, by repeat (first | exact Drawn0.refl _ | apply Drawn0.step)⟩
  case round =>
    clear H'
    try clear c2
    try clear p2
    obtain ⟨x1_1, x5_1, rfl, rfl, HA, HK1, ⟨m1, rfl⟩⟩ := hrel
    cases gk with
    | zero => exact absurd HA.out (by simp [laws_heldIntS.l0])
    | succ k1 =>
      have H := HA.out
      clear HA
      simp only [laws_heldIntS.l0] at H
      by_cases c3 : x5_1 < (l0.length : Int)
      · rw [if_pos c3] at H
        have c3b0 : decide (x5_1 < (l0.length : Int)) = true := decide_eq_true c3
        clear c3
        by_cases c4 : 0 ≤ x5_1
        · rw [if_pos c4] at H
          have c4b0 : decide (0 ≤ x5_1) = true := decide_eq_true c4
          clear c4
          by_cases c5 : (rd l0 x5_1) = x1_1
          · rw [if_pos c5] at H
            have c5b0 : ((rd l0 x5_1) == x1_1) = true := beq_iff_eq.mpr c5
            have c5b1 : ((rd l0 x5_1) != x1_1) = false := bne_eq_false_iff_eq.mpr c5
            clear c5
            have H' := Aside0.mk H
            clear H
            have p127 : 0 ≤ (x5_1 : Int) := of_decide_eq_true (by first | (with_reducible assumption) | assumption)
            have q127 : x5_1 < (l0.length : Int) := of_decide_eq_true (by first | (with_reducible assumption) | assumption)
            obtain ⟨ad127, e127, hx127_0⟩ := Kd.at_int HR0.out x5_1 p127 q127
            cases e127
            replace p127 := eq_true p127
            replace q127 := eq_true q127
            go_wp2
            go_roundg k1
            case measure => have := HK1.out; omega
            case rel => exact ⟨(wrap64 (x1_1 + 1)), (wrap64 (x5_1 + 1)), (by first | rfl | (simp; done) | (simp [*]; done)), (by first | rfl | (simp; done) | (simp [*]; done)), H', ⟨by have := HK1.out; omega⟩, by repeat (first | exact Drawn0.refl _ | apply Drawn0.step)⟩
          · rw [if_neg c5] at H
            have c5b0 : ((rd l0 x5_1) == x1_1) = false := beq_eq_false_iff_ne.mpr c5
            have c5b1 : ((rd l0 x5_1) != x1_1) = true := bne_iff_ne.mpr c5
            obtain rfl := Option.some.inj H
            have p127 : 0 ≤ (x5_1 : Int) := of_decide_eq_true (by first | (with_reducible assumption) | assumption)
            have q127 : x5_1 < (l0.length : Int) := of_decide_eq_true (by first | (with_reducible assumption) | assumption)
            obtain ⟨ad127, e127, hx127_0⟩ := Kd.at_int HR0.out x5_1 p127 q127
            cases e127
            replace p127 := eq_true p127
            replace q127 := eq_true q127
            go_wp2
            go_ret
            exact ⟨by first | rfl | (simp; done) | (simp [*]; done), by repeat (first | exact Drawn0.refl _ | apply Drawn0.step)⟩
        · rw [if_neg c4] at H
          exact absurd H (by simp)
      · rw [if_neg c3] at H
        have c3b0 : decide (x5_1 < (l0.length : Int)) = false := decide_eq_false c3
        clear c3
        obtain rfl := Option.some.inj H
        go_wp2
        go_ret
        exact ⟨by first | rfl | (simp; done) | (simp [*]; done), by repeat (first | exact Drawn0.refl _ | apply Drawn0.step)⟩

end Go.Proofs.Ytfhehcgefbknbaa.PFnExactQuatMul
