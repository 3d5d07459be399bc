/- A function's Lean twin and its walk, written by a program of this session. -/
import Derived.Test.YtacfcoilmdhgnaaGreatDoorTPFnExecuteSquaresx0
namespace Go.Proofs.YtacfcoilmdhgnaaGreatDoor.PFnExecuteSquares
open Go.RowKit Go.Proofs.YtacfcoilmdhgnaaGreatDoorW.PrintWords Go.Proofs.YtacfcoilmdhgnaaGreatDoorW.PrintLast Go.Proofs.YtacfcoilmdhgnaaGreatDoorW.PrintMore
attribute [local go_sem] max2_int min2_int max_two min_two max_three min_three max_four min_four   -- for this text's walks alone
set_option linter.unusedVariables false
set_option linter.unusedSimpArgs false

/-! ### stringslite_HasPrefix: function 181 -/
def stringslite_HasPrefix.f (a0 : ByteArray) (a1 : ByteArray) : Option (Bool) := if (a0.size : Int) ≥ (a1.size : Int) then (if 0 ≤ (a1.size : Int) then (if (a1.size : Int) ≤ (a0.size : Int) then (some ((a0.extract 0 ((a1.size : Int) : Int).toNat).toList == a1.toList)) else (none)) else (none)) else (some false)
set_option maxHeartbeats 8000000 in
set_option maxRecDepth 100000 in
theorem stringslite_HasPrefix.calls (a0 : ByteArray) (a1 : ByteArray) (r : Bool) (w : World) (h : stringslite_HasPrefix.f a0 a1 = some r) :
    Calls Tryz.prog 181 #[.string a0, .string a1] w fun e w' => e = .returned (.bool r) ∧ Drawn0 w w' := by
  have H : (if (a0.size : Int) ≥ (a1.size : Int) then (if 0 ≤ (a1.size : Int) then (if (a1.size : Int) ≤ (a0.size : Int) then (some ((a0.extract 0 ((a1.size : Int) : Int).toNat).toList == a1.toList)) else (none)) else (none)) else (some false)) = some r := h
  clear h
  by_cases c3 : (a0.size : Int) ≥ (a1.size : Int)
  · rw [if_pos c3] at H
    have c3b0 : decide ((a1.size : Int) ≤ (a0.size : Int)) = true := decide_eq_true c3
    have c3b1 : decide (a1.size ≤ a0.size) = true := decide_eq_true (Int.ofNat_le.mp c3)
    clear c3
    by_cases c4 : 0 ≤ (a1.size : Int)
    · rw [if_pos c4] at H
      have c4b0 := eq_true c4
      have c4b1 : decide (0 ≤ (a1.size : Int)) = true := decide_eq_true c4
      clear c4
      by_cases c5 : (a1.size : Int) ≤ (a0.size : Int)
      · rw [if_pos c5] at H
        have c5b0 := eq_true c5
        have c5b1 : decide ((a1.size : Int) ≤ (a0.size : Int)) = true := decide_eq_true c5
        clear c5
        obtain rfl := Option.some.inj H
        go_enter Tryz.func181, Tryz.ntmps181
        go_wp2
        go_ret
        exact ⟨Sqz.auS, by repeat (first | exact Drawn0.refl _ | apply Drawn0.step)⟩
      · rw [if_neg c5] at H
        exact absurd H (by simp)
    · rw [if_neg c4] at H
      exact absurd H (by simp)
  · rw [if_neg c3] at H
    have c3b0 : decide ((a1.size : Int) ≤ (a0.size : Int)) = false := decide_eq_false c3
    have c3b1 : decide (a1.size ≤ a0.size) = false := decide_eq_false (fun h => c3 (Int.ofNat_le.mpr h))
    clear c3
    obtain rfl := Option.some.inj H
    go_enter Tryz.func181, Tryz.ntmps181
    go_wp2
    go_ret
    exact ⟨Sqz.auS, by repeat (first | exact Drawn0.refl _ | apply Drawn0.step)⟩

/-! ### stringslite_CutPrefix: function 164 -/
def stringslite_CutPrefix.f (a0 : ByteArray) (a1 : ByteArray) : Option (ByteArray × Bool) := (stringslite_HasPrefix.f a0 a1).bind fun t101 => (if t101 = true then (if 0 ≤ (a1.size : Int) then (if (a1.size : Int) ≤ (a0.size : Int) then (some (a0.extract ((a1.size : Int) : Int).toNat a0.size, true)) else (none)) else (none)) else (some (a0, false)))
set_option maxHeartbeats 8000000 in
set_option maxRecDepth 100000 in
theorem stringslite_CutPrefix.calls (a0 : ByteArray) (a1 : ByteArray) (r1 : ByteArray) (r2 : Bool) (w : World) (h : stringslite_CutPrefix.f a0 a1 = some (r1, r2)) :
    Calls Tryz.prog 164 #[.string a0, .string a1] w fun e w' => e = .returned (.tuple #[.string r1, .bool r2]) ∧ Drawn0 w w' := by
  have H : ((stringslite_HasPrefix.f a0 a1).bind fun t101 => (if t101 = true then (if 0 ≤ (a1.size : Int) then (if (a1.size : Int) ≤ (a0.size : Int) then (some (a0.extract ((a1.size : Int) : Int).toNat a0.size, true)) else (none)) else (none)) else (some (a0, false)))) = some (r1, r2) := h
  clear h
  replace H := Option.bind_eq_some_iff.mp H
  obtain ⟨t101, A30, H⟩ := H
  replace H : (if t101 = true then (if 0 ≤ (a1.size : Int) then (if (a1.size : Int) ≤ (a0.size : Int) then (some (a0.extract ((a1.size : Int) : Int).toNat a0.size, true)) else (none)) else (none)) else (some (a0, false))) = some (r1, r2) := H
  have A3 := Aside0.mk A30
  clear A30
  by_cases c4 : t101 = true
  · subst c4
    have H1 : (if 0 ≤ (a1.size : Int) then (if (a1.size : Int) ≤ (a0.size : Int) then (some (a0.extract ((a1.size : Int) : Int).toNat a0.size, true)) else (none)) else (none)) = some (r1, r2) := by rw [if_pos rfl] at H; exact H
    clear H
    have H := H1
    clear H1
    by_cases c5 : 0 ≤ (a1.size : Int)
    · rw [if_pos c5] at H
      have c5b0 := eq_true c5
      have c5b1 : decide (0 ≤ (a1.size : Int)) = true := decide_eq_true c5
      clear c5
      by_cases c6 : (a1.size : Int) ≤ (a0.size : Int)
      · rw [if_pos c6] at H
        have c6b0 := eq_true c6
        have c6b1 : decide ((a1.size : Int) ≤ (a0.size : Int)) = true := decide_eq_true c6
        clear c6
        simp only [Option.some.injEq, Prod.mk.injEq] at H
        obtain ⟨rfl, rfl⟩ := H
        go_enter Tryz.func164, Tryz.ntmps164
        go_wp2_with (first | ((with_reducible refine gate_callee (f := 181) rfl ?_); refine goesL_ (some 8) rfl rfl Tryz.func181 (by kernel_rfl) rfl #[.string a0, .string a1] rfl Sqz.auM ?_; (with_reducible refine (stringslite_HasPrefix.calls a0 a1 true _ A3.out).mono ?_); rintro e w' ⟨rfl, ⟨nd, rfl⟩⟩; refine ⟨_, rfl, ?_⟩))
        go_ret2
        exact ⟨Sqz.auS, by repeat (first | exact Drawn0.refl _ | apply Drawn0.step)⟩
      · rw [if_neg c6] at H
        exact absurd H (by simp)
    · rw [if_neg c5] at H
      exact absurd H (by simp)
  · replace c4 := Bool.eq_false_iff.mpr c4
    subst c4
    have H1 : (some (a0, false)) = some (r1, r2) := by rw [if_neg (show ¬ (false = true) by decide)] at H; exact H
    clear H
    have H := H1
    clear H1
    simp only [Option.some.injEq, Prod.mk.injEq] at H
    obtain ⟨rfl, rfl⟩ := H
    go_enter Tryz.func164, Tryz.ntmps164
    go_wp2_with (first | ((with_reducible refine gate_callee (f := 181) rfl ?_); refine goesL_ (some 8) rfl rfl Tryz.func181 (by kernel_rfl) rfl #[.string a0, .string a1] rfl Sqz.auM ?_; (with_reducible refine (stringslite_HasPrefix.calls a0 a1 false _ A3.out).mono ?_); rintro e w' ⟨rfl, ⟨nd, rfl⟩⟩; refine ⟨_, rfl, ?_⟩))
    go_ret2
    exact ⟨Sqz.auS, by repeat (first | exact Drawn0.refl _ | apply Drawn0.step)⟩

/-! ### strings_CutPrefix: function 144 -/
def strings_CutPrefix.f (a0 : ByteArray) (a1 : ByteArray) : Option (ByteArray × Bool) := (stringslite_CutPrefix.f a0 a1).bind fun bt102 => (some (bt102.1, bt102.2))
set_option maxHeartbeats 8000000 in
set_option maxRecDepth 100000 in
theorem strings_CutPrefix.calls (a0 : ByteArray) (a1 : ByteArray) (r1 : ByteArray) (r2 : Bool) (w : World) (h : strings_CutPrefix.f a0 a1 = some (r1, r2)) :
    Calls Tryz.prog 144 #[.string a0, .string a1] w fun e w' => e = .returned (.tuple #[.string r1, .bool r2]) ∧ Drawn0 w w' := by
  have H : ((stringslite_CutPrefix.f a0 a1).bind fun bt102 => (some (bt102.1, bt102.2))) = some (r1, r2) := h
  clear h
  replace H := Option.bind_eq_some_iff.mp H
  obtain ⟨⟨t102, t103⟩, A30, H⟩ := H
  replace H : (some (t102, t103)) = some (r1, r2) := H
  have A3 := Aside0.mk A30
  clear A30
  simp only [Option.some.injEq, Prod.mk.injEq] at H
  obtain ⟨rfl, rfl⟩ := H
  go_enter Tryz.func144, Tryz.ntmps144
  go_wp2_with (first | ((with_reducible refine gate_callee (f := 164) rfl ?_); refine goesL_ (some 8) rfl rfl Tryz.func164 (by kernel_rfl) rfl #[.string a0, .string a1] rfl Sqz.auM ?_; (with_reducible refine (stringslite_CutPrefix.calls a0 a1 t102 t103 _ A3.out).mono ?_); rintro e w' ⟨rfl, ⟨nd, rfl⟩⟩; refine ⟨_, rfl, ?_⟩))
  go_ret2
  exact ⟨Sqz.auS, by repeat (first | exact Drawn0.refl _ | apply Drawn0.step)⟩

/-! ### impl_numberOf: function 96 -/
mutual
def impl_numberOf.j0 : Nat → ByteArray → Bool → Bool → Option (Int)
  | 0, _, _, _ => none
  | k + 1, x3, x4, x19 => if x19 = true then (some 99999) else (impl_numberOf.l0 k x3 x4 0 (x3.size : Int) 0)
def impl_numberOf.l0 : Nat → ByteArray → Bool → Int → Int → Int → Option (Int)
  | 0, _, _, _, _, _ => none
  | k + 1, x3, x4, x5, x21, x22 => if x22 < x21 then (if 0 ≤ x22 then (if x22 < (x3.size : Int) then (if (bt x3 x22) < 48 then (some 99999) else (if (bt x3 x22) > 57 then (some 99999) else (impl_numberOf.l0 k x3 x4 (wrap64 ((wrap64 (x5 * 10)) + (((bt x3 x22) - 48) % 256))) x21 (wrap64 (x22 + 1))))) else (none)) else (none)) else (if x4 = true then (some (wrap64 (-x5))) else (some x5))
end
def impl_numberOf.f (k : Nat) (a0 : ByteArray) : Option (Int) := (strings_CutPrefix.f a0 (⟨#[45]⟩ : ByteArray)).bind fun bt104 => (if (bt104.1.size : Int) < 1 then (impl_numberOf.j0 k bt104.1 bt104.2 true) else (impl_numberOf.j0 k bt104.1 bt104.2 (decide ((bt104.1.size : Int) > 4))))
set_option maxHeartbeats 8000000 in
set_option maxRecDepth 100000 in
theorem impl_numberOf.calls (k : Nat) (a0 : ByteArray) (r : Int) (w : World) (h : impl_numberOf.f k a0 = some r) :
    Calls Tryz.prog 96 #[.string a0] w fun e w' => e = .returned (.int .i64 r) ∧ Drawn0 w w' := by
  have H : ((strings_CutPrefix.f a0 (⟨#[45]⟩ : ByteArray)).bind fun bt104 => (if (bt104.1.size : Int) < 1 then (impl_numberOf.j0 k bt104.1 bt104.2 true) else (impl_numberOf.j0 k bt104.1 bt104.2 (decide ((bt104.1.size : Int) > 4))))) = some r := h
  clear h
  replace H := Option.bind_eq_some_iff.mp H
  obtain ⟨⟨t104, t105⟩, A20, H⟩ := H
  replace H : (if (t104.size : Int) < 1 then (impl_numberOf.j0 k t104 t105 true) else (impl_numberOf.j0 k t104 t105 (decide ((t104.size : Int) > 4)))) = some r := H
  have A2 := Aside0.mk A20
  clear A20
  have HC3 := Aside0.mk H
  clear H
  go_enter Tryz.func96, Tryz.ntmps96
  go_upto_region 2 with (first | ((with_reducible refine gate_callee (f := 144) rfl ?_); refine goesL_ (some 9) rfl rfl Tryz.func144 (by kernel_rfl) rfl #[.string a0, .string (⟨#[45]⟩ : ByteArray)] rfl Sqz.auM ?_; (with_reducible refine (strings_CutPrefix.calls a0 (⟨#[45]⟩ : ByteArray) t104 t105 _ A2.out).mono ?_); rintro e w' ⟨rfl, ⟨nd, rfl⟩⟩; refine ⟨_, rfl, ?_⟩))
  (try simp only [Act.put, List.setIfInBounds_toArray, List.set_cons_zero, List.set_cons_succ])
  go_cut [19] (fun v19 wc => ∃ (kq : Nat) (x19_2 : Bool), v19 = .bool x19_2 ∧ Aside0 (impl_numberOf.j0 kq t104 t105 x19_2 = some r) ∧ Aside0 (kq ≤ k) ∧ Drawn0 w wc)
  case first =>
    have H := HC3.out
    clear HC3
    by_cases c4 : (t104.size : Int) < 1
    · rw [if_pos c4] at H
      have c4b0 : decide ((t104.size : Int) < 1) = true := decide_eq_true c4
      have c4b1 : decide (t104.size < 1) = true := decide_eq_true (by omega)
      clear c4
      (first | rw [c4b0] | (simp only [i64_w, i32_w]; rw [c4b0]) | skip)
      have H' := Aside0.mk H
      clear H
      go_wp2
      go_meet
      case rel => exact ⟨_, (true), Sqz.auS, H', ⟨Sqz.auN⟩, by repeat (first | exact Drawn0.refl _ | apply Drawn0.step)⟩
    · rw [if_neg c4] at H
      have c4b0 : decide ((t104.size : Int) < 1) = false := decide_eq_false c4
      have c4b1 : decide (t104.size < 1) = false := decide_eq_false (by omega)
      clear c4
      (first | rw [c4b0] | (simp only [i64_w, i32_w]; rw [c4b0]) | skip)
      have H' := Aside0.mk H
      clear H
      go_wp2
      go_meet
      case rel => exact ⟨_, (decide ((t104.size : Int) > 4)), Sqz.auS, H', ⟨Sqz.auN⟩, by repeat (first | exact Drawn0.refl _ | apply Drawn0.step)⟩
  case rest =>
    clear HC3
    try clear c1
    try clear p2
    try clear c4
    try clear c4b0
    try clear c4b1
    obtain ⟨kq, x19_2, rfl, HA, HJ2, ⟨mc2, rfl⟩⟩ := hcut
    cases kq with
    | zero => exact absurd HA.out (by simp [impl_numberOf.j0])
    | succ kj2 =>
      have H := HA.out
      clear HA
      simp only [impl_numberOf.j0] at H
      by_cases c5 : x19_2 = true
      · subst c5
        have H1 : (some 99999) = some r := by rw [if_pos rfl] at H; exact H
        clear H
        have H := H1
        clear H1
        obtain rfl := Option.some.inj H
        go_wp2
        go_ret
        exact ⟨Sqz.auS, by repeat (first | exact Drawn0.refl _ | apply Drawn0.step)⟩
      · replace c5 := Bool.eq_false_iff.mpr c5
        subst c5
        have H1 : (impl_numberOf.l0 kj2 t104 t105 0 (t104.size : Int) 0) = some r := by rw [if_neg (show ¬ (false = true) by decide)] at H; exact H
        clear H
        have H := H1
        clear H1
        have H' := Aside0.mk H
        clear H
        go_wp2
        go_loopg [5, 22] kj2 (fun kq v5 v22 w' => ∃ (x5_2 : Int) (x22_2 : Int), v5 = .int .i64 x5_2 ∧ v22 = .int .i64 x22_2 ∧ Aside0 (impl_numberOf.l0 kq t104 t105 x5_2 (t104.size : Int) x22_2 = some r) ∧ Aside0 (kq ≤ kj2) ∧ Drawn0 w w')
        case atStart => exact ⟨(0), (0), Sqz.auS, Sqz.auS, H', ⟨Nat.le_refl _⟩, by repeat (first | exact Drawn0.refl _ | apply Drawn0.step)⟩
        case round =>
          clear H'
          try clear c1
          try clear c2
          try clear p2
          try clear c4
          try clear c4b0
          try clear c4b1
          try clear c5
          try clear p2
          obtain ⟨x5_2, x22_2, rfl, rfl, HA, HK2, ⟨m2, rfl⟩⟩ := hrel
          cases gk with
          | zero => exact absurd HA.out (by simp [impl_numberOf.l0])
          | succ k2 =>
            have H := HA.out
            clear HA
            simp only [impl_numberOf.l0] at H
            by_cases c6 : x22_2 < (t104.size : Int)
            · rw [if_pos c6] at H
              have c6b0 : decide (x22_2 < (t104.size : Int)) = true := decide_eq_true c6
              clear c6
              by_cases c7 : 0 ≤ x22_2
              · rw [if_pos c7] at H
                have c7b0 : decide (0 ≤ x22_2) = true := decide_eq_true c7
                clear c7
                by_cases c8 : x22_2 < (t104.size : Int)
                · rw [if_pos c8] at H
                  have c8b0 : decide (x22_2 < (t104.size : Int)) = true := decide_eq_true c8
                  clear c8
                  by_cases c10 : (bt t104 x22_2) < 48
                  · rw [if_pos c10] at H
                    have c10b0 : decide ((bt t104 x22_2) < 48) = true := decide_eq_true c10
                    clear c10
                    obtain rfl := Option.some.inj H
                    have p9 : 0 ≤ (x22_2 : Int) := of_decide_eq_true (by first | (with_reducible assumption) | assumption)
                    have q9 : x22_2 < (t104.size : Int) := of_decide_eq_true (by first | (with_reducible assumption) | assumption)
                    have hx9 := bt_at t104 x22_2
                    replace p9 := eq_true p9
                    replace q9 := eq_true q9
                    go_wp2
                    go_ret
                    exact ⟨Sqz.auS, by repeat (first | exact Drawn0.refl _ | apply Drawn0.step)⟩
                  · rw [if_neg c10] at H
                    have c10b0 : decide ((bt t104 x22_2) < 48) = false := decide_eq_false c10
                    clear c10
                    by_cases c12 : (bt t104 x22_2) > 57
                    · rw [if_pos c12] at H
                      have c12b0 : decide (57 < (bt t104 x22_2)) = true := decide_eq_true c12
                      clear c12
                      obtain rfl := Option.some.inj H
                      have p9 : 0 ≤ (x22_2 : Int) := of_decide_eq_true (by first | (with_reducible assumption) | assumption)
                      have q9 : x22_2 < (t104.size : Int) := of_decide_eq_true (by first | (with_reducible assumption) | assumption)
                      have hx9 := bt_at t104 x22_2
                      replace p9 := eq_true p9
                      replace q9 := eq_true q9
                      have p11 : 0 ≤ (x22_2 : Int) := of_decide_eq_true (by first | (with_reducible assumption) | assumption)
                      have q11 : x22_2 < (t104.size : Int) := of_decide_eq_true (by first | (with_reducible assumption) | assumption)
                      have hx11 := bt_at t104 x22_2
                      replace p11 := eq_true p11
                      replace q11 := eq_true q11
                      go_wp2
                      go_ret
                      exact ⟨Sqz.auS, by repeat (first | exact Drawn0.refl _ | apply Drawn0.step)⟩
                    · rw [if_neg c12] at H
                      have c12b0 : decide (57 < (bt t104 x22_2)) = false := decide_eq_false c12
                      clear c12
                      have H' := Aside0.mk H
                      clear H
                      have p9 : 0 ≤ (x22_2 : Int) := of_decide_eq_true (by first | (with_reducible assumption) | assumption)
                      have q9 : x22_2 < (t104.size : Int) := of_decide_eq_true (by first | (with_reducible assumption) | assumption)
                      have hx9 := bt_at t104 x22_2
                      replace p9 := eq_true p9
                      replace q9 := eq_true q9
                      have p11 : 0 ≤ (x22_2 : Int) := of_decide_eq_true (by first | (with_reducible assumption) | assumption)
                      have q11 : x22_2 < (t104.size : Int) := of_decide_eq_true (by first | (with_reducible assumption) | assumption)
                      have hx11 := bt_at t104 x22_2
                      replace p11 := eq_true p11
                      replace q11 := eq_true q11
                      have p13 : 0 ≤ (x22_2 : Int) := of_decide_eq_true (by first | (with_reducible assumption) | assumption)
                      have q13 : x22_2 < (t104.size : Int) := of_decide_eq_true (by first | (with_reducible assumption) | assumption)
                      have hx13 := bt_at t104 x22_2
                      replace p13 := eq_true p13
                      replace q13 := eq_true q13
                      go_wp2
                      go_roundg k2
                      case measure => have := HJ2.out; have := HK2.out; omega
                      case rel => exact ⟨(wrap64 ((wrap64 (x5_2 * 10)) + (((bt t104 x22_2) - 48) % 256))), (wrap64 (x22_2 + 1)), Sqz.auS, Sqz.auS, H', ⟨by have := HJ2.out; have := HK2.out; omega⟩, by repeat (first | exact Drawn0.refl _ | apply Drawn0.step)⟩
                · rw [if_neg c8] at H
                  exact absurd H (by simp)
              · rw [if_neg c7] at H
                exact absurd H (by simp)
            · rw [if_neg c6] at H
              have c6b0 : decide (x22_2 < (t104.size : Int)) = false := decide_eq_false c6
              clear c6
              by_cases c14 : t105 = true
              · subst c14
                have H1 : (some (wrap64 (-x5_2))) = some r := by rw [if_pos rfl] at H; exact H
                clear H
                have H := H1
                clear H1
                obtain rfl := Option.some.inj H
                go_wp2
                go_ret
                exact ⟨Sqz.auS, by repeat (first | exact Drawn0.refl _ | apply Drawn0.step)⟩
              · replace c14 := Bool.eq_false_iff.mpr c14
                subst c14
                have H1 : (some x5_2) = some r := by rw [if_neg (show ¬ (false = true) by decide)] at H; exact H
                clear H
                have H := H1
                clear H1
                obtain rfl := Option.some.inj H
                go_wp2
                go_ret
                exact ⟨Sqz.auS, by repeat (first | exact Drawn0.refl _ | apply Drawn0.step)⟩

/-! ### impl_squareRoot: function 110 -/
def impl_squareRoot.l0 : Nat → Int → Int → Int → Option (Int × Bool)
  | 0, _, _, _ => none
  | k + 1, x0, x4, x5 => if x5 > 0 then (if (wrap64 ((wrap64 (x4 + x5)) * (wrap64 (x4 + x5)))) ≤ x0 then (impl_squareRoot.l0 k x0 (wrap64 (x4 + x5)) (wrap64 (Int.tdiv x5 2))) else (impl_squareRoot.l0 k x0 x4 (wrap64 (Int.tdiv x5 2)))) else (some (x4, ((wrap64 (x4 * x4)) == x0)))
def impl_squareRoot.f (k : Nat) (a0 : Int) : Option (Int × Bool) := if a0 < 0 then (some (0, false)) else (impl_squareRoot.l0 k a0 0 1073741824)
set_option maxHeartbeats 8000000 in
set_option maxRecDepth 100000 in
theorem impl_squareRoot.calls (k : Nat) (a0 : Int) (r1 : Int) (r2 : Bool) (w : World) (h : impl_squareRoot.f k a0 = some (r1, r2)) :
    Calls Tryz.prog 110 #[.int .i64 a0] w fun e w' => e = .returned (.tuple #[.int .i64 r1, .bool r2]) ∧ Drawn0 w w' := by
  have H : (if a0 < 0 then (some (0, false)) else (impl_squareRoot.l0 k a0 0 1073741824)) = some (r1, r2) := h
  clear h
  by_cases c2 : a0 < 0
  · rw [if_pos c2] at H
    have c2b0 : decide (a0 < 0) = true := decide_eq_true c2
    clear c2
    simp only [Option.some.injEq, Prod.mk.injEq] at H
    obtain ⟨rfl, rfl⟩ := H
    go_enter Tryz.func110, Tryz.ntmps110
    go_wp2
    go_ret2
    exact ⟨Sqz.auS, by repeat (first | exact Drawn0.refl _ | apply Drawn0.step)⟩
  · rw [if_neg c2] at H
    have c2b0 : decide (a0 < 0) = false := decide_eq_false c2
    clear c2
    have H' := Aside0.mk H
    clear H
    go_enter Tryz.func110, Tryz.ntmps110
    go_wp2
    go_loopg [4, 5] k (fun kq v4 v5 w' => ∃ (x4_1 : Int) (x5_1 : Int), v4 = .int .i64 x4_1 ∧ v5 = .int .i64 x5_1 ∧ Aside0 (impl_squareRoot.l0 kq a0 x4_1 x5_1 = some (r1, r2)) ∧ Aside0 (kq ≤ k) ∧ Drawn0 w w')
    case atStart => exact ⟨(0), (1073741824), Sqz.auS, Sqz.auS, H', ⟨Nat.le_refl _⟩, by repeat (first | exact Drawn0.refl _ | apply Drawn0.step)⟩
    case round =>
      clear H'
      try clear c1
      try clear c2
      try clear c2b0
      try clear p2
      obtain ⟨x4_1, x5_1, rfl, rfl, HA, HK1, ⟨m1, rfl⟩⟩ := hrel
      cases gk with
      | zero => exact absurd HA.out (by simp [impl_squareRoot.l0])
      | succ k1 =>
        have H := HA.out
        clear HA
        simp only [impl_squareRoot.l0] at H
        by_cases c3 : x5_1 > 0
        · rw [if_pos c3] at H
          have c3b0 : decide (0 < x5_1) = true := decide_eq_true c3
          clear c3
          by_cases c4 : (wrap64 ((wrap64 (x4_1 + x5_1)) * (wrap64 (x4_1 + x5_1)))) ≤ a0
          · rw [if_pos c4] at H
            have c4b0 : decide ((wrap64 ((wrap64 (x4_1 + x5_1)) * (wrap64 (x4_1 + x5_1)))) ≤ a0) = true := decide_eq_true c4
            clear c4
            have H' := Aside0.mk H
            clear H
            go_wp2
            go_roundg k1
            case measure => have := HK1.out; omega
            case rel => exact ⟨(wrap64 (x4_1 + x5_1)), (wrap64 (Int.tdiv x5_1 2)), Sqz.auS, Sqz.auS, H', ⟨by have := HK1.out; omega⟩, by repeat (first | exact Drawn0.refl _ | apply Drawn0.step)⟩
          · rw [if_neg c4] at H
            have c4b0 : decide ((wrap64 ((wrap64 (x4_1 + x5_1)) * (wrap64 (x4_1 + x5_1)))) ≤ a0) = false := decide_eq_false c4
            clear c4
            have H' := Aside0.mk H
            clear H
            go_wp2
            go_roundg k1
            case measure => have := HK1.out; omega
            case rel => exact ⟨(x4_1), (wrap64 (Int.tdiv x5_1 2)), Sqz.auS, Sqz.auS, H', ⟨by have := HK1.out; omega⟩, by repeat (first | exact Drawn0.refl _ | apply Drawn0.step)⟩
        · rw [if_neg c3] at H
          have c3b0 : decide (0 < x5_1) = false := decide_eq_false c3
          clear c3
          simp only [Option.some.injEq, Prod.mk.injEq] at H
          obtain ⟨rfl, rfl⟩ := H
          go_wp2
          go_ret2
          exact ⟨Sqz.auS, by repeat (first | exact Drawn0.refl _ | apply Drawn0.step)⟩

/-! ### impl_squaresOf: function 55 -/
section
open Locg
theorem squareRoot_l (n : Int) (h0 : 0 ≤ n) (hn : n < 4611686018427387904) : ∀ (d : Nat) (x bit : Int) (k : Nat), 0 ≤ x → x * x ≤ n → n < (x + 2 * bit) * (x + 2 * bit) → x + 2 * bit ≤ 2147483648 → bit = 2 ^ d → d + 1 < k →
    impl_squareRoot.l0 k n x bit = some (isq n, isq n * isq n == n) := by
  intro d
  have stop : ∀ (x : Int) (k : Nat), 0 ≤ x → x * x ≤ n → n < (x + 1) * (x + 1) → 0 < k → impl_squareRoot.l0 k n x 0 = some (isq n, isq n * isq n == n) := by
    intro x k hx hl hg hk
    obtain ⟨k, rfl⟩ : ∃ m, k = m + 1 := ⟨k - 1, by omega⟩
    simp only [impl_squareRoot.l0]
    have hb : x < 2147483648 := by
      rcases Int.lt_or_le x 2147483648 with h | h
      · exact h
      · have := sq_le (by omega) h; omega
    have hm : wrap64 (x * x) = x * x := w64' (sq_nonneg x) (by omega)
    rw [if_neg (by omega), hm, isq_unique hx hl hg]
  induction d with
  | zero =>
    intro x bit k hx hl hg hB hb hk
    obtain ⟨k, rfl⟩ : ∃ m, k = m + 1 := ⟨k - 1, by omega⟩
    obtain rfl : bit = 1 := by simpa using hb
    simp only [impl_squareRoot.l0]
    have hs := sq_le (a := x + 1) (b := 2147483648) (by omega) (by omega)
    rw [if_pos (by omega), w64 (x := x + 1) (by omega) (by omega), w64' (x := (x + 1) * (x + 1)) (sq_nonneg _) (by omega)]
    have e : wrap64 (Int.tdiv 1 2) = 0 := by decide +kernel
    rw [e]
    by_cases c : (x + 1) * (x + 1) ≤ n
    · rw [if_pos c]
      exact stop _ _ (by omega) c (by rw [show x + 1 + 1 = x + 2 * 1 from by omega]; exact hg) (by omega)
    · rw [if_neg c]
      exact stop _ _ hx hl (by omega) (by omega)
  | succ d ih =>
    intro x bit k hx hl hg hB hb hk
    obtain ⟨k, rfl⟩ : ∃ m, k = m + 1 := ⟨k - 1, by omega⟩
    have hp : (0 : Int) < 2 ^ d := Int.pow_pos (by omega)
    obtain ⟨c2, hc2⟩ : ∃ c2 : Int, c2 = 2 ^ d := ⟨_, rfl⟩
    have hb2 : bit = 2 * c2 := by rw [hb, Int.pow_succ, hc2]; omega
    subst hb2
    simp only [impl_squareRoot.l0]
    have hs := sq_le (a := x + 2 * c2) (b := 2147483648) (by omega) (by omega)
    have e : wrap64 (Int.tdiv (2 * c2) 2) = c2 := by rw [tdiv2 (by omega), w64 (by omega) (by omega)]; omega
    rw [if_pos (by omega), w64 (x := x + 2 * c2) (by omega) (by omega), w64' (x := (x + 2 * c2) * (x + 2 * c2)) (sq_nonneg _) (by omega), e]
    by_cases c : (x + 2 * c2) * (x + 2 * c2) ≤ n
    · rw [if_pos c]
      exact ih _ _ _ (by omega) c (by rw [show x + 2 * c2 + 2 * c2 = x + 2 * (2 * c2) from by omega]; exact hg) (by omega) hc2 (by omega)
    · rw [if_neg c]
      exact ih _ _ _ hx hl (by omega) (by omega) hc2 (by omega)
theorem squareRoot (n : Int) (h0 : 0 ≤ n) (hn : n < 4611686018427387904) (k : Nat) (hk : 31 < k) : impl_squareRoot.f k n = some (isq n, isq n * isq n == n) := by
  unfold impl_squareRoot.f
  rw [if_neg (by omega)]
  exact squareRoot_l n h0 hn 30 0 1073741824 k (by omega) (by omega) (by omega) (by omega) (by decide) (by omega)
/-! ### the first squares with a sum: the closure and its maker -/
theorem sqInfo : (Tryz.prog.info? 3).map (fun i => (i.zero, i.size, i.bytes)) = some (some (.int .i64 0), 1, 8) := by kernel_rfl
def SqInv (Bm Bl Bt : Nat) (many : Int) (xs : List Int) (w : World) : Prop :=
  ∃ v, w.heap[Bl]? = some (.cells #[v] 27 (0, 0)) ∧ w.heap[Bm]? = some (.cells #[.int .i64 many] 3 (0, 0)) ∧
    w.heap[Bt]? = some (.cells #[.func (.func 109) #[] #[.pointer (some ⟨Bl, 0, none⟩), .pointer (some ⟨Bm, 0, none⟩), .pointer (some ⟨Bt, 0, none⟩)]] 68 (0, 0)) ∧
    w.ownsRow (Bm + 1) 3 1 v xs.length (nums .i64 xs)
theorem SqInv.drewN {Bm Bl Bt : Nat} {many : Int} {xs : List Int} {w : World} (h : SqInv Bm Bl Bt many xs w) (n : Nat) : SqInv Bm Bl Bt many xs (w.drewN n) := h
theorem sq_apart {w : World} {b : Nat} {v : Value} {xs : List Value} {g t : Nat} {cells : Array Value} (hown : w.ownsRow b 3 1 v xs.length xs) (hg : w.heap[g]? = some (.cells cells t (0, 0))) (ht : t ≠ 3) : v.ownBlock ≠ some g := by
  intro e
  obtain ⟨cells', hc⟩ := own_typed hown g e
  rw [hc] at hg
  injection hg with hg
  injection hg with _ hg
  exact ht hg.symm
theorem sq_push {Bm Bl Bt : Nat} {many : Int} {xs : List Int} {y : Int} {W w1 : World} {v v1 : Value} (hv : W.heap[Bl]? = some (.cells #[v] 27 (0, 0))) (hmn : W.heap[Bm]? = some (.cells #[.int .i64 many] 3 (0, 0)))
    (ht : W.heap[Bt]? = some (.cells #[.func (.func 109) #[] #[.pointer (some ⟨Bl, 0, none⟩), .pointer (some ⟨Bm, 0, none⟩), .pointer (some ⟨Bt, 0, none⟩)]] 68 (0, 0)))
    (hown : W.ownsRow (Bm + 1) 3 1 v xs.length (nums .i64 xs)) (hown1 : w1.ownsRow (Bm + 1) 3 1 v1 (xs ++ [y]).length (nums .i64 (xs ++ [y]))) (hg : W.grownBy w1 v.ownBlock) :
    SqInv Bm Bl Bt many (xs ++ [y]) (w1.setCell ⟨Bl, 0, none⟩ v1) := by
  have hl : xs.length = (nums .i64 xs).length := (nums_length _ _).symm
  have hl1 : (xs ++ [y]).length = (nums .i64 (xs ++ [y])).length := (nums_length _ _).symm
  have nl := sq_apart (by rw [← hl]; exact hown) hv (by decide)
  have nt := sq_apart (by rw [← hl]; exact hown) ht (by decide)
  have nm : v.ownBlock ≠ some Bm := fun e => by have := own_base hown Bm e; omega
  have hv' := (hg.block Bl (lt_of_block hv) (fun e => nl e.symm)).trans hv
  have hm' := (hg.block Bm (lt_of_block hmn) (fun e => nm e.symm)).trans hmn
  have ht' := (hg.block Bt (lt_of_block ht) (fun e => nt e.symm)).trans ht
  have n1 := sq_apart (by rw [← hl1]; exact hown1) hv' (by decide)
  have dm : Bm ≠ Bl := fun e => by subst e; rw [hv] at hmn; simp at hmn
  have dt : Bt ≠ Bl := fun e => by subst e; rw [hv] at ht; simp at ht
  refine ⟨v1, one_setCell hv', (Below.heap_setCell _ _ _ _ dm).trans hm', (Below.heap_setCell _ _ _ _ dt).trans ht', own_move hown1 (fun k hk => Below.heap_setCell _ _ _ _ (fun e => n1 (by rw [hk, e])))⟩
theorem sq_drop {Bm Bl Bt : Nat} {many : Int} {xs : List Int} {y : Int} {W : World} {g c : Nat} (h : SqInv Bm Bl Bt many (xs ++ [y]) W) (hv : W.heap[Bl]? = some (.cells #[.slice (some ⟨g, 0, none⟩) (xs ++ [y]).length c] 27 (0, 0))) :
    SqInv Bm Bl Bt many xs (W.setCell ⟨Bl, 0, none⟩ (.slice (some ⟨g, 0, none⟩) xs.length c)) := by
  obtain ⟨v, hv0, hmn, ht, hown⟩ := h
  obtain rfl : v = .slice (some ⟨g, 0, none⟩) (xs ++ [y]).length c := by rw [hv] at hv0; simpa using hv0.symm
  have hl1 : (xs ++ [y]).length = (nums .i64 (xs ++ [y])).length := (nums_length _ _).symm
  have n1 := sq_apart (by rw [← hl1]; exact hown) hv (by decide)
  have dm : Bm ≠ Bl := fun e => by subst e; rw [hv] at hmn; simp at hmn
  have dt : Bt ≠ Bl := fun e => by subst e; rw [hv] at ht; simp at ht
  have hgl : g ≠ Bl := fun e => n1 (by rw [e]; rfl)
  refine ⟨_, one_setCell hv, (Below.heap_setCell _ _ _ _ dm).trans hmn, (Below.heap_setCell _ _ _ _ dt).trans ht, ?_⟩
  rcases hown.2 with ⟨h', _⟩ | ⟨g', cap', cur, h', hb, hh, hnc, hcp, hcs, htake⟩
  · cases h'
  · simp only [Value.slice.injEq, Option.some.injEq, Addr.mk.injEq, and_true, true_and] at h'
    obtain ⟨rfl, rfl⟩ := h'
    refine ⟨by simp [nums], .inr ⟨g, c, cur, rfl, hb, (Below.heap_setCell _ _ _ _ hgl).trans hh, by simp at hnc; omega, hcp, hcs, ?_⟩⟩
    have := congrArg (List.take xs.length) htake
    rw [List.take_take] at this
    simpa [nums] using this
theorem sq_same {Bm Bl : Nat} {xs : List Int} {W w1 : World} {v : Value} (hv : W.heap[Bl]? = some (.cells #[v] 27 (0, 0))) (hown : W.ownsRow (Bm + 1) 3 1 v xs.length (nums .i64 xs)) (hg : W.grownBy w1 v.ownBlock) :
    w1.cell? ⟨Bl, 0, none⟩ = some v ∧ w1.frozen? ⟨Bl, 0, none⟩ = false := by
  have hl : xs.length = (nums .i64 xs).length := (nums_length _ _).symm
  have nl := sq_apart (by rw [← hl]; exact hown) hv (by decide)
  have hv' := (hg.block Bl (lt_of_block hv) (fun e => nl e.symm)).trans hv
  exact ⟨cell_of_one hv', free_of_one hv'⟩
theorem sq_root (n : Int) (h0 : 0 ≤ n) (hn : n ≤ 5000) : ∃ r, 0 ≤ r ∧ r ≤ 71 ∧ isq n = r ∧ impl_squareRoot.f 32 n = some (r, decide (r * r = n)) := by
  refine ⟨isq n, isq_nonneg n, ?_, rfl, ?_⟩
  · have := isq_bound (b := 71) h0 (by omega) (by omega); omega
  · rw [squareRoot n h0 (by omega) 32 (by omega)]
    rfl
theorem sq_hide {p : Prop} (h : p) : Hid p := Lib.hid h
set_option maxHeartbeats 1600000 in
set_option maxRecDepth 100000 in
theorem sq_base (Bm Bl Bt : Nat) (many low left : Int) (xs : List Int) (w : World) (h : SqInv Bm Bl Bt many xs w) (hm : (xs.length : Int) + 1 = many) (hM : many ≤ 4) (h0 : 0 ≤ low) (hL : low ≤ 5000) (hl0 : 0 ≤ left) (hl : left ≤ 5000) (hlt : Bm < Bl) (hlt2 : Bm < Bt) :
    Calls Tryz.prog 109 #[.int .i64 low, .int .i64 left, .pointer (some ⟨Bl, 0, none⟩), .pointer (some ⟨Bm, 0, none⟩), .pointer (some ⟨Bt, 0, none⟩)] w fun e w' =>
      e = .returned (.bool (sqs 0 low left).isSome) ∧ SqInv Bm Bl Bt many (xs ++ (sqs 0 low left).getD []) w' ∧ Below Bm w w' := by
  have hi := h
  obtain ⟨v, hv, hmn, ht, hown⟩ := h
  obtain ⟨A, c, rfl⟩ := own_slice hown
  have cL := cell_of_one hv
  have fL := free_of_one hv
  have cM := cell_of_one hmn
  have e1 : (((xs.length : Nat) : Int) == many - 1) = true := by rw [beq_iff_eq]; omega
  obtain ⟨r, hr0, hr1, hr, hsq⟩ := sq_root left hl0 hl
  simp only [sqs, hr]
  have HI := sq_hide hi
  have HV := sq_hide hv
  have HM := sq_hide hmn
  have HT := sq_hide ht
  have HO := sq_hide hown
  have hxl : xs.length ≤ 3 := by omega
  have hM1 : 1 ≤ many := by omega
  have hB : Bm < w.heap.size := lt_of_block hmn
  clear hi hv hmn ht hown hr hm
  by_cases c1 : r * r = left
  · rw [decide_eq_true c1] at hsq
    have HS := sq_hide hsq
    clear hsq
    by_cases c2 : low ≤ r
    · have c2b : decide (low ≤ r) = true := decide_eq_true c2
      rw [if_pos ⟨c1, c2⟩]
      clear c1
      go_enter Tryz.func109, Tryz.ntmps109
      go_wp2_with (first | (go_at_call 110; refine (impl_squareRoot.calls 32 left r true _ HS.out).mono ?_; rintro e w' ⟨rfl, ⟨n, rfl⟩⟩) | (at_builtin; go_loud (refine print_append_num (w0 := w) (Bm + 1) rfl (.tmp 27) (.tmp 29) 27 3 .i64 8 rfl Tryz.underlying27 sqInfo (by decide) (.slice A xs.length c) xs r rfl rfl HO.out (pw_below_drewN (Below.refl _ _) _) (by simp; omega) (by omega) ?_; intro v1 w1 hown1 hB1 hg1 hat1; clear hat1; obtain ⟨A1, k1, rfl⟩ := own_slice hown1; have HV1 := sq_hide (sq_push (hg := hg1) (hv := by exact HV.out) (hmn := by exact HM.out) (ht := by exact HT.out) (hown := by exact HO.out) (hown1 := hown1)); obtain ⟨cL1, fL1⟩ := sq_same (hg := hg1) (hv := by exact HV.out) (hown := by exact HO.out); clear hown1 hg1)))
      go_ret
      exact ⟨rfl, by simpa using HV1.out, (hB1.setCell (show Bm + 1 ≤ Bl by omega) _).mono (by omega)⟩
    · have c2b : decide (low ≤ r) = false := decide_eq_false c2
      rw [if_neg (fun h => c2 h.2)]
      clear c1
      go_enter Tryz.func109, Tryz.ntmps109
      go_wp2_with (first | (go_at_call 110; refine (impl_squareRoot.calls 32 left r true _ HS.out).mono ?_; rintro e w' ⟨rfl, ⟨n, rfl⟩⟩) | fail)
      go_ret
      exact ⟨rfl, by simpa using HI.out.drewN n, pw_below_drewN (Below.refl _ _) _⟩
  · rw [decide_eq_false c1] at hsq
    rw [if_neg (fun h => c1 h.1)]
    have HS := sq_hide hsq
    clear hsq c1
    go_enter Tryz.func109, Tryz.ntmps109
    go_wp2_with (first | (go_at_call 110; refine (impl_squareRoot.calls 32 left r false _ HS.out).mono ?_; rintro e w' ⟨rfl, ⟨n, rfl⟩⟩) | fail)
    go_ret
    exact ⟨rfl, by simpa using HI.out.drewN n, pw_below_drewN (Below.refl _ _) _⟩
def SqSays (Bm Bl Bt : Nat) (many : Int) (m : Nat) : Prop := ∀ (low left : Int) (xs : List Int) (w : World), SqInv Bm Bl Bt many xs w → (xs.length : Int) + m + 1 = many → 0 ≤ low → low ≤ 5000 → 0 ≤ left → left ≤ 5000 →
    Calls Tryz.prog 109 #[.int .i64 low, .int .i64 left, .pointer (some ⟨Bl, 0, none⟩), .pointer (some ⟨Bm, 0, none⟩), .pointer (some ⟨Bt, 0, none⟩)] w fun e w' =>
      e = .returned (.bool (sqs m low left).isSome) ∧ SqInv Bm Bl Bt many (xs ++ (sqs m low left).getD []) w' ∧ Below Bm w w'
def SqYes (Bm Bl Bt : Nat) (many x left : Int) (xs res : List Int) : Prop := ∀ w : World, SqInv Bm Bl Bt many (xs ++ [x]) w →
    Calls Tryz.prog 109 #[.int .i64 x, .int .i64 (left - x * x), .pointer (some ⟨Bl, 0, none⟩), .pointer (some ⟨Bm, 0, none⟩), .pointer (some ⟨Bt, 0, none⟩)] w fun e w' =>
      e = .returned (.bool true) ∧ SqInv Bm Bl Bt many (xs ++ x :: res) w' ∧ Below Bm w w'
def SqNo (Bm Bl Bt : Nat) (many x left : Int) (xs : List Int) : Prop := ∀ w : World, SqInv Bm Bl Bt many (xs ++ [x]) w →
    Calls Tryz.prog 109 #[.int .i64 x, .int .i64 (left - x * x), .pointer (some ⟨Bl, 0, none⟩), .pointer (some ⟨Bm, 0, none⟩), .pointer (some ⟨Bt, 0, none⟩)] w fun e w' =>
      e = .returned (.bool false) ∧ (∃ g c, w'.heap[Bl]? = some (.cells #[.slice (some ⟨g, 0, none⟩) (xs.length + 1) c] 27 (0, 0)) ∧ xs.length + 1 ≤ c ∧ c ≤ 9223372036854775807 ∧ SqInv Bm Bl Bt many (xs ++ [x]) w') ∧ Below Bm w w'
theorem sq_yes {Bm Bl Bt : Nat} {many : Int} {m : Nat} (IH : SqSays Bm Bl Bt many m) {x left : Int} {xs res : List Int} (hm : (xs.length : Int) + (m + 1) + 1 = many) (h0 : 0 ≤ x) (h1 : x ≤ 5000) (h2 : x * x ≤ left) (h3 : left ≤ 5000) (hs : sqs m x (left - x * x) = some res) : SqYes Bm Bl Bt many x left xs res := by
  intro w hw
  have := IH x (left - x * x) (xs ++ [x]) w hw (by simp; omega) h0 h1 (by omega) (by have := sq_nonneg x; omega)
  rw [hs] at this
  simpa using this
theorem sq_no {Bm Bl Bt : Nat} {many : Int} {m : Nat} (IH : SqSays Bm Bl Bt many m) {x left : Int} {xs : List Int} (hm : (xs.length : Int) + (m + 1) + 1 = many) (h0 : 0 ≤ x) (h1 : x ≤ 5000) (h2 : x * x ≤ left) (h3 : left ≤ 5000) (hs : sqs m x (left - x * x) = none) : SqNo Bm Bl Bt many x left xs := by
  intro w hw
  have := IH x (left - x * x) (xs ++ [x]) w hw (by simp; omega) h0 h1 (by omega) (by have := sq_nonneg x; omega)
  rw [hs] at this
  refine this.mono ?_
  rintro e w' ⟨he, hi, hb⟩
  simp only [Option.getD_none, List.append_nil] at hi
  refine ⟨by simpa using he, ?_, hb⟩
  have hi0 := hi
  obtain ⟨v, hv, _, _, hown⟩ := hi
  obtain ⟨g, c, rfl, _⟩ := hown.form (by simp)
  refine ⟨g, c, by simpa using hv, ?_, ?_, hi0⟩
  · rcases hown.2 with ⟨h', _⟩ | ⟨g', cap', cur, h', _, _, hn, hc, _⟩
    · cases h'
    · simp only [Value.slice.injEq, true_and] at h'; obtain ⟨_, rfl⟩ := h'; simpa using hn
  · rcases hown.2 with ⟨h', _⟩ | ⟨g', cap', cur, h', _, _, hn, hc, _⟩
    · cases h'
    · simp only [Value.slice.injEq, true_and] at h'; obtain ⟨_, rfl⟩ := h'; simpa [maxLen] using hc
theorem sq_cellT {Bm Bt : Nat} {xs : List Int} {W w1 : World} {v u : Value} (ht : W.heap[Bt]? = some (.cells #[u] 68 (0, 0))) (hown : W.ownsRow (Bm + 1) 3 1 v xs.length (nums .i64 xs)) (hg : W.grownBy w1 v.ownBlock) :
    w1.cell? ⟨Bt, 0, none⟩ = some u := by
  have hl : xs.length = (nums .i64 xs).length := (nums_length _ _).symm
  have nl := sq_apart (by rw [← hl]; exact hown) ht (by decide)
  exact cell_of_one ((hg.block Bt (lt_of_block ht) (fun e => nl e.symm)).trans ht)
set_option maxHeartbeats 4000000 in
set_option maxRecDepth 100000 in
theorem sq_step (Bm Bl Bt : Nat) (many : Int) (hM : many ≤ 4) (hlt : Bm < Bl) (hlt2 : Bm < Bt) (m : Nat) (IH : SqSays Bm Bl Bt many m) : SqSays Bm Bl Bt many (m + 1) := by
  intro low left xs w h hm h0 hL hl0 hl
  have hi := h
  obtain ⟨v, hv, hmn, ht, hown⟩ := h
  obtain ⟨A, c, rfl⟩ := own_slice hown
  have cL := cell_of_one hv
  have fL := free_of_one hv
  have cM := cell_of_one hmn
  have e1 : (((xs.length : Nat) : Int) == many - 1) = false := by rw [beq_eq_false_iff_ne]; omega
  have hxl : xs.length ≤ 3 := by omega
  have hM1 : 1 ≤ many := by omega
  have HI := sq_hide hi
  have HX0 : Hid (¬ Bt = Bl) := sq_hide (fun e => by subst e; rw [hv] at ht; simp at ht)
  have HE := sq_hide hm
  have HIH := sq_hide IH
  clear hi hv hmn ht hown hm IH
  go_enter Tryz.func109, Tryz.ntmps109
  go_wp2
  clear cL fL cM
  go_loopw [10] (fun x wr => ∃ xi : Int, x = .int .i64 xi ∧ low ≤ xi ∧ Hid (xi ≤ left + 1 ∨ xi = low) ∧ Hid (SqInv Bm Bl Bt many xs wr) ∧ Hid (sqs (m + 1) low left = sqFrom (fun x => sqs m x (left - x * x)) (m + 2) left (left + 2 - xi).toNat xi) ∧ Below Bm w wr) (fun x _ => (left + 2 - intOf x).toNat)
  case atStart => exact ⟨low, rfl, Int.le_refl _, sq_hide (.inr rfl), HI, sq_hide rfl, Below.refl _ _⟩
  case round =>
    obtain ⟨xi, rfl, hlx, HX, HW, HF, hB⟩ := hrel
    have hw := HW.out
    obtain ⟨v, hv, hmn, ht, hown⟩ := hw
    obtain ⟨A, c, rfl⟩ := own_slice hown
    have cL := cell_of_one hv
    have fL := free_of_one hv
    have cM := cell_of_one hmn
    have hx5 : xi ≤ 5001 := by rcases HX.out with h | h <;> omega
    have hs := sq_nonneg xi
    have hS := sq_le (show 0 ≤ xi by omega) hx5
    have em : many - (xs.length : Int) = m + 2 := by have := HE.out; omega
    have hmm : (m : Int) + 2 ≤ 4 := by have := HE.out; omega
    have hp0 : 0 ≤ xi * xi * (m + 2) := Int.mul_nonneg hs (by omega)
    have hp1 : xi * xi * (m + 2) ≤ 25010001 * 4 := mul_le2 hs (by omega) (by omega) hmm
    have w1 : wrap64 (xi * xi) = xi * xi := w64 (by omega) (by omega)
    have w2 : wrap64 (many - (xs.length : Int)) = m + 2 := by rw [em]; exact w64 (by omega) (by omega)
    have w3 : wrap64 (xi * xi * (m + 2)) = xi * xi * (m + 2) := w64 (by omega) (by omega)
    have HV := sq_hide hv
    have HM := sq_hide hmn
    have HT := sq_hide ht
    have HO := sq_hide hown
    have HBB : Hid (Bm + 1 ≤ wr.heap.size) := sq_hide (lt_of_block hmn)
    have H88 : Hid ((xs.length + 1) * 8 ≤ 140737488355328) := sq_hide (by omega)
    clear hv hmn ht hown hS hp0 hp1
    by_cases c1 : xi * xi * (m + 2) ≤ left
    · have hbd := sq_bound (c := (m : Int) + 2) (by omega) (by omega) c1
      have c1b : decide (xi * xi * ((m : Int) + 2) ≤ left) = true := decide_eq_true c1
      have C1 := sq_hide c1
      clear c1
      have w4 : wrap64 (left - xi * xi) = left - xi * xi := w64 (by omega) (by omega)
      cases hcase : sqs m xi (left - xi * xi) with
      | some res =>
        have HY := sq_hide (sq_yes HIH.out (xs := xs) (many := many) (x := xi) (left := left) (res := res) HE.out (by omega) (by omega) hbd.1 (by omega) hcase)
        have hfin : sqs (m + 1) low left = some (xi :: res) := by rw [HF.out]; exact sqFrom_hit (by omega) (by omega) C1.out hcase
        have HN := sq_hide hfin
        have hne : ¬ Bt = Bl := HX0.out
        have hne2 : ¬ Bl = Bt := fun h => hne h.symm
        have hxe : xi ≤ left := hbd.2
        clear hcase hfin hbd
        go_wp2_with (first | (at_builtin; refine print_append_num (w0 := wr) (Bm + 1) rfl (.tmp 50) (.tmp 52) 27 3 .i64 8 rfl Tryz.underlying27 sqInfo (by decide) (.slice A xs.length c) xs xi rfl rfl HO.out (Below.refl _ _) HBB.out H88.out ?_; intro v1 w1 hown1 hB1 hg1 hat1; clear hat1; obtain ⟨A1, k1, rfl⟩ := own_slice hown1; have HV1 := sq_hide (sq_push (hg := hg1) (hv := by exact HV.out) (hmn := by exact HM.out) (ht := by exact HT.out) (hown := by exact HO.out) (hown1 := hown1)); obtain ⟨cL1, fL1⟩ := sq_same (hg := hg1) (hv := by exact HV.out) (hown := by exact HO.out); have cT1 := sq_cellT (u := .func (.func 109) #[] #[.pointer (some ⟨Bl, 0, none⟩), .pointer (some ⟨Bm, 0, none⟩), .pointer (some ⟨Bt, 0, none⟩)]) (xs := xs) (W := wr) (v := .slice A xs.length c) HT.out HO.out hg1; clear hown1 hg1 cL fL) | (go_at_call 109; refine (HY.out _ (by simpa using HV1.out)).mono ?_; rintro e w2 ⟨rfl, hI2, hB2⟩; have HI2 := sq_hide hI2; clear hI2))
        go_ret
        rw [HN.out]
        exact ⟨rfl, by simpa using HI2.out, hB.trans (((hB1.setCell (show Bm + 1 ≤ Bl by omega) _).mono (by omega)).trans (by simpa using hB2))⟩
      | none =>
        have HY := sq_hide (sq_no HIH.out (xs := xs) (many := many) (x := xi) (left := left) HE.out (by omega) (by omega) hbd.1 (by omega) hcase)
        have hfin := (HF.out).trans (sqFrom_next (by omega) (by omega) C1.out hcase)
        have HN := sq_hide hfin
        have hne : ¬ Bt = Bl := HX0.out
        have hne2 : ¬ Bl = Bt := fun h => hne h.symm
        have hxe : xi ≤ left := hbd.2
        clear hcase hfin hbd
        go_wp2_with (first | (at_builtin; refine print_append_num (w0 := wr) (Bm + 1) rfl (.tmp 50) (.tmp 52) 27 3 .i64 8 rfl Tryz.underlying27 sqInfo (by decide) (.slice A xs.length c) xs xi rfl rfl HO.out (Below.refl _ _) HBB.out H88.out ?_; intro v1 w1 hown1 hB1 hg1 hat1; clear hat1; obtain ⟨A1, k1, rfl⟩ := own_slice hown1; have HV1 := sq_hide (sq_push (hg := hg1) (hv := by exact HV.out) (hmn := by exact HM.out) (ht := by exact HT.out) (hown := by exact HO.out) (hown1 := hown1)); obtain ⟨cL1, fL1⟩ := sq_same (hg := hg1) (hv := by exact HV.out) (hown := by exact HO.out); have cT1 := sq_cellT (u := .func (.func 109) #[] #[.pointer (some ⟨Bl, 0, none⟩), .pointer (some ⟨Bm, 0, none⟩), .pointer (some ⟨Bt, 0, none⟩)]) (xs := xs) (W := wr) (v := .slice A xs.length c) HT.out HO.out hg1; clear hown1 hg1 cL fL) | (go_at_call 109; refine (HY.out _ (by simpa using HV1.out)).mono ?_; rintro e w2 ⟨rfl, ⟨g2, k2, hv2, hk2, hk3, hI2⟩, hB2⟩; have cL2 := cell_of_one hv2; have fL2 := free_of_one hv2; have HI2 := sq_hide hI2; have HV2 := sq_hide hv2; clear hI2 hv2))
        go_roundw
        case rel => exact ⟨xi + 1, by go_num, by omega, sq_hide (.inl (by omega)), sq_hide (by have := sq_drop (y := xi) HI2.out (by simpa using HV2.out); simpa using this), HN, (hB.trans (((hB1.setCell (show Bm + 1 ≤ Bl by omega) _).mono (by omega)).trans (by simpa using hB2))).setCell (show Bm ≤ Bl by omega) _⟩
        case measure => simp [intOf]; omega
    · have c1b : decide (xi * xi * ((m : Int) + 2) ≤ left) = false := decide_eq_false c1
      have hfin : sqs (m + 1) low left = none := by rw [HF.out]; exact sqFrom_stop _ c1
      have HN := sq_hide hfin
      clear c1 hfin
      go_wp2
      go_ret
      rw [HN.out]
      exact ⟨rfl, by simpa using HW.out, hB⟩
theorem sq_all (Bm Bl Bt : Nat) (many : Int) (hM : many ≤ 4) (hlt : Bm < Bl) (hlt2 : Bm < Bt) : ∀ m, SqSays Bm Bl Bt many m
  | 0 => fun low left xs w h hm h0 hL hl0 hl => sq_base Bm Bl Bt many low left xs w h (by simpa using hm) hM h0 hL hl0 hl hlt hlt2
  | m + 1 => sq_step Bm Bl Bt many hM hlt hlt2 m (sq_all Bm Bl Bt many hM hlt hlt2 m)
theorem sq_start (w : World) (a1 : Int) : SqInv w.heap.size (w.heap.size + 1 + 1) (w.heap.size + 1 + 1 + 1) a1 []
    ((((w.alloc (.cells #[.int .i64 a1] 3)).alloc (.cells #[] 3)).alloc (.cells #[.slice (some ⟨w.heap.size + 1, 0, none⟩) 0 0] 27)).alloc
      (.cells #[.func (.func 109) #[] #[.pointer (some ⟨w.heap.size + 1 + 1, 0, none⟩), .pointer (some ⟨w.heap.size, 0, none⟩), .pointer (some ⟨w.heap.size + 1 + 1 + 1, 0, none⟩)]] 68)) := by
  refine ⟨.slice (some ⟨w.heap.size + 1, 0, none⟩) 0 0, ?_, ?_, ?_, by simp [nums], .inr ⟨w.heap.size + 1, 0, #[], rfl, Nat.le_refl _, ?_, Nat.le_refl _, by simp [maxLen], by simp, by simp [nums]⟩⟩
  · refine (Below.heap_alloc _ _ _ (by simp)).trans ?_
    simpa using heap_alloc_new ((w.alloc (.cells #[.int .i64 a1] 3)).alloc (.cells #[] 3)) (.cells #[.slice (some ⟨w.heap.size + 1, 0, none⟩) 0 0] 27)
  · refine (Below.heap_alloc _ _ _ (by simp <;> omega)).trans ((Below.heap_alloc _ _ _ (by simp <;> omega)).trans ((Below.heap_alloc _ _ _ (by simp)).trans ?_))
    exact heap_alloc_new w _
  · simpa using heap_alloc_new (((w.alloc (.cells #[.int .i64 a1] 3)).alloc (.cells #[] 3)).alloc (.cells #[.slice (some ⟨w.heap.size + 1, 0, none⟩) 0 0] 27)) (.cells #[.func (.func 109) #[] #[.pointer (some ⟨w.heap.size + 1 + 1, 0, none⟩), .pointer (some ⟨w.heap.size, 0, none⟩), .pointer (some ⟨w.heap.size + 1 + 1 + 1, 0, none⟩)]] 68)
  · refine (Below.heap_alloc _ _ _ (by simp <;> omega)).trans ((Below.heap_alloc _ _ _ (by simp)).trans ?_)
    simpa using heap_alloc_new (w.alloc (.cells #[.int .i64 a1] 3)) (.cells #[] 3)
/-- squaresOf, as it is asked here: of 1 to 4 squares. -/
def impl_squaresOf.f (a0 : Int) (a1 : Int) : Option (List Int × Bool) :=
  if 1 ≤ a1 ∧ a1 ≤ 4 then (if a0 < 0 ∨ a0 > 2000 then some ([], false) else match sqs (a1 - 1).toNat 0 a0 with | some r => some (r, true) | none => some ([], false)) else none
set_option maxHeartbeats 4000000 in
set_option maxRecDepth 100000 in
theorem impl_squaresOf.calls (a0 : Int) (a1 : Int) (r1 : List Int) (r2 : Bool) (w : World) (h : impl_squaresOf.f a0 a1 = some (r1, r2)) :
    Calls Tryz.prog 55 #[.int .i64 a0, .int .i64 a1] w fun e w' => ∃ v0_ : Value, e = .returned (.tuple #[v0_, .bool r2]) ∧ Kd.R (Kd.int .i64) 3 w' w.heap.size (fun _ => True) v0_ r1 ∧ Below w.heap.size w w' := by
  unfold impl_squaresOf.f at h
  by_cases hm : 1 ≤ a1 ∧ a1 ≤ 4
  · rw [if_pos hm] at h
    obtain ⟨hm1, hm4⟩ := hm
    by_cases hlo : a0 < 0
    · rw [if_pos (.inl hlo)] at h
      have h1 : decide (a0 < 0) = true := decide_eq_true hlo
      simp only [Option.some.injEq, Prod.mk.injEq] at h
      obtain ⟨rfl, rfl⟩ := h
      clear hlo
      go_enter Tryz.func55, Tryz.ntmps55
      go_wp2
      go_ret2
      exact ⟨_, rfl, Kd.R_nil _ _ _ _ _, (Below.refl _ _).alloc (Nat.le_refl _) _⟩
    · by_cases hhi : a0 > 2000
      · rw [if_pos (.inr hhi)] at h
        have h1 : decide (a0 < 0) = false := decide_eq_false hlo
        have h2 : decide (2000 < a0) = true := decide_eq_true hhi
        simp only [Option.some.injEq, Prod.mk.injEq] at h
        obtain ⟨rfl, rfl⟩ := h
        clear hlo hhi
        go_enter Tryz.func55, Tryz.ntmps55
        go_wp2
        go_ret2
        exact ⟨_, rfl, Kd.R_nil _ _ _ _ _, (Below.refl _ _).alloc (Nat.le_refl _) _⟩
      · rw [if_neg (by omega)] at h
        have h1 : decide (a0 < 0) = false := decide_eq_false hlo
        have h2 : decide (2000 < a0) = false := decide_eq_false hhi
        have hs := sq_all w.heap.size (w.heap.size + 1 + 1) (w.heap.size + 1 + 1 + 1) a1 hm4 (by omega) (by omega) (a1 - 1).toNat 0 a0 [] _ (sq_start w a1) (by simp <;> omega) (by omega) (by omega) (by omega) (by omega)
        simp only [List.nil_append] at hs
        clear hlo hhi hm1 hm4
        cases hq : sqs (a1 - 1).toNat 0 a0 with
        | none =>
          rw [hq] at hs h
          simp only [Option.some.injEq, Prod.mk.injEq] at h
          obtain ⟨rfl, rfl⟩ := h
          simp only [Option.isSome_none] at hs
          have HS := sq_hide hs
          clear hs hq
          go_enter Tryz.func55, Tryz.ntmps55
          go_wp2_with (go_at_call 109; refine HS.out.mono ?_; rintro e w2 ⟨rfl, hI2, hB2⟩; clear hI2)
          go_ret2
          exact ⟨_, rfl, Kd.R_nil _ _ _ _ _, (((((Below.refl _ w).alloc (Nat.le_refl _) _).alloc (by simp) _).alloc (by simp <;> omega) _).alloc (by simp <;> omega) _).trans (by simpa using hB2)⟩
        | some r =>
          rw [hq] at hs h
          simp only [Option.some.injEq, Prod.mk.injEq] at h
          obtain ⟨rfl, rfl⟩ := h
          simp only [Option.isSome_some, Option.getD_some] at hs
          have HS := sq_hide hs
          clear hs hq
          go_enter Tryz.func55, Tryz.ntmps55
          go_wp2_with (go_at_call 109; refine HS.out.mono ?_; rintro e w2 ⟨rfl, ⟨v2, hv2, _, _, hown2⟩, hB2⟩; obtain ⟨A2, k2, rfl⟩ := own_slice hown2; have cL2 := cell_of_one hv2; clear hv2)
          go_ret2
          exact ⟨_, rfl, Kd.R_of_own (own_weaken hown2 (Nat.le_succ _)) (fun _ _ => trivial), (((((Below.refl _ w).alloc (Nat.le_refl _) _).alloc (by simp) _).alloc (by simp <;> omega) _).alloc (by simp <;> omega) _).trans (by simpa using hB2)⟩
  · rw [if_neg hm] at h; cases h

end

/-! ### impl_FourFind: function 19 -/
def impl_FourFind.f (a0 : Int) : Option (List Int × Bool) := (impl_squaresOf.f a0 4).bind fun bt106 => (some (bt106.1, bt106.2))
set_option maxHeartbeats 8000000 in
set_option maxRecDepth 100000 in
theorem impl_FourFind.calls (a0 : Int) (r1 : List Int) (r2 : Bool) (w : World) (h : impl_FourFind.f a0 = some (r1, r2)) :
    Calls Tryz.prog 19 #[.int .i64 a0] w fun e w' => ∃ v0_ : Value, e = .returned (.tuple #[v0_, .bool r2]) ∧ Kd.R (Kd.int .i64) 3 w' w.heap.size (fun _ => True) v0_ r1 ∧ Below w.heap.size w w' := by
  have HB := Aside0.mk (Below.refl w.heap.size w)
  have H : ((impl_squaresOf.f a0 4).bind fun bt106 => (some (bt106.1, bt106.2))) = some (r1, r2) := h
  clear h
  replace H := Option.bind_eq_some_iff.mp H
  obtain ⟨⟨t106, t107⟩, A20, H⟩ := H
  replace H : (some (t106, t107)) = some (r1, r2) := H
  have A2 := Aside0.mk A20
  clear A20
  simp only [Option.some.injEq, Prod.mk.injEq] at H
  obtain ⟨rfl, rfl⟩ := H
  go_enter Tryz.func19, Tryz.ntmps19
  go_wp2_with (first | ((with_reducible refine gate_callee (f := 55) rfl ?_); refine goesL_ (some 5) rfl rfl Tryz.func55 (by kernel_rfl) rfl #[.int .i64 a0, .int .i64 4] rfl Sqz.auM ?_; (with_reducible refine (impl_squaresOf.calls a0 4 t106 t107 _ A2.out).mono ?_); rintro e w3 ⟨v108, rfl, ho0, hb⟩; refine ⟨_, rfl, ?_⟩; have n0_ := Aside0.mk (Kd.R_lower ho0 (below_size (Sqz.auHB))); have n1_ := Aside0.mk (below_step (Sqz.auHB) hb); clear HB; have HO109 := n0_; have HB := n1_; clear n0_ n1_; (try clear hb); (try clear hb2); (try clear hk); (try clear hi); (try clear ho0)))
  go_ret2
  exact ⟨_, Sqz.auR, (Sqz.mvR HO109.out), Sqz.auHB⟩

end Go.Proofs.YtacfcoilmdhgnaaGreatDoor.PFnExecuteSquares
