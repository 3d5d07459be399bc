/- A function's Lean twin and its walk, written by a program of this session. -/
import Derived.Test.YtacfcoilmdhgnaaGreatDoorTPFnExecuteValuex0
namespace Go.Proofs.YtacfcoilmdhgnaaGreatDoor.PFnExecuteValue
open Go.RowKit Go.Proofs.YtacfcoilmdhgnaaGreatDoorW.PrintWords Go.Proofs.YtacfcoilmdhgnaaGreatDoorW.PrintLast Go.Proofs.YtacfcoilmdhgnaaGreatDoorW.PrintMore
attribute [local go_sem] max2_int min2_int max_two min_two max_three min_three max_four min_four   -- for this text's walks alone
set_option linter.unusedVariables false
set_option linter.unusedSimpArgs false

/-! ### stringslite_HasPrefix: function 181 -/
def stringslite_HasPrefix.f (a0 : ByteArray) (a1 : ByteArray) : Option (Bool) := if (a0.size : Int) ≥ (a1.size : Int) then (if 0 ≤ (a1.size : Int) then (if (a1.size : Int) ≤ (a0.size : Int) then (some ((a0.extract 0 ((a1.size : Int) : Int).toNat).toList == a1.toList)) else (none)) else (none)) else (some false)
set_option maxHeartbeats 8000000 in
set_option maxRecDepth 100000 in
theorem stringslite_HasPrefix.calls (a0 : ByteArray) (a1 : ByteArray) (r : Bool) (w : World) (h : stringslite_HasPrefix.f a0 a1 = some r) :
  Calls Tryz.prog 181 #[.string a0, .string a1] w fun e w' => e = .returned (.bool r) ∧ Drawn0 w w' := by
 have H : (if (a0.size : Int) ≥ (a1.size : Int) then (if 0 ≤ (a1.size : Int) then (if (a1.size : Int) ≤ (a0.size : Int) then (some ((a0.extract 0 ((a1.size : Int) : Int).toNat).toList == a1.toList)) else (none)) else (none)) else (some false)) = some r := h; clear h
 by_cases c3 : (a0.size : Int) ≥ (a1.size : Int)
 ·rw [if_pos c3] at H; have c3b1 : decide (a1.size ≤ a0.size) = true := decide_eq_true (Int.ofNat_le.mp c3); clear c3
  by_cases c4 : 0 ≤ (a1.size : Int)
  ·rw [if_pos c4] at H; have c4b0 := eq_true c4; clear c4
   by_cases c5 : (a1.size : Int) ≤ (a0.size : Int)
   ·rw [if_pos c5] at H; have c5b0 := eq_true c5; clear c5; obtain rfl := Option.some.inj H
    go_enter Tryz.func181, Tryz.ntmps181
    go_wp2; go_ret
    exact ⟨Sqz.auS, by repeat (first | exact Drawn0.refl _ | apply Drawn0.step)⟩
   ·rw [if_neg c5] at H; exact absurd H (by simp)
  ·rw [if_neg c4] at H; exact absurd H (by simp)
 ·rw [if_neg c3] at H; have c3b1 : decide (a1.size ≤ a0.size) = false := decide_eq_false (fun h => c3 (Int.ofNat_le.mpr h)); clear c3; obtain rfl := Option.some.inj H
  go_enter Tryz.func181, Tryz.ntmps181
  go_wp2; go_ret
  exact ⟨Sqz.auS, by repeat (first | exact Drawn0.refl _ | apply Drawn0.step)⟩

/-! ### stringslite_CutPrefix: function 164 -/
def stringslite_CutPrefix.f (a0 : ByteArray) (a1 : ByteArray) : Option (ByteArray × Bool) := (stringslite_HasPrefix.f a0 a1).bind fun t101 => (if t101 = true then (if 0 ≤ (a1.size : Int) then (if (a1.size : Int) ≤ (a0.size : Int) then (some (a0.extract ((a1.size : Int) : Int).toNat a0.size, true)) else (none)) else (none)) else (some (a0, false)))
set_option maxHeartbeats 8000000 in
set_option maxRecDepth 100000 in
theorem stringslite_CutPrefix.calls (a0 : ByteArray) (a1 : ByteArray) (r1 : ByteArray) (r2 : Bool) (w : World) (h : stringslite_CutPrefix.f a0 a1 = some (r1, r2)) :
  Calls Tryz.prog 164 #[.string a0, .string a1] w fun e w' => e = .returned (.tuple #[.string r1, .bool r2]) ∧ Drawn0 w w' := by
 have H : ((stringslite_HasPrefix.f a0 a1).bind fun t101 => (if t101 = true then (if 0 ≤ (a1.size : Int) then (if (a1.size : Int) ≤ (a0.size : Int) then (some (a0.extract ((a1.size : Int) : Int).toNat a0.size, true)) else (none)) else (none)) else (some (a0, false)))) = some (r1, r2) := h; clear h; obtain ⟨t101, A3, H⟩ := Sqz.be H
 by_cases c4 : t101 = true
 ·subst c4; have H1 : (if 0 ≤ (a1.size : Int) then (if (a1.size : Int) ≤ (a0.size : Int) then (some (a0.extract ((a1.size : Int) : Int).toNat a0.size, true)) else (none)) else (none)) = some (r1, r2) := by rw [if_pos rfl] at H; exact H
  clear H; have H := H1; clear H1
  by_cases c5 : 0 ≤ (a1.size : Int)
  ·rw [if_pos c5] at H; have c5b0 := eq_true c5; clear c5
   by_cases c6 : (a1.size : Int) ≤ (a0.size : Int)
   ·rw [if_pos c6] at H; have c6b0 := eq_true c6; clear c6; simp only [Option.some.injEq, Prod.mk.injEq] at H; obtain ⟨rfl, rfl⟩ := H
    go_enter Tryz.func164, Tryz.ntmps164
    go_wp2_with (((with_reducible refine gate_callee (f := 181) rfl ?_); refine goesL_ (some 8) rfl rfl Tryz.func181 (by kernel_rfl) rfl #[.string a0, .string a1] rfl Sqz.auM ?_; (with_reducible refine (stringslite_HasPrefix.calls a0 a1 true _ A3.out).mono ?_); rintro e w' ⟨rfl, ⟨nd, rfl⟩⟩; refine ⟨_, rfl, ?_⟩))
    go_ret2
    exact ⟨Sqz.auS, by repeat (first | exact Drawn0.refl _ | apply Drawn0.step)⟩
   ·rw [if_neg c6] at H; exact absurd H (by simp)
  ·rw [if_neg c5] at H; exact absurd H (by simp)
 ·replace c4 := Bool.eq_false_iff.mpr c4; subst c4; have H1 : (some (a0, false)) = some (r1, r2) := by rw [if_neg (show ¬ (false = true) by decide)] at H; exact H
  clear H; have H := H1; clear H1; simp only [Option.some.injEq, Prod.mk.injEq] at H; obtain ⟨rfl, rfl⟩ := H
  go_enter Tryz.func164, Tryz.ntmps164
  go_wp2_with (((with_reducible refine gate_callee (f := 181) rfl ?_); refine goesL_ (some 8) rfl rfl Tryz.func181 (by kernel_rfl) rfl #[.string a0, .string a1] rfl Sqz.auM ?_; (with_reducible refine (stringslite_HasPrefix.calls a0 a1 false _ A3.out).mono ?_); rintro e w' ⟨rfl, ⟨nd, rfl⟩⟩; refine ⟨_, rfl, ?_⟩))
  go_ret2
  exact ⟨Sqz.auS, by repeat (first | exact Drawn0.refl _ | apply Drawn0.step)⟩

/-! ### strings_CutPrefix: function 144 -/
def strings_CutPrefix.f (a0 : ByteArray) (a1 : ByteArray) : Option (ByteArray × Bool) := (stringslite_CutPrefix.f a0 a1).bind fun bt102 => (some (bt102.1, bt102.2))
set_option maxHeartbeats 8000000 in
set_option maxRecDepth 100000 in
theorem strings_CutPrefix.calls (a0 : ByteArray) (a1 : ByteArray) (r1 : ByteArray) (r2 : Bool) (w : World) (h : strings_CutPrefix.f a0 a1 = some (r1, r2)) :
  Calls Tryz.prog 144 #[.string a0, .string a1] w fun e w' => e = .returned (.tuple #[.string r1, .bool r2]) ∧ Drawn0 w w' := by
 have H : ((stringslite_CutPrefix.f a0 a1).bind fun bt102 => (some (bt102.1, bt102.2))) = some (r1, r2) := h; clear h; replace H := Option.bind_eq_some_iff.mp H; obtain ⟨⟨t102, t103⟩, A30, H⟩ := H; replace H : (some (t102, t103)) = some (r1, r2) := H; have A3 := Aside0.mk A30; clear A30; simp only [Option.some.injEq, Prod.mk.injEq] at H; obtain ⟨rfl, rfl⟩ := H
 go_enter Tryz.func144, Tryz.ntmps144
 go_wp2_with (((with_reducible refine gate_callee (f := 164) rfl ?_); refine goesL_ (some 8) rfl rfl Tryz.func164 (by kernel_rfl) rfl #[.string a0, .string a1] rfl Sqz.auM ?_; (with_reducible refine (stringslite_CutPrefix.calls a0 a1 t102 t103 _ A3.out).mono ?_); rintro e w' ⟨rfl, ⟨nd, rfl⟩⟩; refine ⟨_, rfl, ?_⟩))
 go_ret2
 exact ⟨Sqz.auS, by repeat (first | exact Drawn0.refl _ | apply Drawn0.step)⟩

/-! ### impl_numberOf: function 96 -/
mutual
def impl_numberOf.j0 : Nat → ByteArray → Bool → Bool → Option (Int)
 | 0, _, _, _ => none
 | k + 1, x3, x4, x19 => if x19 = true then (some 99999) else (impl_numberOf.l0 k x3 x4 0 (x3.size : Int) 0)
def impl_numberOf.l0 : Nat → ByteArray → Bool → Int → Int → Int → Option (Int)
 | 0, _, _, _, _, _ => none
 | k + 1, x3, x4, x5, x21, x22 => if x22 < x21 then (if 0 ≤ x22 then (if x22 < (x3.size : Int) then (if (bt x3 x22) < 48 then (some 99999) else (if (bt x3 x22) > 57 then (some 99999) else (impl_numberOf.l0 k x3 x4 (wrap64 ((wrap64 (x5 * 10)) + (((bt x3 x22) - 48) % 256))) x21 (wrap64 (x22 + 1))))) else (none)) else (none)) else (if x4 = true then (some (wrap64 (-x5))) else (some x5))
end
def impl_numberOf.f (k : Nat) (a0 : ByteArray) : Option (Int) := (strings_CutPrefix.f a0 (⟨#[45]⟩ : ByteArray)).bind fun bt104 => (if (bt104.1.size : Int) < 1 then (impl_numberOf.j0 k bt104.1 bt104.2 true) else (impl_numberOf.j0 k bt104.1 bt104.2 (decide ((bt104.1.size : Int) > 4))))
set_option maxHeartbeats 8000000 in
set_option maxRecDepth 100000 in
theorem impl_numberOf.calls (k : Nat) (a0 : ByteArray) (r : Int) (w : World) (h : impl_numberOf.f k a0 = some r) :
  Calls Tryz.prog 96 #[.string a0] w fun e w' => e = .returned (.int .i64 r) ∧ Drawn0 w w' := by
 have H : ((strings_CutPrefix.f a0 (⟨#[45]⟩ : ByteArray)).bind fun bt104 => (if (bt104.1.size : Int) < 1 then (impl_numberOf.j0 k bt104.1 bt104.2 true) else (impl_numberOf.j0 k bt104.1 bt104.2 (decide ((bt104.1.size : Int) > 4))))) = some r := h; clear h; replace H := Option.bind_eq_some_iff.mp H; obtain ⟨⟨t104, t105⟩, A20, H⟩ := H; replace H : (if (t104.size : Int) < 1 then (impl_numberOf.j0 k t104 t105 true) else (impl_numberOf.j0 k t104 t105 (decide ((t104.size : Int) > 4)))) = some r := H; have A2 := Aside0.mk A20; clear A20; have HC3 := Aside0.mk H; clear H
 go_enter Tryz.func96, Tryz.ntmps96
 go_upto_region 2 with (((with_reducible refine gate_callee (f := 144) rfl ?_); refine goesL_ (some 9) rfl rfl Tryz.func144 (by kernel_rfl) rfl #[.string a0, .string (⟨#[45]⟩ : ByteArray)] rfl Sqz.auM ?_; (with_reducible refine (strings_CutPrefix.calls a0 (⟨#[45]⟩ : ByteArray) t104 t105 _ A2.out).mono ?_); rintro e w' ⟨rfl, ⟨nd, rfl⟩⟩; refine ⟨_, rfl, ?_⟩))
 (try simp only [Act.put, List.setIfInBounds_toArray, List.set_cons_zero, List.set_cons_succ])
 go_cut [19] (fun v19 wc => ∃ (kq : Nat) (x19_2 : Bool), v19 = .bool x19_2 ∧ Aside0 (impl_numberOf.j0 kq t104 t105 x19_2 = some r) ∧ Aside0 (kq ≤ k) ∧ Drawn0 w wc)
 case first =>
  have H := HC3.out; clear HC3
  by_cases c4 : (t104.size : Int) < 1
  ·rw [if_pos c4] at H; have c4b0 := decide_eq_true c4; clear c4
   have H' := Aside0.mk H; clear H; go_wp2
   go_meet
   case rel => exact ⟨_, (true), Sqz.auS, H', ⟨Sqz.auN⟩, by repeat (first | exact Drawn0.refl _ | apply Drawn0.step)⟩
  ·rw [if_neg c4] at H; have c4b0 := decide_eq_false c4; clear c4
   have H' := Aside0.mk H; clear H; go_wp2
   go_meet
   case rel => exact ⟨_, (decide ((t104.size : Int) > 4)), Sqz.auS, H', ⟨Sqz.auN⟩, by repeat (first | exact Drawn0.refl _ | apply Drawn0.step)⟩
 case rest =>
  clear HC3
  obtain ⟨kq, x19_2, rfl, HA, HJ2, ⟨mc2, rfl⟩⟩ := hcut; cases kq with
  | zero => exact absurd HA.out (by simp [impl_numberOf.j0])
  | succ kj2 =>
   have H := HA.out; clear HA; simp only [impl_numberOf.j0] at H
   by_cases c5 : x19_2 = true
   ·subst c5; have H1 : (some 99999) = some r := by rw [if_pos rfl] at H; exact H
    clear H; have H := H1; clear H1; obtain rfl := Option.some.inj H; go_wp2; go_ret
    exact ⟨Sqz.auS, by repeat (first | exact Drawn0.refl _ | apply Drawn0.step)⟩
   ·replace c5 := Bool.eq_false_iff.mpr c5; subst c5; have H1 : (impl_numberOf.l0 kj2 t104 t105 0 (t104.size : Int) 0) = some r := by rw [if_neg (show ¬ (false = true) by decide)] at H; exact H
    clear H; have H := H1; clear H1; have H' := Aside0.mk H; clear H; go_wp2
    go_loopg [5, 22] kj2 (fun kq v5 v22 w' => ∃ (x5_2 : Int) (x22_2 : Int), v5 = .int .i64 x5_2 ∧ v22 = .int .i64 x22_2 ∧ Aside0 (impl_numberOf.l0 kq t104 t105 x5_2 (t104.size : Int) x22_2 = some r) ∧ Aside0 (kq ≤ kj2) ∧ Drawn0 w w')
    case atStart => exact ⟨(0), (0), Sqz.auS, Sqz.auS, H', ⟨Nat.le_refl _⟩, by repeat (first | exact Drawn0.refl _ | apply Drawn0.step)⟩
    case round =>
     clear H'
     obtain ⟨x5_2, x22_2, rfl, rfl, HA, HK2, ⟨m2, rfl⟩⟩ := hrel; cases gk with
     | zero => exact absurd HA.out (by simp [impl_numberOf.l0])
     | succ k2 =>
      have H := HA.out; clear HA; simp only [impl_numberOf.l0] at H
      by_cases c6 : x22_2 < (t104.size : Int)
      ·rw [if_pos c6] at H; have c6b0 := decide_eq_true c6; clear c6
       by_cases c7 : 0 ≤ x22_2
       ·rw [if_pos c7] at H; have c7b0 := decide_eq_true c7; clear c7
        by_cases c8 : x22_2 < (t104.size : Int)
        ·rw [if_pos c8] at H; have c8b0 := decide_eq_true c8; clear c8
         by_cases c10 : (bt t104 x22_2) < 48
         ·rw [if_pos c10] at H; have c10b0 := decide_eq_true c10; clear c10; obtain rfl := Option.some.inj H; have p9 : 0 ≤ (x22_2 : Int) := Sqz.od; have q9 : x22_2 < (t104.size : Int) := Sqz.od; have hx9 := bt_at t104 x22_2; replace p9 := eq_true p9; replace q9 := eq_true q9; go_wp2; go_ret
          exact ⟨Sqz.auS, by repeat (first | exact Drawn0.refl _ | apply Drawn0.step)⟩
         ·rw [if_neg c10] at H; have c10b0 := decide_eq_false c10; clear c10
          by_cases c12 : (bt t104 x22_2) > 57
          ·rw [if_pos c12] at H; have c12b0 : decide (57 < (bt t104 x22_2)) = true := decide_eq_true c12; clear c12; obtain rfl := Option.some.inj H; have p9 : 0 ≤ (x22_2 : Int) := Sqz.od; have q9 : x22_2 < (t104.size : Int) := Sqz.od; have hx9 := bt_at t104 x22_2; replace p9 := eq_true p9; replace q9 := eq_true q9; have p11 : 0 ≤ (x22_2 : Int) := Sqz.od; have q11 : x22_2 < (t104.size : Int) := Sqz.od; have hx11 := bt_at t104 x22_2; replace p11 := eq_true p11; replace q11 := eq_true q11; go_wp2; go_ret
           exact ⟨Sqz.auS, by repeat (first | exact Drawn0.refl _ | apply Drawn0.step)⟩
          ·rw [if_neg c12] at H; have c12b0 : decide (57 < (bt t104 x22_2)) = false := decide_eq_false c12; clear c12; have H' := Aside0.mk H; clear H; have p9 : 0 ≤ (x22_2 : Int) := Sqz.od; have q9 : x22_2 < (t104.size : Int) := Sqz.od; have hx9 := bt_at t104 x22_2; replace p9 := eq_true p9; replace q9 := eq_true q9; have p11 : 0 ≤ (x22_2 : Int) := Sqz.od; have q11 : x22_2 < (t104.size : Int) := Sqz.od; have hx11 := bt_at t104 x22_2; replace p11 := eq_true p11; replace q11 := eq_true q11; have p13 : 0 ≤ (x22_2 : Int) := Sqz.od; have q13 : x22_2 < (t104.size : Int) := Sqz.od; have hx13 := bt_at t104 x22_2; replace p13 := eq_true p13; replace q13 := eq_true q13; go_wp2
           go_roundg k2
           case measure => have := HJ2.out; have := HK2.out; omega
           case rel => exact ⟨(wrap64 ((wrap64 (x5_2 * 10)) + (((bt t104 x22_2) - 48) % 256))), (wrap64 (x22_2 + 1)), Sqz.auS, Sqz.auS, H', ⟨by have := HJ2.out; have := HK2.out; omega⟩, by repeat (first | exact Drawn0.refl _ | apply Drawn0.step)⟩
        ·rw [if_neg c8] at H; exact absurd H (by simp)
       ·rw [if_neg c7] at H; exact absurd H (by simp)
      ·rw [if_neg c6] at H; have c6b0 := decide_eq_false c6; clear c6
       by_cases c14 : t105 = true
       ·subst c14; have H1 : (some (wrap64 (-x5_2))) = some r := by rw [if_pos rfl] at H; exact H
        clear H; have H := H1; clear H1; obtain rfl := Option.some.inj H; go_wp2; go_ret
        exact ⟨Sqz.auS, by repeat (first | exact Drawn0.refl _ | apply Drawn0.step)⟩
       ·replace c14 := Bool.eq_false_iff.mpr c14; subst c14; have H1 : (some x5_2) = some r := by rw [if_neg (show ¬ (false = true) by decide)] at H; exact H
        clear H; have H := H1; clear H1; obtain rfl := Option.some.inj H; go_wp2; go_ret
        exact ⟨Sqz.auS, by repeat (first | exact Drawn0.refl _ | apply Drawn0.step)⟩

/-! ### impl_size: function 112 -/
def impl_size.f (a0 : Int) : Option (Int) := some (mx a0 (wrap64 (-a0)))
set_option maxHeartbeats 8000000 in
set_option maxRecDepth 100000 in
theorem impl_size.calls (a0 : Int) (r : Int) (w : World) (h : impl_size.f a0 = some r) :
  Calls Tryz.prog 112 #[.int .i64 a0] w fun e w' => e = .returned (.int .i64 r) ∧ Below w.heap.size w w' := by
 have HB := Aside0.mk (Below.refl w.heap.size w); have H : (some (mx a0 (wrap64 (-a0)))) = some r := h; clear h; obtain ⟨ji2, hji2⟩ : ∃ j_ : Int, (mx a0 (wrap64 (-a0))) = j_ := ⟨_, rfl⟩
 replace H : (some ji2) = some r := by first | (rw [hji2] at H; exact H) | (simp only [hji2] at H ⊢; exact H)
 have hji2_ : (if a0 < (wrap64 (-a0)) then (wrap64 (-a0)) else a0) = ji2 := hji2; obtain rfl := Option.some.inj H
 go_enter Tryz.func112, Tryz.ntmps112
 go_wp2; go_ret
 exact ⟨by first | rfl | (simp [errW_none, errW_some] <;> rfl) | (simp only [← hji2]; first | rfl | (simp [errW_none, errW_some] <;> rfl)) | (simp [*, errW_none, errW_some] <;> rfl), Sqz.auHB⟩

/-! ### impl_FormValid: function 59 -/
def impl_FormValid.l0 : Nat → List Int → List Int → Int → Int → Option (Bool)
 | 0, _, _, _, _ => none
 | k + 1, x0, x5, x6, x7 => if x7 < x6 then (if 0 ≤ x7 then (if x7 < (x5.length : Int) then (if (rd x5 x7) = 0 then (some false) else ((impl_size.f (rd x5 x7)).bind fun t107 => (if t107 > 30 then (some false) else (impl_FormValid.l0 k x0 x5 x6 (wrap64 (x7 + 1)))))) else (none)) else (none)) else (if (x0.length : Int) ≥ 1 then (some (decide ((x0.length : Int) ≤ 4))) else (some false))
def impl_FormValid.f (k : Nat) (l0 : List Int) : Option (Bool) := impl_FormValid.l0 k l0 l0 (l0.length : Int) 0
set_option maxHeartbeats 8000000 in
set_option maxRecDepth 100000 in
theorem impl_FormValid.calls (k : Nat) (A0 : Option Addr) (c0 : Nat) (l0 : List Int) (r : Bool) (w : World) (hr0 : Kd.C (Kd.int .i64) w A0 l0.length l0) (hc0 : l0.length ≤ c0) (h : impl_FormValid.f k l0 = some r) :
  Calls Tryz.prog 59 #[.slice A0 l0.length c0] w fun e w' => e = .returned (.bool r) ∧ Below w.heap.size w w' := by
 have HR0 := Aside0.mk hr0; have HC0 := Aside0.mk hc0; clear hr0 hc0; have HB := Aside0.mk (Below.refl w.heap.size w); have H : (impl_FormValid.l0 k l0 l0 (l0.length : Int) 0) = some r := h; clear h; have H' := Aside0.mk H; clear H
 go_enter Tryz.func59, Tryz.ntmps59
 go_wp2
 go_loopg [7] k (fun kq v7 w' => ∃ (x7_1 : Int), v7 = .int .i64 x7_1 ∧ Aside0 (impl_FormValid.l0 kq l0 l0 (l0.length : Int) x7_1 = some r) ∧ Aside0 (kq ≤ k) ∧ Aside0 (Below w.heap.size w w'))
 case atStart => exact ⟨(0), Sqz.auS, H', ⟨Nat.le_refl _⟩, ⟨Sqz.auHB⟩⟩
 case round =>
  clear H'; obtain ⟨x7_1, rfl, HA, HK1, HB⟩ := hrel; cases gk with
  | zero => exact absurd HA.out (by simp [impl_FormValid.l0])
  | succ k1 =>
   have H := HA.out; clear HA; simp only [impl_FormValid.l0] at H
   by_cases c2 : x7_1 < (l0.length : Int)
   ·rw [if_pos c2] at H; have c2b0 := decide_eq_true c2; clear c2
    by_cases c3 : 0 ≤ x7_1
    ·rw [if_pos c3] at H; have c3b0 := decide_eq_true c3; clear c3
     by_cases c4 : x7_1 < (l0.length : Int)
     ·rw [if_pos c4] at H; have c4b0 := decide_eq_true c4; clear c4
      by_cases c5 : (rd l0 x7_1) = 0
      ·rw [if_pos c5] at H; have c5b0 := beq_iff_eq.mpr c5; clear c5; obtain rfl := Option.some.inj H; have p106 : 0 ≤ (x7_1 : Int) := Sqz.od; have q106 : x7_1 < (l0.length : Int) := Sqz.od; obtain ⟨ad106, e106, hx106_0⟩ := Kd.at_int HR0.out x7_1 p106 q106; cases e106; replace hx106_0 := (HB.out.cell (World.block_lt_of_cell? w _ hx106_0)).trans hx106_0; replace p106 := eq_true p106; replace q106 := eq_true q106; go_wp2; go_ret
       exact ⟨Sqz.auR, Sqz.auHB⟩
      ·rw [if_neg c5] at H; have c5b0 := beq_eq_false_iff_ne.mpr c5; obtain ⟨t107, A6, H⟩ := Sqz.be H
       by_cases c7 : t107 > 30
       ·rw [if_pos c7] at H; have c7b0 : decide (30 < t107) = true := decide_eq_true c7; clear c7; obtain rfl := Option.some.inj H; have p106 : 0 ≤ (x7_1 : Int) := Sqz.od; have q106 : x7_1 < (l0.length : Int) := Sqz.od; obtain ⟨ad106, e106, hx106_0⟩ := Kd.at_int HR0.out x7_1 p106 q106; cases e106; replace hx106_0 := (HB.out.cell (World.block_lt_of_cell? w _ hx106_0)).trans hx106_0; replace p106 := eq_true p106; replace q106 := eq_true q106
        go_wp2_with ((go_at_call 112; (with_reducible refine (impl_size.calls (rd l0 x7_1) t107 _ A6.out).mono ?_); rintro e w8 ⟨rfl, hb⟩; replace HB := Aside0.mk (below_step (Sqz.auHB) hb); (try clear hb)))
        go_ret
        exact ⟨Sqz.auR, Sqz.auHB⟩
       ·rw [if_neg c7] at H; have c7b0 : decide (30 < t107) = false := decide_eq_false c7; clear c7; have H' := Aside0.mk H; clear H; have p106 : 0 ≤ (x7_1 : Int) := Sqz.od; have q106 : x7_1 < (l0.length : Int) := Sqz.od; obtain ⟨ad106, e106, hx106_0⟩ := Kd.at_int HR0.out x7_1 p106 q106; cases e106; replace hx106_0 := (HB.out.cell (World.block_lt_of_cell? w _ hx106_0)).trans hx106_0; replace p106 := eq_true p106; replace q106 := eq_true q106
        go_wp2_with ((go_at_call 112; (with_reducible refine (impl_size.calls (rd l0 x7_1) t107 _ A6.out).mono ?_); rintro e w9 ⟨rfl, hb⟩; replace HB := Aside0.mk (below_step (Sqz.auHB) hb); (try clear hb)))
        go_roundg k1
        case measure => have := HK1.out; omega
        case rel => exact ⟨(wrap64 (x7_1 + 1)), Sqz.auS, H', ⟨by have := HK1.out; omega⟩, ⟨Sqz.auHB⟩⟩
     ·rw [if_neg c4] at H; exact absurd H (by simp)
    ·rw [if_neg c3] at H; exact absurd H (by simp)
   ·rw [if_neg c2] at H; have c2b0 := decide_eq_false c2; clear c2
    by_cases c10 : (l0.length : Int) ≥ 1
    ·rw [if_pos c10] at H; have c10b0 : decide (1 ≤ (l0.length : Int)) = true := decide_eq_true c10; clear c10; obtain rfl := Option.some.inj H; go_wp2; go_ret
     exact ⟨Sqz.auR, Sqz.auHB⟩
    ·rw [if_neg c10] at H; have c10b0 : decide (1 ≤ (l0.length : Int)) = false := decide_eq_false c10; clear c10; obtain rfl := Option.some.inj H; go_wp2; go_ret
     exact ⟨Sqz.auR, Sqz.auHB⟩

/-! ### impl_split: function 117 -/
def impl_split.l0 : Nat → Int → Int → Int → Option (Int × Int)
 | 0, _, _, _ => none
 | k + 1, x0, x1, x6 => if x1 = 0 then (none) else (if (Int.tmod x0 x1) = 0 then (impl_split.l0 k (wrap64 (Int.tdiv x0 x1)) x1 (wrap64 (x6 + 1))) else (some (x6, x0)))
def impl_split.f (k : Nat) (a0 : Int) (a1 : Int) : Option (Int × Int) := impl_split.l0 k a0 a1 0
set_option maxHeartbeats 8000000 in
set_option maxRecDepth 100000 in
theorem impl_split.calls (k : Nat) (a0 : Int) (a1 : Int) (r1 : Int) (r2 : Int) (w : World) (h : impl_split.f k a0 a1 = some (r1, r2)) :
  Calls Tryz.prog 117 #[.int .i64 a0, .int .i64 a1] w fun e w' => e = .returned (.tuple #[.int .i64 r1, .int .i64 r2]) ∧ Drawn0 w w' := by
 have H : (impl_split.l0 k a0 a1 0) = some (r1, r2) := h; clear h; have H' := Aside0.mk H; clear H
 go_enter Tryz.func117, Tryz.ntmps117
 go_wp2
 go_loopg [0, 6] k (fun kq v0 v6 w' => ∃ (x0_1 : Int) (x6_1 : Int), v0 = .int .i64 x0_1 ∧ v6 = .int .i64 x6_1 ∧ Aside0 (impl_split.l0 kq x0_1 a1 x6_1 = some (r1, r2)) ∧ Aside0 (kq ≤ k) ∧ Drawn0 w w')
 case atStart => exact ⟨(a0), (0), Sqz.auS, Sqz.auS, H', ⟨Nat.le_refl _⟩, by repeat (first | exact Drawn0.refl _ | apply Drawn0.step)⟩
 case round =>
  clear H'
  obtain ⟨x0_1, x6_1, rfl, rfl, HA, HK1, ⟨m1, rfl⟩⟩ := hrel; cases gk with
  | zero => exact absurd HA.out (by simp [impl_split.l0])
  | succ k1 =>
   have H := HA.out; clear HA; simp only [impl_split.l0] at H
   by_cases c3 : a1 = 0
   ·rw [if_pos c3] at H; exact absurd H (by simp)
   ·rw [if_neg c3] at H
    by_cases c4 : (Int.tmod x0_1 a1) = 0
    ·rw [if_pos c4] at H; have c4b0 := beq_iff_eq.mpr c4; clear c4; have H' := Aside0.mk H; clear H; go_wp2
     go_roundg k1
     case measure => have := HK1.out; omega
     case rel => exact ⟨(wrap64 (Int.tdiv x0_1 a1)), (wrap64 (x6_1 + 1)), Sqz.auS, Sqz.auS, H', ⟨by have := HK1.out; omega⟩, by repeat (first | exact Drawn0.refl _ | apply Drawn0.step)⟩
    ·rw [if_neg c4] at H; have c4b0 := beq_eq_false_iff_ne.mpr c4; simp only [Option.some.injEq, Prod.mk.injEq] at H; obtain ⟨rfl, rfl⟩ := H; go_wp2; go_ret2
     exact ⟨Sqz.auS, by repeat (first | exact Drawn0.refl _ | apply Drawn0.step)⟩

/-! ### impl_primesOf: function 113 -/
def impl_primesOf.l0 : Nat → Int → List Int → Int → Option (List Int)
 | 0, _, _, _ => none
 | k + 1, x0, x3, x4 => if (wrap64 (x4 * x4)) ≤ x0 then (if x4 = 0 then (none) else (if (Int.tmod x0 x4) = 0 then (if x3.length < 17592186044416 then ((impl_split.f k x0 x4).bind fun bt115 => (impl_primesOf.l0 k bt115.2 (x3 ++ [x4]) (wrap64 (x4 + 1)))) else (none)) else (impl_primesOf.l0 k x0 x3 (wrap64 (x4 + 1))))) else (if x0 > 1 then (if x3.length < 17592186044416 then (some (x3 ++ [x0])) else (none)) else (some x3))
def impl_primesOf.f (k : Nat) (a0 : Int) : Option (List Int) := (impl_size.f a0).bind fun t111 => (impl_primesOf.l0 k t111 (([] : List Int)) 2)
set_option maxHeartbeats 8000000 in
set_option maxRecDepth 100000 in
theorem impl_primesOf.calls (k : Nat) (a0 : Int) (r : List Int) (w : World) (h : impl_primesOf.f k a0 = some r) :
  Calls Tryz.prog 113 #[.int .i64 a0] w fun e w' => ∃ v0_ : Value, e = .returned (v0_) ∧ Kd.R (Kd.int .i64) 3 w' w.heap.size (fun _ => True) v0_ r ∧ Below w.heap.size w w' := by
 have HB := Aside0.mk (Below.refl w.heap.size w); have H : ((impl_size.f a0).bind fun t111 => (impl_primesOf.l0 k t111 (([] : List Int)) 2)) = some r := h; clear h; obtain ⟨y108, hyy⟩ : ∃ y_ : List Int, y_ = (([] : List Int)) := ⟨_, rfl⟩
 replace H : ((impl_size.f a0).bind fun t111 => (impl_primesOf.l0 k t111 y108 2)) = some r := Sqz.auY
 have Ny108 := Aside0.mk hyy; clear hyy; obtain ⟨t111, A2, H⟩ := Sqz.be H; have H' := Aside0.mk H; clear H
 go_enter Tryz.func113, Tryz.ntmps113
 go_wp2_with (first | ((with_reducible refine gate_dst (N := 5) rfl ?_); refine Kd.R_lit (Kd.int .i64) _ 3 ?hg (N := 5) ?hd (xs := ([] : List Int)) (inner := []) (ok := fun _ => True) (okp := fun _ => True) ?hr ?hp (fun _ hk => hk) trivial (Below.refl _ _) (Nat.le_refl _) (by simp) ?_; (case hd => rfl); (case hg => rfl); (case hr => first | (go_simp; done) | (go_simp; rfl)); (case hp => exact (Reps.none _ _)); intro v109 w3 ho4 hb hg_ hnew_; clear hg_ hnew_; (first | rw [← Ny108.out] at ho4 | (simp only [Int.reduceToNat] at ho4; rw [← Ny108.out] at ho4)); have HO110 := Aside0.mk (Kd.R_lower ho4 (below_size (Sqz.auHB))); replace HB := Aside0.mk (below_step (Sqz.auHB) hb); clear hb ho4) | ((with_reducible refine gate_callee (f := 112) rfl ?_); refine goesL_ (some 7) rfl rfl Tryz.func112 (by kernel_rfl) rfl #[.int .i64 a0] rfl Sqz.auM ?_; (with_reducible refine (impl_size.calls a0 t111 _ A2.out).mono ?_); rintro e w5 ⟨rfl, hb⟩; refine ⟨_, rfl, ?_⟩; replace HO110 := Aside0.mk (Kd.R_below ((Sqz.mvR HO110.out)) hb); replace HB := Aside0.mk (below_step (Sqz.auHB) hb); (try clear hb)))
 go_loopg [0, 3, 4] k (fun kq v0 v3 v4 w' => ∃ (x0_1 : Int) (x3_1 : List Int) (x4_1 : Int), v0 = .int .i64 x0_1 ∧ v4 = .int .i64 x4_1 ∧ Aside0 (impl_primesOf.l0 kq x0_1 x3_1 x4_1 = some r) ∧ Aside0 (kq ≤ k) ∧ Aside0 (Kd.R (Kd.int .i64) 3 w' w.heap.size (fun _ => True) v3 x3_1) ∧ Aside0 (Below w.heap.size w w'))
 case atStart => exact ⟨(t111), (y108), (2), Sqz.auS, Sqz.auS, H', ⟨Nat.le_refl _⟩, ⟨(Sqz.mvR HO110.out)⟩, ⟨Sqz.auHB⟩⟩
 case round =>
  clear H'
  obtain ⟨x0_1, x3_1, x4_1, rfl, rfl, HA, HK1, HO_3, HB⟩ := hrel; cases gk with
  | zero => exact absurd HA.out (by simp [impl_primesOf.l0])
  | succ k1 =>
   have H := HA.out; clear HA; simp only [impl_primesOf.l0] at H
   by_cases c6 : (wrap64 (x4_1 * x4_1)) ≤ x0_1
   ·rw [if_pos c6] at H; have c6b0 := decide_eq_true c6; clear c6
    by_cases c7 : x4_1 = 0
    ·rw [if_pos c7] at H; exact absurd H (by simp)
    ·rw [if_neg c7] at H
     by_cases c8 : (Int.tmod x0_1 x4_1) = 0
     ·rw [if_pos c8] at H; have c8b0 := beq_iff_eq.mpr c8; clear c8
      by_cases c9 : x3_1.length < 17592186044416
      ·rw [if_pos c9] at H; have LMc9 := Aside0.mk c9; clear c9; obtain ⟨y112, hyy⟩ : ∃ y_ : List Int, y_ = (x3_1 ++ [x4_1]) := ⟨_, rfl⟩
       replace H : ((impl_split.f k1 x0_1 x4_1).bind fun bt115 => (impl_primesOf.l0 k1 bt115.2 y112 (wrap64 (x4_1 + 1)))) = some r := Sqz.auY
       have Ny112 := Aside0.mk hyy; clear hyy; replace H := Option.bind_eq_some_iff.mp H; obtain ⟨⟨t115, t116⟩, A100, H⟩ := H; replace H : (impl_primesOf.l0 k1 t116 y112 (wrap64 (x4_1 + 1))) = some r := H; have A10 := Aside0.mk A100; clear A100; have H' := Aside0.mk H; clear H
       go_wp2_with (first | ((with_reducible refine gate_builtin (b := .append) (xs := #[.tmp 19, .tmp 21]) rfl ?_); at_builtin; refine Kd.R_append (Kd.int .i64) (w0 := w) w.heap.size rfl (.tmp 19) (.tmp 21) 27 3 (.int .i64 0) 8 rfl Tryz.underlying27 info3 rfl (by decide) (by omega) u3 x3_1 x4_1 [.int .i64 x4_1] (fun _ => True) (fun _ => False) rfl rfl ?aP (fun _ hk => hk.elim) ?aF ?aO ?aB ?aS ?aL ?_; (case aP => exact rfl); (case aB => exact (Sqz.auHB)); (case aF => exact (fun _ _ => trivial)); (case aO => exact ((Sqz.mvR HO_3.out))); (case aS => exact (below_size (Sqz.auHB))); (case aL => have := LMc9.out; omega); intro v113 w11 ho hb hg hat; rw [← Ny112.out] at ho; replace HB := Aside0.mk (hb); have HO114 := Aside0.mk (ho); clear HO_3; clear ho hb hg hat) | ((with_reducible refine gate_callee (f := 117) rfl ?_); refine goesL_ (some 26) rfl rfl Tryz.func117 (by kernel_rfl) rfl #[.int .i64 x0_1, .int .i64 x4_1] rfl Sqz.auM ?_; (with_reducible refine (impl_split.calls k1 x0_1 x4_1 t115 t116 _ A10.out).mono ?_); rintro e w' ⟨rfl, ⟨nd, rfl⟩⟩; refine ⟨_, rfl, ?_⟩))
       go_roundg k1
       case measure => have := HK1.out; omega
       case rel => exact ⟨(t116), (y112), (wrap64 (x4_1 + 1)), Sqz.auS, Sqz.auS, H', ⟨by have := HK1.out; omega⟩, ⟨(Sqz.mvR HO114.out)⟩, ⟨Sqz.auHB⟩⟩
      ·rw [if_neg c9] at H; exact absurd H (by simp)
     ·rw [if_neg c8] at H; have c8b0 := beq_eq_false_iff_ne.mpr c8; have H' := Aside0.mk H; clear H; go_wp2
      go_roundg k1
      case measure => have := HK1.out; omega
      case rel => exact ⟨(x0_1), (x3_1), (wrap64 (x4_1 + 1)), Sqz.auS, Sqz.auS, H', ⟨by have := HK1.out; omega⟩, ⟨(Sqz.mvR HO_3.out)⟩, ⟨Sqz.auHB⟩⟩
   ·rw [if_neg c6] at H; have c6b0 := decide_eq_false c6; clear c6
    by_cases c12 : x0_1 > 1
    ·rw [if_pos c12] at H; have c12b0 : decide (1 < x0_1) = true := decide_eq_true c12; clear c12
     by_cases c13 : x3_1.length < 17592186044416
     ·rw [if_pos c13] at H; have LMc13 := Aside0.mk c13; clear c13; obtain ⟨y117, hyy⟩ : ∃ y_ : List Int, y_ = (x3_1 ++ [x0_1]) := ⟨_, rfl⟩
      replace H : (some y117) = some r := Sqz.auY
      have Ny117 := Aside0.mk hyy; clear hyy; obtain rfl := Option.some.inj H
      go_wp2_with (((with_reducible refine gate_builtin (b := .append) (xs := #[.tmp 31, .tmp 33]) rfl ?_); at_builtin; refine Kd.R_append (Kd.int .i64) (w0 := w) w.heap.size rfl (.tmp 31) (.tmp 33) 27 3 (.int .i64 0) 8 rfl Tryz.underlying27 info3 rfl (by decide) (by omega) u3 x3_1 x0_1 [.int .i64 x0_1] (fun _ => True) (fun _ => False) rfl rfl ?aP (fun _ hk => hk.elim) ?aF ?aO ?aB ?aS ?aL ?_; (case aP => exact rfl); (case aB => exact (Sqz.auHB)); (case aF => exact (fun _ _ => trivial)); (case aO => exact ((Sqz.mvR HO_3.out))); (case aS => exact (below_size (Sqz.auHB))); (case aL => have := LMc13.out; omega); intro v118 w14 ho hb hg hat; rw [← Ny117.out] at ho; replace HB := Aside0.mk (hb); have HO119 := Aside0.mk (ho); clear HO_3; clear ho hb hg hat))
      go_ret
      exact ⟨_, Sqz.auR, (Sqz.mvR HO119.out), Sqz.auHB⟩
     ·rw [if_neg c13] at H; exact absurd H (by simp)
    ·rw [if_neg c12] at H; have c12b0 : decide (1 < x0_1) = false := decide_eq_false c12; clear c12; obtain rfl := Option.some.inj H; go_wp2; go_ret
     exact ⟨_, Sqz.auR, (Sqz.mvR HO_3.out), Sqz.auHB⟩

/-! ### impl_coreOf: function 61 -/
mutual
def impl_coreOf.l0 : Nat → Int → Int → List Int → Int → Int → Option (Int × Int)
 | 0, _, _, _, _, _ => none
 | k + 1, x0, x4, x8, x9, x10 => if x10 < x9 then (if 0 ≤ x10 then (if x10 < (x8.length : Int) then (impl_coreOf.l1 k x0 x4 (rd x8 x10) x8 x9 x10) else (none)) else (none)) else (some (x0, x4))
def impl_coreOf.l1 : Nat → Int → Int → Int → List Int → Int → Int → Option (Int × Int)
 | 0, _, _, _, _, _, _ => none
 | k + 1, x0, x4, x6, x8, x9, x10 => if (wrap64 (x6 * x6)) = 0 then (none) else (if (Int.tmod x0 (wrap64 (x6 * x6))) = 0 then (impl_coreOf.l1 k (wrap64 (Int.tdiv x0 (wrap64 (x6 * x6)))) (wrap64 (x4 * x6)) x6 x8 x9 x10) else (impl_coreOf.l0 k x0 x4 x8 x9 (wrap64 (x10 + 1))))
end
def impl_coreOf.f (k : Nat) (a0 : Int) : Option (Int × Int) := (impl_primesOf.f k a0).bind fun t120 => (impl_coreOf.l0 k a0 1 t120 (t120.length : Int) 0)
set_option maxHeartbeats 8000000 in
set_option maxRecDepth 100000 in
theorem impl_coreOf.calls (k : Nat) (a0 : Int) (r1 : Int) (r2 : Int) (w : World) (h : impl_coreOf.f k a0 = some (r1, r2)) :
  Calls Tryz.prog 61 #[.int .i64 a0] w fun e w' => e = .returned (.tuple #[.int .i64 r1, .int .i64 r2]) ∧ Below w.heap.size w w' := by
 have HB := Aside0.mk (Below.refl w.heap.size w); have H : ((impl_primesOf.f k a0).bind fun t120 => (impl_coreOf.l0 k a0 1 t120 (t120.length : Int) 0)) = some (r1, r2) := h; clear h; obtain ⟨t120, A2, H⟩ := Sqz.be H; have H' := Aside0.mk H; clear H
 go_enter Tryz.func61, Tryz.ntmps61
 go_wp2_with (((with_reducible refine gate_callee (f := 113) rfl ?_); refine goesL_ (some 8) rfl rfl Tryz.func113 (by kernel_rfl) rfl #[.int .i64 a0] rfl Sqz.auM ?_; (with_reducible refine (impl_primesOf.calls k a0 t120 _ A2.out).mono ?_); rintro e w3 ⟨v121, rfl, ho0, hb⟩; refine ⟨_, rfl, ?_⟩; have HO122 := Aside0.mk (Kd.R_lower ho0 (below_size (Sqz.auHB))); replace HB := Aside0.mk (below_step (Sqz.auHB) hb); (try clear hb); (try clear ho0); obtain ⟨Ao4, co4, eo4⟩ := Kd.R_slice HO122.out; subst eo4))
 go_loopg [0, 4, 10] k (fun kq v0 v4 v10 w' => ∃ (x0_1 : Int) (x4_1 : Int) (x10_1 : Int), v0 = .int .i64 x0_1 ∧ v4 = .int .i64 x4_1 ∧ v10 = .int .i64 x10_1 ∧ Aside0 (impl_coreOf.l0 kq x0_1 x4_1 t120 (t120.length : Int) x10_1 = some (r1, r2)) ∧ Aside0 (kq ≤ k) ∧ Aside0 (Kd.R (Kd.int .i64) 3 w' w.heap.size (fun _ => True) (.slice Ao4 t120.length co4) t120) ∧ Aside0 (Below w.heap.size w w'))
 case atStart => exact ⟨(a0), (1), (0), Sqz.auS, Sqz.auS, Sqz.auS, H', ⟨Nat.le_refl _⟩, ⟨(Sqz.mvR HO122.out)⟩, ⟨Sqz.auHB⟩⟩
 case round =>
  clear H'
  obtain ⟨x0_1, x4_1, x10_1, rfl, rfl, rfl, HA, HK1, HO_8, HB⟩ := hrel; cases gk with
  | zero => exact absurd HA.out (by simp [impl_coreOf.l0])
  | succ k1 =>
   have H := HA.out; clear HA; simp only [impl_coreOf.l0] at H
   by_cases c5 : x10_1 < (t120.length : Int)
   ·rw [if_pos c5] at H; have c5b0 := decide_eq_true c5; clear c5
    by_cases c6 : 0 ≤ x10_1
    ·rw [if_pos c6] at H; have c6b0 := decide_eq_true c6; clear c6
     by_cases c7 : x10_1 < (t120.length : Int)
     ·rw [if_pos c7] at H; have c7b0 := decide_eq_true c7; clear c7; have H' := Aside0.mk H; clear H; have p123 : 0 ≤ (x10_1 : Int) := Sqz.od; have q123 : x10_1 < (t120.length : Int) := Sqz.od; obtain ⟨ad123, e123, hx123_0⟩ := Kd.at_int (Kd.R_reads' HO_8.out).2.2 x10_1 p123 q123; cases e123; replace p123 := eq_true p123; replace q123 := eq_true q123; go_wp2
      go_loopg [0, 4] k1 (fun kq v0 v4 w' => ∃ (x0_2 : Int) (x4_2 : Int), v0 = .int .i64 x0_2 ∧ v4 = .int .i64 x4_2 ∧ Aside0 (impl_coreOf.l1 kq x0_2 x4_2 (rd t120 x10_1) t120 (t120.length : Int) x10_1 = some (r1, r2)) ∧ Aside0 (kq ≤ k1) ∧ Aside0 (Kd.R (Kd.int .i64) 3 w' w.heap.size (fun _ => True) (.slice (some ad123) t120.length co4) t120) ∧ Aside0 (Below w.heap.size w w'))
      case atStart => exact ⟨(x0_1), (x4_1), Sqz.auS, Sqz.auS, H', ⟨Nat.le_refl _⟩, ⟨(Sqz.mvR HO_8.out)⟩, ⟨Sqz.auHB⟩⟩
      case round =>
       clear H'
       try clear c5b0
       try clear c6b0
       try clear c7b0
       try clear hx123_0
       try clear p123
       try clear q123
       obtain ⟨x0_2, x4_2, rfl, rfl, HA, HK2, HO_8, HB⟩ := hrel; cases gk with
       | zero => exact absurd HA.out (by simp [impl_coreOf.l1])
       | succ k2 =>
        have H := HA.out; clear HA; simp only [impl_coreOf.l1] at H
        by_cases c8 : (wrap64 ((rd t120 x10_1) * (rd t120 x10_1))) = 0
        ·rw [if_pos c8] at H; exact absurd H (by simp)
        ·rw [if_neg c8] at H
         by_cases c9 : (Int.tmod x0_2 (wrap64 ((rd t120 x10_1) * (rd t120 x10_1)))) = 0
         ·rw [if_pos c9] at H; have c9b0 := beq_iff_eq.mpr c9; clear c9; have H' := Aside0.mk H; clear H; go_wp2
          go_roundg k2
          case measure => have := HK1.out; have := HK2.out; omega
          case rel => exact ⟨(wrap64 (Int.tdiv x0_2 (wrap64 ((rd t120 x10_1) * (rd t120 x10_1))))), (wrap64 (x4_2 * (rd t120 x10_1))), Sqz.auS, Sqz.auS, H', ⟨by have := HK1.out; have := HK2.out; omega⟩, ⟨(Sqz.mvR HO_8.out)⟩, ⟨Sqz.auHB⟩⟩
         ·rw [if_neg c9] at H; have c9b0 := beq_eq_false_iff_ne.mpr c9; have H' := Aside0.mk H; clear H; go_wp2
          go_roundg k2
          case measure => have := HK1.out; have := HK2.out; omega
          case rel => exact ⟨(x0_2), (x4_2), (wrap64 (x10_1 + 1)), Sqz.auS, Sqz.auS, Sqz.auS, H', ⟨by have := HK1.out; have := HK2.out; omega⟩, ⟨(Sqz.mvR HO_8.out)⟩, ⟨Sqz.auHB⟩⟩
     ·rw [if_neg c7] at H; exact absurd H (by simp)
    ·rw [if_neg c6] at H; exact absurd H (by simp)
   ·rw [if_neg c5] at H; have c5b0 := decide_eq_false c5; clear c5; simp only [Option.some.injEq, Prod.mk.injEq] at H; obtain ⟨rfl, rfl⟩ := H; go_wp2; go_ret2
    exact ⟨Sqz.auR, Sqz.auHB⟩

/-! ### impl_gcd: function 88 -/
mutual
def impl_gcd.l0 : Nat → Int → List Int → Int → Int → Option (Int)
 | 0, _, _, _, _ => none
 | k + 1, x3, x6, x7, x8 => if x8 < x7 then (if 0 ≤ x8 then (if x8 < (x6.length : Int) then ((impl_size.f (rd x6 x8)).bind fun t125 => (impl_gcd.l1 k x3 t125 x6 x7 x8)) else (none)) else (none)) else (some x3)
def impl_gcd.l1 : Nat → Int → Int → List Int → Int → Int → Option (Int)
 | 0, _, _, _, _, _ => none
 | k + 1, x3, x5, x6, x7, x8 => if x5 = 0 then (impl_gcd.l0 k x3 x6 x7 (wrap64 (x8 + 1))) else (impl_gcd.l1 k x5 (Int.tmod x3 x5) x6 x7 x8)
end
def impl_gcd.f (k : Nat) (l0 : List Int) : Option (Int) := impl_gcd.l0 k 0 l0 (l0.length : Int) 0
set_option maxHeartbeats 8000000 in
set_option maxRecDepth 100000 in
theorem impl_gcd.calls (k : Nat) (A0 : Option Addr) (c0 : Nat) (l0 : List Int) (r : Int) (w : World) (hr0 : Kd.C (Kd.int .i64) w A0 l0.length l0) (hc0 : l0.length ≤ c0) (h : impl_gcd.f k l0 = some r) :
  Calls Tryz.prog 88 #[.slice A0 l0.length c0] w fun e w' => e = .returned (.int .i64 r) ∧ Below w.heap.size w w' := by
 have HR0 := Aside0.mk hr0; have HC0 := Aside0.mk hc0; clear hr0 hc0; have HB := Aside0.mk (Below.refl w.heap.size w); have H : (impl_gcd.l0 k 0 l0 (l0.length : Int) 0) = some r := h; clear h; have H' := Aside0.mk H; clear H
 go_enter Tryz.func88, Tryz.ntmps88
 go_wp2
 go_loopg [3, 8] k (fun kq v3 v8 w' => ∃ (x3_1 : Int) (x8_1 : Int), v3 = .int .i64 x3_1 ∧ v8 = .int .i64 x8_1 ∧ Aside0 (impl_gcd.l0 kq x3_1 l0 (l0.length : Int) x8_1 = some r) ∧ Aside0 (kq ≤ k) ∧ Aside0 (Below w.heap.size w w'))
 case atStart => exact ⟨(0), (0), Sqz.auS, Sqz.auS, H', ⟨Nat.le_refl _⟩, ⟨Sqz.auHB⟩⟩
 case round =>
  clear H'; obtain ⟨x3_1, x8_1, rfl, rfl, HA, HK1, HB⟩ := hrel; cases gk with
  | zero => exact absurd HA.out (by simp [impl_gcd.l0])
  | succ k1 =>
   have H := HA.out; clear HA; simp only [impl_gcd.l0] at H
   by_cases c2 : x8_1 < (l0.length : Int)
   ·rw [if_pos c2] at H; have c2b0 := decide_eq_true c2; clear c2
    by_cases c3 : 0 ≤ x8_1
    ·rw [if_pos c3] at H; have c3b0 := decide_eq_true c3; clear c3
     by_cases c4 : x8_1 < (l0.length : Int)
     ·rw [if_pos c4] at H; have c4b0 := decide_eq_true c4; clear c4; obtain ⟨t125, A5, H⟩ := Sqz.be H; have H' := Aside0.mk H; clear H; have p124 : 0 ≤ (x8_1 : Int) := Sqz.od; have q124 : x8_1 < (l0.length : Int) := Sqz.od; obtain ⟨ad124, e124, hx124_0⟩ := Kd.at_int HR0.out x8_1 p124 q124; cases e124; replace hx124_0 := (HB.out.cell (World.block_lt_of_cell? w _ hx124_0)).trans hx124_0; replace p124 := eq_true p124; replace q124 := eq_true q124
      go_wp2_with ((go_at_call 112; (with_reducible refine (impl_size.calls (rd l0 x8_1) t125 _ A5.out).mono ?_); rintro e w6 ⟨rfl, hb⟩; replace HB := Aside0.mk (below_step (Sqz.auHB) hb); (try clear hb)))
      go_loopg [3, 5] k1 (fun kq v3 v5 w' => ∃ (x3_2 : Int) (x5_2 : Int), v3 = .int .i64 x3_2 ∧ v5 = .int .i64 x5_2 ∧ Aside0 (impl_gcd.l1 kq x3_2 x5_2 l0 (l0.length : Int) x8_1 = some r) ∧ Aside0 (kq ≤ k1) ∧ Aside0 (Below w.heap.size w w'))
      case atStart => exact ⟨(x3_1), (t125), Sqz.auS, Sqz.auS, H', ⟨Nat.le_refl _⟩, ⟨Sqz.auHB⟩⟩
      case round =>
       clear H'
       try clear c2b0
       try clear c3b0
       try clear c4b0
       try clear hx124_0
       try clear p124
       try clear q124
       obtain ⟨x3_2, x5_2, rfl, rfl, HA, HK2, HB⟩ := hrel; cases gk with
       | zero => exact absurd HA.out (by simp [impl_gcd.l1])
       | succ k2 =>
        have H := HA.out; clear HA; simp only [impl_gcd.l1] at H
        by_cases c7 : x5_2 = 0
        ·rw [if_pos c7] at H; have c7b1 := bne_eq_false_iff_eq.mpr c7; clear c7; have H' := Aside0.mk H; clear H; go_wp2
         go_roundg k2
         case measure => have := HK1.out; have := HK2.out; omega
         case rel => exact ⟨(x3_2), (wrap64 (x8_1 + 1)), Sqz.auS, Sqz.auS, H', ⟨by have := HK1.out; have := HK2.out; omega⟩, ⟨Sqz.auHB⟩⟩
        ·rw [if_neg c7] at H; have c7b1 := bne_iff_ne.mpr c7; have H' := Aside0.mk H; clear H; go_wp2
         repeat (go_quiet (fail); try go_wp2)
         go_roundg k2
         case measure => have := HK1.out; have := HK2.out; omega
         case rel => exact ⟨(x5_2), (Int.tmod x3_2 x5_2), Sqz.auS, Sqz.auS, H', ⟨by have := HK1.out; have := HK2.out; omega⟩, ⟨Sqz.auHB⟩⟩
     ·rw [if_neg c4] at H; exact absurd H (by simp)
    ·rw [if_neg c3] at H; exact absurd H (by simp)
   ·rw [if_neg c2] at H; have c2b0 := decide_eq_false c2; clear c2; obtain rfl := Option.some.inj H; go_wp2
    go_ret
    exact ⟨Sqz.auR, Sqz.auHB⟩

end Go.Proofs.YtacfcoilmdhgnaaGreatDoor.PFnExecuteValue
