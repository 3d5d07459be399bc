/- A function's Lean twin and its walk, written by a program of this session. -/
import Derived.Test.YtacfcoilmdhgnaaGreatDoorTPFnExecuteValuex0
import Derived.Test.YtacfcoilmdhgnaaGreatDoorTPFnExecuteValuex5
namespace Go.Proofs.YtacfcoilmdhgnaaGreatDoor.PFnExecuteValue
open Go.RowKit Go.Proofs.YtacfcoilmdhgnaaGreatDoorW.PrintWords Go.Proofs.YtacfcoilmdhgnaaGreatDoorW.PrintLast Go.Proofs.YtacfcoilmdhgnaaGreatDoorW.PrintMore
attribute [local go_sem] max2_int min2_int max_two min_two max_three min_three max_four min_four   -- for this text's walks alone
set_option linter.unusedVariables false
set_option linter.unusedSimpArgs false

/-! ### impl_ZeroFind: function 37 -/
section
open Locg
def impl_ZeroFind.f (k : Nat) (l0 : List Int) : Option (List Int × Bool) := impl_ZeroFindG.f (impl_zeroOfFour.f) k l0
theorem impl_ZeroFind.calls (k : Nat) (A0 : Option Addr) (c0 : Nat) (l0 : List Int) (r1 : List Int) (r2 : Bool) (w : World) (hr0 : Kd.C (Kd.int .i64) w A0 l0.length l0) (hc0 : l0.length ≤ c0) (h : impl_ZeroFind.f k l0 = some (r1, r2)) :
  Calls Tryz.prog 37 #[.slice A0 l0.length c0] w fun e w' => ∃ v0_ : Value, e = .returned (.tuple #[v0_, .bool r2]) ∧ Kd.R (Kd.int .i64) 3 w' w.heap.size (fun _ => True) v0_ r1 ∧ Below w.heap.size w w' := impl_ZeroFindG.calls (impl_zeroOfFour.f) (impl_zeroOfFour.calls) k A0 c0 l0 r1 r2 w hr0 hc0 h

end

/-! ### impl_valueOk: function 86 -/
def impl_valueOk.f (a0 : Int) : Option (Bool) := if a0 = 0 then (some false) else (if a0 ≥ (-30) then (some (decide (a0 ≤ 30))) else (some false))
set_option maxHeartbeats 8000000 in
set_option maxRecDepth 100000 in
theorem impl_valueOk.calls (a0 : Int) (r : Bool) (w : World) (h : impl_valueOk.f a0 = some r) :
  Calls Tryz.prog 86 #[.int .i64 a0] w fun e w' => e = .returned (.bool r) ∧ Drawn0 w w' := by
 have H : (if a0 = 0 then (some false) else (if a0 ≥ (-30) then (some (decide (a0 ≤ 30))) else (some false))) = some r := h; clear h
 by_cases c2 : a0 = 0
 ·rw [if_pos c2] at H; have c2b1 := bne_eq_false_iff_eq.mpr c2; clear c2; obtain rfl := Option.some.inj H
  go_enter Tryz.func86, Tryz.ntmps86
  go_wp2; go_ret
  exact ⟨Sqz.auS, by repeat (first | exact Drawn0.refl _ | apply Drawn0.step)⟩
 ·rw [if_neg c2] at H; have c2b1 := bne_iff_ne.mpr c2
  by_cases c3 : a0 ≥ (-30)
  ·rw [if_pos c3] at H; have c3b0 : decide ((-30) ≤ a0) = true := decide_eq_true c3; clear c3; obtain rfl := Option.some.inj H
   go_enter Tryz.func86, Tryz.ntmps86
   go_wp2; go_ret
   exact ⟨Sqz.auS, by repeat (first | exact Drawn0.refl _ | apply Drawn0.step)⟩
  ·rw [if_neg c3] at H; have c3b0 : decide ((-30) ≤ a0) = false := decide_eq_false c3; clear c3; obtain rfl := Option.some.inj H
   go_enter Tryz.func86, Tryz.ntmps86
   go_wp2; go_ret
   exact ⟨Sqz.auS, by repeat (first | exact Drawn0.refl _ | apply Drawn0.step)⟩

end Go.Proofs.YtacfcoilmdhgnaaGreatDoor.PFnExecuteValue
