/- A function's Lean twin and its walk, written by a program of this session. -/
import Derived.Test.YtacfcoilmdhgnaaGreatDoorTPFnExecuteSymbolx0
import Derived.Test.YtacfcoilmdhgnaaGreatDoorTPFnExecuteSymbolx2
import Derived.Test.YtacfcoilmdhgnaaGreatDoorTPFnExecuteSymbolx3
import Derived.Test.YtacfcoilmdhgnaaGreatDoorTPFnExecuteSymbolx4
namespace Go.Proofs.YtacfcoilmdhgnaaGreatDoor.PFnExecuteSymbol
open Go.RowKit Go.Proofs.YtacfcoilmdhgnaaGreatDoorW.PrintWords Go.Proofs.YtacfcoilmdhgnaaGreatDoorW.PrintLast Go.Proofs.YtacfcoilmdhgnaaGreatDoorW.PrintMore
attribute [local go_sem] max2_int min2_int max_two min_two max_three min_three max_four min_four   -- for this text's walks alone
set_option linter.unusedVariables false
set_option linter.unusedSimpArgs false

/-! ### laws_FnExecuteSymbol: function 8 -/
mutual
def laws_FnExecuteSymbol.j0 : Nat → Int → Int → Int → Int → Int → Bool → Option (Bool)
  | 0, _, _, _, _, _, _ => none
  | k + 1, x3, x4, x5, x6, x7, x32 => if x32 = true then (some (x6 == x7)) else ((laws_digits.f k x5).bind fun t231 => (if x5 = 0 then (laws_FnExecuteSymbol.j1 k x3 x4 x6 (⟨#[114]⟩ : ByteArray)) else (laws_FnExecuteSymbol.j1 k x3 x4 x6 t231)))
def laws_FnExecuteSymbol.j1 : Nat → Int → Int → Int → ByteArray → Option (Bool)
  | 0, _, _, _, _ => none
  | k + 1, x3, x4, x6, x8 => (laws_spaced.f k (([x3, x4] : List Int))).bind fun t235 => (if 6 + t235.size ≤ 9223372036854775807 then (if ((⟨#[115, 121, 109, 98, 111, 108]⟩ : ByteArray) ++ t235).size + 1 ≤ 9223372036854775807 then (if (((⟨#[115, 121, 109, 98, 111, 108]⟩ : ByteArray) ++ t235) ++ (⟨#[32]⟩ : ByteArray)).size + x8.size ≤ 9223372036854775807 then (if ((((⟨#[115, 121, 109, 98, 111, 108]⟩ : ByteArray) ++ t235) ++ (⟨#[32]⟩ : ByteArray)) ++ x8).size + 1 ≤ 9223372036854775807 then ((impl_Execute.f k (((((⟨#[115, 121, 109, 98, 111, 108]⟩ : ByteArray) ++ t235) ++ (⟨#[32]⟩ : ByteArray)) ++ x8) ++ (⟨#[10]⟩ : ByteArray))).bind fun t236 => ((laws_digits.f k x6).bind fun t237 => (if t237.size + 1 ≤ 9223372036854775807 then ((laws_endLine.f k 1).bind fun t238 => (if (t237 ++ (⟨#[10]⟩ : ByteArray)).size + t238.size ≤ 9223372036854775807 then (some (t236.toList == ((t237 ++ (⟨#[10]⟩ : ByteArray)) ++ t238).toList)) else (none))) else (none)))) else (none)) else (none)) else (none)) else (none))
end
def laws_FnExecuteSymbol.f (k : Nat) (l0 : List Int) : Option (Bool) := if (l0.length : Int) > 1048576 then (some true) else ((spec_DrawSymbolOf.f k l0).bind fun bt226 => ((impl_SymbolOf.f k bt226.1 bt226.2.1 bt226.2.2).bind fun t229 => ((spec_SymbolOf.f k bt226.1 bt226.2.1 bt226.2.2).bind fun t230 => (if t229 = t230 then (laws_FnExecuteSymbol.j0 k bt226.1 bt226.2.1 bt226.2.2 t229 t230 (t229 == 0)) else (laws_FnExecuteSymbol.j0 k bt226.1 bt226.2.1 bt226.2.2 t229 t230 true)))))
set_option maxHeartbeats 8000000 in
set_option maxRecDepth 100000 in
theorem laws_FnExecuteSymbol.calls (k : Nat) (A0 : Option Addr) (c0 : Nat) (l0 : List Int) (r : Bool) (w : World) (hG : GW w) (hr0 : Kd.C (Kd.int .u8) w A0 l0.length l0) (hc0 : l0.length ≤ c0) (h : laws_FnExecuteSymbol.f k l0 = some r) :
    Calls Tryz.prog 8 #[.slice A0 l0.length c0] w fun e w' => e = .returned (.bool r) ∧ Below w.heap.size w w' := by
  have HG := Aside0.mk hG
  clear hG
  have HR0 := Aside0.mk hr0
  have HC0 := Aside0.mk hc0
  clear hr0 hc0
  have HB := Aside0.mk (Below.refl w.heap.size w)
  have H : (if (l0.length : Int) > 1048576 then (some true) else ((spec_DrawSymbolOf.f k l0).bind fun bt226 => ((impl_SymbolOf.f k bt226.1 bt226.2.1 bt226.2.2).bind fun t229 => ((spec_SymbolOf.f k bt226.1 bt226.2.1 bt226.2.2).bind fun t230 => (if t229 = t230 then (laws_FnExecuteSymbol.j0 k bt226.1 bt226.2.1 bt226.2.2 t229 t230 (t229 == 0)) else (laws_FnExecuteSymbol.j0 k bt226.1 bt226.2.1 bt226.2.2 t229 t230 true)))))) = some r := h
  clear h
  by_cases c2 : (l0.length : Int) > 1048576
  · rw [if_pos c2] at H
    have c2b0 : decide (1048576 < (l0.length : Int)) = true := decide_eq_true c2
    have c2b1 : decide (1048576 < l0.length) = true := decide_eq_true (by omega)
    clear c2
    obtain rfl := Option.some.inj H
    go_enter Tryz.func8, Tryz.ntmps8
    go_wp2
    go_ret
    exact ⟨Sqz.auR, Sqz.auHB⟩
  · rw [if_neg c2] at H
    have c2b0 : decide (1048576 < (l0.length : Int)) = false := decide_eq_false c2
    have c2b1 : decide (1048576 < l0.length) = false := decide_eq_false (by omega)
    clear c2
    replace H := Option.bind_eq_some_iff.mp H
    obtain ⟨⟨t226, t227, t228⟩, A30, H⟩ := H
    replace H : ((impl_SymbolOf.f k t226 t227 t228).bind fun t229 => ((spec_SymbolOf.f k t226 t227 t228).bind fun t230 => (if t229 = t230 then (laws_FnExecuteSymbol.j0 k t226 t227 t228 t229 t230 (t229 == 0)) else (laws_FnExecuteSymbol.j0 k t226 t227 t228 t229 t230 true)))) = some r := H
    have A3 := Aside0.mk A30
    clear A30
    replace H := Option.bind_eq_some_iff.mp H
    obtain ⟨t229, A40, H⟩ := H
    replace H : ((spec_SymbolOf.f k t226 t227 t228).bind fun t230 => (if t229 = t230 then (laws_FnExecuteSymbol.j0 k t226 t227 t228 t229 t230 (t229 == 0)) else (laws_FnExecuteSymbol.j0 k t226 t227 t228 t229 t230 true))) = some r := H
    have A4 := Aside0.mk A40
    clear A40
    replace H := Option.bind_eq_some_iff.mp H
    obtain ⟨t230, A50, H⟩ := H
    replace H : (if t229 = t230 then (laws_FnExecuteSymbol.j0 k t226 t227 t228 t229 t230 (t229 == 0)) else (laws_FnExecuteSymbol.j0 k t226 t227 t228 t229 t230 true)) = some r := H
    have A5 := Aside0.mk A50
    clear A50
    have HC6 := Aside0.mk H
    clear H
    go_enter Tryz.func8, Tryz.ntmps8
    go_upto_region 6 with (first | ((with_reducible refine gate_callee (f := 30) rfl ?_); refine goesL_ (some 14) rfl rfl Tryz.func30 (by kernel_rfl) rfl #[.slice A0 l0.length c0] rfl Sqz.auM ?_; (with_reducible refine (spec_DrawSymbolOf.calls k _ _ l0 t226 t227 t228 _ ?side1 ?side2 A3.out).mono ?_); (case side1 => exact Sqz.mvC (HR0.out)); (case side2 => exact HC0.out); rintro e w7 ⟨rfl, hb⟩; refine ⟨_, rfl, ?_⟩; have n0_ := Aside0.mk (below_step (Sqz.auHB) hb); clear HB; have HB := n0_; clear n0_; (try clear hb); (try clear hb2); (try clear hk); (try clear hi)) | ((with_reducible refine gate_callee (f := 31) rfl ?_); refine goesL_ (some 21) rfl rfl Tryz.func31 (by kernel_rfl) rfl #[.int .i64 t226, .int .i64 t227, .int .i64 t228] rfl Sqz.auM ?_; (with_reducible refine (impl_SymbolOf.calls k t226 t227 t228 t229 _ A4.out).mono ?_); rintro e w' ⟨rfl, ⟨nd, rfl⟩⟩; refine ⟨_, rfl, ?_⟩) | ((with_reducible refine gate_callee (f := 32) rfl ?_); refine goesL_ (some 25) rfl rfl Tryz.func32 (by kernel_rfl) rfl #[.int .i64 t226, .int .i64 t227, .int .i64 t228] rfl Sqz.auM ?_; (with_reducible refine (spec_SymbolOf.calls k t226 t227 t228 t230 _ A5.out).mono ?_); rintro e w' ⟨rfl, ⟨nd, rfl⟩⟩; refine ⟨_, rfl, ?_⟩))
    (try simp only [Act.put, List.setIfInBounds_toArray, List.set_cons_zero, List.set_cons_succ])
    go_cut [32] (fun v32 wc => ∃ (kq : Nat) (x32_5 : Bool), v32 = .bool x32_5 ∧ Aside0 (laws_FnExecuteSymbol.j0 kq t226 t227 t228 t229 t230 x32_5 = some r) ∧ Aside0 (kq ≤ k) ∧ Aside0 (Below w.heap.size w wc))
    case first =>
      have H := HC6.out
      clear HC6
      by_cases c8 : t229 = t230
      · rw [if_pos c8] at H
        have c8b0 : (t229 == t230) = true := beq_iff_eq.mpr c8
        have c8b1 : (t229 != t230) = false := bne_eq_false_iff_eq.mpr c8
        clear c8
        (first | rw [c8b0] | (simp only [i64_w, i32_w]; rw [c8b0]) | skip)
        have H' := Aside0.mk H
        clear H
        go_wp2
        go_meet
        case rel => exact ⟨_, ((t229 == 0)), Sqz.auS, H', ⟨Sqz.auN⟩, ⟨Sqz.auHB⟩⟩
      · rw [if_neg c8] at H
        have c8b0 : (t229 == t230) = false := beq_eq_false_iff_ne.mpr c8
        have c8b1 : (t229 != t230) = true := bne_iff_ne.mpr c8
        (first | rw [c8b0] | (simp only [i64_w, i32_w]; rw [c8b0]) | skip)
        have H' := Aside0.mk H
        clear H
        go_wp2
        go_meet
        case rel => exact ⟨_, (true), Sqz.auS, H', ⟨Sqz.auN⟩, ⟨Sqz.auHB⟩⟩
    case rest =>
      clear HC6
      try clear c2
      try clear c2b0
      try clear c2b1
      try clear p2
      try clear c3
      try clear c8
      try clear c8b0
      try clear c8b1
      obtain ⟨kq, x32_5, rfl, HA, HJ5, HB⟩ := hcut
      cases kq with
      | zero => exact absurd HA.out (by simp [laws_FnExecuteSymbol.j0])
      | succ kj5 =>
        have H := HA.out
        clear HA
        simp only [laws_FnExecuteSymbol.j0] at H
        by_cases c9 : x32_5 = true
        · subst c9
          have H1 : (some (t229 == t230)) = some r := by rw [if_pos rfl] at H; exact H
          clear H
          have H := H1
          clear H1
          obtain rfl := Option.some.inj H
          go_wp2
          go_ret
          exact ⟨Sqz.auR, Sqz.auHB⟩
        · replace c9 := Bool.eq_false_iff.mpr c9
          subst c9
          have H1 : ((laws_digits.f kj5 t228).bind fun t231 => (if t228 = 0 then (laws_FnExecuteSymbol.j1 kj5 t226 t227 t229 (⟨#[114]⟩ : ByteArray)) else (laws_FnExecuteSymbol.j1 kj5 t226 t227 t229 t231))) = some r := by rw [if_neg (show ¬ (false = true) by decide)] at H; exact H
          clear H
          have H := H1
          clear H1
          replace H := Option.bind_eq_some_iff.mp H
          obtain ⟨t231, A100, H⟩ := H
          replace H : (if t228 = 0 then (laws_FnExecuteSymbol.j1 kj5 t226 t227 t229 (⟨#[114]⟩ : ByteArray)) else (laws_FnExecuteSymbol.j1 kj5 t226 t227 t229 t231)) = some r := H
          have A10 := Aside0.mk A100
          clear A100
          have HC11 := Aside0.mk H
          clear H
          go_upto_if 39 with (first | ((with_reducible refine gate_callee (f := 22) rfl ?_); refine goesL_ (some 37) rfl rfl Tryz.func22 (by kernel_rfl) rfl #[.int .i64 t228] rfl Sqz.auM ?_; (with_reducible refine (laws_digits.calls kj5 t228 t231 _ A10.out).mono ?_); rintro e w12 ⟨rfl, hb⟩; refine ⟨_, rfl, ?_⟩; have n0_ := Aside0.mk (below_step (Sqz.auHB) hb); clear HB; have HB := n0_; clear n0_; (try clear hb); (try clear hb2); (try clear hk); (try clear hi)))
          (try simp only [Act.put, List.setIfInBounds_toArray, List.set_cons_zero, List.set_cons_succ])
          go_cut [8] (fun v8 wc => ∃ (kq : Nat) (x8_10 : ByteArray), v8 = .string x8_10 ∧ Aside0 (laws_FnExecuteSymbol.j1 kq t226 t227 t229 x8_10 = some r) ∧ Aside0 (kq ≤ kj5) ∧ Aside0 (Below w.heap.size w wc))
          case first =>
            have H := HC11.out
            clear HC11
            by_cases c13 : t228 = 0
            · rw [if_pos c13] at H
              have c13b0 : (t228 == 0) = true := beq_iff_eq.mpr c13
              have c13b1 : (t228 != 0) = false := bne_eq_false_iff_eq.mpr c13
              clear c13
              (first | rw [c13b0] | (simp only [i64_w, i32_w]; rw [c13b0]) | skip)
              have H' := Aside0.mk H
              clear H
              go_wp2
              go_meet
              case rel => exact ⟨_, ((⟨#[114]⟩ : ByteArray)), Sqz.auS, H', ⟨by have := HJ5.out; first | omega | exact Nat.le_refl _⟩, ⟨Sqz.auHB⟩⟩
            · rw [if_neg c13] at H
              have c13b0 : (t228 == 0) = false := beq_eq_false_iff_ne.mpr c13
              have c13b1 : (t228 != 0) = true := bne_iff_ne.mpr c13
              (first | rw [c13b0] | (simp only [i64_w, i32_w]; rw [c13b0]) | skip)
              have H' := Aside0.mk H
              clear H
              go_wp2
              go_meet
              case rel => exact ⟨_, (t231), Sqz.auS, H', ⟨by have := HJ5.out; first | omega | exact Nat.le_refl _⟩, ⟨Sqz.auHB⟩⟩
          case rest =>
            clear HC11
            try clear c1
            try clear c2
            try clear c2b0
            try clear c2b1
            try clear p2
            try clear c3
            try clear c8
            try clear c8b0
            try clear c8b1
            try clear c9
            try clear c13
            try clear c13b0
            try clear c13b1
            try clear p2
            obtain ⟨kq, x8_10, rfl, HA, HJ10, HB⟩ := hcut
            cases kq with
            | zero => exact absurd HA.out (by simp [laws_FnExecuteSymbol.j1])
            | succ kj10 =>
              have H := HA.out
              clear HA
              simp only [laws_FnExecuteSymbol.j1] at H
              obtain ⟨y232, hy232⟩ : ∃ y_ : List Int, y_ = (([t226, t227] : List Int)) := ⟨_, rfl⟩
              replace H : ((laws_spaced.f kj10 y232).bind fun t235 => (if 6 + t235.size ≤ 9223372036854775807 then (if ((⟨#[115, 121, 109, 98, 111, 108]⟩ : ByteArray) ++ t235).size + 1 ≤ 9223372036854775807 then (if (((⟨#[115, 121, 109, 98, 111, 108]⟩ : ByteArray) ++ t235) ++ (⟨#[32]⟩ : ByteArray)).size + x8_10.size ≤ 9223372036854775807 then (if ((((⟨#[115, 121, 109, 98, 111, 108]⟩ : ByteArray) ++ t235) ++ (⟨#[32]⟩ : ByteArray)) ++ x8_10).size + 1 ≤ 9223372036854775807 then ((impl_Execute.f kj10 (((((⟨#[115, 121, 109, 98, 111, 108]⟩ : ByteArray) ++ t235) ++ (⟨#[32]⟩ : ByteArray)) ++ x8_10) ++ (⟨#[10]⟩ : ByteArray))).bind fun t236 => ((laws_digits.f kj10 t229).bind fun t237 => (if t237.size + 1 ≤ 9223372036854775807 then ((laws_endLine.f kj10 1).bind fun t238 => (if (t237 ++ (⟨#[10]⟩ : ByteArray)).size + t238.size ≤ 9223372036854775807 then (some (t236.toList == ((t237 ++ (⟨#[10]⟩ : ByteArray)) ++ t238).toList)) else (none))) else (none)))) else (none)) else (none)) else (none)) else (none))) = some r := by first | (rw [hy232]; with_reducible exact H) | (have H2_ := (Option.bind_some _ _).symm.trans H; rw [hy232]; with_reducible exact H2_) | (have H2_ := (Option.bind_some _ _).symm.trans H; with_reducible exact H2_) | with_reducible exact H | (rw [hy232]; exact H) | exact H
              have Ny232 := Aside0.mk hy232
              clear hy232
              replace H := Option.bind_eq_some_iff.mp H
              obtain ⟨t235, A140, H⟩ := H
              replace H : (if 6 + t235.size ≤ 9223372036854775807 then (if ((⟨#[115, 121, 109, 98, 111, 108]⟩ : ByteArray) ++ t235).size + 1 ≤ 9223372036854775807 then (if (((⟨#[115, 121, 109, 98, 111, 108]⟩ : ByteArray) ++ t235) ++ (⟨#[32]⟩ : ByteArray)).size + x8_10.size ≤ 9223372036854775807 then (if ((((⟨#[115, 121, 109, 98, 111, 108]⟩ : ByteArray) ++ t235) ++ (⟨#[32]⟩ : ByteArray)) ++ x8_10).size + 1 ≤ 9223372036854775807 then ((impl_Execute.f kj10 (((((⟨#[115, 121, 109, 98, 111, 108]⟩ : ByteArray) ++ t235) ++ (⟨#[32]⟩ : ByteArray)) ++ x8_10) ++ (⟨#[10]⟩ : ByteArray))).bind fun t236 => ((laws_digits.f kj10 t229).bind fun t237 => (if t237.size + 1 ≤ 9223372036854775807 then ((laws_endLine.f kj10 1).bind fun t238 => (if (t237 ++ (⟨#[10]⟩ : ByteArray)).size + t238.size ≤ 9223372036854775807 then (some (t236.toList == ((t237 ++ (⟨#[10]⟩ : ByteArray)) ++ t238).toList)) else (none))) else (none)))) else (none)) else (none)) else (none)) else (none)) = some r := H
              have A14 := Aside0.mk A140
              clear A140
              by_cases c15 : 6 + t235.size ≤ 9223372036854775807
              · rw [if_pos c15] at H
                have c15b0 := eq_true c15
                have c15b1 : decide (6 + t235.size ≤ 9223372036854775807) = true := decide_eq_true c15
                try have c15b2 : (9223372036854775807 < 6 + t235.size) = False := eq_false (Nat.not_lt.2 c15)
                by_cases c16 : ((⟨#[115, 121, 109, 98, 111, 108]⟩ : ByteArray) ++ t235).size + 1 ≤ 9223372036854775807
                · rw [if_pos c16] at H
                  have c16b0 := eq_true c16
                  have c16b1 : decide (((⟨#[115, 121, 109, 98, 111, 108]⟩ : ByteArray) ++ t235).size + 1 ≤ 9223372036854775807) = true := decide_eq_true c16
                  try have c16b2 : (9223372036854775807 < ((⟨#[115, 121, 109, 98, 111, 108]⟩ : ByteArray) ++ t235).size + 1) = False := eq_false (Nat.not_lt.2 c16)
                  have c16b3 := c16
                  have c16b4 := eq_false (Nat.not_lt.2 c16)
                  simp only [ByteArray.size_append, show (⟨#[115, 121, 109, 98, 111, 108]⟩ : ByteArray).size = 6 from rfl] at c16b4
                  by_cases c17 : (((⟨#[115, 121, 109, 98, 111, 108]⟩ : ByteArray) ++ t235) ++ (⟨#[32]⟩ : ByteArray)).size + x8_10.size ≤ 9223372036854775807
                  · rw [if_pos c17] at H
                    have c17b0 := eq_true c17
                    have c17b1 : decide ((((⟨#[115, 121, 109, 98, 111, 108]⟩ : ByteArray) ++ t235) ++ (⟨#[32]⟩ : ByteArray)).size + x8_10.size ≤ 9223372036854775807) = true := decide_eq_true c17
                    try have c17b2 : (9223372036854775807 < (((⟨#[115, 121, 109, 98, 111, 108]⟩ : ByteArray) ++ t235) ++ (⟨#[32]⟩ : ByteArray)).size + x8_10.size) = False := eq_false (Nat.not_lt.2 c17)
                    have c17b3 := c17
                    have c17b4 := eq_false (Nat.not_lt.2 c17)
                    simp only [ByteArray.size_append, show (⟨#[115, 121, 109, 98, 111, 108]⟩ : ByteArray).size = 6 from rfl, show (⟨#[32]⟩ : ByteArray).size = 1 from rfl] at c17b4
                    by_cases c18 : ((((⟨#[115, 121, 109, 98, 111, 108]⟩ : ByteArray) ++ t235) ++ (⟨#[32]⟩ : ByteArray)) ++ x8_10).size + 1 ≤ 9223372036854775807
                    · rw [if_pos c18] at H
                      have c18b0 := eq_true c18
                      have c18b1 : decide (((((⟨#[115, 121, 109, 98, 111, 108]⟩ : ByteArray) ++ t235) ++ (⟨#[32]⟩ : ByteArray)) ++ x8_10).size + 1 ≤ 9223372036854775807) = true := decide_eq_true c18
                      try have c18b2 : (9223372036854775807 < ((((⟨#[115, 121, 109, 98, 111, 108]⟩ : ByteArray) ++ t235) ++ (⟨#[32]⟩ : ByteArray)) ++ x8_10).size + 1) = False := eq_false (Nat.not_lt.2 c18)
                      have c18b3 := c18
                      have c18b4 := eq_false (Nat.not_lt.2 c18)
                      simp only [ByteArray.size_append, show (⟨#[115, 121, 109, 98, 111, 108]⟩ : ByteArray).size = 6 from rfl, show (⟨#[32]⟩ : ByteArray).size = 1 from rfl] at c18b4
                      replace H := Option.bind_eq_some_iff.mp H
                      obtain ⟨t236, A190, H⟩ := H
                      replace H : ((laws_digits.f kj10 t229).bind fun t237 => (if t237.size + 1 ≤ 9223372036854775807 then ((laws_endLine.f kj10 1).bind fun t238 => (if (t237 ++ (⟨#[10]⟩ : ByteArray)).size + t238.size ≤ 9223372036854775807 then (some (t236.toList == ((t237 ++ (⟨#[10]⟩ : ByteArray)) ++ t238).toList)) else (none))) else (none))) = some r := H
                      have A19 := Aside0.mk A190
                      clear A190
                      replace H := Option.bind_eq_some_iff.mp H
                      obtain ⟨t237, A200, H⟩ := H
                      replace H : (if t237.size + 1 ≤ 9223372036854775807 then ((laws_endLine.f kj10 1).bind fun t238 => (if (t237 ++ (⟨#[10]⟩ : ByteArray)).size + t238.size ≤ 9223372036854775807 then (some (t236.toList == ((t237 ++ (⟨#[10]⟩ : ByteArray)) ++ t238).toList)) else (none))) else (none)) = some r := H
                      have A20 := Aside0.mk A200
                      clear A200
                      by_cases c21 : t237.size + 1 ≤ 9223372036854775807
                      · rw [if_pos c21] at H
                        have c21b0 := eq_true c21
                        have c21b1 : decide (t237.size + 1 ≤ 9223372036854775807) = true := decide_eq_true c21
                        try have c21b2 : (9223372036854775807 < t237.size + 1) = False := eq_false (Nat.not_lt.2 c21)
                        replace H := Option.bind_eq_some_iff.mp H
                        obtain ⟨t238, A220, H⟩ := H
                        replace H : (if (t237 ++ (⟨#[10]⟩ : ByteArray)).size + t238.size ≤ 9223372036854775807 then (some (t236.toList == ((t237 ++ (⟨#[10]⟩ : ByteArray)) ++ t238).toList)) else (none)) = some r := H
                        have A22 := Aside0.mk A220
                        clear A220
                        by_cases c23 : (t237 ++ (⟨#[10]⟩ : ByteArray)).size + t238.size ≤ 9223372036854775807
                        · rw [if_pos c23] at H
                          have c23b0 := eq_true c23
                          have c23b1 : decide ((t237 ++ (⟨#[10]⟩ : ByteArray)).size + t238.size ≤ 9223372036854775807) = true := decide_eq_true c23
                          try have c23b2 : (9223372036854775807 < (t237 ++ (⟨#[10]⟩ : ByteArray)).size + t238.size) = False := eq_false (Nat.not_lt.2 c23)
                          have c23b3 := c23
                          have c23b4 := eq_false (Nat.not_lt.2 c23)
                          simp only [ByteArray.size_append, show (⟨#[10]⟩ : ByteArray).size = 1 from rfl] at c23b4
                          obtain rfl := Option.some.inj H
                          go_wp2_with (first | ((with_reducible refine gate_dst (N := 42) rfl ?_); refine Kd.R_lit (Kd.int .i64) _ 3 ?hg (N := 42) ?hd (xs := ([t226, t227] : List Int)) (inner := [.int .i64 t226, .int .i64 t227]) (ok := fun _ => True) (okp := fun _ => True) ?hr ?hp (fun _ hk => hk) trivial (Below.refl _ _) (Nat.le_refl _) (by simp) ?_; (case hd => rfl); (case hg => rfl); (case hr => first | (go_simp; done) | (go_simp; rfl)); (case hp => exact (Reps.one (show Kd.M (Kd.int .i64) _ _ _ t226 [.int .i64 t226] from rfl) (Reps.one (show Kd.M (Kd.int .i64) _ _ _ t227 [.int .i64 t227] from rfl) (Reps.none _ _)))); intro v233 w24 ho25 hb hg_ hnew_; clear hg_ hnew_; (first | rw [← Ny232.out] at ho25 | (simp only [Int.reduceToNat] at ho25; rw [← Ny232.out] at ho25)); have n0_ := Aside0.mk (Kd.R_lower ho25 (below_size (Sqz.auHB))); have n1_ := Aside0.mk (below_step (Sqz.auHB) hb); clear HB; have HO234 := n0_; have HB := n1_; clear n0_ n1_; clear hb ho25; obtain ⟨Ao26, co26, eo26⟩ := Kd.R_slice HO234.out; subst eo26) | ((with_reducible refine gate_callee (f := 24) rfl ?_); refine goesL_ (some 43) rfl rfl Tryz.func24 (by kernel_rfl) rfl #[.slice Ao26 y232.length co26] rfl Sqz.auM ?_; (with_reducible refine (laws_spaced.calls kj10 _ _ y232 t235 _ ?side1 ?side2 A14.out).mono ?_); (case side1 => exact Sqz.mvC ((Kd.R_reads' HO234.out).2.2)); (case side2 => exact (Kd.R_reads' HO234.out).2.1); rintro e w27 ⟨rfl, hb⟩; refine ⟨_, rfl, ?_⟩; have n0_ := Aside0.mk (Kd.R_below ((Sqz.mvR HO234.out)) hb); have n1_ := Aside0.mk (below_step (Sqz.auHB) hb); clear HO234; clear HB; have HO234 := n0_; have HB := n1_; clear n0_ n1_; (try clear hb); (try clear hb2); (try clear hk); (try clear hi)) | ((with_reducible refine gate_callee (f := 14) rfl ?_); refine goesL_ (some 49) rfl rfl Tryz.func14 (by kernel_rfl) rfl #[.string (((((⟨#[115, 121, 109, 98, 111, 108]⟩ : ByteArray) ++ t235) ++ (⟨#[32]⟩ : ByteArray)) ++ x8_10) ++ (⟨#[10]⟩ : ByteArray))] rfl Sqz.auM ?_; (with_reducible refine (impl_Execute.calls kj10 (((((⟨#[115, 121, 109, 98, 111, 108]⟩ : ByteArray) ++ t235) ++ (⟨#[32]⟩ : ByteArray)) ++ x8_10) ++ (⟨#[10]⟩ : ByteArray)) t236 _ ?sideG A19.out).mono ?_); (case sideG => exact GW.below HG.out (by repeat (first | (with_reducible first | exact HB.out | apply below_alloc | apply pw_below_drewN | apply below_drew1) | exact HB.out))); rintro e w28 ⟨rfl, hb⟩; refine ⟨_, rfl, ?_⟩; have n0_ := Aside0.mk (Kd.R_below ((Sqz.mvR HO234.out)) hb); have n1_ := Aside0.mk (below_step (Sqz.auHB) hb); clear HO234; clear HB; have HO234 := n0_; have HB := n1_; clear n0_ n1_; (try clear hb); (try clear hb2); (try clear hk); (try clear hi)) | ((with_reducible refine gate_callee (f := 22) rfl ?_); refine goesL_ (some 51) rfl rfl Tryz.func22 (by kernel_rfl) rfl #[.int .i64 t229] rfl Sqz.auM ?_; (with_reducible refine (laws_digits.calls kj10 t229 t237 _ A20.out).mono ?_); rintro e w29 ⟨rfl, hb⟩; refine ⟨_, rfl, ?_⟩; have n0_ := Aside0.mk (Kd.R_below ((Sqz.mvR HO234.out)) hb); have n1_ := Aside0.mk (below_step (Sqz.auHB) hb); clear HO234; clear HB; have HO234 := n0_; have HB := n1_; clear n0_ n1_; (try clear hb); (try clear hb2); (try clear hk); (try clear hi)) | ((with_reducible refine gate_callee (f := 25) rfl ?_); refine goesL_ (some 53) rfl rfl Tryz.func25 (by kernel_rfl) rfl #[.int .i64 1] rfl Sqz.auM ?_; (with_reducible refine (laws_endLine.calls kj10 1 t238 _ A22.out).mono ?_); rintro e w30 ⟨rfl, hb⟩; refine ⟨_, rfl, ?_⟩; have n0_ := Aside0.mk (Kd.R_below ((Sqz.mvR HO234.out)) hb); have n1_ := Aside0.mk (below_step (Sqz.auHB) hb); clear HO234; clear HB; have HO234 := n0_; have HB := n1_; clear n0_ n1_; (try clear hb); (try clear hb2); (try clear hk); (try clear hi)))
                          go_ret
                          exact ⟨Sqz.auR, Sqz.auHB⟩
                        · rw [if_neg c23] at H
                          exact absurd H (by simp)
                      · rw [if_neg c21] at H
                        exact absurd H (by simp)
                    · rw [if_neg c18] at H
                      exact absurd H (by simp)
                  · rw [if_neg c17] at H
                    exact absurd H (by simp)
                · rw [if_neg c16] at H
                  exact absurd H (by simp)
              · rw [if_neg c15] at H
                exact absurd H (by simp)

/-- THE ONE PURE STATEMENT of laws_FnExecuteSymbol: yours. -/
def laws_FnExecuteSymbol.Pure : Prop := ∀ (l0 : List Int), l0.length ≤ maxLen → l0.length * 1 ≤ 140737488351232 → (∀ x ∈ l0, (Lit.int .u8 x).wf = true) → ∃ k, laws_FnExecuteSymbol.f k l0 = some true
theorem laws_FnExecuteSymbol.walk (P : laws_FnExecuteSymbol.Pure) (a0 : Option Addr) (len0 cap0 : Nat) (z0 : List Int) (w : World) (w0 : (a0 = none ∧ len0 = 0 ∧ cap0 = 0 ∧ z0 = []) ∨ ∃ x, a0 = some x ∧ len0 ≤ cap0 ∧ cap0 ≤ maxLen ∧ z0.length = cap0 ∧ (∀ i, i < z0.length → w.cell? (x.add i) = some (.int .u8 (z0.getD i 0))) ∧ ∀ n ∈ z0, (Lit.int .u8 n).wf = true) (y0 : len0 * 1 ≤ 140737488351232) (hG : GW w) :
    Calls Tryz.prog 8 #[.slice a0 len0 cap0] w fun e w' => e = .returned (.bool true) ∧ Below w.heap.size w w' := by
  obtain ⟨l0, rfl, hr0, hm0, hw0, hc0⟩ := ReadsInt.ofRowC w0
  obtain ⟨k, h⟩ := P l0 hm0 y0 hw0
  refine (laws_FnExecuteSymbol.calls k _ _ l0 true w hG (Kd.C_of_reads (d := (0 : Int)) (h1 := fun _ => rfl) hr0) hc0 h).mono ?_
  rintro e w' ⟨rfl, hd⟩
  exact ⟨rfl, hd⟩

end Go.Proofs.YtacfcoilmdhgnaaGreatDoor.PFnExecuteSymbol
