/- A function's Lean twin and its walk, written by a program of this session. -/
import Derived.Test.YtacfcoilmdhgnaaGreatDoorTPFnExecuteAtx0
import Derived.Test.YtacfcoilmdhgnaaGreatDoorTPFnExecuteAtx2
import Derived.Test.YtacfcoilmdhgnaaGreatDoorTPFnExecuteAtx3
import Derived.Test.YtacfcoilmdhgnaaGreatDoorTPFnExecuteAtx4
import Derived.Test.YtacfcoilmdhgnaaGreatDoorTPFnExecuteAtx5
import Derived.Test.YtacfcoilmdhgnaaGreatDoorTPFnExecuteAtx6
namespace Go.Proofs.YtacfcoilmdhgnaaGreatDoor.PFnExecuteAt
open Go.RowKit Go.Proofs.YtacfcoilmdhgnaaGreatDoorW.PrintWords Go.Proofs.YtacfcoilmdhgnaaGreatDoorW.PrintLast Go.Proofs.YtacfcoilmdhgnaaGreatDoorW.PrintMore
attribute [local go_sem] max2_int min2_int max_two min_two max_three min_three max_four min_four   -- for this text's walks alone
set_option linter.unusedVariables false
set_option linter.unusedSimpArgs false

/-! ### laws_FnExecuteAt: function 9 -/
def laws_FnExecuteAt.j0 : Nat → List Int → Int → Bool → Bool → Bool → Option (Bool)
  | 0, _, _, _, _, _ => none
  | k + 1, x3, x4, x5, x6, x28 => if x28 = true then (some (x5 == x6)) else ((laws_digits.f k x4).bind fun t308 => (if x4 = 0 then ((laws_spaced.f k x3).bind fun t309 => (if 4 + t309.size ≤ 9223372036854775807 then (if ((⟨#[102, 111, 114, 109]⟩ : ByteArray) ++ t309).size + 4 ≤ 9223372036854775807 then (if (((⟨#[102, 111, 114, 109]⟩ : ByteArray) ++ t309) ++ (⟨#[10, 97, 116, 32]⟩ : ByteArray)).size + 1 ≤ 9223372036854775807 then (if ((((⟨#[102, 111, 114, 109]⟩ : ByteArray) ++ t309) ++ (⟨#[10, 97, 116, 32]⟩ : ByteArray)) ++ (⟨#[114]⟩ : ByteArray)).size + 1 ≤ 9223372036854775807 then ((impl_Execute.f k (((((⟨#[102, 111, 114, 109]⟩ : ByteArray) ++ t309) ++ (⟨#[10, 97, 116, 32]⟩ : ByteArray)) ++ (⟨#[114]⟩ : ByteArray)) ++ (⟨#[10]⟩ : ByteArray))).bind fun t310 => ((laws_endLine.f k (x3.length : Int)).bind fun t311 => (if 8 + t311.size ≤ 9223372036854775807 then (some (t310.toList == ((⟨#[111, 107, 10, 122, 101, 114, 111, 10]⟩ : ByteArray) ++ t311).toList)) else (none)))) else (none)) else (none)) else (none)) else (none))) else ((laws_spaced.f k x3).bind fun t312 => (if 4 + t312.size ≤ 9223372036854775807 then (if ((⟨#[102, 111, 114, 109]⟩ : ByteArray) ++ t312).size + 4 ≤ 9223372036854775807 then (if (((⟨#[102, 111, 114, 109]⟩ : ByteArray) ++ t312) ++ (⟨#[10, 97, 116, 32]⟩ : ByteArray)).size + t308.size ≤ 9223372036854775807 then (if ((((⟨#[102, 111, 114, 109]⟩ : ByteArray) ++ t312) ++ (⟨#[10, 97, 116, 32]⟩ : ByteArray)) ++ t308).size + 1 ≤ 9223372036854775807 then ((impl_Execute.f k (((((⟨#[102, 111, 114, 109]⟩ : ByteArray) ++ t312) ++ (⟨#[10, 97, 116, 32]⟩ : ByteArray)) ++ t308) ++ (⟨#[10]⟩ : ByteArray))).bind fun t313 => ((laws_endLine.f k (x3.length : Int)).bind fun t314 => (if 8 + t314.size ≤ 9223372036854775807 then (some (t313.toList == ((⟨#[111, 107, 10, 122, 101, 114, 111, 10]⟩ : ByteArray) ++ t314).toList)) else (none)))) else (none)) else (none)) else (none)) else (none)))))
def laws_FnExecuteAt.f (k : Nat) (l0 : List Int) : Option (Bool) := if (l0.length : Int) > 1048576 then (some true) else ((spec_DrawFormVanishes.f k l0).bind fun bt302 => ((impl_FormVanishes.f k bt302.1 bt302.2).bind fun t306 => ((spec_FormVanishes.f k bt302.1 bt302.2).bind fun t307 => (if (t306 != t307) = true then (laws_FnExecuteAt.j0 k bt302.1 bt302.2 t306 t307 true) else (laws_FnExecuteAt.j0 k bt302.1 bt302.2 t306 t307 (!t306))))))
set_option maxHeartbeats 8000000 in
set_option maxRecDepth 100000 in
theorem laws_FnExecuteAt.calls (k : Nat) (A0 : Option Addr) (c0 : Nat) (l0 : List Int) (r : Bool) (w : World) (hG : GW w) (hr0 : Kd.C (Kd.int .u8) w A0 l0.length l0) (hc0 : l0.length ≤ c0) (h : laws_FnExecuteAt.f k l0 = some r) :
    Calls Tryz.prog 9 #[.slice A0 l0.length c0] w fun e w' => e = .returned (.bool r) ∧ Below w.heap.size w w' := by
  have HG := Aside0.mk hG
  clear hG
  have HR0 := Aside0.mk hr0
  have HC0 := Aside0.mk hc0
  clear hr0 hc0
  have HB := Aside0.mk (Below.refl w.heap.size w)
  have H : (if (l0.length : Int) > 1048576 then (some true) else ((spec_DrawFormVanishes.f k l0).bind fun bt302 => ((impl_FormVanishes.f k bt302.1 bt302.2).bind fun t306 => ((spec_FormVanishes.f k bt302.1 bt302.2).bind fun t307 => (if (t306 != t307) = true then (laws_FnExecuteAt.j0 k bt302.1 bt302.2 t306 t307 true) else (laws_FnExecuteAt.j0 k bt302.1 bt302.2 t306 t307 (!t306))))))) = some r := h
  clear h
  by_cases c2 : (l0.length : Int) > 1048576
  · rw [if_pos c2] at H
    have c2b0 : decide (1048576 < (l0.length : Int)) = true := decide_eq_true c2
    have c2b1 : decide (1048576 < l0.length) = true := decide_eq_true (by omega)
    clear c2
    obtain rfl := Option.some.inj H
    go_enter Tryz.func9, Tryz.ntmps9
    go_wp2
    go_ret
    exact ⟨Sqz.auR, Sqz.auHB⟩
  · rw [if_neg c2] at H
    have c2b0 : decide (1048576 < (l0.length : Int)) = false := decide_eq_false c2
    have c2b1 : decide (1048576 < l0.length) = false := decide_eq_false (by omega)
    clear c2
    replace H := Option.bind_eq_some_iff.mp H
    obtain ⟨⟨t302, t303⟩, A30, H⟩ := H
    replace H : ((impl_FormVanishes.f k t302 t303).bind fun t306 => ((spec_FormVanishes.f k t302 t303).bind fun t307 => (if (t306 != t307) = true then (laws_FnExecuteAt.j0 k t302 t303 t306 t307 true) else (laws_FnExecuteAt.j0 k t302 t303 t306 t307 (!t306))))) = some r := H
    have A3 := Aside0.mk A30
    clear A30
    replace H := Option.bind_eq_some_iff.mp H
    obtain ⟨t306, A40, H⟩ := H
    replace H : ((spec_FormVanishes.f k t302 t303).bind fun t307 => (if (t306 != t307) = true then (laws_FnExecuteAt.j0 k t302 t303 t306 t307 true) else (laws_FnExecuteAt.j0 k t302 t303 t306 t307 (!t306)))) = some r := H
    have A4 := Aside0.mk A40
    clear A40
    replace H := Option.bind_eq_some_iff.mp H
    obtain ⟨t307, A50, H⟩ := H
    replace H : (if (t306 != t307) = true then (laws_FnExecuteAt.j0 k t302 t303 t306 t307 true) else (laws_FnExecuteAt.j0 k t302 t303 t306 t307 (!t306))) = some r := H
    have A5 := Aside0.mk A50
    clear A50
    have HC6 := Aside0.mk H
    clear H
    go_enter Tryz.func9, Tryz.ntmps9
    go_upto_region 6 with (first | ((with_reducible refine gate_callee (f := 33) rfl ?_); refine goesL_ (some 13) rfl rfl Tryz.func33 (by kernel_rfl) rfl #[.slice A0 l0.length c0] rfl Sqz.auM ?_; (with_reducible refine (spec_DrawFormVanishes.calls k _ _ l0 t302 t303 _ ?side1 ?side2 A3.out).mono ?_); (case side1 => exact Sqz.mvC (HR0.out)); (case side2 => exact HC0.out); rintro e w7 ⟨v304, rfl, ho0, hb⟩; refine ⟨_, rfl, ?_⟩; have n0_ := Aside0.mk (Kd.R_lower ho0 (below_size (Sqz.auHB))); have n1_ := Aside0.mk (below_step (Sqz.auHB) hb); clear HB; have HO305 := n0_; have HB := n1_; clear n0_ n1_; (try clear hb); (try clear hb2); (try clear hk); (try clear hi); (try clear ho0); obtain ⟨Ao8, co8, eo8⟩ := Kd.R_slice HO305.out; subst eo8) | ((with_reducible refine gate_callee (f := 34) rfl ?_); refine goesL_ (some 18) rfl rfl Tryz.func34 (by kernel_rfl) rfl #[.slice Ao8 t302.length co8, .int .i64 t303] rfl Sqz.auM ?_; (with_reducible refine (impl_FormVanishes.calls k _ _ t302 t303 t306 _ ?side1 ?side2 A4.out).mono ?_); (case side1 => exact Sqz.mvC ((Kd.R_reads' HO305.out).2.2)); (case side2 => exact (Kd.R_reads' HO305.out).2.1); rintro e w9 ⟨rfl, hb⟩; refine ⟨_, rfl, ?_⟩; have n0_ := Aside0.mk (Kd.R_below ((Sqz.mvR HO305.out)) hb); have n1_ := Aside0.mk (below_step (Sqz.auHB) hb); clear HO305; clear HB; have HO305 := n0_; have HB := n1_; clear n0_ n1_; (try clear hb); (try clear hb2); (try clear hk); (try clear hi)) | ((with_reducible refine gate_callee (f := 35) rfl ?_); refine goesL_ (some 21) rfl rfl Tryz.func35 (by kernel_rfl) rfl #[.slice Ao8 t302.length co8, .int .i64 t303] rfl Sqz.auM ?_; (with_reducible refine (spec_FormVanishes.calls k _ _ t302 t303 t307 _ ?side1 ?side2 A5.out).mono ?_); (case side1 => exact Sqz.mvC ((Kd.R_reads' HO305.out).2.2)); (case side2 => exact (Kd.R_reads' HO305.out).2.1); rintro e w' ⟨rfl, ⟨nd, rfl⟩⟩; refine ⟨_, rfl, ?_⟩))
    (try simp only [Act.put, List.setIfInBounds_toArray, List.set_cons_zero, List.set_cons_succ])
    go_cut [28] (fun v28 wc => ∃ (kq : Nat) (x28_5 : Bool), v28 = .bool x28_5 ∧ Aside0 (laws_FnExecuteAt.j0 kq t302 t303 t306 t307 x28_5 = some r) ∧ Aside0 (kq ≤ k) ∧ Aside0 (Kd.R (Kd.int .i64) 3 wc w.heap.size (fun _ => True) (.slice Ao8 t302.length co8) t302) ∧ Aside0 (Below w.heap.size w wc))
    case first =>
      have H := HC6.out
      clear HC6
      by_cases c10 : (t306 != t307) = true
      · rw [if_pos c10] at H
        have c10b0 : (t306 != t307) = true := c10
        (try (have c10b1 : decide (t306 = t307) = false := by simpa using c10))
        (try (have c10b2 : (t306 == t307) = false := by simpa using c10))
        (try (have c10b3 : ¬ (t306 = t307) := by simpa using c10))
        clear c10
        (first | rw [c10b0] | (simp only [i64_w, i32_w]; rw [c10b0]) | skip)
        have H' := Aside0.mk H
        clear H
        go_wp2
        go_meet
        case rel => exact ⟨_, (true), Sqz.auS, H', ⟨Sqz.auN⟩, ⟨(Sqz.mvR HO305.out)⟩, ⟨Sqz.auHB⟩⟩
      · rw [if_neg c10] at H
        have c10b0 : (t306 != t307) = false := by simpa using c10
        (try (have c10b1 : decide (t306 = t307) = true := by simpa using c10))
        (try (have c10b2 : (t306 == t307) = true := by simpa using c10))
        clear c10
        (first | rw [c10b0] | (simp only [i64_w, i32_w]; rw [c10b0]) | skip)
        have H' := Aside0.mk H
        clear H
        go_wp2
        go_meet
        case rel => exact ⟨_, (!t306), Sqz.auS, H', ⟨Sqz.auN⟩, ⟨(Sqz.mvR HO305.out)⟩, ⟨Sqz.auHB⟩⟩
    case rest =>
      clear HC6
      try clear c1
      try clear c2
      try clear c2b0
      try clear c2b1
      try clear p2
      try clear c3
      try clear c9
      try clear c10
      try clear c10b0
      try clear c10b1
      try clear c10b2
      obtain ⟨kq, x28_5, rfl, HA, HJ5, HO_3, HB⟩ := hcut
      cases kq with
      | zero => exact absurd HA.out (by simp [laws_FnExecuteAt.j0])
      | succ kj5 =>
        have H := HA.out
        clear HA
        simp only [laws_FnExecuteAt.j0] at H
        by_cases c11 : x28_5 = true
        · subst c11
          have H1 : (some (t306 == t307)) = some r := by rw [if_pos rfl] at H; exact H
          clear H
          have H := H1
          clear H1
          obtain rfl := Option.some.inj H
          go_wp2
          go_ret
          exact ⟨Sqz.auR, Sqz.auHB⟩
        · replace c11 := Bool.eq_false_iff.mpr c11
          subst c11
          have H1 : ((laws_digits.f kj5 t303).bind fun t308 => (if t303 = 0 then ((laws_spaced.f kj5 t302).bind fun t309 => (if 4 + t309.size ≤ 9223372036854775807 then (if ((⟨#[102, 111, 114, 109]⟩ : ByteArray) ++ t309).size + 4 ≤ 9223372036854775807 then (if (((⟨#[102, 111, 114, 109]⟩ : ByteArray) ++ t309) ++ (⟨#[10, 97, 116, 32]⟩ : ByteArray)).size + 1 ≤ 9223372036854775807 then (if ((((⟨#[102, 111, 114, 109]⟩ : ByteArray) ++ t309) ++ (⟨#[10, 97, 116, 32]⟩ : ByteArray)) ++ (⟨#[114]⟩ : ByteArray)).size + 1 ≤ 9223372036854775807 then ((impl_Execute.f kj5 (((((⟨#[102, 111, 114, 109]⟩ : ByteArray) ++ t309) ++ (⟨#[10, 97, 116, 32]⟩ : ByteArray)) ++ (⟨#[114]⟩ : ByteArray)) ++ (⟨#[10]⟩ : ByteArray))).bind fun t310 => ((laws_endLine.f kj5 (t302.length : Int)).bind fun t311 => (if 8 + t311.size ≤ 9223372036854775807 then (some (t310.toList == ((⟨#[111, 107, 10, 122, 101, 114, 111, 10]⟩ : ByteArray) ++ t311).toList)) else (none)))) else (none)) else (none)) else (none)) else (none))) else ((laws_spaced.f kj5 t302).bind fun t312 => (if 4 + t312.size ≤ 9223372036854775807 then (if ((⟨#[102, 111, 114, 109]⟩ : ByteArray) ++ t312).size + 4 ≤ 9223372036854775807 then (if (((⟨#[102, 111, 114, 109]⟩ : ByteArray) ++ t312) ++ (⟨#[10, 97, 116, 32]⟩ : ByteArray)).size + t308.size ≤ 9223372036854775807 then (if ((((⟨#[102, 111, 114, 109]⟩ : ByteArray) ++ t312) ++ (⟨#[10, 97, 116, 32]⟩ : ByteArray)) ++ t308).size + 1 ≤ 9223372036854775807 then ((impl_Execute.f kj5 (((((⟨#[102, 111, 114, 109]⟩ : ByteArray) ++ t312) ++ (⟨#[10, 97, 116, 32]⟩ : ByteArray)) ++ t308) ++ (⟨#[10]⟩ : ByteArray))).bind fun t313 => ((laws_endLine.f kj5 (t302.length : Int)).bind fun t314 => (if 8 + t314.size ≤ 9223372036854775807 then (some (t313.toList == ((⟨#[111, 107, 10, 122, 101, 114, 111, 10]⟩ : ByteArray) ++ t314).toList)) else (none)))) else (none)) else (none)) else (none)) else (none))))) = some r := by rw [if_neg (show ¬ (false = true) by decide)] at H; exact H
          clear H
          have H := H1
          clear H1
          replace H := Option.bind_eq_some_iff.mp H
          obtain ⟨t308, A120, H⟩ := H
          replace H : (if t303 = 0 then ((laws_spaced.f kj5 t302).bind fun t309 => (if 4 + t309.size ≤ 9223372036854775807 then (if ((⟨#[102, 111, 114, 109]⟩ : ByteArray) ++ t309).size + 4 ≤ 9223372036854775807 then (if (((⟨#[102, 111, 114, 109]⟩ : ByteArray) ++ t309) ++ (⟨#[10, 97, 116, 32]⟩ : ByteArray)).size + 1 ≤ 9223372036854775807 then (if ((((⟨#[102, 111, 114, 109]⟩ : ByteArray) ++ t309) ++ (⟨#[10, 97, 116, 32]⟩ : ByteArray)) ++ (⟨#[114]⟩ : ByteArray)).size + 1 ≤ 9223372036854775807 then ((impl_Execute.f kj5 (((((⟨#[102, 111, 114, 109]⟩ : ByteArray) ++ t309) ++ (⟨#[10, 97, 116, 32]⟩ : ByteArray)) ++ (⟨#[114]⟩ : ByteArray)) ++ (⟨#[10]⟩ : ByteArray))).bind fun t310 => ((laws_endLine.f kj5 (t302.length : Int)).bind fun t311 => (if 8 + t311.size ≤ 9223372036854775807 then (some (t310.toList == ((⟨#[111, 107, 10, 122, 101, 114, 111, 10]⟩ : ByteArray) ++ t311).toList)) else (none)))) else (none)) else (none)) else (none)) else (none))) else ((laws_spaced.f kj5 t302).bind fun t312 => (if 4 + t312.size ≤ 9223372036854775807 then (if ((⟨#[102, 111, 114, 109]⟩ : ByteArray) ++ t312).size + 4 ≤ 9223372036854775807 then (if (((⟨#[102, 111, 114, 109]⟩ : ByteArray) ++ t312) ++ (⟨#[10, 97, 116, 32]⟩ : ByteArray)).size + t308.size ≤ 9223372036854775807 then (if ((((⟨#[102, 111, 114, 109]⟩ : ByteArray) ++ t312) ++ (⟨#[10, 97, 116, 32]⟩ : ByteArray)) ++ t308).size + 1 ≤ 9223372036854775807 then ((impl_Execute.f kj5 (((((⟨#[102, 111, 114, 109]⟩ : ByteArray) ++ t312) ++ (⟨#[10, 97, 116, 32]⟩ : ByteArray)) ++ t308) ++ (⟨#[10]⟩ : ByteArray))).bind fun t313 => ((laws_endLine.f kj5 (t302.length : Int)).bind fun t314 => (if 8 + t314.size ≤ 9223372036854775807 then (some (t313.toList == ((⟨#[111, 107, 10, 122, 101, 114, 111, 10]⟩ : ByteArray) ++ t314).toList)) else (none)))) else (none)) else (none)) else (none)) else (none)))) = some r := H
          have A12 := Aside0.mk A120
          clear A120
          by_cases c13 : t303 = 0
          · rw [if_pos c13] at H
            have c13b0 : (t303 == 0) = true := beq_iff_eq.mpr c13
            have c13b1 : (t303 != 0) = false := bne_eq_false_iff_eq.mpr c13
            clear c13
            replace H := Option.bind_eq_some_iff.mp H
            obtain ⟨t309, A140, H⟩ := H
            replace H : (if 4 + t309.size ≤ 9223372036854775807 then (if ((⟨#[102, 111, 114, 109]⟩ : ByteArray) ++ t309).size + 4 ≤ 9223372036854775807 then (if (((⟨#[102, 111, 114, 109]⟩ : ByteArray) ++ t309) ++ (⟨#[10, 97, 116, 32]⟩ : ByteArray)).size + 1 ≤ 9223372036854775807 then (if ((((⟨#[102, 111, 114, 109]⟩ : ByteArray) ++ t309) ++ (⟨#[10, 97, 116, 32]⟩ : ByteArray)) ++ (⟨#[114]⟩ : ByteArray)).size + 1 ≤ 9223372036854775807 then ((impl_Execute.f kj5 (((((⟨#[102, 111, 114, 109]⟩ : ByteArray) ++ t309) ++ (⟨#[10, 97, 116, 32]⟩ : ByteArray)) ++ (⟨#[114]⟩ : ByteArray)) ++ (⟨#[10]⟩ : ByteArray))).bind fun t310 => ((laws_endLine.f kj5 (t302.length : Int)).bind fun t311 => (if 8 + t311.size ≤ 9223372036854775807 then (some (t310.toList == ((⟨#[111, 107, 10, 122, 101, 114, 111, 10]⟩ : ByteArray) ++ t311).toList)) else (none)))) else (none)) else (none)) else (none)) else (none)) = some r := H
            have A14 := Aside0.mk A140
            clear A140
            by_cases c15 : 4 + t309.size ≤ 9223372036854775807
            · rw [if_pos c15] at H
              have c15b0 := eq_true c15
              have c15b1 : decide (4 + t309.size ≤ 9223372036854775807) = true := decide_eq_true c15
              try have c15b2 : (9223372036854775807 < 4 + t309.size) = False := eq_false (Nat.not_lt.2 c15)
              by_cases c16 : ((⟨#[102, 111, 114, 109]⟩ : ByteArray) ++ t309).size + 4 ≤ 9223372036854775807
              · rw [if_pos c16] at H
                have c16b0 := eq_true c16
                have c16b1 : decide (((⟨#[102, 111, 114, 109]⟩ : ByteArray) ++ t309).size + 4 ≤ 9223372036854775807) = true := decide_eq_true c16
                try have c16b2 : (9223372036854775807 < ((⟨#[102, 111, 114, 109]⟩ : ByteArray) ++ t309).size + 4) = False := eq_false (Nat.not_lt.2 c16)
                have c16b3 := c16
                have c16b4 := eq_false (Nat.not_lt.2 c16)
                simp only [ByteArray.size_append, show (⟨#[102, 111, 114, 109]⟩ : ByteArray).size = 4 from rfl] at c16b4
                by_cases c17 : (((⟨#[102, 111, 114, 109]⟩ : ByteArray) ++ t309) ++ (⟨#[10, 97, 116, 32]⟩ : ByteArray)).size + 1 ≤ 9223372036854775807
                · rw [if_pos c17] at H
                  have c17b0 := eq_true c17
                  have c17b1 : decide ((((⟨#[102, 111, 114, 109]⟩ : ByteArray) ++ t309) ++ (⟨#[10, 97, 116, 32]⟩ : ByteArray)).size + 1 ≤ 9223372036854775807) = true := decide_eq_true c17
                  try have c17b2 : (9223372036854775807 < (((⟨#[102, 111, 114, 109]⟩ : ByteArray) ++ t309) ++ (⟨#[10, 97, 116, 32]⟩ : ByteArray)).size + 1) = False := eq_false (Nat.not_lt.2 c17)
                  have c17b3 := c17
                  have c17b4 := eq_false (Nat.not_lt.2 c17)
                  simp only [ByteArray.size_append, show (⟨#[10, 97, 116, 32]⟩ : ByteArray).size = 4 from rfl, show (⟨#[102, 111, 114, 109]⟩ : ByteArray).size = 4 from rfl] at c17b4
                  by_cases c18 : ((((⟨#[102, 111, 114, 109]⟩ : ByteArray) ++ t309) ++ (⟨#[10, 97, 116, 32]⟩ : ByteArray)) ++ (⟨#[114]⟩ : ByteArray)).size + 1 ≤ 9223372036854775807
                  · rw [if_pos c18] at H
                    have c18b0 := eq_true c18
                    have c18b1 : decide (((((⟨#[102, 111, 114, 109]⟩ : ByteArray) ++ t309) ++ (⟨#[10, 97, 116, 32]⟩ : ByteArray)) ++ (⟨#[114]⟩ : ByteArray)).size + 1 ≤ 9223372036854775807) = true := decide_eq_true c18
                    try have c18b2 : (9223372036854775807 < ((((⟨#[102, 111, 114, 109]⟩ : ByteArray) ++ t309) ++ (⟨#[10, 97, 116, 32]⟩ : ByteArray)) ++ (⟨#[114]⟩ : ByteArray)).size + 1) = False := eq_false (Nat.not_lt.2 c18)
                    have c18b3 := c18
                    have c18b4 := eq_false (Nat.not_lt.2 c18)
                    simp only [ByteArray.size_append, show (⟨#[10, 97, 116, 32]⟩ : ByteArray).size = 4 from rfl, show (⟨#[102, 111, 114, 109]⟩ : ByteArray).size = 4 from rfl, show (⟨#[114]⟩ : ByteArray).size = 1 from rfl] at c18b4
                    replace H := Option.bind_eq_some_iff.mp H
                    obtain ⟨t310, A190, H⟩ := H
                    replace H : ((laws_endLine.f kj5 (t302.length : Int)).bind fun t311 => (if 8 + t311.size ≤ 9223372036854775807 then (some (t310.toList == ((⟨#[111, 107, 10, 122, 101, 114, 111, 10]⟩ : ByteArray) ++ t311).toList)) else (none))) = some r := H
                    have A19 := Aside0.mk A190
                    clear A190
                    replace H := Option.bind_eq_some_iff.mp H
                    obtain ⟨t311, A200, H⟩ := H
                    replace H : (if 8 + t311.size ≤ 9223372036854775807 then (some (t310.toList == ((⟨#[111, 107, 10, 122, 101, 114, 111, 10]⟩ : ByteArray) ++ t311).toList)) else (none)) = some r := H
                    have A20 := Aside0.mk A200
                    clear A200
                    by_cases c21 : 8 + t311.size ≤ 9223372036854775807
                    · rw [if_pos c21] at H
                      have c21b0 := eq_true c21
                      have c21b1 : decide (8 + t311.size ≤ 9223372036854775807) = true := decide_eq_true c21
                      try have c21b2 : (9223372036854775807 < 8 + t311.size) = False := eq_false (Nat.not_lt.2 c21)
                      obtain rfl := Option.some.inj H
                      go_wp2_with (first | ((with_reducible refine gate_callee (f := 22) rfl ?_); refine goesL_ (some 33) rfl rfl Tryz.func22 (by kernel_rfl) rfl #[.int .i64 t303] rfl Sqz.auM ?_; (with_reducible refine (laws_digits.calls kj5 t303 t308 _ A12.out).mono ?_); rintro e w22 ⟨rfl, hb⟩; refine ⟨_, rfl, ?_⟩; have n0_ := Aside0.mk (Kd.R_below ((Sqz.mvR HO_3.out)) hb); have n1_ := Aside0.mk (below_step (Sqz.auHB) hb); clear HO_3; clear HB; have HO_3 := n0_; have HB := n1_; clear n0_ n1_; (try clear hb); (try clear hb2); (try clear hk); (try clear hi)) | ((with_reducible refine gate_callee (f := 24) rfl ?_); refine goesL_ (some 37) rfl rfl Tryz.func24 (by kernel_rfl) rfl #[.slice Ao8 t302.length co8] rfl Sqz.auM ?_; (with_reducible refine (laws_spaced.calls kj5 _ _ t302 t309 _ ?side1 ?side2 A14.out).mono ?_); (case side1 => exact Sqz.mvC ((Kd.R_reads' HO_3.out).2.2)); (case side2 => exact (Kd.R_reads' HO_3.out).2.1); rintro e w23 ⟨rfl, hb⟩; refine ⟨_, rfl, ?_⟩; have n0_ := Aside0.mk (Kd.R_below ((Sqz.mvR HO_3.out)) hb); have n1_ := Aside0.mk (below_step (Sqz.auHB) hb); clear HO_3; clear HB; have HO_3 := n0_; have HB := n1_; clear n0_ n1_; (try clear hb); (try clear hb2); (try clear hk); (try clear hi)) | ((with_reducible refine gate_callee (f := 14) rfl ?_); refine goesL_ (some 43) rfl rfl Tryz.func14 (by kernel_rfl) rfl #[.string (((((⟨#[102, 111, 114, 109]⟩ : ByteArray) ++ t309) ++ (⟨#[10, 97, 116, 32]⟩ : ByteArray)) ++ (⟨#[114]⟩ : ByteArray)) ++ (⟨#[10]⟩ : ByteArray))] rfl Sqz.auM ?_; (with_reducible refine (impl_Execute.calls kj5 (((((⟨#[102, 111, 114, 109]⟩ : ByteArray) ++ t309) ++ (⟨#[10, 97, 116, 32]⟩ : ByteArray)) ++ (⟨#[114]⟩ : ByteArray)) ++ (⟨#[10]⟩ : ByteArray)) t310 _ ?sideG A19.out).mono ?_); (case sideG => exact GW.below HG.out (by repeat (first | (with_reducible first | exact HB.out | apply below_alloc | apply pw_below_drewN | apply below_drew1) | exact HB.out))); rintro e w24 ⟨rfl, hb⟩; refine ⟨_, rfl, ?_⟩; have n0_ := Aside0.mk (Kd.R_below ((Sqz.mvR HO_3.out)) hb); have n1_ := Aside0.mk (below_step (Sqz.auHB) hb); clear HO_3; clear HB; have HO_3 := n0_; have HB := n1_; clear n0_ n1_; (try clear hb); (try clear hb2); (try clear hk); (try clear hi)) | ((with_reducible refine gate_callee (f := 25) rfl ?_); refine goesL_ (some 46) rfl rfl Tryz.func25 (by kernel_rfl) rfl #[.int .i64 (t302.length : Int)] rfl Sqz.auM ?_; (with_reducible refine (laws_endLine.calls kj5 (t302.length : Int) t311 _ A20.out).mono ?_); rintro e w25 ⟨rfl, hb⟩; refine ⟨_, rfl, ?_⟩; have n0_ := Aside0.mk (Kd.R_below ((Sqz.mvR HO_3.out)) hb); have n1_ := Aside0.mk (below_step (Sqz.auHB) hb); clear HO_3; clear HB; have HO_3 := n0_; have HB := n1_; clear n0_ n1_; (try clear hb); (try clear hb2); (try clear hk); (try clear hi)))
                      go_ret
                      exact ⟨Sqz.auR, Sqz.auHB⟩
                    · rw [if_neg c21] at H
                      exact absurd H (by simp)
                  · rw [if_neg c18] at H
                    exact absurd H (by simp)
                · rw [if_neg c17] at H
                  exact absurd H (by simp)
              · rw [if_neg c16] at H
                exact absurd H (by simp)
            · rw [if_neg c15] at H
              exact absurd H (by simp)
          · rw [if_neg c13] at H
            have c13b0 : (t303 == 0) = false := beq_eq_false_iff_ne.mpr c13
            have c13b1 : (t303 != 0) = true := bne_iff_ne.mpr c13
            replace H := Option.bind_eq_some_iff.mp H
            obtain ⟨t312, A260, H⟩ := H
            replace H : (if 4 + t312.size ≤ 9223372036854775807 then (if ((⟨#[102, 111, 114, 109]⟩ : ByteArray) ++ t312).size + 4 ≤ 9223372036854775807 then (if (((⟨#[102, 111, 114, 109]⟩ : ByteArray) ++ t312) ++ (⟨#[10, 97, 116, 32]⟩ : ByteArray)).size + t308.size ≤ 9223372036854775807 then (if ((((⟨#[102, 111, 114, 109]⟩ : ByteArray) ++ t312) ++ (⟨#[10, 97, 116, 32]⟩ : ByteArray)) ++ t308).size + 1 ≤ 9223372036854775807 then ((impl_Execute.f kj5 (((((⟨#[102, 111, 114, 109]⟩ : ByteArray) ++ t312) ++ (⟨#[10, 97, 116, 32]⟩ : ByteArray)) ++ t308) ++ (⟨#[10]⟩ : ByteArray))).bind fun t313 => ((laws_endLine.f kj5 (t302.length : Int)).bind fun t314 => (if 8 + t314.size ≤ 9223372036854775807 then (some (t313.toList == ((⟨#[111, 107, 10, 122, 101, 114, 111, 10]⟩ : ByteArray) ++ t314).toList)) else (none)))) else (none)) else (none)) else (none)) else (none)) = some r := H
            have A26 := Aside0.mk A260
            clear A260
            by_cases c27 : 4 + t312.size ≤ 9223372036854775807
            · rw [if_pos c27] at H
              have c27b0 := eq_true c27
              have c27b1 : decide (4 + t312.size ≤ 9223372036854775807) = true := decide_eq_true c27
              try have c27b2 : (9223372036854775807 < 4 + t312.size) = False := eq_false (Nat.not_lt.2 c27)
              by_cases c28 : ((⟨#[102, 111, 114, 109]⟩ : ByteArray) ++ t312).size + 4 ≤ 9223372036854775807
              · rw [if_pos c28] at H
                have c28b0 := eq_true c28
                have c28b1 : decide (((⟨#[102, 111, 114, 109]⟩ : ByteArray) ++ t312).size + 4 ≤ 9223372036854775807) = true := decide_eq_true c28
                try have c28b2 : (9223372036854775807 < ((⟨#[102, 111, 114, 109]⟩ : ByteArray) ++ t312).size + 4) = False := eq_false (Nat.not_lt.2 c28)
                have c28b3 := c28
                have c28b4 := eq_false (Nat.not_lt.2 c28)
                simp only [ByteArray.size_append, show (⟨#[102, 111, 114, 109]⟩ : ByteArray).size = 4 from rfl] at c28b4
                by_cases c29 : (((⟨#[102, 111, 114, 109]⟩ : ByteArray) ++ t312) ++ (⟨#[10, 97, 116, 32]⟩ : ByteArray)).size + t308.size ≤ 9223372036854775807
                · rw [if_pos c29] at H
                  have c29b0 := eq_true c29
                  have c29b1 : decide ((((⟨#[102, 111, 114, 109]⟩ : ByteArray) ++ t312) ++ (⟨#[10, 97, 116, 32]⟩ : ByteArray)).size + t308.size ≤ 9223372036854775807) = true := decide_eq_true c29
                  try have c29b2 : (9223372036854775807 < (((⟨#[102, 111, 114, 109]⟩ : ByteArray) ++ t312) ++ (⟨#[10, 97, 116, 32]⟩ : ByteArray)).size + t308.size) = False := eq_false (Nat.not_lt.2 c29)
                  have c29b3 := c29
                  have c29b4 := eq_false (Nat.not_lt.2 c29)
                  simp only [ByteArray.size_append, show (⟨#[10, 97, 116, 32]⟩ : ByteArray).size = 4 from rfl, show (⟨#[102, 111, 114, 109]⟩ : ByteArray).size = 4 from rfl] at c29b4
                  by_cases c30 : ((((⟨#[102, 111, 114, 109]⟩ : ByteArray) ++ t312) ++ (⟨#[10, 97, 116, 32]⟩ : ByteArray)) ++ t308).size + 1 ≤ 9223372036854775807
                  · rw [if_pos c30] at H
                    have c30b0 := eq_true c30
                    have c30b1 : decide (((((⟨#[102, 111, 114, 109]⟩ : ByteArray) ++ t312) ++ (⟨#[10, 97, 116, 32]⟩ : ByteArray)) ++ t308).size + 1 ≤ 9223372036854775807) = true := decide_eq_true c30
                    try have c30b2 : (9223372036854775807 < ((((⟨#[102, 111, 114, 109]⟩ : ByteArray) ++ t312) ++ (⟨#[10, 97, 116, 32]⟩ : ByteArray)) ++ t308).size + 1) = False := eq_false (Nat.not_lt.2 c30)
                    have c30b3 := c30
                    have c30b4 := eq_false (Nat.not_lt.2 c30)
                    simp only [ByteArray.size_append, show (⟨#[10, 97, 116, 32]⟩ : ByteArray).size = 4 from rfl, show (⟨#[102, 111, 114, 109]⟩ : ByteArray).size = 4 from rfl] at c30b4
                    replace H := Option.bind_eq_some_iff.mp H
                    obtain ⟨t313, A310, H⟩ := H
                    replace H : ((laws_endLine.f kj5 (t302.length : Int)).bind fun t314 => (if 8 + t314.size ≤ 9223372036854775807 then (some (t313.toList == ((⟨#[111, 107, 10, 122, 101, 114, 111, 10]⟩ : ByteArray) ++ t314).toList)) else (none))) = some r := H
                    have A31 := Aside0.mk A310
                    clear A310
                    replace H := Option.bind_eq_some_iff.mp H
                    obtain ⟨t314, A320, H⟩ := H
                    replace H : (if 8 + t314.size ≤ 9223372036854775807 then (some (t313.toList == ((⟨#[111, 107, 10, 122, 101, 114, 111, 10]⟩ : ByteArray) ++ t314).toList)) else (none)) = some r := H
                    have A32 := Aside0.mk A320
                    clear A320
                    by_cases c33 : 8 + t314.size ≤ 9223372036854775807
                    · rw [if_pos c33] at H
                      have c33b0 := eq_true c33
                      have c33b1 : decide (8 + t314.size ≤ 9223372036854775807) = true := decide_eq_true c33
                      try have c33b2 : (9223372036854775807 < 8 + t314.size) = False := eq_false (Nat.not_lt.2 c33)
                      obtain rfl := Option.some.inj H
                      go_wp2_with (first | ((with_reducible refine gate_callee (f := 22) rfl ?_); refine goesL_ (some 33) rfl rfl Tryz.func22 (by kernel_rfl) rfl #[.int .i64 t303] rfl Sqz.auM ?_; (with_reducible refine (laws_digits.calls kj5 t303 t308 _ A12.out).mono ?_); rintro e w34 ⟨rfl, hb⟩; refine ⟨_, rfl, ?_⟩; have n0_ := Aside0.mk (Kd.R_below ((Sqz.mvR HO_3.out)) hb); have n1_ := Aside0.mk (below_step (Sqz.auHB) hb); clear HO_3; clear HB; have HO_3 := n0_; have HB := n1_; clear n0_ n1_; (try clear hb); (try clear hb2); (try clear hk); (try clear hi)) | ((with_reducible refine gate_callee (f := 24) rfl ?_); refine goesL_ (some 37) rfl rfl Tryz.func24 (by kernel_rfl) rfl #[.slice Ao8 t302.length co8] rfl Sqz.auM ?_; (with_reducible refine (laws_spaced.calls kj5 _ _ t302 t312 _ ?side1 ?side2 A26.out).mono ?_); (case side1 => exact Sqz.mvC ((Kd.R_reads' HO_3.out).2.2)); (case side2 => exact (Kd.R_reads' HO_3.out).2.1); rintro e w35 ⟨rfl, hb⟩; refine ⟨_, rfl, ?_⟩; have n0_ := Aside0.mk (Kd.R_below ((Sqz.mvR HO_3.out)) hb); have n1_ := Aside0.mk (below_step (Sqz.auHB) hb); clear HO_3; clear HB; have HO_3 := n0_; have HB := n1_; clear n0_ n1_; (try clear hb); (try clear hb2); (try clear hk); (try clear hi)) | ((with_reducible refine gate_callee (f := 14) rfl ?_); refine goesL_ (some 43) rfl rfl Tryz.func14 (by kernel_rfl) rfl #[.string (((((⟨#[102, 111, 114, 109]⟩ : ByteArray) ++ t312) ++ (⟨#[10, 97, 116, 32]⟩ : ByteArray)) ++ t308) ++ (⟨#[10]⟩ : ByteArray))] rfl Sqz.auM ?_; (with_reducible refine (impl_Execute.calls kj5 (((((⟨#[102, 111, 114, 109]⟩ : ByteArray) ++ t312) ++ (⟨#[10, 97, 116, 32]⟩ : ByteArray)) ++ t308) ++ (⟨#[10]⟩ : ByteArray)) t313 _ ?sideG A31.out).mono ?_); (case sideG => exact GW.below HG.out (by repeat (first | (with_reducible first | exact HB.out | apply below_alloc | apply pw_below_drewN | apply below_drew1) | exact HB.out))); rintro e w36 ⟨rfl, hb⟩; refine ⟨_, rfl, ?_⟩; have n0_ := Aside0.mk (Kd.R_below ((Sqz.mvR HO_3.out)) hb); have n1_ := Aside0.mk (below_step (Sqz.auHB) hb); clear HO_3; clear HB; have HO_3 := n0_; have HB := n1_; clear n0_ n1_; (try clear hb); (try clear hb2); (try clear hk); (try clear hi)) | ((with_reducible refine gate_callee (f := 25) rfl ?_); refine goesL_ (some 46) rfl rfl Tryz.func25 (by kernel_rfl) rfl #[.int .i64 (t302.length : Int)] rfl Sqz.auM ?_; (with_reducible refine (laws_endLine.calls kj5 (t302.length : Int) t314 _ A32.out).mono ?_); rintro e w37 ⟨rfl, hb⟩; refine ⟨_, rfl, ?_⟩; have n0_ := Aside0.mk (Kd.R_below ((Sqz.mvR HO_3.out)) hb); have n1_ := Aside0.mk (below_step (Sqz.auHB) hb); clear HO_3; clear HB; have HO_3 := n0_; have HB := n1_; clear n0_ n1_; (try clear hb); (try clear hb2); (try clear hk); (try clear hi)))
                      go_ret
                      exact ⟨Sqz.auR, Sqz.auHB⟩
                    · rw [if_neg c33] at H
                      exact absurd H (by simp)
                  · rw [if_neg c30] at H
                    exact absurd H (by simp)
                · rw [if_neg c29] at H
                  exact absurd H (by simp)
              · rw [if_neg c28] at H
                exact absurd H (by simp)
            · rw [if_neg c27] at H
              exact absurd H (by simp)

/-- THE ONE PURE STATEMENT of laws_FnExecuteAt: yours. -/
def laws_FnExecuteAt.Pure : Prop := ∀ (l0 : List Int), l0.length ≤ maxLen → l0.length * 1 ≤ 140737488351232 → (∀ x ∈ l0, (Lit.int .u8 x).wf = true) → ∃ k, laws_FnExecuteAt.f k l0 = some true
theorem laws_FnExecuteAt.walk (P : laws_FnExecuteAt.Pure) (a0 : Option Addr) (len0 cap0 : Nat) (z0 : List Int) (w : World) (w0 : (a0 = none ∧ len0 = 0 ∧ cap0 = 0 ∧ z0 = []) ∨ ∃ x, a0 = some x ∧ len0 ≤ cap0 ∧ cap0 ≤ maxLen ∧ z0.length = cap0 ∧ (∀ i, i < z0.length → w.cell? (x.add i) = some (.int .u8 (z0.getD i 0))) ∧ ∀ n ∈ z0, (Lit.int .u8 n).wf = true) (y0 : len0 * 1 ≤ 140737488351232) (hG : GW w) :
    Calls Tryz.prog 9 #[.slice a0 len0 cap0] w fun e w' => e = .returned (.bool true) ∧ Below w.heap.size w w' := by
  obtain ⟨l0, rfl, hr0, hm0, hw0, hc0⟩ := ReadsInt.ofRowC w0
  obtain ⟨k, h⟩ := P l0 hm0 y0 hw0
  refine (laws_FnExecuteAt.calls k _ _ l0 true w hG (Kd.C_of_reads (d := (0 : Int)) (h1 := fun _ => rfl) hr0) hc0 h).mono ?_
  rintro e w' ⟨rfl, hd⟩
  exact ⟨rfl, hd⟩

end Go.Proofs.YtacfcoilmdhgnaaGreatDoor.PFnExecuteAt
