/- A function's Lean twin and its walk, written by a program of this session. -/
import Derived.Test.YtfhehcgefbknbaaTPFnTurnx0
import Derived.Test.YtfhehcgefbknbaaTPFnTurnx1
import Derived.Test.YtfhehcgefbknbaaTPFnTurnx4
import Derived.Test.YtfhehcgefbknbaaTPFnTurnx6
import Derived.Test.YtfhehcgefbknbaaTPFnTurnx7
namespace Go.Proofs.Ytfhehcgefbknbaa.PFnTurn
open Go.RowKit Go.Proofs.YtfhehcgefbknbaaW.PrintWords Go.Proofs.YtfhehcgefbknbaaW.PrintLast Go.Proofs.YtfhehcgefbknbaaW.PrintMore
attribute [local go_sem] max2_int min2_int max_two min_two max_three min_three max_four min_four   -- for this text's walks alone
set_option linter.unusedVariables false
set_option linter.unusedSimpArgs false

/-! ### laws_FnTurn: function 14 -/
def laws_FnTurn.j0 : Nat → List Int → List Int → List Int → Bool → List Int → Bool → Bool → Option (Bool)
  | 0, _, _, _, _, _, _, _ => none
  | k + 1, x3, x4, x5, x6, x7, x8, x48 => if x48 = true then (if (x6 == x8) = true then ((laws_sameInts.f k x5 x7).bind fun t290 => (some t290)) else (some false)) else ((impl_QuatNorm.f k x3).bind fun t291 => (if 0 < (x5.length : Int) then (if 1 < (x5.length : Int) then (if 2 < (x5.length : Int) then (if 0 < (x4.length : Int) then (if 1 < (x4.length : Int) then (if 2 < (x4.length : Int) then ((laws_minusOf.f k x3).bind fun t304 => ((impl_QuatTurn.f k t304 x4).bind fun bt307 => (if 1 ≤ (x3.length : Int) then ((impl_QuatTurn.f k x3 (x3.drop 1)).bind fun bt315 => (if (wrap64 ((wrap64 ((wrap64 ((rd x5 0) * (rd x5 0))) + (wrap64 ((rd x5 1) * (rd x5 1))))) + (wrap64 ((rd x5 2) * (rd x5 2))))) = (wrap64 ((wrap64 ((wrap64 ((wrap64 ((wrap64 ((rd x4 0) * (rd x4 0))) + (wrap64 ((rd x4 1) * (rd x4 1))))) + (wrap64 ((rd x4 2) * (rd x4 2))))) * t291)) * t291)) then (if bt307.2 = true then ((laws_sameInts.f k bt307.1 x5).bind fun t319 => (if t319 = true then (if bt315.2 = true then (if 1 < (x3.length : Int) then (if 2 < (x3.length : Int) then (if 3 < (x3.length : Int) then ((laws_sameInts.f k bt315.1 (([wrap64 (t291 * (rd x3 1)), wrap64 (t291 * (rd x3 2)), wrap64 (t291 * (rd x3 3))] : List Int))).bind fun t326 => (some t326)) else (none)) else (none)) else (none)) else (some true)) else (some false))) else (some false)) else (some false))) else (none)))) else (none)) else (none)) else (none)) else (none)) else (none)) else (none)))
def laws_FnTurn.f (k : Nat) (l0 : List Int) : Option (Bool) := if (l0.length : Int) > 1048576 then (some true) else ((spec_DrawQuatTurn.f k l0).bind fun bt275 => ((impl_QuatTurn.f k bt275.1 bt275.2).bind fun bt281 => ((spec_QuatTurn.f k bt275.1 bt275.2).bind fun bt285 => (if (bt281.2 != bt285.2) = true then (laws_FnTurn.j0 k bt275.1 bt275.2 bt281.1 bt281.2 bt285.1 bt285.2 true) else ((laws_sameInts.f k bt281.1 bt285.1).bind fun t289 => (if t289 = true then (laws_FnTurn.j0 k bt275.1 bt275.2 bt281.1 bt281.2 bt285.1 bt285.2 (!bt281.2)) else (laws_FnTurn.j0 k bt275.1 bt275.2 bt281.1 bt281.2 bt285.1 bt285.2 true)))))))
def laws_FnTurn.T9 : Bool × List (List Nat × List Nat) := (true, [([], []), ([0], [0]), ([1], [1]), ([], []), ([3], [3]), ([4], [4]), ([2, 5], [2, 5]), ([], []), ([7], [7]), ([8], [8]), ([], []), ([10], [10]), ([11], [11]), ([9, 12], [9, 12]), ([6, 13], [6, 13]), ([], []), ([15], [15]), ([16], [16]), ([], []), ([18], [18]), ([19], [19]), ([17, 20], [17, 20]), ([14, 21], [14, 21]), ([22, 0, 1, 2, 3, 4, 5, 6, 7, 8, 9, 10, 11, 12, 13, 14, 15, 16, 17, 18, 19, 20, 21, 22], [22])])
def laws_FnTurn.B9 : List Nat := [0, 1, 3, 0, 8, 24, 63, 0, 128, 384, 0, 1024, 3072, 8064, 16383, 0, 32768, 98304, 0, 262144, 786432, 2064384, 4194303, 8388607]
theorem laws_FnTurn.tab9 : rtab .any (opsOf Try.f14 9) = laws_FnTurn.T9 := by kernel_rfl
theorem laws_FnTurn.bits9 : waitsOk laws_FnTurn.T9.2 laws_FnTurn.B9 = true := by kernel_rfl
def laws_FnTurn.T10 : Bool × List (List Nat × List Nat) := (true, [([], []), ([0], [0]), ([1], [1]), ([], []), ([3], [3]), ([4], [4]), ([2, 5], [2, 5]), ([], []), ([7], [7]), ([8], [8]), ([], []), ([10], [10]), ([11], [11]), ([9, 12], [9, 12]), ([6, 13], [6, 13]), ([], []), ([15], [15]), ([16], [16]), ([], []), ([18], [18]), ([19], [19]), ([17, 20], [17, 20]), ([14, 21], [14, 21]), ([22, 0, 1, 2, 3, 4, 5, 6, 7, 8, 9, 10, 11, 12, 13, 14, 15, 16, 17, 18, 19, 20, 21, 22], [22])])
def laws_FnTurn.B10 : List Nat := [0, 1, 3, 0, 8, 24, 63, 0, 128, 384, 0, 1024, 3072, 8064, 16383, 0, 32768, 98304, 0, 262144, 786432, 2064384, 4194303, 8388607]
theorem laws_FnTurn.tab10 : rtab .any (opsOf Try.f14 10) = laws_FnTurn.T10 := by kernel_rfl
theorem laws_FnTurn.bits10 : waitsOk laws_FnTurn.T10.2 laws_FnTurn.B10 = true := by kernel_rfl
def laws_FnTurn.T13 : Bool × List (List Nat × List Nat) := (true, [([], []), ([], []), ([], []), ([1, 2], [1, 2]), ([], []), ([3, 4], [3, 4]), ([0, 5], [0, 5]), ([6], [6]), ([7], [7]), ([7, 8], [7, 8]), ([9, 7], [9]), ([10], [10]), ([10], [10]), ([11, 12, 10, 10], [10, 11, 12]), ([10, 13], [10, 13]), ([14, 13], [14]), ([15], [15]), ([16, 15], [15, 16]), ([17, 15, 15], [15, 17]), ([18], [18]), ([18], [18]), ([18], [18]), ([21, 18], [18, 21]), ([22, 18], [18, 22]), ([20, 23, 18], [18, 20, 23]), ([18], [18]), ([18], [18]), ([26, 18], [18, 26]), ([27, 18], [18, 27]), ([25, 28, 18], [18, 25, 28]), ([18], [18]), ([18], [18]), ([31, 18], [18, 31]), ([32, 18], [18, 32]), ([30, 33, 18], [18, 30, 33]), ([24, 29, 34, 18], [18, 24, 29, 34]), ([19, 35, 18, 18], [18, 19, 35]), ([18, 36, 15], [15, 18, 36]), ([15, 37], [15, 37]), ([38, 36, 0, 1, 2, 3, 4, 5, 6, 7, 8, 9, 10, 11, 12, 13, 14, 15, 16, 17, 18, 19, 20, 21, 22, 23, 24, 25, 26, 27, 28, 29, 30, 31, 32, 33, 34, 35, 36, 37, 38], [38])])
def laws_FnTurn.B13 : List Nat := [0, 0, 0, 6, 0, 30, 63, 127, 255, 511, 1023, 2047, 2047, 8191, 16383, 32767, 65535, 131071, 262143, 524287, 524287, 524287, 2621439, 6815743, 16252927, 524287, 524287, 67633151, 201850879, 503840767, 524287, 524287, 2148007935, 6442975231, 16106651647, 34359214079, 68719476735, 137438953471, 274877906943, 549755813887]
theorem laws_FnTurn.tab13 : rtab .any (opsOf Try.f14 13) = laws_FnTurn.T13 := by kernel_rfl
theorem laws_FnTurn.bits13 : waitsOk laws_FnTurn.T13.2 laws_FnTurn.B13 = true := by kernel_rfl
set_option maxHeartbeats 8000000 in
set_option maxRecDepth 100000 in
theorem laws_FnTurn.calls (k : Nat) (A0 : Option Addr) (c0 : Nat) (l0 : List Int) (r : Bool) (hrt : r = true) (w : World) (hr0 : Kd.C (Kd.int .u8) w A0 l0.length l0) (hc0 : l0.length ≤ c0) (h : laws_FnTurn.f k l0 = some r) :
    Calls Try.prog 14 #[.slice A0 l0.length c0] w fun e w' => e = .returned (.bool r) ∧ Below w.heap.size w w' := by
  have HR0 := Aside0.mk hr0
  have HC0 := Aside0.mk hc0
  clear hr0 hc0
  have HB := Aside0.mk (Below.refl w.heap.size w)
  have H : (if (l0.length : Int) > 1048576 then (some true) else ((spec_DrawQuatTurn.f k l0).bind fun bt275 => ((impl_QuatTurn.f k bt275.1 bt275.2).bind fun bt281 => ((spec_QuatTurn.f k bt275.1 bt275.2).bind fun bt285 => (if (bt281.2 != bt285.2) = true then (laws_FnTurn.j0 k bt275.1 bt275.2 bt281.1 bt281.2 bt285.1 bt285.2 true) else ((laws_sameInts.f k bt281.1 bt285.1).bind fun t289 => (if t289 = true then (laws_FnTurn.j0 k bt275.1 bt275.2 bt281.1 bt281.2 bt285.1 bt285.2 (!bt281.2)) else (laws_FnTurn.j0 k bt275.1 bt275.2 bt281.1 bt281.2 bt285.1 bt285.2 true)))))))) = some r := h
  clear h
  by_cases c2 : (l0.length : Int) > 1048576
  · rw [if_pos c2] at H
    have c2b0 : decide (1048576 < (l0.length : Int)) = true := decide_eq_true c2
    have c2b1 : decide (1048576 < l0.length) = true := decide_eq_true (by omega)
    clear c2
    obtain rfl := Option.some.inj H
    go_enter Try.func14, Try.ntmps14
    go_wp2
    go_ret
    exact ⟨Sqz.auR, Sqz.auHB⟩
  · rw [if_neg c2] at H
    have c2b0 : decide (1048576 < (l0.length : Int)) = false := decide_eq_false c2
    have c2b1 : decide (1048576 < l0.length) = false := decide_eq_false (by omega)
    clear c2
    replace H := Option.bind_eq_some_iff.mp H
    obtain ⟨⟨t275, t276⟩, A30, H⟩ := H
    replace H : ((impl_QuatTurn.f k t275 t276).bind fun bt281 => ((spec_QuatTurn.f k t275 t276).bind fun bt285 => (if (bt281.2 != bt285.2) = true then (laws_FnTurn.j0 k t275 t276 bt281.1 bt281.2 bt285.1 bt285.2 true) else ((laws_sameInts.f k bt281.1 bt285.1).bind fun t289 => (if t289 = true then (laws_FnTurn.j0 k t275 t276 bt281.1 bt281.2 bt285.1 bt285.2 (!bt281.2)) else (laws_FnTurn.j0 k t275 t276 bt281.1 bt281.2 bt285.1 bt285.2 true)))))) = some r := H
    have A3 := Aside0.mk A30
    clear A30
    replace H := Option.bind_eq_some_iff.mp H
    obtain ⟨⟨t281, t282⟩, A40, H⟩ := H
    replace H : ((spec_QuatTurn.f k t275 t276).bind fun bt285 => (if (t282 != bt285.2) = true then (laws_FnTurn.j0 k t275 t276 t281 t282 bt285.1 bt285.2 true) else ((laws_sameInts.f k t281 bt285.1).bind fun t289 => (if t289 = true then (laws_FnTurn.j0 k t275 t276 t281 t282 bt285.1 bt285.2 (!t282)) else (laws_FnTurn.j0 k t275 t276 t281 t282 bt285.1 bt285.2 true))))) = some r := H
    have A4 := Aside0.mk A40
    clear A40
    replace H := Option.bind_eq_some_iff.mp H
    obtain ⟨⟨t285, t286⟩, A50, H⟩ := H
    replace H : (if (t282 != t286) = true then (laws_FnTurn.j0 k t275 t276 t281 t282 t285 t286 true) else ((laws_sameInts.f k t281 t285).bind fun t289 => (if t289 = true then (laws_FnTurn.j0 k t275 t276 t281 t282 t285 t286 (!t282)) else (laws_FnTurn.j0 k t275 t276 t281 t282 t285 t286 true)))) = some r := H
    have A5 := Aside0.mk A50
    clear A50
    have HC6 := Aside0.mk H
    clear H
    go_enter Try.func14, Try.ntmps14
    go_upto_region 6 with (first | ((with_reducible refine gate_callee (f := 44) rfl ?_); refine goesL_ (some 21) rfl rfl Try.func44 (by kernel_rfl) rfl #[.slice A0 l0.length c0] rfl Sqz.auM ?_; (with_reducible refine (spec_DrawQuatTurn.calls k _ _ l0 t275 t276 _ ?side1 ?side2 A3.out).mono ?_); (case side1 => exact Sqz.mvC (HR0.out)); (case side2 => exact HC0.out); rintro e w7 ⟨v277, v279, rfl, ho0, ho1, hb⟩; refine ⟨_, rfl, ?_⟩; have n0_ := Aside0.mk (Kd.Q_lower ho0 (below_size (Sqz.auHB))); have n1_ := Aside0.mk (Kd.Q_lower ho1 (below_size (Sqz.auHB))); have n2_ := Aside0.mk (below_step (Sqz.auHB) hb); clear HB; have HO278 := n0_; have HO280 := n1_; have HB := n2_; clear n0_ n1_ n2_; (try clear hb); (try clear hb2); (try clear hk); (try clear hi); (try clear ho0); (try clear ho1); obtain ⟨Ao8, co8, eo8, _⟩ := Kd.Q_slice HO278.out; subst eo8; obtain ⟨Ao9, co9, eo9, _⟩ := Kd.Q_slice HO280.out; subst eo9) | ((with_reducible refine gate_callee (f := 43) rfl ?_); refine goesL_ (some 27) rfl rfl Try.func43 (by kernel_rfl) rfl #[.slice Ao8 t275.length co8, .slice Ao9 t276.length co9] rfl Sqz.auM ?_; (with_reducible refine (impl_QuatTurn.calls k _ _ t275 _ _ t276 t281 t282 _ ?side1 ?side2 ?side3 ?side4 A4.out).mono ?_); (case side1 => exact Sqz.mvC ((Kd.Q_reads' HO278.out).2.2)); (case side2 => exact (Kd.Q_reads' HO278.out).2.1); (case side3 => exact Sqz.mvC ((Kd.Q_reads' HO280.out).2.2)); (case side4 => exact (Kd.Q_reads' HO280.out).2.1); rintro e w10 ⟨v283, rfl, ho0, hb⟩; refine ⟨_, rfl, ?_⟩; have n0_ := Aside0.mk (Kd.Q_elder' ((Sqz.mvQ HO278.out)) (Kd.R_base ho0) hb); have n1_ := Aside0.mk (Kd.Q_elder' ((Sqz.mvQ HO280.out)) (Kd.R_base ho0) hb); have n2_ := Aside0.mk (Kd.R_lower (Kd.R_new' (Kd.R_new' ho0 (Kd.Q_lt ((Sqz.mvQ HO278.out)))) (Kd.Q_lt ((Sqz.mvQ HO280.out)))) (below_size (Sqz.auHB))); have n3_ := Aside0.mk (below_step (Sqz.auHB) hb); clear HO278; clear HO280; clear HB; have HO278 := n0_; have HO280 := n1_; have HO284 := n2_; have HB := n3_; clear n0_ n1_ n2_ n3_; (try clear hb); (try clear hb2); (try clear hk); (try clear hi); (try clear ho0)) | ((with_reducible refine gate_callee (f := 42) rfl ?_); refine goesL_ (some 33) rfl rfl Try.func42 (by kernel_rfl) rfl #[.slice Ao8 t275.length co8, .slice Ao9 t276.length co9] rfl Sqz.auM ?_; (with_reducible refine (spec_QuatTurn.calls k _ _ t275 _ _ t276 t285 t286 _ ?side1 ?side2 ?side3 ?side4 A5.out).mono ?_); (case side1 => exact Sqz.mvC ((Kd.Q_reads' HO278.out).2.2)); (case side2 => exact (Kd.Q_reads' HO278.out).2.1); (case side3 => exact Sqz.mvC ((Kd.Q_reads' HO280.out).2.2)); (case side4 => exact (Kd.Q_reads' HO280.out).2.1); rintro e w11 ⟨v287, rfl, ho0, hb⟩; refine ⟨_, rfl, ?_⟩; have n0_ := Aside0.mk (Kd.Q_elder' ((Sqz.mvQ HO278.out)) (Kd.Q_base ho0) hb); have n1_ := Aside0.mk (Kd.Q_elder' ((Sqz.mvQ HO280.out)) (Kd.Q_base ho0) hb); have n2_ := Aside0.mk (Kd.R_elder' ((Sqz.mvR HO284.out)) (Kd.Q_base ho0) hb); have n3_ := Aside0.mk (Kd.Q_lower (Kd.Q_new' (Kd.Q_new' (Kd.Q_new' ho0 (Kd.Q_lt ((Sqz.mvQ HO278.out)))) (Kd.Q_lt ((Sqz.mvQ HO280.out)))) (Kd.R_lt ((Sqz.mvR HO284.out)))) (below_size (Sqz.auHB))); have n4_ := Aside0.mk (below_step (Sqz.auHB) hb); clear HO278; clear HO280; clear HO284; clear HB; have HO278 := n0_; have HO280 := n1_; have HO284 := n2_; have HO288 := n3_; have HB := n4_; clear n0_ n1_ n2_ n3_ n4_; (try clear hb); (try clear hb2); (try clear hk); (try clear hi); (try clear ho0)))
    (try simp only [Act.put, List.setIfInBounds_toArray, List.set_cons_zero, List.set_cons_succ])
    go_cut [48] (fun v48 wc => ∃ (kq : Nat) (x48_5 : Bool), v48 = .bool x48_5 ∧ Aside0 (laws_FnTurn.j0 kq t275 t276 t281 t282 t285 t286 x48_5 = some r) ∧ Aside0 (kq ≤ k) ∧ Aside0 (Kd.Q (Kd.int .i64) 3 wc w.heap.size (fun k_ => some k_ ≠ ((.slice Ao9 t276.length co9) : Value).ownBlock ∧ some k_ ≠ (v283 : Value).ownBlock ∧ some k_ ≠ (v287 : Value).ownBlock) (.slice Ao8 t275.length co8) t275) ∧ Aside0 (Kd.Q (Kd.int .i64) 3 wc w.heap.size (fun k_ => some k_ ≠ ((.slice Ao8 t275.length co8) : Value).ownBlock ∧ some k_ ≠ (v283 : Value).ownBlock ∧ some k_ ≠ (v287 : Value).ownBlock) (.slice Ao9 t276.length co9) t276) ∧ Aside0 (Kd.R (Kd.int .i64) 3 wc w.heap.size (fun k_ => some k_ ≠ ((.slice Ao8 t275.length co8) : Value).ownBlock ∧ some k_ ≠ ((.slice Ao9 t276.length co9) : Value).ownBlock ∧ some k_ ≠ (v287 : Value).ownBlock) v283 t281) ∧ Aside0 (Kd.Q (Kd.int .i64) 3 wc w.heap.size (fun k_ => some k_ ≠ ((.slice Ao8 t275.length co8) : Value).ownBlock ∧ some k_ ≠ ((.slice Ao9 t276.length co9) : Value).ownBlock ∧ some k_ ≠ (v283 : Value).ownBlock) v287 t285) ∧ Aside0 (Below w.heap.size w wc))
    case first =>
      have H := HC6.out
      clear HC6
      by_cases c12 : (t282 != t286) = true
      · rw [if_pos c12] at H
        have c12b0 : (t282 != t286) = true := c12
        (try (have c12b1 : decide (t282 = t286) = false := by simpa using c12))
        (try (have c12b2 : (t282 == t286) = false := by simpa using c12))
        (try (have c12b3 : ¬ (t282 = t286) := by simpa using c12))
        clear c12
        (first | rw [c12b0] | (simp only [i64_w, i32_w]; rw [c12b0]) | skip)
        have H' := Aside0.mk H
        clear H
        go_wp2
        go_meet
        case rel => exact ⟨_, (true), Sqz.auS, H', ⟨Sqz.auN⟩, ⟨(Sqz.mvQ (Kd.Q_mono HO278.out (fun _ hk => ⟨hk.1.1, ⟨hk.1.2, hk.2⟩⟩)))⟩, ⟨(Sqz.mvQ (Kd.Q_mono HO280.out (fun _ hk => ⟨hk.1.1, ⟨hk.1.2, hk.2⟩⟩)))⟩, ⟨(Sqz.mvR (Kd.R_mono HO284.out (fun _ hk => ⟨hk.1.1.2, ⟨hk.1.2, hk.2⟩⟩)))⟩, ⟨(Sqz.mvQ (Kd.Q_mono HO288.out (fun _ hk => ⟨hk.1.1.2, ⟨hk.1.2, hk.2⟩⟩)))⟩, ⟨Sqz.auHB⟩⟩
      · rw [if_neg c12] at H
        have c12b0 : (t282 != t286) = false := by simpa using c12
        (try (have c12b1 : decide (t282 = t286) = true := by simpa using c12))
        (try (have c12b2 : (t282 == t286) = true := by simpa using c12))
        clear c12
        (first | rw [c12b0] | (simp only [i64_w, i32_w]; rw [c12b0]) | skip)
        replace H := Option.bind_eq_some_iff.mp H
        obtain ⟨t289, A130, H⟩ := H
        replace H : (if t289 = true then (laws_FnTurn.j0 k t275 t276 t281 t282 t285 t286 (!t282)) else (laws_FnTurn.j0 k t275 t276 t281 t282 t285 t286 true)) = some r := H
        have A13 := Aside0.mk A130
        clear A130
        by_cases c14 : t289 = true
        · subst c14
          have H1 : (laws_FnTurn.j0 k t275 t276 t281 t282 t285 t286 (!t282)) = some r := by rw [if_pos rfl] at H; exact H
          clear H
          have H := H1
          clear H1
          have H' := Aside0.mk H
          clear H
          obtain ⟨Ao15, co15, eo15⟩ := Kd.R_slice HO284.out
          subst eo15
          obtain ⟨Ao16, co16, eo16, _⟩ := Kd.Q_slice HO288.out
          subst eo16
          go_wp2_with (first | (go_at_call 36; (with_reducible refine (laws_sameInts.calls k _ _ t281 _ _ t285 true _ ?side1 ?side2 ?side3 ?side4 A13.out).mono ?_); (case side1 => exact Sqz.mvC ((Kd.R_reads' HO284.out).2.2)); (case side2 => exact (Kd.R_reads' HO284.out).2.1); (case side3 => exact Sqz.mvC ((Kd.Q_reads' HO288.out).2.2)); (case side4 => exact (Kd.Q_reads' HO288.out).2.1); rintro e w' ⟨rfl, ⟨nd, rfl⟩⟩))
          go_meet
          case rel => exact ⟨_, (!t282), Sqz.auS, H', ⟨Sqz.auN⟩, ⟨(Sqz.mvQ (Kd.Q_mono HO278.out (fun _ hk => ⟨hk.1.1, ⟨hk.1.2, hk.2⟩⟩)))⟩, ⟨(Sqz.mvQ (Kd.Q_mono HO280.out (fun _ hk => ⟨hk.1.1, ⟨hk.1.2, hk.2⟩⟩)))⟩, ⟨(Sqz.mvR (Kd.R_mono HO284.out (fun _ hk => ⟨hk.1.1.2, ⟨hk.1.2, hk.2⟩⟩)))⟩, ⟨(Sqz.mvQ (Kd.Q_mono HO288.out (fun _ hk => ⟨hk.1.1.2, ⟨hk.1.2, hk.2⟩⟩)))⟩, ⟨Sqz.auHB⟩⟩
        · replace c14 := Bool.eq_false_iff.mpr c14
          subst c14
          have H1 : (laws_FnTurn.j0 k t275 t276 t281 t282 t285 t286 true) = some r := by rw [if_neg (show ¬ (false = true) by decide)] at H; exact H
          clear H
          have H := H1
          clear H1
          have H' := Aside0.mk H
          clear H
          obtain ⟨Ao17, co17, eo17⟩ := Kd.R_slice HO284.out
          subst eo17
          obtain ⟨Ao18, co18, eo18, _⟩ := Kd.Q_slice HO288.out
          subst eo18
          go_wp2_with (first | (go_at_call 36; (with_reducible refine (laws_sameInts.calls k _ _ t281 _ _ t285 false _ ?side1 ?side2 ?side3 ?side4 A13.out).mono ?_); (case side1 => exact Sqz.mvC ((Kd.R_reads' HO284.out).2.2)); (case side2 => exact (Kd.R_reads' HO284.out).2.1); (case side3 => exact Sqz.mvC ((Kd.Q_reads' HO288.out).2.2)); (case side4 => exact (Kd.Q_reads' HO288.out).2.1); rintro e w' ⟨rfl, ⟨nd, rfl⟩⟩))
          go_meet
          case rel => exact ⟨_, (true), Sqz.auS, H', ⟨Sqz.auN⟩, ⟨(Sqz.mvQ (Kd.Q_mono HO278.out (fun _ hk => ⟨hk.1.1, ⟨hk.1.2, hk.2⟩⟩)))⟩, ⟨(Sqz.mvQ (Kd.Q_mono HO280.out (fun _ hk => ⟨hk.1.1, ⟨hk.1.2, hk.2⟩⟩)))⟩, ⟨(Sqz.mvR (Kd.R_mono HO284.out (fun _ hk => ⟨hk.1.1.2, ⟨hk.1.2, hk.2⟩⟩)))⟩, ⟨(Sqz.mvQ (Kd.Q_mono HO288.out (fun _ hk => ⟨hk.1.1.2, ⟨hk.1.2, hk.2⟩⟩)))⟩, ⟨Sqz.auHB⟩⟩
    case rest =>
      clear HC6
      try clear c1
      try clear c2
      try clear c2b0
      try clear c2b1
      try clear p2
      try clear c4
      try clear c12
      try clear c12b0
      try clear c12b1
      try clear c12b2
      try clear c14
      obtain ⟨kq, x48_5, rfl, HA, HJ5, HO_3, HO_4, HO_5, HO_7, HB⟩ := hcut
      cases kq with
      | zero => exact absurd HA.out (by simp [laws_FnTurn.j0])
      | succ kj5 =>
        have H := HA.out
        clear HA
        simp only [laws_FnTurn.j0] at H
        by_cases c19 : x48_5 = true
        · subst c19
          have H1 : (if (t282 == t286) = true then ((laws_sameInts.f kj5 t281 t285).bind fun t290 => (some t290)) else (some false)) = some r := by rw [if_pos rfl] at H; exact H
          clear H
          have H := H1
          clear H1
          by_cases c20 : (t282 == t286) = true
          · rw [if_pos c20] at H
            have c20b0 : (t282 == t286) = true := c20
            (try (have c20b1 : decide (t282 = t286) = true := by simpa using c20))
            (try (have c20b2 : (t282 == t286) = true := by simpa using c20))
            clear c20
            replace H := Option.bind_eq_some_iff.mp H
            obtain ⟨t290, A210, H⟩ := H
            replace H : (some t290) = some r := H
            have A21 := Aside0.mk A210
            clear A210
            obtain rfl := Option.some.inj H
            obtain ⟨Ao22, co22, eo22⟩ := Kd.R_slice HO_5.out
            subst eo22
            obtain ⟨Ao23, co23, eo23, _⟩ := Kd.Q_slice HO_7.out
            subst eo23
            go_wp2_with (first | (go_at_call 36; (with_reducible refine (laws_sameInts.calls kj5 _ _ t281 _ _ t285 t290 _ ?side1 ?side2 ?side3 ?side4 A21.out).mono ?_); (case side1 => exact Sqz.mvC ((Kd.R_reads' HO_5.out).2.2)); (case side2 => exact (Kd.R_reads' HO_5.out).2.1); (case side3 => exact Sqz.mvC ((Kd.Q_reads' HO_7.out).2.2)); (case side4 => exact (Kd.Q_reads' HO_7.out).2.1); rintro e w' ⟨rfl, ⟨nd, rfl⟩⟩))
            go_ret
            exact ⟨Sqz.auR, Sqz.auHB⟩
          · rw [if_neg c20] at H
            rw [hrt] at H; exact absurd H (by simp)
        · replace c19 := Bool.eq_false_iff.mpr c19
          subst c19
          have H1 : ((impl_QuatNorm.f kj5 t275).bind fun t291 => (if 0 < (t281.length : Int) then (if 1 < (t281.length : Int) then (if 2 < (t281.length : Int) then (if 0 < (t276.length : Int) then (if 1 < (t276.length : Int) then (if 2 < (t276.length : Int) then ((laws_minusOf.f kj5 t275).bind fun t304 => ((impl_QuatTurn.f kj5 t304 t276).bind fun bt307 => (if 1 ≤ (t275.length : Int) then ((impl_QuatTurn.f kj5 t275 (t275.drop 1)).bind fun bt315 => (if (wrap64 ((wrap64 ((wrap64 ((rd t281 0) * (rd t281 0))) + (wrap64 ((rd t281 1) * (rd t281 1))))) + (wrap64 ((rd t281 2) * (rd t281 2))))) = (wrap64 ((wrap64 ((wrap64 ((wrap64 ((wrap64 ((rd t276 0) * (rd t276 0))) + (wrap64 ((rd t276 1) * (rd t276 1))))) + (wrap64 ((rd t276 2) * (rd t276 2))))) * t291)) * t291)) then (if bt307.2 = true then ((laws_sameInts.f kj5 bt307.1 t281).bind fun t319 => (if t319 = true then (if bt315.2 = true then (if 1 < (t275.length : Int) then (if 2 < (t275.length : Int) then (if 3 < (t275.length : Int) then ((laws_sameInts.f kj5 bt315.1 (([wrap64 (t291 * (rd t275 1)), wrap64 (t291 * (rd t275 2)), wrap64 (t291 * (rd t275 3))] : List Int))).bind fun t326 => (some t326)) else (none)) else (none)) else (none)) else (some true)) else (some false))) else (some false)) else (some false))) else (none)))) else (none)) else (none)) else (none)) else (none)) else (none)) else (none))) = some r := by rw [if_neg (show ¬ (false = true) by decide)] at H; exact H
          clear H
          have H := H1
          clear H1
          replace H := Option.bind_eq_some_iff.mp H
          obtain ⟨t291, A240, H⟩ := H
          replace H : (if 0 < (t281.length : Int) then (if 1 < (t281.length : Int) then (if 2 < (t281.length : Int) then (if 0 < (t276.length : Int) then (if 1 < (t276.length : Int) then (if 2 < (t276.length : Int) then ((laws_minusOf.f kj5 t275).bind fun t304 => ((impl_QuatTurn.f kj5 t304 t276).bind fun bt307 => (if 1 ≤ (t275.length : Int) then ((impl_QuatTurn.f kj5 t275 (t275.drop 1)).bind fun bt315 => (if (wrap64 ((wrap64 ((wrap64 ((rd t281 0) * (rd t281 0))) + (wrap64 ((rd t281 1) * (rd t281 1))))) + (wrap64 ((rd t281 2) * (rd t281 2))))) = (wrap64 ((wrap64 ((wrap64 ((wrap64 ((wrap64 ((rd t276 0) * (rd t276 0))) + (wrap64 ((rd t276 1) * (rd t276 1))))) + (wrap64 ((rd t276 2) * (rd t276 2))))) * t291)) * t291)) then (if bt307.2 = true then ((laws_sameInts.f kj5 bt307.1 t281).bind fun t319 => (if t319 = true then (if bt315.2 = true then (if 1 < (t275.length : Int) then (if 2 < (t275.length : Int) then (if 3 < (t275.length : Int) then ((laws_sameInts.f kj5 bt315.1 (([wrap64 (t291 * (rd t275 1)), wrap64 (t291 * (rd t275 2)), wrap64 (t291 * (rd t275 3))] : List Int))).bind fun t326 => (some t326)) else (none)) else (none)) else (none)) else (some true)) else (some false))) else (some false)) else (some false))) else (none)))) else (none)) else (none)) else (none)) else (none)) else (none)) else (none)) = some r := H
          have A24 := Aside0.mk A240
          clear A240
          by_cases c25 : 0 < (t281.length : Int)
          · rw [if_pos c25] at H
            have c25b0 : decide (0 < (t281.length : Int)) = true := decide_eq_true c25
            have c25b1 : decide (0 < t281.length) = true := decide_eq_true (by omega)
            clear c25
            by_cases c26 : 1 < (t281.length : Int)
            · rw [if_pos c26] at H
              have c26b0 : decide (1 < (t281.length : Int)) = true := decide_eq_true c26
              have c26b1 : decide (1 < t281.length) = true := decide_eq_true (by omega)
              clear c26
              by_cases c27 : 2 < (t281.length : Int)
              · rw [if_pos c27] at H
                have c27b0 : decide (2 < (t281.length : Int)) = true := decide_eq_true c27
                have c27b1 : decide (2 < t281.length) = true := decide_eq_true (by omega)
                clear c27
                by_cases c28 : 0 < (t276.length : Int)
                · rw [if_pos c28] at H
                  have c28b0 : decide (0 < (t276.length : Int)) = true := decide_eq_true c28
                  have c28b1 : decide (0 < t276.length) = true := decide_eq_true (by omega)
                  clear c28
                  by_cases c29 : 1 < (t276.length : Int)
                  · rw [if_pos c29] at H
                    have c29b0 : decide (1 < (t276.length : Int)) = true := decide_eq_true c29
                    have c29b1 : decide (1 < t276.length) = true := decide_eq_true (by omega)
                    clear c29
                    by_cases c30 : 2 < (t276.length : Int)
                    · rw [if_pos c30] at H
                      have c30b0 : decide (2 < (t276.length : Int)) = true := decide_eq_true c30
                      have c30b1 : decide (2 < t276.length) = true := decide_eq_true (by omega)
                      clear c30
                      replace H := Option.bind_eq_some_iff.mp H
                      obtain ⟨t304, A310, H⟩ := H
                      replace H : ((impl_QuatTurn.f kj5 t304 t276).bind fun bt307 => (if 1 ≤ (t275.length : Int) then ((impl_QuatTurn.f kj5 t275 (t275.drop 1)).bind fun bt315 => (if (wrap64 ((wrap64 ((wrap64 ((rd t281 0) * (rd t281 0))) + (wrap64 ((rd t281 1) * (rd t281 1))))) + (wrap64 ((rd t281 2) * (rd t281 2))))) = (wrap64 ((wrap64 ((wrap64 ((wrap64 ((wrap64 ((rd t276 0) * (rd t276 0))) + (wrap64 ((rd t276 1) * (rd t276 1))))) + (wrap64 ((rd t276 2) * (rd t276 2))))) * t291)) * t291)) then (if bt307.2 = true then ((laws_sameInts.f kj5 bt307.1 t281).bind fun t319 => (if t319 = true then (if bt315.2 = true then (if 1 < (t275.length : Int) then (if 2 < (t275.length : Int) then (if 3 < (t275.length : Int) then ((laws_sameInts.f kj5 bt315.1 (([wrap64 (t291 * (rd t275 1)), wrap64 (t291 * (rd t275 2)), wrap64 (t291 * (rd t275 3))] : List Int))).bind fun t326 => (some t326)) else (none)) else (none)) else (none)) else (some true)) else (some false))) else (some false)) else (some false))) else (none))) = some r := H
                      have A31 := Aside0.mk A310
                      clear A310
                      replace H := Option.bind_eq_some_iff.mp H
                      obtain ⟨⟨t307, t308⟩, A320, H⟩ := H
                      replace H : (if 1 ≤ (t275.length : Int) then ((impl_QuatTurn.f kj5 t275 (t275.drop 1)).bind fun bt315 => (if (wrap64 ((wrap64 ((wrap64 ((rd t281 0) * (rd t281 0))) + (wrap64 ((rd t281 1) * (rd t281 1))))) + (wrap64 ((rd t281 2) * (rd t281 2))))) = (wrap64 ((wrap64 ((wrap64 ((wrap64 ((wrap64 ((rd t276 0) * (rd t276 0))) + (wrap64 ((rd t276 1) * (rd t276 1))))) + (wrap64 ((rd t276 2) * (rd t276 2))))) * t291)) * t291)) then (if t308 = true then ((laws_sameInts.f kj5 t307 t281).bind fun t319 => (if t319 = true then (if bt315.2 = true then (if 1 < (t275.length : Int) then (if 2 < (t275.length : Int) then (if 3 < (t275.length : Int) then ((laws_sameInts.f kj5 bt315.1 (([wrap64 (t291 * (rd t275 1)), wrap64 (t291 * (rd t275 2)), wrap64 (t291 * (rd t275 3))] : List Int))).bind fun t326 => (some t326)) else (none)) else (none)) else (none)) else (some true)) else (some false))) else (some false)) else (some false))) else (none)) = some r := H
                      have A32 := Aside0.mk A320
                      clear A320
                      by_cases c33 : 1 ≤ (t275.length : Int)
                      · rw [if_pos c33] at H
                        have c33b0 := eq_true c33
                        have c33b1 : decide (1 ≤ (t275.length : Int)) = true := decide_eq_true c33
                        clear c33
                        obtain ⟨y311, hy311⟩ : ∃ y_ : List Int, y_ = (t275.drop 1) := ⟨_, rfl⟩
                        replace H : ((impl_QuatTurn.f kj5 t275 y311).bind fun bt315 => (if (wrap64 ((wrap64 ((wrap64 ((rd t281 0) * (rd t281 0))) + (wrap64 ((rd t281 1) * (rd t281 1))))) + (wrap64 ((rd t281 2) * (rd t281 2))))) = (wrap64 ((wrap64 ((wrap64 ((wrap64 ((wrap64 ((rd t276 0) * (rd t276 0))) + (wrap64 ((rd t276 1) * (rd t276 1))))) + (wrap64 ((rd t276 2) * (rd t276 2))))) * t291)) * t291)) then (if t308 = true then ((laws_sameInts.f kj5 t307 t281).bind fun t319 => (if t319 = true then (if bt315.2 = true then (if 1 < (t275.length : Int) then (if 2 < (t275.length : Int) then (if 3 < (t275.length : Int) then ((laws_sameInts.f kj5 bt315.1 (([wrap64 (t291 * (rd t275 1)), wrap64 (t291 * (rd t275 2)), wrap64 (t291 * (rd t275 3))] : List Int))).bind fun t326 => (some t326)) else (none)) else (none)) else (none)) else (some true)) else (some false))) else (some false)) else (some false))) = some r := by first | (rw [hy311]; with_reducible exact H) | (have H2_ := (Option.bind_some _ _).symm.trans H; rw [hy311]; with_reducible exact H2_) | (have H2_ := (Option.bind_some _ _).symm.trans H; with_reducible exact H2_) | with_reducible exact H | (rw [hy311]; exact H) | exact H
                        have Ny311 := Aside0.mk hy311
                        clear hy311
                        replace H := Option.bind_eq_some_iff.mp H
                        obtain ⟨⟨t315, t316⟩, A340, H⟩ := H
                        replace H : (if (wrap64 ((wrap64 ((wrap64 ((rd t281 0) * (rd t281 0))) + (wrap64 ((rd t281 1) * (rd t281 1))))) + (wrap64 ((rd t281 2) * (rd t281 2))))) = (wrap64 ((wrap64 ((wrap64 ((wrap64 ((wrap64 ((rd t276 0) * (rd t276 0))) + (wrap64 ((rd t276 1) * (rd t276 1))))) + (wrap64 ((rd t276 2) * (rd t276 2))))) * t291)) * t291)) then (if t308 = true then ((laws_sameInts.f kj5 t307 t281).bind fun t319 => (if t319 = true then (if t316 = true then (if 1 < (t275.length : Int) then (if 2 < (t275.length : Int) then (if 3 < (t275.length : Int) then ((laws_sameInts.f kj5 t315 (([wrap64 (t291 * (rd t275 1)), wrap64 (t291 * (rd t275 2)), wrap64 (t291 * (rd t275 3))] : List Int))).bind fun t326 => (some t326)) else (none)) else (none)) else (none)) else (some true)) else (some false))) else (some false)) else (some false)) = some r := H
                        have A34 := Aside0.mk A340
                        clear A340
                        by_cases c35 : (wrap64 ((wrap64 ((wrap64 ((rd t281 0) * (rd t281 0))) + (wrap64 ((rd t281 1) * (rd t281 1))))) + (wrap64 ((rd t281 2) * (rd t281 2))))) = (wrap64 ((wrap64 ((wrap64 ((wrap64 ((wrap64 ((rd t276 0) * (rd t276 0))) + (wrap64 ((rd t276 1) * (rd t276 1))))) + (wrap64 ((rd t276 2) * (rd t276 2))))) * t291)) * t291))
                        · rw [if_pos c35] at H
                          have c35b0 : ((wrap64 ((wrap64 ((wrap64 ((rd t281 0) * (rd t281 0))) + (wrap64 ((rd t281 1) * (rd t281 1))))) + (wrap64 ((rd t281 2) * (rd t281 2))))) == (wrap64 ((wrap64 ((wrap64 ((wrap64 ((wrap64 ((rd t276 0) * (rd t276 0))) + (wrap64 ((rd t276 1) * (rd t276 1))))) + (wrap64 ((rd t276 2) * (rd t276 2))))) * t291)) * t291))) = true := beq_iff_eq.mpr c35
                          have c35b1 : ((wrap64 ((wrap64 ((wrap64 ((rd t281 0) * (rd t281 0))) + (wrap64 ((rd t281 1) * (rd t281 1))))) + (wrap64 ((rd t281 2) * (rd t281 2))))) != (wrap64 ((wrap64 ((wrap64 ((wrap64 ((wrap64 ((rd t276 0) * (rd t276 0))) + (wrap64 ((rd t276 1) * (rd t276 1))))) + (wrap64 ((rd t276 2) * (rd t276 2))))) * t291)) * t291))) = false := bne_eq_false_iff_eq.mpr c35
                          clear c35
                          by_cases c36 : t308 = true
                          · subst c36
                            have H1 : ((laws_sameInts.f kj5 t307 t281).bind fun t319 => (if t319 = true then (if t316 = true then (if 1 < (t275.length : Int) then (if 2 < (t275.length : Int) then (if 3 < (t275.length : Int) then ((laws_sameInts.f kj5 t315 (([wrap64 (t291 * (rd t275 1)), wrap64 (t291 * (rd t275 2)), wrap64 (t291 * (rd t275 3))] : List Int))).bind fun t326 => (some t326)) else (none)) else (none)) else (none)) else (some true)) else (some false))) = some r := by rw [if_pos rfl] at H; exact H
                            clear H
                            have H := H1
                            clear H1
                            replace H := Option.bind_eq_some_iff.mp H
                            obtain ⟨t319, A370, H⟩ := H
                            replace H : (if t319 = true then (if t316 = true then (if 1 < (t275.length : Int) then (if 2 < (t275.length : Int) then (if 3 < (t275.length : Int) then ((laws_sameInts.f kj5 t315 (([wrap64 (t291 * (rd t275 1)), wrap64 (t291 * (rd t275 2)), wrap64 (t291 * (rd t275 3))] : List Int))).bind fun t326 => (some t326)) else (none)) else (none)) else (none)) else (some true)) else (some false)) = some r := H
                            have A37 := Aside0.mk A370
                            clear A370
                            by_cases c38 : t319 = true
                            · subst c38
                              have H1 : (if t316 = true then (if 1 < (t275.length : Int) then (if 2 < (t275.length : Int) then (if 3 < (t275.length : Int) then ((laws_sameInts.f kj5 t315 (([wrap64 (t291 * (rd t275 1)), wrap64 (t291 * (rd t275 2)), wrap64 (t291 * (rd t275 3))] : List Int))).bind fun t326 => (some t326)) else (none)) else (none)) else (none)) else (some true)) = some r := by rw [if_pos rfl] at H; exact H
                              clear H
                              have H := H1
                              clear H1
                              by_cases c39 : t316 = true
                              · subst c39
                                have H1 : (if 1 < (t275.length : Int) then (if 2 < (t275.length : Int) then (if 3 < (t275.length : Int) then ((laws_sameInts.f kj5 t315 (([wrap64 (t291 * (rd t275 1)), wrap64 (t291 * (rd t275 2)), wrap64 (t291 * (rd t275 3))] : List Int))).bind fun t326 => (some t326)) else (none)) else (none)) else (none)) = some r := by rw [if_pos rfl] at H; exact H
                                clear H
                                have H := H1
                                clear H1
                                by_cases c40 : 1 < (t275.length : Int)
                                · rw [if_pos c40] at H
                                  have c40b0 : decide (1 < (t275.length : Int)) = true := decide_eq_true c40
                                  have c40b1 : decide (1 < t275.length) = true := decide_eq_true (by omega)
                                  clear c40
                                  by_cases c41 : 2 < (t275.length : Int)
                                  · rw [if_pos c41] at H
                                    have c41b0 : decide (2 < (t275.length : Int)) = true := decide_eq_true c41
                                    have c41b1 : decide (2 < t275.length) = true := decide_eq_true (by omega)
                                    clear c41
                                    by_cases c42 : 3 < (t275.length : Int)
                                    · rw [if_pos c42] at H
                                      have c42b0 : decide (3 < (t275.length : Int)) = true := decide_eq_true c42
                                      have c42b1 : decide (3 < t275.length) = true := decide_eq_true (by omega)
                                      clear c42
                                      obtain ⟨y323, hy323⟩ : ∃ y_ : List Int, y_ = (([wrap64 (t291 * (rd t275 1)), wrap64 (t291 * (rd t275 2)), wrap64 (t291 * (rd t275 3))] : List Int)) := ⟨_, rfl⟩
                                      replace H : ((laws_sameInts.f kj5 t315 y323).bind fun t326 => (some t326)) = some r := by first | (rw [hy323]; with_reducible exact H) | (have H2_ := (Option.bind_some _ _).symm.trans H; rw [hy323]; with_reducible exact H2_) | (have H2_ := (Option.bind_some _ _).symm.trans H; with_reducible exact H2_) | with_reducible exact H | (rw [hy323]; exact H) | exact H
                                      have Ny323 := Aside0.mk hy323
                                      clear hy323
                                      replace H := Option.bind_eq_some_iff.mp H
                                      obtain ⟨t326, A430, H⟩ := H
                                      replace H : (some t326) = some r := H
                                      have A43 := Aside0.mk A430
                                      clear A430
                                      obtain rfl := Option.some.inj H
                                      try go_wp2_with (first | ((with_reducible refine gate_callee (f := 33) rfl ?_); refine goesL_ (some 58) rfl rfl Try.func33 (by kernel_rfl) rfl #[.slice Ao8 t275.length co8] rfl Sqz.auM ?_; (with_reducible refine (impl_QuatNorm.calls kj5 _ _ t275 t291 _ ?side1 ?side2 A24.out).mono ?_); (case side1 => exact Sqz.mvC ((Kd.Q_reads' HO_3.out).2.2)); (case side2 => exact (Kd.Q_reads' HO_3.out).2.1); rintro e w44 ⟨rfl, hb⟩; refine ⟨_, rfl, ?_⟩; have n0_ := Aside0.mk (Kd.Q_below ((Sqz.mvQ HO_3.out)) hb); have n1_ := Aside0.mk (Kd.Q_below ((Sqz.mvQ HO_4.out)) hb); have n2_ := Aside0.mk (Kd.R_below ((Sqz.mvR HO_5.out)) hb); have n3_ := Aside0.mk (Kd.Q_below ((Sqz.mvQ HO_7.out)) hb); have n4_ := Aside0.mk (below_step (Sqz.auHB) hb); clear HO_3; clear HO_4; clear HO_5; clear HO_7; clear HB; have HO_3 := n0_; have HO_4 := n1_; have HO_5 := n2_; have HO_7 := n3_; have HB := n4_; clear n0_ n1_ n2_ n3_ n4_; (try clear hb); (try clear hb2); (try clear hk); (try clear hi)))
                                      have n0_ := Aside0.mk (Kd.Q_drew HO_3.out)
                                      have n1_ := Aside0.mk (Kd.Q_drew HO_4.out)
                                      have n2_ := Aside0.mk (Kd.R_drew HO_5.out)
                                      have n3_ := Aside0.mk (Kd.Q_drew HO_7.out)
                                      have n4_ := Aside0.mk (below_drew1 HB.out)
                                      clear HO_3
                                      clear HO_4
                                      clear HO_5
                                      clear HO_7
                                      clear HB
                                      have HO_3 := n0_
                                      have HO_4 := n1_
                                      have HO_5 := n2_
                                      have HO_7 := n3_
                                      have HB := n4_
                                      clear n0_ n1_ n2_ n3_ n4_
                                      obtain ⟨Ao46, co46, eo46⟩ := Kd.R_slice HO_5.out
                                      (first | subst eo46 | (injection eo46 with f1_ f2_ f3_; have f4_ := f1_.symm; have f5_ := f3_.symm; clear f1_ f2_ f3_; subst f4_; subst f5_))
                                      have p292 : 0 ≤ (0 : Int) := (by omega)
                                      have q292 : 0 < (t281.length : Int) := of_decide_eq_true (by first | (with_reducible assumption) | assumption)
                                      obtain ⟨ad292, e292, hx292_0⟩ := Kd.at_int (Kd.R_reads' HO_5.out).2.2 0 p292 q292
                                      cases e292
                                      have qi292 : (0 < t281.length) = True := eq_true (by omega)
                                      (try rw [show ((0 : Int)).toNat = 0 from rfl] at hx292_0)
                                      (try rw [Addr.add_zero'] at hx292_0)
                                      replace p292 := eq_true p292
                                      replace q292 := eq_true q292
                                      have p293 : 0 ≤ (0 : Int) := (by omega)
                                      have q293 : 0 < (t281.length : Int) := of_decide_eq_true (by first | (with_reducible assumption) | assumption)
                                      obtain ⟨ad293, e293, hx293_0⟩ := Kd.at_int (Kd.R_reads' HO_5.out).2.2 0 p293 q293
                                      obtain rfl : ad292 = ad293 := (by injection e293)
                                      have qi293 : (0 < t281.length) = True := eq_true (by omega)
                                      (try rw [show ((0 : Int)).toNat = 0 from rfl] at hx293_0)
                                      (try rw [Addr.add_zero'] at hx293_0)
                                      replace p293 := eq_true p293
                                      replace q293 := eq_true q293
                                      have p294 : 0 ≤ (1 : Int) := (by omega)
                                      have q294 : 1 < (t281.length : Int) := of_decide_eq_true (by first | (with_reducible assumption) | assumption)
                                      obtain ⟨ad294, e294, hx294_0⟩ := Kd.at_int (Kd.R_reads' HO_5.out).2.2 1 p294 q294
                                      obtain rfl : ad292 = ad294 := (by injection e294)
                                      (try simp only [show (1 : Int).toNat = 1 from rfl, Nat.reduceMul, Nat.reduceEqDiff, Go.Addr.add, ↓reduceIte] at hx294_0)
                                      have qi294 : (1 < t281.length) = True := eq_true (by omega)
                                      (try rw [show ((1 : Int)).toNat = 1 from rfl] at hx294_0)
                                      replace p294 := eq_true p294
                                      replace q294 := eq_true q294
                                      have p295 : 0 ≤ (1 : Int) := (by omega)
                                      have q295 : 1 < (t281.length : Int) := of_decide_eq_true (by first | (with_reducible assumption) | assumption)
                                      obtain ⟨ad295, e295, hx295_0⟩ := Kd.at_int (Kd.R_reads' HO_5.out).2.2 1 p295 q295
                                      obtain rfl : ad292 = ad295 := (by injection e295)
                                      (try simp only [show (1 : Int).toNat = 1 from rfl, Nat.reduceMul, Nat.reduceEqDiff, Go.Addr.add, ↓reduceIte] at hx295_0)
                                      have qi295 : (1 < t281.length) = True := eq_true (by omega)
                                      (try rw [show ((1 : Int)).toNat = 1 from rfl] at hx295_0)
                                      replace p295 := eq_true p295
                                      replace q295 := eq_true q295
                                      have p296 : 0 ≤ (2 : Int) := (by omega)
                                      have q296 : 2 < (t281.length : Int) := of_decide_eq_true (by first | (with_reducible assumption) | assumption)
                                      obtain ⟨ad296, e296, hx296_0⟩ := Kd.at_int (Kd.R_reads' HO_5.out).2.2 2 p296 q296
                                      obtain rfl : ad292 = ad296 := (by injection e296)
                                      (try simp only [show (2 : Int).toNat = 2 from rfl, Nat.reduceMul, Nat.reduceEqDiff, Go.Addr.add, ↓reduceIte] at hx296_0)
                                      have qi296 : (2 < t281.length) = True := eq_true (by omega)
                                      (try rw [show ((2 : Int)).toNat = 2 from rfl] at hx296_0)
                                      replace p296 := eq_true p296
                                      replace q296 := eq_true q296
                                      have p297 : 0 ≤ (2 : Int) := (by omega)
                                      have q297 : 2 < (t281.length : Int) := of_decide_eq_true (by first | (with_reducible assumption) | assumption)
                                      obtain ⟨ad297, e297, hx297_0⟩ := Kd.at_int (Kd.R_reads' HO_5.out).2.2 2 p297 q297
                                      obtain rfl : ad292 = ad297 := (by injection e297)
                                      (try simp only [show (2 : Int).toNat = 2 from rfl, Nat.reduceMul, Nat.reduceEqDiff, Go.Addr.add, ↓reduceIte] at hx297_0)
                                      have qi297 : (2 < t281.length) = True := eq_true (by omega)
                                      (try rw [show ((2 : Int)).toNat = 2 from rfl] at hx297_0)
                                      replace p297 := eq_true p297
                                      replace q297 := eq_true q297
                                      refine start_ (n := 24) (S := fun w' => w'.cell? ad292 = some (.int .i64 (rd t281 0)) ∧ w'.cell? ad292 = some (.int .i64 (rd t281 0)) ∧ w'.cell? ⟨ad292.block, ad292.off + 1, none⟩ = some (.int .i64 (rd t281 1)) ∧ w'.cell? ⟨ad292.block, ad292.off + 1, none⟩ = some (.int .i64 (rd t281 1)) ∧ w'.cell? ⟨ad292.block, ad292.off + 2, none⟩ = some (.int .i64 (rd t281 2)) ∧ w'.cell? ⟨ad292.block, ad292.off + 2, none⟩ = some (.int .i64 (rd t281 2))) (ds := []) #[false, false, false, false, false, false, false, false, false, false, false, false, false, false, false, false, false, false, false, false, false, false, false, false] (by kernel_rfl) rfl rfl ⟨hx292_0, hx293_0, hx294_0, hx295_0, hx296_0, hx297_0⟩ (fun hHeld => ?_); refine with_tabW laws_FnTurn.tab9 laws_FnTurn.bits9 (fun HT_ HW_ => ?_)
                                      generalize w44.drew = w45 at HO_3 HO_4 HO_5 HO_7 HB hx292_0 hx293_0 hx294_0 hx295_0 hx296_0 hx297_0 hHeld ⊢
                                      refine pure_ (i := 0) (N := some 59) (v := ?_) (a' := ?_) #[true, false, false, false, false, false, false, false, false, false, false, false, false, false, false, false, false, false, false, false, false, false, false, false] rfl rfl (any_of HT_.out (by kernel_rfl)) (fun _ _ _ h => h) (Or.inl ⟨by rfl, ?_⟩) ?_ ?_
                                      rotate_left
                                      · intro w'
                                        go_simp
                                        with_reducible rfl
                                      rotate_left
                                      · simp only [Act.put, List.setIfInBounds_toArray, List.set_cons_zero, List.set_cons_succ, i64_w, i32_w]
                                        rfl
                                      refine pure_ (i := 1) (N := some 60) (v := ?_) (a' := ?_) #[true, true, false, false, false, false, false, false, false, false, false, false, false, false, false, false, false, false, false, false, false, false, false, false] rfl rfl (any_of HT_.out (by kernel_rfl)) (fun _ _ _ h => h) (Or.inl ⟨by rfl, ?_⟩) ?_ ?_
                                      rotate_left
                                      · intro w'
                                        go_simp
                                        with_reducible rfl
                                      rotate_left
                                      · simp only [Act.put, List.setIfInBounds_toArray, List.set_cons_zero, List.set_cons_succ, i64_w, i32_w]
                                        rfl
                                      refine pure_ (i := 3) (N := some 62) (v := ?_) (a' := ?_) #[true, true, false, true, false, false, false, false, false, false, false, false, false, false, false, false, false, false, false, false, false, false, false, false] rfl rfl (any_of HT_.out (by kernel_rfl)) (fun _ _ _ h => h) (Or.inl ⟨by rfl, ?_⟩) ?_ ?_
                                      rotate_left
                                      · intro w'
                                        go_simp
                                        with_reducible rfl
                                      rotate_left
                                      · simp only [Act.put, List.setIfInBounds_toArray, List.set_cons_zero, List.set_cons_succ, i64_w, i32_w]
                                        rfl
                                      refine pure_ (i := 4) (N := some 63) (v := ?_) (a' := ?_) #[true, true, false, true, true, false, false, false, false, false, false, false, false, false, false, false, false, false, false, false, false, false, false, false] rfl rfl (any_of HT_.out (by kernel_rfl)) (fun _ _ _ h => h) (Or.inl ⟨by rfl, ?_⟩) ?_ ?_
                                      rotate_left
                                      · intro w'
                                        go_simp
                                        with_reducible rfl
                                      rotate_left
                                      · simp only [Act.put, List.setIfInBounds_toArray, List.set_cons_zero, List.set_cons_succ, i64_w, i32_w]
                                        rfl
                                      refine pure_ (i := 7) (N := some 66) (v := ?_) (a' := ?_) #[true, true, false, true, true, false, false, true, false, false, false, false, false, false, false, false, false, false, false, false, false, false, false, false] rfl rfl (any_of HT_.out (by kernel_rfl)) (fun _ _ _ h => h) (Or.inl ⟨by rfl, ?_⟩) ?_ ?_
                                      rotate_left
                                      · intro w'
                                        go_simp
                                        with_reducible rfl
                                      rotate_left
                                      · simp only [Act.put, List.setIfInBounds_toArray, List.set_cons_zero, List.set_cons_succ, i64_w, i32_w]
                                        rfl
                                      refine pure_ (i := 8) (N := some 67) (v := ?_) (a' := ?_) #[true, true, false, true, true, false, false, true, true, false, false, false, false, false, false, false, false, false, false, false, false, false, false, false] rfl rfl (any_of HT_.out (by kernel_rfl)) (fun _ _ _ h => h) (Or.inl ⟨by rfl, ?_⟩) ?_ ?_
                                      rotate_left
                                      · intro w'
                                        go_simp
                                        with_reducible rfl
                                      rotate_left
                                      · simp only [Act.put, List.setIfInBounds_toArray, List.set_cons_zero, List.set_cons_succ, i64_w, i32_w]
                                        rfl
                                      refine pure_ (i := 10) (N := some 69) (v := ?_) (a' := ?_) #[true, true, false, true, true, false, false, true, true, false, true, false, false, false, false, false, false, false, false, false, false, false, false, false] rfl rfl (any_of HT_.out (by kernel_rfl)) (fun _ _ _ h => h) (Or.inl ⟨by rfl, ?_⟩) ?_ ?_
                                      rotate_left
                                      · intro w'
                                        go_simp
                                        with_reducible rfl
                                      rotate_left
                                      · simp only [Act.put, List.setIfInBounds_toArray, List.set_cons_zero, List.set_cons_succ, i64_w, i32_w]
                                        rfl
                                      refine pure_ (i := 11) (N := some 70) (v := ?_) (a' := ?_) #[true, true, false, true, true, false, false, true, true, false, true, true, false, false, false, false, false, false, false, false, false, false, false, false] rfl rfl (any_of HT_.out (by kernel_rfl)) (fun _ _ _ h => h) (Or.inl ⟨by rfl, ?_⟩) ?_ ?_
                                      rotate_left
                                      · intro w'
                                        go_simp
                                        with_reducible rfl
                                      rotate_left
                                      · simp only [Act.put, List.setIfInBounds_toArray, List.set_cons_zero, List.set_cons_succ, i64_w, i32_w]
                                        rfl
                                      refine pure_ (i := 15) (N := some 74) (v := ?_) (a' := ?_) #[true, true, false, true, true, false, false, true, true, false, true, true, false, false, false, true, false, false, false, false, false, false, false, false] rfl rfl (any_of HT_.out (by kernel_rfl)) (fun _ _ _ h => h) (Or.inl ⟨by rfl, ?_⟩) ?_ ?_
                                      rotate_left
                                      · intro w'
                                        go_simp
                                        with_reducible rfl
                                      rotate_left
                                      · simp only [Act.put, List.setIfInBounds_toArray, List.set_cons_zero, List.set_cons_succ, i64_w, i32_w]
                                        rfl
                                      refine pure_ (i := 16) (N := some 75) (v := ?_) (a' := ?_) #[true, true, false, true, true, false, false, true, true, false, true, true, false, false, false, true, true, false, false, false, false, false, false, false] rfl rfl (any_of HT_.out (by kernel_rfl)) (fun _ _ _ h => h) (Or.inl ⟨by rfl, ?_⟩) ?_ ?_
                                      rotate_left
                                      · intro w'
                                        go_simp
                                        with_reducible rfl
                                      rotate_left
                                      · simp only [Act.put, List.setIfInBounds_toArray, List.set_cons_zero, List.set_cons_succ, i64_w, i32_w]
                                        rfl
                                      refine pure_ (i := 18) (N := some 77) (v := ?_) (a' := ?_) #[true, true, false, true, true, false, false, true, true, false, true, true, false, false, false, true, true, false, true, false, false, false, false, false] rfl rfl (any_of HT_.out (by kernel_rfl)) (fun _ _ _ h => h) (Or.inl ⟨by rfl, ?_⟩) ?_ ?_
                                      rotate_left
                                      · intro w'
                                        go_simp
                                        with_reducible rfl
                                      rotate_left
                                      · simp only [Act.put, List.setIfInBounds_toArray, List.set_cons_zero, List.set_cons_succ, i64_w, i32_w]
                                        rfl
                                      refine pure_ (i := 19) (N := some 78) (v := ?_) (a' := ?_) #[true, true, false, true, true, false, false, true, true, false, true, true, false, false, false, true, true, false, true, true, false, false, false, false] rfl rfl (any_of HT_.out (by kernel_rfl)) (fun _ _ _ h => h) (Or.inl ⟨by rfl, ?_⟩) ?_ ?_
                                      rotate_left
                                      · intro w'
                                        go_simp
                                        with_reducible rfl
                                      rotate_left
                                      · simp only [Act.put, List.setIfInBounds_toArray, List.set_cons_zero, List.set_cons_succ, i64_w, i32_w]
                                        rfl
                                      refine take_ (i := 2) (N := some 61) (v := ?_) (a' := ?_) #[true, true, true, true, true, false, false, true, true, false, true, true, false, false, false, true, true, false, true, true, false, false, false, false] rfl rfl (take_ofW HT_.out HW_.out (by kernel_rfl)) (fun _ _ _ h => h) (Or.inl ⟨by rfl, ?_⟩) hHeld ?_ ?_
                                      rotate_left
                                      · rintro w' ⟨s0, s1, s2, s3, s4, s5⟩
                                        go_simp
                                        with_reducible rfl
                                      rotate_left
                                      · simp only [Act.put, List.setIfInBounds_toArray, List.set_cons_zero, List.set_cons_succ, i64_w, i32_w]
                                        rfl
                                      refine take_ (i := 5) (N := some 64) (v := ?_) (a' := ?_) #[true, true, true, true, true, true, false, true, true, false, true, true, false, false, false, true, true, false, true, true, false, false, false, false] rfl rfl (take_ofW HT_.out HW_.out (by kernel_rfl)) (fun _ _ _ h => h) (Or.inl ⟨by rfl, ?_⟩) hHeld ?_ ?_
                                      rotate_left
                                      · rintro w' ⟨s0, s1, s2, s3, s4, s5⟩
                                        go_simp
                                        with_reducible rfl
                                      rotate_left
                                      · simp only [Act.put, List.setIfInBounds_toArray, List.set_cons_zero, List.set_cons_succ, i64_w, i32_w]
                                        rfl
                                      refine pure_ (i := 6) (N := some 65) (v := ?_) (a' := ?_) #[true, true, true, true, true, true, true, true, true, false, true, true, false, false, false, true, true, false, true, true, false, false, false, false] rfl rfl (any_of HT_.out (by kernel_rfl)) (fun _ _ _ h => h) (Or.inl ⟨by rfl, ?_⟩) ?_ ?_
                                      rotate_left
                                      · intro w'
                                        go_simp
                                        with_reducible rfl
                                      rotate_left
                                      · simp only [Act.put, List.setIfInBounds_toArray, List.set_cons_zero, List.set_cons_succ, i64_w, i32_w]
                                        rfl
                                      refine take_ (i := 9) (N := some 68) (v := ?_) (a' := ?_) #[true, true, true, true, true, true, true, true, true, true, true, true, false, false, false, true, true, false, true, true, false, false, false, false] rfl rfl (take_ofW HT_.out HW_.out (by kernel_rfl)) (fun _ _ _ h => h) (Or.inl ⟨by rfl, ?_⟩) hHeld ?_ ?_
                                      rotate_left
                                      · rintro w' ⟨s0, s1, s2, s3, s4, s5⟩
                                        go_simp
                                        with_reducible rfl
                                      rotate_left
                                      · simp only [Act.put, List.setIfInBounds_toArray, List.set_cons_zero, List.set_cons_succ, i64_w, i32_w]
                                        rfl
                                      refine take_ (i := 12) (N := some 71) (v := ?_) (a' := ?_) #[true, true, true, true, true, true, true, true, true, true, true, true, true, false, false, true, true, false, true, true, false, false, false, false] rfl rfl (take_ofW HT_.out HW_.out (by kernel_rfl)) (fun _ _ _ h => h) (Or.inl ⟨by rfl, ?_⟩) hHeld ?_ ?_
                                      rotate_left
                                      · rintro w' ⟨s0, s1, s2, s3, s4, s5⟩
                                        go_simp
                                        with_reducible rfl
                                      rotate_left
                                      · simp only [Act.put, List.setIfInBounds_toArray, List.set_cons_zero, List.set_cons_succ, i64_w, i32_w]
                                        rfl
                                      refine pure_ (i := 13) (N := some 72) (v := ?_) (a' := ?_) #[true, true, true, true, true, true, true, true, true, true, true, true, true, true, false, true, true, false, true, true, false, false, false, false] rfl rfl (any_of HT_.out (by kernel_rfl)) (fun _ _ _ h => h) (Or.inl ⟨by rfl, ?_⟩) ?_ ?_
                                      rotate_left
                                      · intro w'
                                        go_simp
                                        with_reducible rfl
                                      rotate_left
                                      · simp only [Act.put, List.setIfInBounds_toArray, List.set_cons_zero, List.set_cons_succ, i64_w, i32_w]
                                        rfl
                                      refine pure_ (i := 14) (N := some 73) (v := ?_) (a' := ?_) #[true, true, true, true, true, true, true, true, true, true, true, true, true, true, true, true, true, false, true, true, false, false, false, false] rfl rfl (any_of HT_.out (by kernel_rfl)) (fun _ _ _ h => h) (Or.inl ⟨by rfl, ?_⟩) ?_ ?_
                                      rotate_left
                                      · intro w'
                                        go_simp
                                        with_reducible rfl
                                      rotate_left
                                      · simp only [Act.put, List.setIfInBounds_toArray, List.set_cons_zero, List.set_cons_succ, i64_w, i32_w]
                                        rfl
                                      refine take_ (i := 17) (N := some 76) (v := ?_) (a' := ?_) #[true, true, true, true, true, true, true, true, true, true, true, true, true, true, true, true, true, true, true, true, false, false, false, false] rfl rfl (take_ofW HT_.out HW_.out (by kernel_rfl)) (fun _ _ _ h => h) (Or.inl ⟨by rfl, ?_⟩) hHeld ?_ ?_
                                      rotate_left
                                      · rintro w' ⟨s0, s1, s2, s3, s4, s5⟩
                                        go_simp
                                        with_reducible rfl
                                      rotate_left
                                      · simp only [Act.put, List.setIfInBounds_toArray, List.set_cons_zero, List.set_cons_succ, i64_w, i32_w]
                                        rfl
                                      refine take_ (i := 20) (N := some 79) (v := ?_) (a' := ?_) #[true, true, true, true, true, true, true, true, true, true, true, true, true, true, true, true, true, true, true, true, true, false, false, false] rfl rfl (take_ofW HT_.out HW_.out (by kernel_rfl)) (fun _ _ _ h => h) (Or.inl ⟨by rfl, ?_⟩) hHeld ?_ ?_
                                      rotate_left
                                      · rintro w' ⟨s0, s1, s2, s3, s4, s5⟩
                                        go_simp
                                        with_reducible rfl
                                      rotate_left
                                      · simp only [Act.put, List.setIfInBounds_toArray, List.set_cons_zero, List.set_cons_succ, i64_w, i32_w]
                                        rfl
                                      refine pure_ (i := 21) (N := some 80) (v := ?_) (a' := ?_) #[true, true, true, true, true, true, true, true, true, true, true, true, true, true, true, true, true, true, true, true, true, true, false, false] rfl rfl (any_of HT_.out (by kernel_rfl)) (fun _ _ _ h => h) (Or.inl ⟨by rfl, ?_⟩) ?_ ?_
                                      rotate_left
                                      · intro w'
                                        go_simp
                                        with_reducible rfl
                                      rotate_left
                                      · simp only [Act.put, List.setIfInBounds_toArray, List.set_cons_zero, List.set_cons_succ, i64_w, i32_w]
                                        rfl
                                      refine pure_ (i := 22) (N := some 81) (v := ?_) (a' := ?_) #[true, true, true, true, true, true, true, true, true, true, true, true, true, true, true, true, true, true, true, true, true, true, true, false] rfl rfl (any_of HT_.out (by kernel_rfl)) (fun _ _ _ h => h) (Or.inl ⟨by rfl, ?_⟩) ?_ ?_
                                      rotate_left
                                      · intro w'
                                        go_simp
                                        with_reducible rfl
                                      rotate_left
                                      · simp only [Act.put, List.setIfInBounds_toArray, List.set_cons_zero, List.set_cons_succ, i64_w, i32_w]
                                        rfl
                                      refine pure_ (i := 23) (N := some 10) (v := ?_) (a' := ?_) #[true, true, true, true, true, true, true, true, true, true, true, true, true, true, true, true, true, true, true, true, true, true, true, true] rfl rfl (any_of HT_.out (by kernel_rfl)) (fun _ _ _ h => h) (Or.inl ⟨by rfl, ?_⟩) ?_ ?_
                                      rotate_left
                                      · intro w'
                                        go_simp
                                        with_reducible rfl
                                      rotate_left
                                      · simp only [Act.put, List.setIfInBounds_toArray, List.set_cons_zero, List.set_cons_succ, i64_w, i32_w]
                                        rfl
                                      refine done_ (done_of HT_.out (by kernel_rfl)) ?_
                                      try go_wp2
                                      have n0_ := Aside0.mk (Kd.Q_drew HO_3.out)
                                      have n1_ := Aside0.mk (Kd.Q_drew HO_4.out)
                                      have n2_ := Aside0.mk (Kd.R_drew HO_5.out)
                                      have n3_ := Aside0.mk (Kd.Q_drew HO_7.out)
                                      have n4_ := Aside0.mk (below_drew1 HB.out)
                                      clear HO_3
                                      clear HO_4
                                      clear HO_5
                                      clear HO_7
                                      clear HB
                                      have HO_3 := n0_
                                      have HO_4 := n1_
                                      have HO_5 := n2_
                                      have HO_7 := n3_
                                      have HB := n4_
                                      clear n0_ n1_ n2_ n3_ n4_
                                      have p298 : 0 ≤ (0 : Int) := (by omega)
                                      have q298 : 0 < (t276.length : Int) := of_decide_eq_true (by first | (with_reducible assumption) | assumption)
                                      obtain ⟨ad298, e298, hx298_0⟩ := Kd.at_int (Kd.Q_reads' HO_4.out).2.2 0 p298 q298
                                      cases e298
                                      have qi298 : (0 < t276.length) = True := eq_true (by omega)
                                      (try rw [show ((0 : Int)).toNat = 0 from rfl] at hx298_0)
                                      (try rw [Addr.add_zero'] at hx298_0)
                                      replace p298 := eq_true p298
                                      replace q298 := eq_true q298
                                      have p299 : 0 ≤ (0 : Int) := (by omega)
                                      have q299 : 0 < (t276.length : Int) := of_decide_eq_true (by first | (with_reducible assumption) | assumption)
                                      obtain ⟨ad299, e299, hx299_0⟩ := Kd.at_int (Kd.Q_reads' HO_4.out).2.2 0 p299 q299
                                      obtain rfl : ad298 = ad299 := (by injection e299)
                                      have qi299 : (0 < t276.length) = True := eq_true (by omega)
                                      (try rw [show ((0 : Int)).toNat = 0 from rfl] at hx299_0)
                                      (try rw [Addr.add_zero'] at hx299_0)
                                      replace p299 := eq_true p299
                                      replace q299 := eq_true q299
                                      have p300 : 0 ≤ (1 : Int) := (by omega)
                                      have q300 : 1 < (t276.length : Int) := of_decide_eq_true (by first | (with_reducible assumption) | assumption)
                                      obtain ⟨ad300, e300, hx300_0⟩ := Kd.at_int (Kd.Q_reads' HO_4.out).2.2 1 p300 q300
                                      obtain rfl : ad298 = ad300 := (by injection e300)
                                      (try simp only [show (1 : Int).toNat = 1 from rfl, Nat.reduceMul, Nat.reduceEqDiff, Go.Addr.add, ↓reduceIte] at hx300_0)
                                      have qi300 : (1 < t276.length) = True := eq_true (by omega)
                                      (try rw [show ((1 : Int)).toNat = 1 from rfl] at hx300_0)
                                      replace p300 := eq_true p300
                                      replace q300 := eq_true q300
                                      have p301 : 0 ≤ (1 : Int) := (by omega)
                                      have q301 : 1 < (t276.length : Int) := of_decide_eq_true (by first | (with_reducible assumption) | assumption)
                                      obtain ⟨ad301, e301, hx301_0⟩ := Kd.at_int (Kd.Q_reads' HO_4.out).2.2 1 p301 q301
                                      obtain rfl : ad298 = ad301 := (by injection e301)
                                      (try simp only [show (1 : Int).toNat = 1 from rfl, Nat.reduceMul, Nat.reduceEqDiff, Go.Addr.add, ↓reduceIte] at hx301_0)
                                      have qi301 : (1 < t276.length) = True := eq_true (by omega)
                                      (try rw [show ((1 : Int)).toNat = 1 from rfl] at hx301_0)
                                      replace p301 := eq_true p301
                                      replace q301 := eq_true q301
                                      have p302 : 0 ≤ (2 : Int) := (by omega)
                                      have q302 : 2 < (t276.length : Int) := of_decide_eq_true (by first | (with_reducible assumption) | assumption)
                                      obtain ⟨ad302, e302, hx302_0⟩ := Kd.at_int (Kd.Q_reads' HO_4.out).2.2 2 p302 q302
                                      obtain rfl : ad298 = ad302 := (by injection e302)
                                      (try simp only [show (2 : Int).toNat = 2 from rfl, Nat.reduceMul, Nat.reduceEqDiff, Go.Addr.add, ↓reduceIte] at hx302_0)
                                      have qi302 : (2 < t276.length) = True := eq_true (by omega)
                                      (try rw [show ((2 : Int)).toNat = 2 from rfl] at hx302_0)
                                      replace p302 := eq_true p302
                                      replace q302 := eq_true q302
                                      have p303 : 0 ≤ (2 : Int) := (by omega)
                                      have q303 : 2 < (t276.length : Int) := of_decide_eq_true (by first | (with_reducible assumption) | assumption)
                                      obtain ⟨ad303, e303, hx303_0⟩ := Kd.at_int (Kd.Q_reads' HO_4.out).2.2 2 p303 q303
                                      obtain rfl : ad298 = ad303 := (by injection e303)
                                      (try simp only [show (2 : Int).toNat = 2 from rfl, Nat.reduceMul, Nat.reduceEqDiff, Go.Addr.add, ↓reduceIte] at hx303_0)
                                      have qi303 : (2 < t276.length) = True := eq_true (by omega)
                                      (try rw [show ((2 : Int)).toNat = 2 from rfl] at hx303_0)
                                      replace p303 := eq_true p303
                                      replace q303 := eq_true q303
                                      refine start_ (n := 24) (S := fun w' => w'.cell? ad298 = some (.int .i64 (rd t276 0)) ∧ w'.cell? ad298 = some (.int .i64 (rd t276 0)) ∧ w'.cell? ⟨ad298.block, ad298.off + 1, none⟩ = some (.int .i64 (rd t276 1)) ∧ w'.cell? ⟨ad298.block, ad298.off + 1, none⟩ = some (.int .i64 (rd t276 1)) ∧ w'.cell? ⟨ad298.block, ad298.off + 2, none⟩ = some (.int .i64 (rd t276 2)) ∧ w'.cell? ⟨ad298.block, ad298.off + 2, none⟩ = some (.int .i64 (rd t276 2))) (ds := []) #[false, false, false, false, false, false, false, false, false, false, false, false, false, false, false, false, false, false, false, false, false, false, false, false] (by kernel_rfl) rfl rfl ⟨hx298_0, hx299_0, hx300_0, hx301_0, hx302_0, hx303_0⟩ (fun hHeld => ?_); refine with_tabW laws_FnTurn.tab10 laws_FnTurn.bits10 (fun HT_ HW_ => ?_)
                                      generalize w45.drew = w47 at HO_3 HO_4 HO_5 HO_7 HB hx298_0 hx299_0 hx300_0 hx301_0 hx302_0 hx303_0 hHeld ⊢
                                      refine pure_ (i := 0) (N := some 82) (v := ?_) (a' := ?_) #[true, false, false, false, false, false, false, false, false, false, false, false, false, false, false, false, false, false, false, false, false, false, false, false] rfl rfl (any_of HT_.out (by kernel_rfl)) (fun _ _ _ h => h) (Or.inl ⟨by rfl, ?_⟩) ?_ ?_
                                      rotate_left
                                      · intro w'
                                        go_simp
                                        with_reducible rfl
                                      rotate_left
                                      · simp only [Act.put, List.setIfInBounds_toArray, List.set_cons_zero, List.set_cons_succ, i64_w, i32_w]
                                        rfl
                                      refine pure_ (i := 1) (N := some 83) (v := ?_) (a' := ?_) #[true, true, false, false, false, false, false, false, false, false, false, false, false, false, false, false, false, false, false, false, false, false, false, false] rfl rfl (any_of HT_.out (by kernel_rfl)) (fun _ _ _ h => h) (Or.inl ⟨by rfl, ?_⟩) ?_ ?_
                                      rotate_left
                                      · intro w'
                                        go_simp
                                        with_reducible rfl
                                      rotate_left
                                      · simp only [Act.put, List.setIfInBounds_toArray, List.set_cons_zero, List.set_cons_succ, i64_w, i32_w]
                                        rfl
                                      refine pure_ (i := 3) (N := some 85) (v := ?_) (a' := ?_) #[true, true, false, true, false, false, false, false, false, false, false, false, false, false, false, false, false, false, false, false, false, false, false, false] rfl rfl (any_of HT_.out (by kernel_rfl)) (fun _ _ _ h => h) (Or.inl ⟨by rfl, ?_⟩) ?_ ?_
                                      rotate_left
                                      · intro w'
                                        go_simp
                                        with_reducible rfl
                                      rotate_left
                                      · simp only [Act.put, List.setIfInBounds_toArray, List.set_cons_zero, List.set_cons_succ, i64_w, i32_w]
                                        rfl
                                      refine pure_ (i := 4) (N := some 86) (v := ?_) (a' := ?_) #[true, true, false, true, true, false, false, false, false, false, false, false, false, false, false, false, false, false, false, false, false, false, false, false] rfl rfl (any_of HT_.out (by kernel_rfl)) (fun _ _ _ h => h) (Or.inl ⟨by rfl, ?_⟩) ?_ ?_
                                      rotate_left
                                      · intro w'
                                        go_simp
                                        with_reducible rfl
                                      rotate_left
                                      · simp only [Act.put, List.setIfInBounds_toArray, List.set_cons_zero, List.set_cons_succ, i64_w, i32_w]
                                        rfl
                                      refine pure_ (i := 7) (N := some 89) (v := ?_) (a' := ?_) #[true, true, false, true, true, false, false, true, false, false, false, false, false, false, false, false, false, false, false, false, false, false, false, false] rfl rfl (any_of HT_.out (by kernel_rfl)) (fun _ _ _ h => h) (Or.inl ⟨by rfl, ?_⟩) ?_ ?_
                                      rotate_left
                                      · intro w'
                                        go_simp
                                        with_reducible rfl
                                      rotate_left
                                      · simp only [Act.put, List.setIfInBounds_toArray, List.set_cons_zero, List.set_cons_succ, i64_w, i32_w]
                                        rfl
                                      refine pure_ (i := 8) (N := some 90) (v := ?_) (a' := ?_) #[true, true, false, true, true, false, false, true, true, false, false, false, false, false, false, false, false, false, false, false, false, false, false, false] rfl rfl (any_of HT_.out (by kernel_rfl)) (fun _ _ _ h => h) (Or.inl ⟨by rfl, ?_⟩) ?_ ?_
                                      rotate_left
                                      · intro w'
                                        go_simp
                                        with_reducible rfl
                                      rotate_left
                                      · simp only [Act.put, List.setIfInBounds_toArray, List.set_cons_zero, List.set_cons_succ, i64_w, i32_w]
                                        rfl
                                      refine pure_ (i := 10) (N := some 92) (v := ?_) (a' := ?_) #[true, true, false, true, true, false, false, true, true, false, true, false, false, false, false, false, false, false, false, false, false, false, false, false] rfl rfl (any_of HT_.out (by kernel_rfl)) (fun _ _ _ h => h) (Or.inl ⟨by rfl, ?_⟩) ?_ ?_
                                      rotate_left
                                      · intro w'
                                        go_simp
                                        with_reducible rfl
                                      rotate_left
                                      · simp only [Act.put, List.setIfInBounds_toArray, List.set_cons_zero, List.set_cons_succ, i64_w, i32_w]
                                        rfl
                                      refine pure_ (i := 11) (N := some 93) (v := ?_) (a' := ?_) #[true, true, false, true, true, false, false, true, true, false, true, true, false, false, false, false, false, false, false, false, false, false, false, false] rfl rfl (any_of HT_.out (by kernel_rfl)) (fun _ _ _ h => h) (Or.inl ⟨by rfl, ?_⟩) ?_ ?_
                                      rotate_left
                                      · intro w'
                                        go_simp
                                        with_reducible rfl
                                      rotate_left
                                      · simp only [Act.put, List.setIfInBounds_toArray, List.set_cons_zero, List.set_cons_succ, i64_w, i32_w]
                                        rfl
                                      refine pure_ (i := 15) (N := some 97) (v := ?_) (a' := ?_) #[true, true, false, true, true, false, false, true, true, false, true, true, false, false, false, true, false, false, false, false, false, false, false, false] rfl rfl (any_of HT_.out (by kernel_rfl)) (fun _ _ _ h => h) (Or.inl ⟨by rfl, ?_⟩) ?_ ?_
                                      rotate_left
                                      · intro w'
                                        go_simp
                                        with_reducible rfl
                                      rotate_left
                                      · simp only [Act.put, List.setIfInBounds_toArray, List.set_cons_zero, List.set_cons_succ, i64_w, i32_w]
                                        rfl
                                      refine pure_ (i := 16) (N := some 98) (v := ?_) (a' := ?_) #[true, true, false, true, true, false, false, true, true, false, true, true, false, false, false, true, true, false, false, false, false, false, false, false] rfl rfl (any_of HT_.out (by kernel_rfl)) (fun _ _ _ h => h) (Or.inl ⟨by rfl, ?_⟩) ?_ ?_
                                      rotate_left
                                      · intro w'
                                        go_simp
                                        with_reducible rfl
                                      rotate_left
                                      · simp only [Act.put, List.setIfInBounds_toArray, List.set_cons_zero, List.set_cons_succ, i64_w, i32_w]
                                        rfl
                                      refine pure_ (i := 18) (N := some 100) (v := ?_) (a' := ?_) #[true, true, false, true, true, false, false, true, true, false, true, true, false, false, false, true, true, false, true, false, false, false, false, false] rfl rfl (any_of HT_.out (by kernel_rfl)) (fun _ _ _ h => h) (Or.inl ⟨by rfl, ?_⟩) ?_ ?_
                                      rotate_left
                                      · intro w'
                                        go_simp
                                        with_reducible rfl
                                      rotate_left
                                      · simp only [Act.put, List.setIfInBounds_toArray, List.set_cons_zero, List.set_cons_succ, i64_w, i32_w]
                                        rfl
                                      refine pure_ (i := 19) (N := some 101) (v := ?_) (a' := ?_) #[true, true, false, true, true, false, false, true, true, false, true, true, false, false, false, true, true, false, true, true, false, false, false, false] rfl rfl (any_of HT_.out (by kernel_rfl)) (fun _ _ _ h => h) (Or.inl ⟨by rfl, ?_⟩) ?_ ?_
                                      rotate_left
                                      · intro w'
                                        go_simp
                                        with_reducible rfl
                                      rotate_left
                                      · simp only [Act.put, List.setIfInBounds_toArray, List.set_cons_zero, List.set_cons_succ, i64_w, i32_w]
                                        rfl
                                      refine take_ (i := 2) (N := some 84) (v := ?_) (a' := ?_) #[true, true, true, true, true, false, false, true, true, false, true, true, false, false, false, true, true, false, true, true, false, false, false, false] rfl rfl (take_ofW HT_.out HW_.out (by kernel_rfl)) (fun _ _ _ h => h) (Or.inl ⟨by rfl, ?_⟩) hHeld ?_ ?_
                                      rotate_left
                                      · rintro w' ⟨s0, s1, s2, s3, s4, s5⟩
                                        go_simp
                                        with_reducible rfl
                                      rotate_left
                                      · simp only [Act.put, List.setIfInBounds_toArray, List.set_cons_zero, List.set_cons_succ, i64_w, i32_w]
                                        rfl
                                      refine take_ (i := 5) (N := some 87) (v := ?_) (a' := ?_) #[true, true, true, true, true, true, false, true, true, false, true, true, false, false, false, true, true, false, true, true, false, false, false, false] rfl rfl (take_ofW HT_.out HW_.out (by kernel_rfl)) (fun _ _ _ h => h) (Or.inl ⟨by rfl, ?_⟩) hHeld ?_ ?_
                                      rotate_left
                                      · rintro w' ⟨s0, s1, s2, s3, s4, s5⟩
                                        go_simp
                                        with_reducible rfl
                                      rotate_left
                                      · simp only [Act.put, List.setIfInBounds_toArray, List.set_cons_zero, List.set_cons_succ, i64_w, i32_w]
                                        rfl
                                      refine pure_ (i := 6) (N := some 88) (v := ?_) (a' := ?_) #[true, true, true, true, true, true, true, true, true, false, true, true, false, false, false, true, true, false, true, true, false, false, false, false] rfl rfl (any_of HT_.out (by kernel_rfl)) (fun _ _ _ h => h) (Or.inl ⟨by rfl, ?_⟩) ?_ ?_
                                      rotate_left
                                      · intro w'
                                        go_simp
                                        with_reducible rfl
                                      rotate_left
                                      · simp only [Act.put, List.setIfInBounds_toArray, List.set_cons_zero, List.set_cons_succ, i64_w, i32_w]
                                        rfl
                                      refine take_ (i := 9) (N := some 91) (v := ?_) (a' := ?_) #[true, true, true, true, true, true, true, true, true, true, true, true, false, false, false, true, true, false, true, true, false, false, false, false] rfl rfl (take_ofW HT_.out HW_.out (by kernel_rfl)) (fun _ _ _ h => h) (Or.inl ⟨by rfl, ?_⟩) hHeld ?_ ?_
                                      rotate_left
                                      · rintro w' ⟨s0, s1, s2, s3, s4, s5⟩
                                        go_simp
                                        with_reducible rfl
                                      rotate_left
                                      · simp only [Act.put, List.setIfInBounds_toArray, List.set_cons_zero, List.set_cons_succ, i64_w, i32_w]
                                        rfl
                                      refine take_ (i := 12) (N := some 94) (v := ?_) (a' := ?_) #[true, true, true, true, true, true, true, true, true, true, true, true, true, false, false, true, true, false, true, true, false, false, false, false] rfl rfl (take_ofW HT_.out HW_.out (by kernel_rfl)) (fun _ _ _ h => h) (Or.inl ⟨by rfl, ?_⟩) hHeld ?_ ?_
                                      rotate_left
                                      · rintro w' ⟨s0, s1, s2, s3, s4, s5⟩
                                        go_simp
                                        with_reducible rfl
                                      rotate_left
                                      · simp only [Act.put, List.setIfInBounds_toArray, List.set_cons_zero, List.set_cons_succ, i64_w, i32_w]
                                        rfl
                                      refine pure_ (i := 13) (N := some 95) (v := ?_) (a' := ?_) #[true, true, true, true, true, true, true, true, true, true, true, true, true, true, false, true, true, false, true, true, false, false, false, false] rfl rfl (any_of HT_.out (by kernel_rfl)) (fun _ _ _ h => h) (Or.inl ⟨by rfl, ?_⟩) ?_ ?_
                                      rotate_left
                                      · intro w'
                                        go_simp
                                        with_reducible rfl
                                      rotate_left
                                      · simp only [Act.put, List.setIfInBounds_toArray, List.set_cons_zero, List.set_cons_succ, i64_w, i32_w]
                                        rfl
                                      refine pure_ (i := 14) (N := some 96) (v := ?_) (a' := ?_) #[true, true, true, true, true, true, true, true, true, true, true, true, true, true, true, true, true, false, true, true, false, false, false, false] rfl rfl (any_of HT_.out (by kernel_rfl)) (fun _ _ _ h => h) (Or.inl ⟨by rfl, ?_⟩) ?_ ?_
                                      rotate_left
                                      · intro w'
                                        go_simp
                                        with_reducible rfl
                                      rotate_left
                                      · simp only [Act.put, List.setIfInBounds_toArray, List.set_cons_zero, List.set_cons_succ, i64_w, i32_w]
                                        rfl
                                      refine take_ (i := 17) (N := some 99) (v := ?_) (a' := ?_) #[true, true, true, true, true, true, true, true, true, true, true, true, true, true, true, true, true, true, true, true, false, false, false, false] rfl rfl (take_ofW HT_.out HW_.out (by kernel_rfl)) (fun _ _ _ h => h) (Or.inl ⟨by rfl, ?_⟩) hHeld ?_ ?_
                                      rotate_left
                                      · rintro w' ⟨s0, s1, s2, s3, s4, s5⟩
                                        go_simp
                                        with_reducible rfl
                                      rotate_left
                                      · simp only [Act.put, List.setIfInBounds_toArray, List.set_cons_zero, List.set_cons_succ, i64_w, i32_w]
                                        rfl
                                      refine take_ (i := 20) (N := some 102) (v := ?_) (a' := ?_) #[true, true, true, true, true, true, true, true, true, true, true, true, true, true, true, true, true, true, true, true, true, false, false, false] rfl rfl (take_ofW HT_.out HW_.out (by kernel_rfl)) (fun _ _ _ h => h) (Or.inl ⟨by rfl, ?_⟩) hHeld ?_ ?_
                                      rotate_left
                                      · rintro w' ⟨s0, s1, s2, s3, s4, s5⟩
                                        go_simp
                                        with_reducible rfl
                                      rotate_left
                                      · simp only [Act.put, List.setIfInBounds_toArray, List.set_cons_zero, List.set_cons_succ, i64_w, i32_w]
                                        rfl
                                      refine pure_ (i := 21) (N := some 103) (v := ?_) (a' := ?_) #[true, true, true, true, true, true, true, true, true, true, true, true, true, true, true, true, true, true, true, true, true, true, false, false] rfl rfl (any_of HT_.out (by kernel_rfl)) (fun _ _ _ h => h) (Or.inl ⟨by rfl, ?_⟩) ?_ ?_
                                      rotate_left
                                      · intro w'
                                        go_simp
                                        with_reducible rfl
                                      rotate_left
                                      · simp only [Act.put, List.setIfInBounds_toArray, List.set_cons_zero, List.set_cons_succ, i64_w, i32_w]
                                        rfl
                                      refine pure_ (i := 22) (N := some 104) (v := ?_) (a' := ?_) #[true, true, true, true, true, true, true, true, true, true, true, true, true, true, true, true, true, true, true, true, true, true, true, false] rfl rfl (any_of HT_.out (by kernel_rfl)) (fun _ _ _ h => h) (Or.inl ⟨by rfl, ?_⟩) ?_ ?_
                                      rotate_left
                                      · intro w'
                                        go_simp
                                        with_reducible rfl
                                      rotate_left
                                      · simp only [Act.put, List.setIfInBounds_toArray, List.set_cons_zero, List.set_cons_succ, i64_w, i32_w]
                                        rfl
                                      refine pure_ (i := 23) (N := some 11) (v := ?_) (a' := ?_) #[true, true, true, true, true, true, true, true, true, true, true, true, true, true, true, true, true, true, true, true, true, true, true, true] rfl rfl (any_of HT_.out (by kernel_rfl)) (fun _ _ _ h => h) (Or.inl ⟨by rfl, ?_⟩) ?_ ?_
                                      rotate_left
                                      · intro w'
                                        go_simp
                                        with_reducible rfl
                                      rotate_left
                                      · simp only [Act.put, List.setIfInBounds_toArray, List.set_cons_zero, List.set_cons_succ, i64_w, i32_w]
                                        rfl
                                      refine done_ (done_of HT_.out (by kernel_rfl)) ?_
                                      try go_wp2_with (first | ((with_reducible refine gate_callee (f := 45) rfl ?_); refine goesL_ (some 107) rfl rfl Try.func45 (by kernel_rfl) rfl #[.slice Ao8 t275.length co8] rfl Sqz.auM ?_; (with_reducible refine (laws_minusOf.calls kj5 _ _ t275 t304 _ ?side1 ?side2 A31.out).mono ?_); (case side1 => exact Sqz.mvC ((Kd.Q_reads' HO_3.out).2.2)); (case side2 => exact (Kd.Q_reads' HO_3.out).2.1); rintro e w48 ⟨v305, rfl, ho0, hb⟩; refine ⟨_, rfl, ?_⟩; have n0_ := Aside0.mk (Kd.Q_elder' ((Sqz.mvQ HO_3.out)) (Kd.R_base ho0) hb); have n1_ := Aside0.mk (Kd.Q_elder' ((Sqz.mvQ HO_4.out)) (Kd.R_base ho0) hb); have n2_ := Aside0.mk (Kd.R_elder' ((Sqz.mvR HO_5.out)) (Kd.R_base ho0) hb); have n3_ := Aside0.mk (Kd.Q_elder' ((Sqz.mvQ HO_7.out)) (Kd.R_base ho0) hb); have n4_ := Aside0.mk (Kd.R_lower (Kd.R_new' (Kd.R_new' (Kd.R_new' (Kd.R_new' ho0 (Kd.Q_lt ((Sqz.mvQ HO_3.out)))) (Kd.Q_lt ((Sqz.mvQ HO_4.out)))) (Kd.R_lt ((Sqz.mvR HO_5.out)))) (Kd.Q_lt ((Sqz.mvQ HO_7.out)))) (below_size (Sqz.auHB))); have n5_ := Aside0.mk (below_step (Sqz.auHB) hb); clear HO_3; clear HO_4; clear HO_5; clear HO_7; clear HB; have HO_3 := n0_; have HO_4 := n1_; have HO_5 := n2_; have HO_7 := n3_; have HO306 := n4_; have HB := n5_; clear n0_ n1_ n2_ n3_ n4_ n5_; (try clear hb); (try clear hb2); (try clear hk); (try clear hi); (try clear ho0); obtain ⟨Ao49, co49, eo49⟩ := Kd.R_slice HO306.out; subst eo49) | ((with_reducible refine gate_callee (f := 43) rfl ?_); refine goesL_ (some 109) rfl rfl Try.func43 (by kernel_rfl) rfl #[.slice Ao49 t304.length co49, .slice (some ad298) t276.length co9] rfl Sqz.auM ?_; (with_reducible refine (impl_QuatTurn.calls kj5 _ _ t304 _ _ t276 t307 true _ ?side1 ?side2 ?side3 ?side4 A32.out).mono ?_); (case side1 => exact Sqz.mvC ((Kd.R_reads' HO306.out).2.2)); (case side2 => exact (Kd.R_reads' HO306.out).2.1); (case side3 => exact Sqz.mvC ((Kd.Q_reads' HO_4.out).2.2)); (case side4 => exact (Kd.Q_reads' HO_4.out).2.1); rintro e w50 ⟨v309, rfl, ho0, hb⟩; refine ⟨_, rfl, ?_⟩; have n0_ := Aside0.mk (Kd.Q_elder' ((Sqz.mvQ HO_3.out)) (Kd.R_base ho0) hb); have n1_ := Aside0.mk (Kd.Q_elder' ((Sqz.mvQ HO_4.out)) (Kd.R_base ho0) hb); have n2_ := Aside0.mk (Kd.R_elder' ((Sqz.mvR HO_5.out)) (Kd.R_base ho0) hb); have n3_ := Aside0.mk (Kd.Q_elder' ((Sqz.mvQ HO_7.out)) (Kd.R_base ho0) hb); have n4_ := Aside0.mk (Kd.R_elder' ((Sqz.mvR HO306.out)) (Kd.R_base ho0) hb); have n5_ := Aside0.mk (Kd.R_lower (Kd.R_new' (Kd.R_new' (Kd.R_new' (Kd.R_new' (Kd.R_new' ho0 (Kd.Q_lt ((Sqz.mvQ HO_3.out)))) (Kd.Q_lt ((Sqz.mvQ HO_4.out)))) (Kd.R_lt ((Sqz.mvR HO_5.out)))) (Kd.Q_lt ((Sqz.mvQ HO_7.out)))) (Kd.R_lt ((Sqz.mvR HO306.out)))) (below_size (Sqz.auHB))); have n6_ := Aside0.mk (below_step (Sqz.auHB) hb); clear HO_3; clear HO_4; clear HO_5; clear HO_7; clear HO306; clear HB; have HO_3 := n0_; have HO_4 := n1_; have HO_5 := n2_; have HO_7 := n3_; have HO306 := n4_; have HO310 := n5_; have HB := n6_; clear n0_ n1_ n2_ n3_ n4_ n5_ n6_; (try clear hb); (try clear hb2); (try clear hk); (try clear hi); (try clear ho0); have q51 : (1 : Int) ≤ ((t275.length : Int) : Int) := of_decide_eq_true (by first | (with_reducible assumption) | assumption); obtain ⟨i051, hi051, _, hsz51, _⟩ := info_parts info3; have hroom51 : t275.length ≤ co8 := (Kd.Q_reads' HO_3.out).2.1; have hC51 : Kd.C (Kd.int .i64) _ Ao8 t275.length t275 := (Kd.Q_reads' HO_3.out).2.2; have hcut51 := cut_from (P := Try.prog) 26 3 .i64 Try.underlying26 hi051 1 hsz51 Ao8 t275.length co8 1 (by omega) q51; have hr51 := Kd.C_drop (m := (1 : Int).toNat) (c := co8) hC51 (by omega) hroom51; obtain ⟨A51, hA51⟩ : ∃ A1, A1 = (if co8 = (1 : Int).toNat then Ao8 else (Ao8 : Option Addr).map (·.add ((1 : Int).toNat * 1))) := ⟨_, rfl⟩; obtain ⟨c51, hc51⟩ : ∃ c1, c1 = co8 - (1 : Int).toNat := ⟨_, rfl⟩; have hy51 : y311.length = t275.length - (1 : Int).toNat := (by rw [Ny311.out, List.length_drop] <;> omega); rw [show (t275).drop (1 : Int).toNat = y311 from Ny311.out.symm] at hr51; replace hr51 : Kd.C (Kd.int .i64) _ A51 y311.length y311 := (by rw [hA51]; exact hr51); rw [← hy51, ← hA51, ← hc51] at hcut51; have HR314 := Aside0.mk hr51; have HC314 := Aside0.mk (show y311.length ≤ c51 from by rw [hy51, hc51]; exact Nat.sub_le_sub_right hroom51 _); clear hr51 hC51 hroom51 hi051 hsz51 hc51; have KY51 := Aside0.mk hy51; have KA51 := Aside0.mk hA51; clear hy51 hA51; have KL51 := Aside0.mk (show 1 ≤ t275.length from by omega); replace q51 := eq_true q51) | ((with_reducible refine gate_callee (f := 43) rfl ?_); refine goesL_ (some 116) rfl rfl Try.func43 (by kernel_rfl) rfl #[.slice Ao8 t275.length co8, .slice A51 y311.length c51] rfl Sqz.auM ?_; (with_reducible refine (impl_QuatTurn.calls kj5 _ _ t275 _ _ y311 t315 true _ ?side1 ?side2 ?side3 ?side4 A34.out).mono ?_); (case side1 => exact Sqz.mvC ((Kd.Q_reads' HO_3.out).2.2)); (case side2 => exact (Kd.Q_reads' HO_3.out).2.1); (case side3 => repeat (first | exact (by repeat (first | (with_reducible exact HR314.out) | (with_reducible refine Kd.C_alloc ?_ _) | (with_reducible refine Kd.C_drewN ?_ _) | (with_reducible refine Kd.C_drew ?_) | exact HR314.out)) | (with_reducible refine Kd.C_alloc ?_ _) | (with_reducible refine Kd.C_drewN ?_ _) | (with_reducible refine Kd.C_drew ?_))); (case side4 => exact HC314.out); rintro e w52 ⟨v317, rfl, ho0, hb⟩; refine ⟨_, rfl, ?_⟩; have n0_ := Aside0.mk (Kd.Q_elder' ((Sqz.mvQ HO_3.out)) (Kd.R_base ho0) hb); have n1_ := Aside0.mk (Kd.Q_elder' ((Sqz.mvQ HO_4.out)) (Kd.R_base ho0) hb); have n2_ := Aside0.mk (Kd.R_elder' ((Sqz.mvR HO_5.out)) (Kd.R_base ho0) hb); have n3_ := Aside0.mk (Kd.Q_elder' ((Sqz.mvQ HO_7.out)) (Kd.R_base ho0) hb); have n4_ := Aside0.mk (Kd.R_elder' ((Sqz.mvR HO306.out)) (Kd.R_base ho0) hb); have n5_ := Aside0.mk (Kd.R_elder' ((Sqz.mvR HO310.out)) (Kd.R_base ho0) hb); have n6_ := Aside0.mk (Kd.R_lower (Kd.R_new' (Kd.R_new' (Kd.R_new' (Kd.R_new' (Kd.R_new' (Kd.R_new' ho0 (Kd.Q_lt ((Sqz.mvQ HO_3.out)))) (Kd.Q_lt ((Sqz.mvQ HO_4.out)))) (Kd.R_lt ((Sqz.mvR HO_5.out)))) (Kd.Q_lt ((Sqz.mvQ HO_7.out)))) (Kd.R_lt ((Sqz.mvR HO306.out)))) (Kd.R_lt ((Sqz.mvR HO310.out)))) (below_size (Sqz.auHB))); have n7_ := Aside0.mk (Kd.C_below (by repeat (first | (with_reducible exact HR314.out) | (with_reducible refine Kd.C_alloc ?_ _) | (with_reducible refine Kd.C_drewN ?_ _) | (with_reducible refine Kd.C_drew ?_) | exact HR314.out)) hb); have n8_ := Aside0.mk (below_step (Sqz.auHB) hb); clear HO_3; clear HO_4; clear HO_5; clear HO_7; clear HO306; clear HO310; clear HR314; clear HB; have HO_3 := n0_; have HO_4 := n1_; have HO_5 := n2_; have HO_7 := n3_; have HO306 := n4_; have HO310 := n5_; have HO318 := n6_; have HR314 := n7_; have HB := n8_; clear n0_ n1_ n2_ n3_ n4_ n5_ n6_ n7_ n8_; (try clear hb); (try clear hb2); (try clear hk); (try clear hi); (try clear ho0)))
                                      have n0_ := Aside0.mk (Kd.Q_drew HO_3.out)
                                      have n1_ := Aside0.mk (Kd.Q_drew HO_4.out)
                                      have n2_ := Aside0.mk (Kd.R_drew HO_5.out)
                                      have n3_ := Aside0.mk (Kd.Q_drew HO_7.out)
                                      have n4_ := Aside0.mk (Kd.R_drew HO306.out)
                                      have n5_ := Aside0.mk (Kd.R_drew HO310.out)
                                      have n6_ := Aside0.mk (Kd.R_drew HO318.out)
                                      have n7_ := Aside0.mk (Kd.C_drew HR314.out)
                                      have n8_ := Aside0.mk (below_drew1 HB.out)
                                      clear HO_3
                                      clear HO_4
                                      clear HO_5
                                      clear HO_7
                                      clear HO306
                                      clear HO310
                                      clear HO318
                                      clear HR314
                                      clear HB
                                      have HO_3 := n0_
                                      have HO_4 := n1_
                                      have HO_5 := n2_
                                      have HO_7 := n3_
                                      have HO306 := n4_
                                      have HO310 := n5_
                                      have HO318 := n6_
                                      have HR314 := n7_
                                      have HB := n8_
                                      clear n0_ n1_ n2_ n3_ n4_ n5_ n6_ n7_ n8_
                                      obtain ⟨Ao54, co54, eo54⟩ := Kd.R_slice HO310.out
                                      (first | subst eo54 | (injection eo54 with f1_ f2_ f3_; have f4_ := f1_.symm; have f5_ := f3_.symm; clear f1_ f2_ f3_; subst f4_; subst f5_))
                                      have p320 : 0 ≤ (1 : Int) := (by omega)
                                      have q320 : 1 < (t275.length : Int) := of_decide_eq_true (by first | (with_reducible assumption) | assumption)
                                      obtain ⟨ad320, e320, hx320_0⟩ := Kd.at_int (Kd.Q_reads' HO_3.out).2.2 1 p320 q320
                                      cases e320
                                      (try simp only [show (1 : Int).toNat = 1 from rfl, Nat.reduceMul, Nat.reduceEqDiff, Go.Addr.add, ↓reduceIte] at hx320_0)
                                      have qi320 : (1 < t275.length) = True := eq_true (by omega)
                                      (try rw [show ((1 : Int)).toNat = 1 from rfl] at hx320_0)
                                      replace p320 := eq_true p320
                                      replace q320 := eq_true q320
                                      have p321 : 0 ≤ (2 : Int) := (by omega)
                                      have q321 : 2 < (t275.length : Int) := of_decide_eq_true (by first | (with_reducible assumption) | assumption)
                                      obtain ⟨ad321, e321, hx321_0⟩ := Kd.at_int (Kd.Q_reads' HO_3.out).2.2 2 p321 q321
                                      obtain rfl : ad320 = ad321 := (by injection e321)
                                      (try simp only [show (2 : Int).toNat = 2 from rfl, Nat.reduceMul, Nat.reduceEqDiff, Go.Addr.add, ↓reduceIte] at hx321_0)
                                      have qi321 : (2 < t275.length) = True := eq_true (by omega)
                                      (try rw [show ((2 : Int)).toNat = 2 from rfl] at hx321_0)
                                      replace p321 := eq_true p321
                                      replace q321 := eq_true q321
                                      have p322 : 0 ≤ (3 : Int) := (by omega)
                                      have q322 : 3 < (t275.length : Int) := of_decide_eq_true (by first | (with_reducible assumption) | assumption)
                                      obtain ⟨ad322, e322, hx322_0⟩ := Kd.at_int (Kd.Q_reads' HO_3.out).2.2 3 p322 q322
                                      obtain rfl : ad320 = ad322 := (by injection e322)
                                      (try simp only [show (3 : Int).toNat = 3 from rfl, Nat.reduceMul, Nat.reduceEqDiff, Go.Addr.add, ↓reduceIte] at hx322_0)
                                      have qi322 : (3 < t275.length) = True := eq_true (by omega)
                                      (try rw [show ((3 : Int)).toNat = 3 from rfl] at hx322_0)
                                      replace p322 := eq_true p322
                                      replace q322 := eq_true q322
                                      refine start_ (n := 40) (S := fun w' => w'.cell? ⟨ad320.block, ad320.off + 1, none⟩ = some (.int .i64 (rd t275 1)) ∧ w'.cell? ⟨ad320.block, ad320.off + 2, none⟩ = some (.int .i64 (rd t275 2)) ∧ w'.cell? ⟨ad320.block, ad320.off + 3, none⟩ = some (.int .i64 (rd t275 3))) (ds := []) #[false, false, false, false, false, false, false, false, false, false, false, false, false, false, false, false, false, false, false, false, false, false, false, false, false, false, false, false, false, false, false, false, false, false, false, false, false, false, false, false] (by kernel_rfl) rfl rfl ⟨hx320_0, hx321_0, hx322_0⟩ (fun hHeld => ?_); refine with_tabW laws_FnTurn.tab13 laws_FnTurn.bits13 (fun HT_ HW_ => ?_)
                                      generalize w52.drew = w53 at HO_3 HO_4 HO_5 HO_7 HO306 HO310 HO318 HR314 HB hx320_0 hx321_0 hx322_0 hHeld ⊢
                                      refine pure_ (i := 0) (N := some 119) (v := ?_) (a' := ?_) #[true, false, false, false, false, false, false, false, false, false, false, false, false, false, false, false, false, false, false, false, false, false, false, false, false, false, false, false, false, false, false, false, false, false, false, false, false, false, false, false] rfl rfl (any_of HT_.out (by kernel_rfl)) (fun _ _ _ h => h) (Or.inl ⟨by rfl, ?_⟩) ?_ ?_
                                      rotate_left
                                      · intro w'
                                        go_simp
                                        with_reducible rfl
                                      rotate_left
                                      · simp only [Act.put, List.setIfInBounds_toArray, List.set_cons_zero, List.set_cons_succ, i64_w, i32_w]
                                        rfl
                                      refine pure_ (i := 1) (N := some 120) (v := ?_) (a' := ?_) #[true, true, false, false, false, false, false, false, false, false, false, false, false, false, false, false, false, false, false, false, false, false, false, false, false, false, false, false, false, false, false, false, false, false, false, false, false, false, false, false] rfl rfl (any_of HT_.out (by kernel_rfl)) (fun _ _ _ h => h) (Or.inl ⟨by rfl, ?_⟩) ?_ ?_
                                      rotate_left
                                      · intro w'
                                        go_simp
                                        with_reducible rfl
                                      rotate_left
                                      · simp only [Act.put, List.setIfInBounds_toArray, List.set_cons_zero, List.set_cons_succ, i64_w, i32_w]
                                        rfl
                                      refine pure_ (i := 2) (N := some 121) (v := ?_) (a' := ?_) #[true, true, true, false, false, false, false, false, false, false, false, false, false, false, false, false, false, false, false, false, false, false, false, false, false, false, false, false, false, false, false, false, false, false, false, false, false, false, false, false] rfl rfl (any_of HT_.out (by kernel_rfl)) (fun _ _ _ h => h) (Or.inl ⟨by rfl, ?_⟩) ?_ ?_
                                      rotate_left
                                      · intro w'
                                        go_simp
                                        with_reducible rfl
                                      rotate_left
                                      · simp only [Act.put, List.setIfInBounds_toArray, List.set_cons_zero, List.set_cons_succ, i64_w, i32_w]
                                        rfl
                                      refine pure_ (i := 3) (N := some 122) (v := ?_) (a' := ?_) #[true, true, true, true, false, false, false, false, false, false, false, false, false, false, false, false, false, false, false, false, false, false, false, false, false, false, false, false, false, false, false, false, false, false, false, false, false, false, false, false] rfl rfl (any_of HT_.out (by kernel_rfl)) (fun _ _ _ h => h) (Or.inl ⟨by rfl, ?_⟩) ?_ ?_
                                      rotate_left
                                      · intro w'
                                        go_simp
                                        with_reducible rfl
                                      rotate_left
                                      · simp only [Act.put, List.setIfInBounds_toArray, List.set_cons_zero, List.set_cons_succ, i64_w, i32_w]
                                        rfl
                                      refine pure_ (i := 4) (N := some 123) (v := ?_) (a' := ?_) #[true, true, true, true, true, false, false, false, false, false, false, false, false, false, false, false, false, false, false, false, false, false, false, false, false, false, false, false, false, false, false, false, false, false, false, false, false, false, false, false] rfl rfl (any_of HT_.out (by kernel_rfl)) (fun _ _ _ h => h) (Or.inl ⟨by rfl, ?_⟩) ?_ ?_
                                      rotate_left
                                      · intro w'
                                        go_simp
                                        with_reducible rfl
                                      rotate_left
                                      · simp only [Act.put, List.setIfInBounds_toArray, List.set_cons_zero, List.set_cons_succ, i64_w, i32_w]
                                        rfl
                                      refine pure_ (i := 5) (N := some 124) (v := ?_) (a' := ?_) #[true, true, true, true, true, true, false, false, false, false, false, false, false, false, false, false, false, false, false, false, false, false, false, false, false, false, false, false, false, false, false, false, false, false, false, false, false, false, false, false] rfl rfl (any_of HT_.out (by kernel_rfl)) (fun _ _ _ h => h) (Or.inl ⟨by rfl, ?_⟩) ?_ ?_
                                      rotate_left
                                      · intro w'
                                        go_simp
                                        with_reducible rfl
                                      rotate_left
                                      · simp only [Act.put, List.setIfInBounds_toArray, List.set_cons_zero, List.set_cons_succ, i64_w, i32_w]
                                        rfl
                                      refine pure_ (i := 6) (N := some 125) (v := ?_) (a' := ?_) #[true, true, true, true, true, true, true, false, false, false, false, false, false, false, false, false, false, false, false, false, false, false, false, false, false, false, false, false, false, false, false, false, false, false, false, false, false, false, false, false] rfl rfl (any_of HT_.out (by kernel_rfl)) (fun _ _ _ h => h) (Or.inl ⟨by rfl, ?_⟩) ?_ ?_
                                      rotate_left
                                      · intro w'
                                        go_simp
                                        with_reducible rfl
                                      rotate_left
                                      · simp only [Act.put, List.setIfInBounds_toArray, List.set_cons_zero, List.set_cons_succ, i64_w, i32_w]
                                        rfl
                                      refine pure_ (i := 7) (N := some 126) (v := ?_) (a' := ?_) #[true, true, true, true, true, true, true, true, false, false, false, false, false, false, false, false, false, false, false, false, false, false, false, false, false, false, false, false, false, false, false, false, false, false, false, false, false, false, false, false] rfl rfl (any_of HT_.out (by kernel_rfl)) (fun _ _ _ h => h) (Or.inl ⟨by rfl, ?_⟩) ?_ ?_
                                      rotate_left
                                      · intro w'
                                        go_simp
                                        with_reducible rfl
                                      rotate_left
                                      · simp only [Act.put, List.setIfInBounds_toArray, List.set_cons_zero, List.set_cons_succ, i64_w, i32_w]
                                        rfl
                                      refine pure_ (i := 8) (N := some 127) (v := ?_) (a' := ?_) #[true, true, true, true, true, true, true, true, true, false, false, false, false, false, false, false, false, false, false, false, false, false, false, false, false, false, false, false, false, false, false, false, false, false, false, false, false, false, false, false] rfl rfl (any_of HT_.out (by kernel_rfl)) (fun _ _ _ h => h) (Or.inl ⟨by rfl, ?_⟩) ?_ ?_
                                      rotate_left
                                      · intro w'
                                        go_simp
                                        with_reducible rfl
                                      rotate_left
                                      · simp only [Act.put, List.setIfInBounds_toArray, List.set_cons_zero, List.set_cons_succ, i64_w, i32_w]
                                        rfl
                                      refine pure_ (i := 9) (N := some 128) (v := ?_) (a' := ?_) #[true, true, true, true, true, true, true, true, true, true, false, false, false, false, false, false, false, false, false, false, false, false, false, false, false, false, false, false, false, false, false, false, false, false, false, false, false, false, false, false] rfl rfl (any_of HT_.out (by kernel_rfl)) (fun _ _ _ h => h) (Or.inl ⟨by rfl, ?_⟩) ?_ ?_
                                      rotate_left
                                      · intro w'
                                        go_simp
                                        with_reducible rfl
                                      rotate_left
                                      · simp only [Act.put, List.setIfInBounds_toArray, List.set_cons_zero, List.set_cons_succ, i64_w, i32_w]
                                        rfl
                                      refine pure_ (i := 10) (N := some 129) (v := ?_) (a' := ?_) #[true, true, true, true, true, true, true, true, true, true, true, false, false, false, false, false, false, false, false, false, false, false, false, false, false, false, false, false, false, false, false, false, false, false, false, false, false, false, false, false] rfl rfl (any_of HT_.out (by kernel_rfl)) (fun _ _ _ h => h) (Or.inl ⟨by rfl, ?_⟩) ?_ ?_
                                      rotate_left
                                      · intro w'
                                        go_simp
                                        with_reducible rfl
                                      rotate_left
                                      · simp only [Act.put, List.setIfInBounds_toArray, List.set_cons_zero, List.set_cons_succ, i64_w, i32_w]
                                        rfl
                                      refine pure_ (i := 11) (N := some 130) (v := ?_) (a' := ?_) #[true, true, true, true, true, true, true, true, true, true, true, true, false, false, false, false, false, false, false, false, false, false, false, false, false, false, false, false, false, false, false, false, false, false, false, false, false, false, false, false] rfl rfl (any_of HT_.out (by kernel_rfl)) (fun _ _ _ h => h) (Or.inl ⟨by rfl, ?_⟩) ?_ ?_
                                      rotate_left
                                      · intro w'
                                        go_simp
                                        with_reducible rfl
                                      rotate_left
                                      · simp only [Act.put, List.setIfInBounds_toArray, List.set_cons_zero, List.set_cons_succ, i64_w, i32_w]
                                        rfl
                                      refine pure_ (i := 12) (N := some 131) (v := ?_) (a' := ?_) #[true, true, true, true, true, true, true, true, true, true, true, true, true, false, false, false, false, false, false, false, false, false, false, false, false, false, false, false, false, false, false, false, false, false, false, false, false, false, false, false] rfl rfl (any_of HT_.out (by kernel_rfl)) (fun _ _ _ h => h) (Or.inl ⟨by rfl, ?_⟩) ?_ ?_
                                      rotate_left
                                      · intro w'
                                        go_simp
                                        with_reducible rfl
                                      rotate_left
                                      · simp only [Act.put, List.setIfInBounds_toArray, List.set_cons_zero, List.set_cons_succ, i64_w, i32_w]
                                        rfl
                                      refine one_ (i := 13) (N := some 132) #[true, true, true, true, true, true, true, true, true, true, true, true, true, true, false, false, false, false, false, false, false, false, false, false, false, false, false, false, false, false, false, false, false, false, false, false, false, false, false, false] rfl rfl (one_of HT_.out (by kernel_rfl)) (by decide) (fun K hK => ?_)
                                      refine goes_ Try.func36 (by kernel_rfl) rfl #[.slice Ao54 t307.length co54, .slice (some ad292) t281.length co46] (by rfl) rfl rfl Sqz.auM ?_
                                      with_reducible refine (laws_sameInts.calls kj5 _ _ t307 _ _ t281 true _ ?side1 ?side2 ?side3 ?side4 A37.out).mono ?_
                                      (case side1 => exact Sqz.mvC ((Kd.R_reads' HO310.out).2.2))
                                      (case side2 => exact (Kd.R_reads' HO310.out).2.1)
                                      (case side3 => exact Sqz.mvC ((Kd.R_reads' HO_5.out).2.2))
                                      (case side4 => exact (Kd.R_reads' HO_5.out).2.1)
                                      rintro e w' ⟨rfl, ⟨nd, rfl⟩⟩
                                      refine ⟨_, rfl, ?_⟩
                                      refine hK.out _ _ ⟨hHeld.1, hHeld.2.1, hHeld.2.2⟩ (fun hHeld => ?_)
                                      clear hK K
                                      refine norm_ (a' := ?_) ?_ ?_
                                      rotate_left
                                      · show Act.put _ (some 132) _ = _
                                        simp only [Act.put, List.setIfInBounds_toArray, List.set_cons_zero, List.set_cons_succ, i64_w, i32_w]
                                        rfl
                                      refine pure_ (i := 14) (N := some 133) (v := ?_) (a' := ?_) #[true, true, true, true, true, true, true, true, true, true, true, true, true, true, true, false, false, false, false, false, false, false, false, false, false, false, false, false, false, false, false, false, false, false, false, false, false, false, false, false] rfl rfl (any_of HT_.out (by kernel_rfl)) (fun _ _ _ h => h) (Or.inl ⟨by rfl, ?_⟩) ?_ ?_
                                      rotate_left
                                      · intro w'
                                        go_simp
                                        with_reducible rfl
                                      rotate_left
                                      · simp only [Act.put, List.setIfInBounds_toArray, List.set_cons_zero, List.set_cons_succ, i64_w, i32_w]
                                        rfl
                                      refine pure_ (i := 15) (N := some 134) (v := ?_) (a' := ?_) #[true, true, true, true, true, true, true, true, true, true, true, true, true, true, true, true, false, false, false, false, false, false, false, false, false, false, false, false, false, false, false, false, false, false, false, false, false, false, false, false] rfl rfl (any_of HT_.out (by kernel_rfl)) (fun _ _ _ h => h) (Or.inl ⟨by rfl, ?_⟩) ?_ ?_
                                      rotate_left
                                      · intro w'
                                        go_simp
                                        with_reducible rfl
                                      rotate_left
                                      · simp only [Act.put, List.setIfInBounds_toArray, List.set_cons_zero, List.set_cons_succ, i64_w, i32_w]
                                        rfl
                                      refine pure_ (i := 16) (N := some 135) (v := ?_) (a' := ?_) #[true, true, true, true, true, true, true, true, true, true, true, true, true, true, true, true, true, false, false, false, false, false, false, false, false, false, false, false, false, false, false, false, false, false, false, false, false, false, false, false] rfl rfl (any_of HT_.out (by kernel_rfl)) (fun _ _ _ h => h) (Or.inl ⟨by rfl, ?_⟩) ?_ ?_
                                      rotate_left
                                      · intro w'
                                        go_simp
                                        with_reducible rfl
                                      rotate_left
                                      · simp only [Act.put, List.setIfInBounds_toArray, List.set_cons_zero, List.set_cons_succ, i64_w, i32_w]
                                        rfl
                                      refine pure_ (i := 17) (N := some 136) (v := ?_) (a' := ?_) #[true, true, true, true, true, true, true, true, true, true, true, true, true, true, true, true, true, true, false, false, false, false, false, false, false, false, false, false, false, false, false, false, false, false, false, false, false, false, false, false] rfl rfl (any_of HT_.out (by kernel_rfl)) (fun _ _ _ h => h) (Or.inl ⟨by rfl, ?_⟩) ?_ ?_
                                      rotate_left
                                      · intro w'
                                        go_simp
                                        with_reducible rfl
                                      rotate_left
                                      · simp only [Act.put, List.setIfInBounds_toArray, List.set_cons_zero, List.set_cons_succ, i64_w, i32_w]
                                        rfl
                                      refine pure_ (i := 18) (N := some 137) (v := ?_) (a' := ?_) #[true, true, true, true, true, true, true, true, true, true, true, true, true, true, true, true, true, true, true, false, false, false, false, false, false, false, false, false, false, false, false, false, false, false, false, false, false, false, false, false] rfl rfl (any_of HT_.out (by kernel_rfl)) (fun _ _ _ h => h) (Or.inl ⟨by rfl, ?_⟩) ?_ ?_
                                      rotate_left
                                      · intro w'
                                        go_simp
                                        with_reducible rfl
                                      rotate_left
                                      · simp only [Act.put, List.setIfInBounds_toArray, List.set_cons_zero, List.set_cons_succ, i64_w, i32_w]
                                        rfl
                                      refine pure_ (i := 19) (N := some 138) (v := ?_) (a' := ?_) #[true, true, true, true, true, true, true, true, true, true, true, true, true, true, true, true, true, true, true, true, false, false, false, false, false, false, false, false, false, false, false, false, false, false, false, false, false, false, false, false] rfl rfl (any_of HT_.out (by kernel_rfl)) (fun _ _ _ h => h) (Or.inl ⟨by rfl, ?_⟩) ?_ ?_
                                      rotate_left
                                      · intro w'
                                        go_simp
                                        with_reducible rfl
                                      rotate_left
                                      · simp only [Act.put, List.setIfInBounds_toArray, List.set_cons_zero, List.set_cons_succ, i64_w, i32_w]
                                        rfl
                                      refine pure_ (i := 20) (N := some 139) (v := ?_) (a' := ?_) #[true, true, true, true, true, true, true, true, true, true, true, true, true, true, true, true, true, true, true, true, true, false, false, false, false, false, false, false, false, false, false, false, false, false, false, false, false, false, false, false] rfl rfl (any_of HT_.out (by kernel_rfl)) (fun _ _ _ h => h) (Or.inl ⟨by rfl, ?_⟩) ?_ ?_
                                      rotate_left
                                      · intro w'
                                        go_simp
                                        with_reducible rfl
                                      rotate_left
                                      · simp only [Act.put, List.setIfInBounds_toArray, List.set_cons_zero, List.set_cons_succ, i64_w, i32_w]
                                        rfl
                                      refine pure_ (i := 21) (N := some 140) (v := ?_) (a' := ?_) #[true, true, true, true, true, true, true, true, true, true, true, true, true, true, true, true, true, true, true, true, true, true, false, false, false, false, false, false, false, false, false, false, false, false, false, false, false, false, false, false] rfl rfl (any_of HT_.out (by kernel_rfl)) (fun _ _ _ h => h) (Or.inl ⟨by rfl, ?_⟩) ?_ ?_
                                      rotate_left
                                      · intro w'
                                        go_simp
                                        with_reducible rfl
                                      rotate_left
                                      · simp only [Act.put, List.setIfInBounds_toArray, List.set_cons_zero, List.set_cons_succ, i64_w, i32_w]
                                        rfl
                                      refine pure_ (i := 22) (N := some 141) (v := ?_) (a' := ?_) #[true, true, true, true, true, true, true, true, true, true, true, true, true, true, true, true, true, true, true, true, true, true, true, false, false, false, false, false, false, false, false, false, false, false, false, false, false, false, false, false] rfl rfl (any_of HT_.out (by kernel_rfl)) (fun _ _ _ h => h) (Or.inl ⟨by rfl, ?_⟩) ?_ ?_
                                      rotate_left
                                      · intro w'
                                        go_simp
                                        with_reducible rfl
                                      rotate_left
                                      · simp only [Act.put, List.setIfInBounds_toArray, List.set_cons_zero, List.set_cons_succ, i64_w, i32_w]
                                        rfl
                                      refine pure_ (i := 25) (N := some 144) (v := ?_) (a' := ?_) #[true, true, true, true, true, true, true, true, true, true, true, true, true, true, true, true, true, true, true, true, true, true, true, false, false, true, false, false, false, false, false, false, false, false, false, false, false, false, false, false] rfl rfl (any_of HT_.out (by kernel_rfl)) (fun _ _ _ h => h) (Or.inl ⟨by rfl, ?_⟩) ?_ ?_
                                      rotate_left
                                      · intro w'
                                        go_simp
                                        with_reducible rfl
                                      rotate_left
                                      · simp only [Act.put, List.setIfInBounds_toArray, List.set_cons_zero, List.set_cons_succ, i64_w, i32_w]
                                        rfl
                                      refine pure_ (i := 26) (N := some 145) (v := ?_) (a' := ?_) #[true, true, true, true, true, true, true, true, true, true, true, true, true, true, true, true, true, true, true, true, true, true, true, false, false, true, true, false, false, false, false, false, false, false, false, false, false, false, false, false] rfl rfl (any_of HT_.out (by kernel_rfl)) (fun _ _ _ h => h) (Or.inl ⟨by rfl, ?_⟩) ?_ ?_
                                      rotate_left
                                      · intro w'
                                        go_simp
                                        with_reducible rfl
                                      rotate_left
                                      · simp only [Act.put, List.setIfInBounds_toArray, List.set_cons_zero, List.set_cons_succ, i64_w, i32_w]
                                        rfl
                                      refine pure_ (i := 27) (N := some 146) (v := ?_) (a' := ?_) #[true, true, true, true, true, true, true, true, true, true, true, true, true, true, true, true, true, true, true, true, true, true, true, false, false, true, true, true, false, false, false, false, false, false, false, false, false, false, false, false] rfl rfl (any_of HT_.out (by kernel_rfl)) (fun _ _ _ h => h) (Or.inl ⟨by rfl, ?_⟩) ?_ ?_
                                      rotate_left
                                      · intro w'
                                        go_simp
                                        with_reducible rfl
                                      rotate_left
                                      · simp only [Act.put, List.setIfInBounds_toArray, List.set_cons_zero, List.set_cons_succ, i64_w, i32_w]
                                        rfl
                                      refine pure_ (i := 30) (N := some 149) (v := ?_) (a' := ?_) #[true, true, true, true, true, true, true, true, true, true, true, true, true, true, true, true, true, true, true, true, true, true, true, false, false, true, true, true, false, false, true, false, false, false, false, false, false, false, false, false] rfl rfl (any_of HT_.out (by kernel_rfl)) (fun _ _ _ h => h) (Or.inl ⟨by rfl, ?_⟩) ?_ ?_
                                      rotate_left
                                      · intro w'
                                        go_simp
                                        with_reducible rfl
                                      rotate_left
                                      · simp only [Act.put, List.setIfInBounds_toArray, List.set_cons_zero, List.set_cons_succ, i64_w, i32_w]
                                        rfl
                                      refine pure_ (i := 31) (N := some 150) (v := ?_) (a' := ?_) #[true, true, true, true, true, true, true, true, true, true, true, true, true, true, true, true, true, true, true, true, true, true, true, false, false, true, true, true, false, false, true, true, false, false, false, false, false, false, false, false] rfl rfl (any_of HT_.out (by kernel_rfl)) (fun _ _ _ h => h) (Or.inl ⟨by rfl, ?_⟩) ?_ ?_
                                      rotate_left
                                      · intro w'
                                        go_simp
                                        with_reducible rfl
                                      rotate_left
                                      · simp only [Act.put, List.setIfInBounds_toArray, List.set_cons_zero, List.set_cons_succ, i64_w, i32_w]
                                        rfl
                                      refine pure_ (i := 32) (N := some 151) (v := ?_) (a' := ?_) #[true, true, true, true, true, true, true, true, true, true, true, true, true, true, true, true, true, true, true, true, true, true, true, false, false, true, true, true, false, false, true, true, true, false, false, false, false, false, false, false] rfl rfl (any_of HT_.out (by kernel_rfl)) (fun _ _ _ h => h) (Or.inl ⟨by rfl, ?_⟩) ?_ ?_
                                      rotate_left
                                      · intro w'
                                        go_simp
                                        with_reducible rfl
                                      rotate_left
                                      · simp only [Act.put, List.setIfInBounds_toArray, List.set_cons_zero, List.set_cons_succ, i64_w, i32_w]
                                        rfl
                                      refine take_ (i := 23) (N := some 142) (v := ?_) (a' := ?_) #[true, true, true, true, true, true, true, true, true, true, true, true, true, true, true, true, true, true, true, true, true, true, true, true, false, true, true, true, false, false, true, true, true, false, false, false, false, false, false, false] rfl rfl (take_ofW HT_.out HW_.out (by kernel_rfl)) (fun _ _ _ h => h) (Or.inl ⟨by rfl, ?_⟩) hHeld ?_ ?_
                                      rotate_left
                                      · rintro w' ⟨s0, s1, s2⟩
                                        go_simp
                                        with_reducible rfl
                                      rotate_left
                                      · simp only [Act.put, List.setIfInBounds_toArray, List.set_cons_zero, List.set_cons_succ, i64_w, i32_w]
                                        rfl
                                      refine pure_ (i := 24) (N := some 143) (v := ?_) (a' := ?_) #[true, true, true, true, true, true, true, true, true, true, true, true, true, true, true, true, true, true, true, true, true, true, true, true, true, true, true, true, false, false, true, true, true, false, false, false, false, false, false, false] rfl rfl (any_of HT_.out (by kernel_rfl)) (fun _ _ _ h => h) (Or.inl ⟨by rfl, ?_⟩) ?_ ?_
                                      rotate_left
                                      · intro w'
                                        go_simp
                                        with_reducible rfl
                                      rotate_left
                                      · simp only [Act.put, List.setIfInBounds_toArray, List.set_cons_zero, List.set_cons_succ, i64_w, i32_w]
                                        rfl
                                      refine take_ (i := 28) (N := some 147) (v := ?_) (a' := ?_) #[true, true, true, true, true, true, true, true, true, true, true, true, true, true, true, true, true, true, true, true, true, true, true, true, true, true, true, true, true, false, true, true, true, false, false, false, false, false, false, false] rfl rfl (take_ofW HT_.out HW_.out (by kernel_rfl)) (fun _ _ _ h => h) (Or.inl ⟨by rfl, ?_⟩) hHeld ?_ ?_
                                      rotate_left
                                      · rintro w' ⟨s0, s1, s2⟩
                                        go_simp
                                        with_reducible rfl
                                      rotate_left
                                      · simp only [Act.put, List.setIfInBounds_toArray, List.set_cons_zero, List.set_cons_succ, i64_w, i32_w]
                                        rfl
                                      refine pure_ (i := 29) (N := some 148) (v := ?_) (a' := ?_) #[true, true, true, true, true, true, true, true, true, true, true, true, true, true, true, true, true, true, true, true, true, true, true, true, true, true, true, true, true, true, true, true, true, false, false, false, false, false, false, false] rfl rfl (any_of HT_.out (by kernel_rfl)) (fun _ _ _ h => h) (Or.inl ⟨by rfl, ?_⟩) ?_ ?_
                                      rotate_left
                                      · intro w'
                                        go_simp
                                        with_reducible rfl
                                      rotate_left
                                      · simp only [Act.put, List.setIfInBounds_toArray, List.set_cons_zero, List.set_cons_succ, i64_w, i32_w]
                                        rfl
                                      refine take_ (i := 33) (N := some 152) (v := ?_) (a' := ?_) #[true, true, true, true, true, true, true, true, true, true, true, true, true, true, true, true, true, true, true, true, true, true, true, true, true, true, true, true, true, true, true, true, true, true, false, false, false, false, false, false] rfl rfl (take_ofW HT_.out HW_.out (by kernel_rfl)) (fun _ _ _ h => h) (Or.inl ⟨by rfl, ?_⟩) hHeld ?_ ?_
                                      rotate_left
                                      · rintro w' ⟨s0, s1, s2⟩
                                        go_simp
                                        with_reducible rfl
                                      rotate_left
                                      · simp only [Act.put, List.setIfInBounds_toArray, List.set_cons_zero, List.set_cons_succ, i64_w, i32_w]
                                        rfl
                                      refine pure_ (i := 34) (N := some 153) (v := ?_) (a' := ?_) #[true, true, true, true, true, true, true, true, true, true, true, true, true, true, true, true, true, true, true, true, true, true, true, true, true, true, true, true, true, true, true, true, true, true, true, false, false, false, false, false] rfl rfl (any_of HT_.out (by kernel_rfl)) (fun _ _ _ h => h) (Or.inl ⟨by rfl, ?_⟩) ?_ ?_
                                      rotate_left
                                      · intro w'
                                        go_simp
                                        with_reducible rfl
                                      rotate_left
                                      · simp only [Act.put, List.setIfInBounds_toArray, List.set_cons_zero, List.set_cons_succ, i64_w, i32_w]
                                        rfl
                                      refine one_ (i := 35) (N := some 154) #[true, true, true, true, true, true, true, true, true, true, true, true, true, true, true, true, true, true, true, true, true, true, true, true, true, true, true, true, true, true, true, true, true, true, true, true, false, false, false, false] rfl rfl (one_of HT_.out (by kernel_rfl)) (by decide) (fun K hK => ?_)
                                      refine Kd.R_lit_step (Kd.int .i64) _ 3 ?hg (N := 154) ?hd (xs := ([wrap64 (t291 * (rd t275 1)), wrap64 (t291 * (rd t275 2)), wrap64 (t291 * (rd t275 3))] : List Int)) (inner := [.int .i64 (wrap64 (t291 * (rd t275 1))), .int .i64 (wrap64 (t291 * (rd t275 2))), .int .i64 (wrap64 (t291 * (rd t275 3)))]) (ok := fun _ => True) (okp := fun _ => True) ?hr ?hp (fun _ hk => hk) trivial (Below.refl _ _) (Nat.le_refl _) (by simp) ?_; (case hd => rfl); (case hg => rfl); (case hr => first | (go_simp; done) | (go_simp; rfl)); (case hp => exact (Reps.one (show Kd.M (Kd.int .i64) _ _ _ (wrap64 (t291 * (rd t275 1))) [.int .i64 (wrap64 (t291 * (rd t275 1)))] from rfl) (Reps.one (show Kd.M (Kd.int .i64) _ _ _ (wrap64 (t291 * (rd t275 2))) [.int .i64 (wrap64 (t291 * (rd t275 2)))] from rfl) (Reps.one (show Kd.M (Kd.int .i64) _ _ _ (wrap64 (t291 * (rd t275 3))) [.int .i64 (wrap64 (t291 * (rd t275 3)))] from rfl) (Reps.none _ _)))))
                                      intro v324 w55 ho56 hb hg_ hnew_
                                      have HS0_ := (hb.cell (World.block_lt_of_cell? _ _ (hHeld.1))).trans (hHeld.1)
                                      have HS1_ := (hb.cell (World.block_lt_of_cell? _ _ (hHeld.2.1))).trans (hHeld.2.1)
                                      have HS2_ := (hb.cell (World.block_lt_of_cell? _ _ (hHeld.2.2))).trans (hHeld.2.2)
                                      clear hg_ hnew_
                                      (first | rw [← Ny323.out] at ho56 | (simp only [Int.reduceToNat] at ho56; rw [← Ny323.out] at ho56))
                                      have n0_ := Aside0.mk (Kd.Q_elder' ((Sqz.mvQ HO_3.out)) (Kd.R_base ho56) hb)
                                      have n1_ := Aside0.mk (Kd.Q_elder' ((Sqz.mvQ HO_4.out)) (Kd.R_base ho56) hb)
                                      have n2_ := Aside0.mk (Kd.R_elder' ((Sqz.mvR HO_5.out)) (Kd.R_base ho56) hb)
                                      have n3_ := Aside0.mk (Kd.Q_elder' ((Sqz.mvQ HO_7.out)) (Kd.R_base ho56) hb)
                                      have n4_ := Aside0.mk (Kd.R_elder' ((Sqz.mvR HO306.out)) (Kd.R_base ho56) hb)
                                      have n5_ := Aside0.mk (Kd.R_elder' ((Sqz.mvR HO310.out)) (Kd.R_base ho56) hb)
                                      have n6_ := Aside0.mk (Kd.R_elder' ((Sqz.mvR HO318.out)) (Kd.R_base ho56) hb)
                                      have n7_ := Aside0.mk (Kd.R_lower (Kd.R_new' (Kd.R_new' (Kd.R_new' (Kd.R_new' (Kd.R_new' (Kd.R_new' (Kd.R_new' ho56 (Kd.Q_lt ((Sqz.mvQ HO_3.out)))) (Kd.Q_lt ((Sqz.mvQ HO_4.out)))) (Kd.R_lt ((Sqz.mvR HO_5.out)))) (Kd.Q_lt ((Sqz.mvQ HO_7.out)))) (Kd.R_lt ((Sqz.mvR HO306.out)))) (Kd.R_lt ((Sqz.mvR HO310.out)))) (Kd.R_lt ((Sqz.mvR HO318.out)))) (below_size (Sqz.auHB)))
                                      have n8_ := Aside0.mk (Kd.C_below (by repeat (first | (with_reducible exact HR314.out) | (with_reducible refine Kd.C_alloc ?_ _) | (with_reducible refine Kd.C_drewN ?_ _) | (with_reducible refine Kd.C_drew ?_) | exact HR314.out)) hb)
                                      have n9_ := Aside0.mk (below_step (Sqz.auHB) hb)
                                      clear HO_3
                                      clear HO_4
                                      clear HO_5
                                      clear HO_7
                                      clear HO306
                                      clear HO310
                                      clear HO318
                                      clear HR314
                                      clear HB
                                      have HO_3 := n0_
                                      have HO_4 := n1_
                                      have HO_5 := n2_
                                      have HO_7 := n3_
                                      have HO306 := n4_
                                      have HO310 := n5_
                                      have HO318 := n6_
                                      have HO325 := n7_
                                      have HR314 := n8_
                                      have HB := n9_
                                      clear n0_ n1_ n2_ n3_ n4_ n5_ n6_ n7_ n8_ n9_
                                      clear hb ho56
                                      obtain ⟨Ao57, co57, eo57⟩ := Kd.R_slice HO318.out
                                      (first | subst eo57 | (injection eo57 with f1_ f2_ f3_; have f4_ := f1_.symm; have f5_ := f3_.symm; clear f1_ f2_ f3_; subst f4_; subst f5_))
                                      obtain ⟨Ao58, co58, eo58⟩ := Kd.R_slice HO325.out
                                      (first | subst eo58 | (injection eo58 with f1_ f2_ f3_; have f4_ := f1_.symm; have f5_ := f3_.symm; clear f1_ f2_ f3_; subst f4_; subst f5_))
                                      refine hK.out _ _ ⟨HS0_, HS1_, HS2_⟩ (fun hHeld => ?_)
                                      clear hK K
                                      refine norm_ (a' := ?_) ?_ ?_
                                      rotate_left
                                      · show Act.put _ (some 154) _ = _
                                        simp only [Act.put, List.setIfInBounds_toArray, List.set_cons_zero, List.set_cons_succ, i64_w, i32_w]
                                        rfl
                                      refine one_ (i := 36) (N := some 155) #[true, true, true, true, true, true, true, true, true, true, true, true, true, true, true, true, true, true, true, true, true, true, true, true, true, true, true, true, true, true, true, true, true, true, true, true, true, false, false, false] rfl rfl (one_of HT_.out (by kernel_rfl)) (by decide) (fun K hK => ?_)
                                      refine goes_ Try.func36 (by kernel_rfl) rfl #[.slice Ao57 t315.length co57, .slice Ao58 y323.length co58] (by rfl) rfl rfl Sqz.auM ?_
                                      with_reducible refine (laws_sameInts.calls kj5 _ _ t315 _ _ y323 t326 _ ?side1 ?side2 ?side3 ?side4 A43.out).mono ?_
                                      (case side1 => exact Sqz.mvC ((Kd.R_reads' HO318.out).2.2))
                                      (case side2 => exact (Kd.R_reads' HO318.out).2.1)
                                      (case side3 => exact Sqz.mvC ((Kd.R_reads' HO325.out).2.2))
                                      (case side4 => exact (Kd.R_reads' HO325.out).2.1)
                                      rintro e w' ⟨rfl, ⟨nd, rfl⟩⟩
                                      refine ⟨_, rfl, ?_⟩
                                      refine hK.out _ _ ⟨hHeld.1, hHeld.2.1, hHeld.2.2⟩ (fun hHeld => ?_)
                                      clear hK K
                                      refine norm_ (a' := ?_) ?_ ?_
                                      rotate_left
                                      · show Act.put _ (some 155) _ = _
                                        simp only [Act.put, List.setIfInBounds_toArray, List.set_cons_zero, List.set_cons_succ, i64_w, i32_w]
                                        rfl
                                      refine pure_ (i := 37) (N := some 156) (v := ?_) (a' := ?_) #[true, true, true, true, true, true, true, true, true, true, true, true, true, true, true, true, true, true, true, true, true, true, true, true, true, true, true, true, true, true, true, true, true, true, true, true, true, true, false, false] rfl rfl (any_of HT_.out (by kernel_rfl)) (fun _ _ _ h => h) (Or.inl ⟨by rfl, ?_⟩) ?_ ?_
                                      rotate_left
                                      · intro w'
                                        go_simp
                                        with_reducible rfl
                                      rotate_left
                                      · simp only [Act.put, List.setIfInBounds_toArray, List.set_cons_zero, List.set_cons_succ, i64_w, i32_w]
                                        rfl
                                      refine pure_ (i := 38) (N := some 157) (v := ?_) (a' := ?_) #[true, true, true, true, true, true, true, true, true, true, true, true, true, true, true, true, true, true, true, true, true, true, true, true, true, true, true, true, true, true, true, true, true, true, true, true, true, true, true, false] rfl rfl (any_of HT_.out (by kernel_rfl)) (fun _ _ _ h => h) (Or.inl ⟨by rfl, ?_⟩) ?_ ?_
                                      rotate_left
                                      · intro w'
                                        go_simp
                                        with_reducible rfl
                                      rotate_left
                                      · simp only [Act.put, List.setIfInBounds_toArray, List.set_cons_zero, List.set_cons_succ, i64_w, i32_w]
                                        rfl
                                      refine pure_ (i := 39) (N := some 2) (v := ?_) (a' := ?_) #[true, true, true, true, true, true, true, true, true, true, true, true, true, true, true, true, true, true, true, true, true, true, true, true, true, true, true, true, true, true, true, true, true, true, true, true, true, true, true, true] rfl rfl (any_of HT_.out (by kernel_rfl)) (fun _ _ _ h => h) (Or.inl ⟨by rfl, ?_⟩) ?_ ?_
                                      rotate_left
                                      · intro w'
                                        go_simp
                                        with_reducible rfl
                                      rotate_left
                                      · simp only [Act.put, List.setIfInBounds_toArray, List.set_cons_zero, List.set_cons_succ, i64_w, i32_w]
                                        rfl
                                      refine done_ (done_of HT_.out (by kernel_rfl)) ?_
                                      try go_wp2
                                      go_ret
                                      exact ⟨Sqz.auR, Sqz.auHB⟩
                                    · rw [if_neg c42] at H
                                      exact absurd H (by simp)
                                  · rw [if_neg c41] at H
                                    exact absurd H (by simp)
                                · rw [if_neg c40] at H
                                  exact absurd H (by simp)
                              · replace c39 := Bool.eq_false_iff.mpr c39
                                subst c39
                                have H1 : (some true) = some r := by rw [if_neg (show ¬ (false = true) by decide)] at H; exact H
                                clear H
                                have H := H1
                                clear H1
                                obtain rfl := Option.some.inj H
                                try go_wp2_with (first | ((with_reducible refine gate_callee (f := 33) rfl ?_); refine goesL_ (some 58) rfl rfl Try.func33 (by kernel_rfl) rfl #[.slice Ao8 t275.length co8] rfl Sqz.auM ?_; (with_reducible refine (impl_QuatNorm.calls kj5 _ _ t275 t291 _ ?side1 ?side2 A24.out).mono ?_); (case side1 => exact Sqz.mvC ((Kd.Q_reads' HO_3.out).2.2)); (case side2 => exact (Kd.Q_reads' HO_3.out).2.1); rintro e w59 ⟨rfl, hb⟩; refine ⟨_, rfl, ?_⟩; have n0_ := Aside0.mk (Kd.Q_below ((Sqz.mvQ HO_3.out)) hb); have n1_ := Aside0.mk (Kd.Q_below ((Sqz.mvQ HO_4.out)) hb); have n2_ := Aside0.mk (Kd.R_below ((Sqz.mvR HO_5.out)) hb); have n3_ := Aside0.mk (Kd.Q_below ((Sqz.mvQ HO_7.out)) hb); have n4_ := Aside0.mk (below_step (Sqz.auHB) hb); clear HO_3; clear HO_4; clear HO_5; clear HO_7; clear HB; have HO_3 := n0_; have HO_4 := n1_; have HO_5 := n2_; have HO_7 := n3_; have HB := n4_; clear n0_ n1_ n2_ n3_ n4_; (try clear hb); (try clear hb2); (try clear hk); (try clear hi)))
                                have n0_ := Aside0.mk (Kd.Q_drew HO_3.out)
                                have n1_ := Aside0.mk (Kd.Q_drew HO_4.out)
                                have n2_ := Aside0.mk (Kd.R_drew HO_5.out)
                                have n3_ := Aside0.mk (Kd.Q_drew HO_7.out)
                                have n4_ := Aside0.mk (below_drew1 HB.out)
                                clear HO_3
                                clear HO_4
                                clear HO_5
                                clear HO_7
                                clear HB
                                have HO_3 := n0_
                                have HO_4 := n1_
                                have HO_5 := n2_
                                have HO_7 := n3_
                                have HB := n4_
                                clear n0_ n1_ n2_ n3_ n4_
                                obtain ⟨Ao61, co61, eo61⟩ := Kd.R_slice HO_5.out
                                (first | subst eo61 | (injection eo61 with f1_ f2_ f3_; have f4_ := f1_.symm; have f5_ := f3_.symm; clear f1_ f2_ f3_; subst f4_; subst f5_))
                                have p292 : 0 ≤ (0 : Int) := (by omega)
                                have q292 : 0 < (t281.length : Int) := of_decide_eq_true (by first | (with_reducible assumption) | assumption)
                                obtain ⟨ad292, e292, hx292_0⟩ := Kd.at_int (Kd.R_reads' HO_5.out).2.2 0 p292 q292
                                cases e292
                                have qi292 : (0 < t281.length) = True := eq_true (by omega)
                                (try rw [show ((0 : Int)).toNat = 0 from rfl] at hx292_0)
                                (try rw [Addr.add_zero'] at hx292_0)
                                replace p292 := eq_true p292
                                replace q292 := eq_true q292
                                have p293 : 0 ≤ (0 : Int) := (by omega)
                                have q293 : 0 < (t281.length : Int) := of_decide_eq_true (by first | (with_reducible assumption) | assumption)
                                obtain ⟨ad293, e293, hx293_0⟩ := Kd.at_int (Kd.R_reads' HO_5.out).2.2 0 p293 q293
                                obtain rfl : ad292 = ad293 := (by injection e293)
                                have qi293 : (0 < t281.length) = True := eq_true (by omega)
                                (try rw [show ((0 : Int)).toNat = 0 from rfl] at hx293_0)
                                (try rw [Addr.add_zero'] at hx293_0)
                                replace p293 := eq_true p293
                                replace q293 := eq_true q293
                                have p294 : 0 ≤ (1 : Int) := (by omega)
                                have q294 : 1 < (t281.length : Int) := of_decide_eq_true (by first | (with_reducible assumption) | assumption)
                                obtain ⟨ad294, e294, hx294_0⟩ := Kd.at_int (Kd.R_reads' HO_5.out).2.2 1 p294 q294
                                obtain rfl : ad292 = ad294 := (by injection e294)
                                (try simp only [show (1 : Int).toNat = 1 from rfl, Nat.reduceMul, Nat.reduceEqDiff, Go.Addr.add, ↓reduceIte] at hx294_0)
                                have qi294 : (1 < t281.length) = True := eq_true (by omega)
                                (try rw [show ((1 : Int)).toNat = 1 from rfl] at hx294_0)
                                replace p294 := eq_true p294
                                replace q294 := eq_true q294
                                have p295 : 0 ≤ (1 : Int) := (by omega)
                                have q295 : 1 < (t281.length : Int) := of_decide_eq_true (by first | (with_reducible assumption) | assumption)
                                obtain ⟨ad295, e295, hx295_0⟩ := Kd.at_int (Kd.R_reads' HO_5.out).2.2 1 p295 q295
                                obtain rfl : ad292 = ad295 := (by injection e295)
                                (try simp only [show (1 : Int).toNat = 1 from rfl, Nat.reduceMul, Nat.reduceEqDiff, Go.Addr.add, ↓reduceIte] at hx295_0)
                                have qi295 : (1 < t281.length) = True := eq_true (by omega)
                                (try rw [show ((1 : Int)).toNat = 1 from rfl] at hx295_0)
                                replace p295 := eq_true p295
                                replace q295 := eq_true q295
                                have p296 : 0 ≤ (2 : Int) := (by omega)
                                have q296 : 2 < (t281.length : Int) := of_decide_eq_true (by first | (with_reducible assumption) | assumption)
                                obtain ⟨ad296, e296, hx296_0⟩ := Kd.at_int (Kd.R_reads' HO_5.out).2.2 2 p296 q296
                                obtain rfl : ad292 = ad296 := (by injection e296)
                                (try simp only [show (2 : Int).toNat = 2 from rfl, Nat.reduceMul, Nat.reduceEqDiff, Go.Addr.add, ↓reduceIte] at hx296_0)
                                have qi296 : (2 < t281.length) = True := eq_true (by omega)
                                (try rw [show ((2 : Int)).toNat = 2 from rfl] at hx296_0)
                                replace p296 := eq_true p296
                                replace q296 := eq_true q296
                                have p297 : 0 ≤ (2 : Int) := (by omega)
                                have q297 : 2 < (t281.length : Int) := of_decide_eq_true (by first | (with_reducible assumption) | assumption)
                                obtain ⟨ad297, e297, hx297_0⟩ := Kd.at_int (Kd.R_reads' HO_5.out).2.2 2 p297 q297
                                obtain rfl : ad292 = ad297 := (by injection e297)
                                (try simp only [show (2 : Int).toNat = 2 from rfl, Nat.reduceMul, Nat.reduceEqDiff, Go.Addr.add, ↓reduceIte] at hx297_0)
                                have qi297 : (2 < t281.length) = True := eq_true (by omega)
                                (try rw [show ((2 : Int)).toNat = 2 from rfl] at hx297_0)
                                replace p297 := eq_true p297
                                replace q297 := eq_true q297
                                refine start_ (n := 24) (S := fun w' => w'.cell? ad292 = some (.int .i64 (rd t281 0)) ∧ w'.cell? ad292 = some (.int .i64 (rd t281 0)) ∧ w'.cell? ⟨ad292.block, ad292.off + 1, none⟩ = some (.int .i64 (rd t281 1)) ∧ w'.cell? ⟨ad292.block, ad292.off + 1, none⟩ = some (.int .i64 (rd t281 1)) ∧ w'.cell? ⟨ad292.block, ad292.off + 2, none⟩ = some (.int .i64 (rd t281 2)) ∧ w'.cell? ⟨ad292.block, ad292.off + 2, none⟩ = some (.int .i64 (rd t281 2))) (ds := []) #[false, false, false, false, false, false, false, false, false, false, false, false, false, false, false, false, false, false, false, false, false, false, false, false] (by kernel_rfl) rfl rfl ⟨hx292_0, hx293_0, hx294_0, hx295_0, hx296_0, hx297_0⟩ (fun hHeld => ?_); refine with_tabW laws_FnTurn.tab9 laws_FnTurn.bits9 (fun HT_ HW_ => ?_)
                                generalize w59.drew = w60 at HO_3 HO_4 HO_5 HO_7 HB hx292_0 hx293_0 hx294_0 hx295_0 hx296_0 hx297_0 hHeld ⊢
                                refine pure_ (i := 0) (N := some 59) (v := ?_) (a' := ?_) #[true, false, false, false, false, false, false, false, false, false, false, false, false, false, false, false, false, false, false, false, false, false, false, false] rfl rfl (any_of HT_.out (by kernel_rfl)) (fun _ _ _ h => h) (Or.inl ⟨by rfl, ?_⟩) ?_ ?_
                                rotate_left
                                · intro w'
                                  go_simp
                                  with_reducible rfl
                                rotate_left
                                · simp only [Act.put, List.setIfInBounds_toArray, List.set_cons_zero, List.set_cons_succ, i64_w, i32_w]
                                  rfl
                                refine pure_ (i := 1) (N := some 60) (v := ?_) (a' := ?_) #[true, true, false, false, false, false, false, false, false, false, false, false, false, false, false, false, false, false, false, false, false, false, false, false] rfl rfl (any_of HT_.out (by kernel_rfl)) (fun _ _ _ h => h) (Or.inl ⟨by rfl, ?_⟩) ?_ ?_
                                rotate_left
                                · intro w'
                                  go_simp
                                  with_reducible rfl
                                rotate_left
                                · simp only [Act.put, List.setIfInBounds_toArray, List.set_cons_zero, List.set_cons_succ, i64_w, i32_w]
                                  rfl
                                refine pure_ (i := 3) (N := some 62) (v := ?_) (a' := ?_) #[true, true, false, true, false, false, false, false, false, false, false, false, false, false, false, false, false, false, false, false, false, false, false, false] rfl rfl (any_of HT_.out (by kernel_rfl)) (fun _ _ _ h => h) (Or.inl ⟨by rfl, ?_⟩) ?_ ?_
                                rotate_left
                                · intro w'
                                  go_simp
                                  with_reducible rfl
                                rotate_left
                                · simp only [Act.put, List.setIfInBounds_toArray, List.set_cons_zero, List.set_cons_succ, i64_w, i32_w]
                                  rfl
                                refine pure_ (i := 4) (N := some 63) (v := ?_) (a' := ?_) #[true, true, false, true, true, false, false, false, false, false, false, false, false, false, false, false, false, false, false, false, false, false, false, false] rfl rfl (any_of HT_.out (by kernel_rfl)) (fun _ _ _ h => h) (Or.inl ⟨by rfl, ?_⟩) ?_ ?_
                                rotate_left
                                · intro w'
                                  go_simp
                                  with_reducible rfl
                                rotate_left
                                · simp only [Act.put, List.setIfInBounds_toArray, List.set_cons_zero, List.set_cons_succ, i64_w, i32_w]
                                  rfl
                                refine pure_ (i := 7) (N := some 66) (v := ?_) (a' := ?_) #[true, true, false, true, true, false, false, true, false, false, false, false, false, false, false, false, false, false, false, false, false, false, false, false] rfl rfl (any_of HT_.out (by kernel_rfl)) (fun _ _ _ h => h) (Or.inl ⟨by rfl, ?_⟩) ?_ ?_
                                rotate_left
                                · intro w'
                                  go_simp
                                  with_reducible rfl
                                rotate_left
                                · simp only [Act.put, List.setIfInBounds_toArray, List.set_cons_zero, List.set_cons_succ, i64_w, i32_w]
                                  rfl
                                refine pure_ (i := 8) (N := some 67) (v := ?_) (a' := ?_) #[true, true, false, true, true, false, false, true, true, false, false, false, false, false, false, false, false, false, false, false, false, false, false, false] rfl rfl (any_of HT_.out (by kernel_rfl)) (fun _ _ _ h => h) (Or.inl ⟨by rfl, ?_⟩) ?_ ?_
                                rotate_left
                                · intro w'
                                  go_simp
                                  with_reducible rfl
                                rotate_left
                                · simp only [Act.put, List.setIfInBounds_toArray, List.set_cons_zero, List.set_cons_succ, i64_w, i32_w]
                                  rfl
                                refine pure_ (i := 10) (N := some 69) (v := ?_) (a' := ?_) #[true, true, false, true, true, false, false, true, true, false, true, false, false, false, false, false, false, false, false, false, false, false, false, false] rfl rfl (any_of HT_.out (by kernel_rfl)) (fun _ _ _ h => h) (Or.inl ⟨by rfl, ?_⟩) ?_ ?_
                                rotate_left
                                · intro w'
                                  go_simp
                                  with_reducible rfl
                                rotate_left
                                · simp only [Act.put, List.setIfInBounds_toArray, List.set_cons_zero, List.set_cons_succ, i64_w, i32_w]
                                  rfl
                                refine pure_ (i := 11) (N := some 70) (v := ?_) (a' := ?_) #[true, true, false, true, true, false, false, true, true, false, true, true, false, false, false, false, false, false, false, false, false, false, false, false] rfl rfl (any_of HT_.out (by kernel_rfl)) (fun _ _ _ h => h) (Or.inl ⟨by rfl, ?_⟩) ?_ ?_
                                rotate_left
                                · intro w'
                                  go_simp
                                  with_reducible rfl
                                rotate_left
                                · simp only [Act.put, List.setIfInBounds_toArray, List.set_cons_zero, List.set_cons_succ, i64_w, i32_w]
                                  rfl
                                refine pure_ (i := 15) (N := some 74) (v := ?_) (a' := ?_) #[true, true, false, true, true, false, false, true, true, false, true, true, false, false, false, true, false, false, false, false, false, false, false, false] rfl rfl (any_of HT_.out (by kernel_rfl)) (fun _ _ _ h => h) (Or.inl ⟨by rfl, ?_⟩) ?_ ?_
                                rotate_left
                                · intro w'
                                  go_simp
                                  with_reducible rfl
                                rotate_left
                                · simp only [Act.put, List.setIfInBounds_toArray, List.set_cons_zero, List.set_cons_succ, i64_w, i32_w]
                                  rfl
                                refine pure_ (i := 16) (N := some 75) (v := ?_) (a' := ?_) #[true, true, false, true, true, false, false, true, true, false, true, true, false, false, false, true, true, false, false, false, false, false, false, false] rfl rfl (any_of HT_.out (by kernel_rfl)) (fun _ _ _ h => h) (Or.inl ⟨by rfl, ?_⟩) ?_ ?_
                                rotate_left
                                · intro w'
                                  go_simp
                                  with_reducible rfl
                                rotate_left
                                · simp only [Act.put, List.setIfInBounds_toArray, List.set_cons_zero, List.set_cons_succ, i64_w, i32_w]
                                  rfl
                                refine pure_ (i := 18) (N := some 77) (v := ?_) (a' := ?_) #[true, true, false, true, true, false, false, true, true, false, true, true, false, false, false, true, true, false, true, false, false, false, false, false] rfl rfl (any_of HT_.out (by kernel_rfl)) (fun _ _ _ h => h) (Or.inl ⟨by rfl, ?_⟩) ?_ ?_
                                rotate_left
                                · intro w'
                                  go_simp
                                  with_reducible rfl
                                rotate_left
                                · simp only [Act.put, List.setIfInBounds_toArray, List.set_cons_zero, List.set_cons_succ, i64_w, i32_w]
                                  rfl
                                refine pure_ (i := 19) (N := some 78) (v := ?_) (a' := ?_) #[true, true, false, true, true, false, false, true, true, false, true, true, false, false, false, true, true, false, true, true, false, false, false, false] rfl rfl (any_of HT_.out (by kernel_rfl)) (fun _ _ _ h => h) (Or.inl ⟨by rfl, ?_⟩) ?_ ?_
                                rotate_left
                                · intro w'
                                  go_simp
                                  with_reducible rfl
                                rotate_left
                                · simp only [Act.put, List.setIfInBounds_toArray, List.set_cons_zero, List.set_cons_succ, i64_w, i32_w]
                                  rfl
                                refine take_ (i := 2) (N := some 61) (v := ?_) (a' := ?_) #[true, true, true, true, true, false, false, true, true, false, true, true, false, false, false, true, true, false, true, true, false, false, false, false] rfl rfl (take_ofW HT_.out HW_.out (by kernel_rfl)) (fun _ _ _ h => h) (Or.inl ⟨by rfl, ?_⟩) hHeld ?_ ?_
                                rotate_left
                                · rintro w' ⟨s0, s1, s2, s3, s4, s5⟩
                                  go_simp
                                  with_reducible rfl
                                rotate_left
                                · simp only [Act.put, List.setIfInBounds_toArray, List.set_cons_zero, List.set_cons_succ, i64_w, i32_w]
                                  rfl
                                refine take_ (i := 5) (N := some 64) (v := ?_) (a' := ?_) #[true, true, true, true, true, true, false, true, true, false, true, true, false, false, false, true, true, false, true, true, false, false, false, false] rfl rfl (take_ofW HT_.out HW_.out (by kernel_rfl)) (fun _ _ _ h => h) (Or.inl ⟨by rfl, ?_⟩) hHeld ?_ ?_
                                rotate_left
                                · rintro w' ⟨s0, s1, s2, s3, s4, s5⟩
                                  go_simp
                                  with_reducible rfl
                                rotate_left
                                · simp only [Act.put, List.setIfInBounds_toArray, List.set_cons_zero, List.set_cons_succ, i64_w, i32_w]
                                  rfl
                                refine pure_ (i := 6) (N := some 65) (v := ?_) (a' := ?_) #[true, true, true, true, true, true, true, true, true, false, true, true, false, false, false, true, true, false, true, true, false, false, false, false] rfl rfl (any_of HT_.out (by kernel_rfl)) (fun _ _ _ h => h) (Or.inl ⟨by rfl, ?_⟩) ?_ ?_
                                rotate_left
                                · intro w'
                                  go_simp
                                  with_reducible rfl
                                rotate_left
                                · simp only [Act.put, List.setIfInBounds_toArray, List.set_cons_zero, List.set_cons_succ, i64_w, i32_w]
                                  rfl
                                refine take_ (i := 9) (N := some 68) (v := ?_) (a' := ?_) #[true, true, true, true, true, true, true, true, true, true, true, true, false, false, false, true, true, false, true, true, false, false, false, false] rfl rfl (take_ofW HT_.out HW_.out (by kernel_rfl)) (fun _ _ _ h => h) (Or.inl ⟨by rfl, ?_⟩) hHeld ?_ ?_
                                rotate_left
                                · rintro w' ⟨s0, s1, s2, s3, s4, s5⟩
                                  go_simp
                                  with_reducible rfl
                                rotate_left
                                · simp only [Act.put, List.setIfInBounds_toArray, List.set_cons_zero, List.set_cons_succ, i64_w, i32_w]
                                  rfl
                                refine take_ (i := 12) (N := some 71) (v := ?_) (a' := ?_) #[true, true, true, true, true, true, true, true, true, true, true, true, true, false, false, true, true, false, true, true, false, false, false, false] rfl rfl (take_ofW HT_.out HW_.out (by kernel_rfl)) (fun _ _ _ h => h) (Or.inl ⟨by rfl, ?_⟩) hHeld ?_ ?_
                                rotate_left
                                · rintro w' ⟨s0, s1, s2, s3, s4, s5⟩
                                  go_simp
                                  with_reducible rfl
                                rotate_left
                                · simp only [Act.put, List.setIfInBounds_toArray, List.set_cons_zero, List.set_cons_succ, i64_w, i32_w]
                                  rfl
                                refine pure_ (i := 13) (N := some 72) (v := ?_) (a' := ?_) #[true, true, true, true, true, true, true, true, true, true, true, true, true, true, false, true, true, false, true, true, false, false, false, false] rfl rfl (any_of HT_.out (by kernel_rfl)) (fun _ _ _ h => h) (Or.inl ⟨by rfl, ?_⟩) ?_ ?_
                                rotate_left
                                · intro w'
                                  go_simp
                                  with_reducible rfl
                                rotate_left
                                · simp only [Act.put, List.setIfInBounds_toArray, List.set_cons_zero, List.set_cons_succ, i64_w, i32_w]
                                  rfl
                                refine pure_ (i := 14) (N := some 73) (v := ?_) (a' := ?_) #[true, true, true, true, true, true, true, true, true, true, true, true, true, true, true, true, true, false, true, true, false, false, false, false] rfl rfl (any_of HT_.out (by kernel_rfl)) (fun _ _ _ h => h) (Or.inl ⟨by rfl, ?_⟩) ?_ ?_
                                rotate_left
                                · intro w'
                                  go_simp
                                  with_reducible rfl
                                rotate_left
                                · simp only [Act.put, List.setIfInBounds_toArray, List.set_cons_zero, List.set_cons_succ, i64_w, i32_w]
                                  rfl
                                refine take_ (i := 17) (N := some 76) (v := ?_) (a' := ?_) #[true, true, true, true, true, true, true, true, true, true, true, true, true, true, true, true, true, true, true, true, false, false, false, false] rfl rfl (take_ofW HT_.out HW_.out (by kernel_rfl)) (fun _ _ _ h => h) (Or.inl ⟨by rfl, ?_⟩) hHeld ?_ ?_
                                rotate_left
                                · rintro w' ⟨s0, s1, s2, s3, s4, s5⟩
                                  go_simp
                                  with_reducible rfl
                                rotate_left
                                · simp only [Act.put, List.setIfInBounds_toArray, List.set_cons_zero, List.set_cons_succ, i64_w, i32_w]
                                  rfl
                                refine take_ (i := 20) (N := some 79) (v := ?_) (a' := ?_) #[true, true, true, true, true, true, true, true, true, true, true, true, true, true, true, true, true, true, true, true, true, false, false, false] rfl rfl (take_ofW HT_.out HW_.out (by kernel_rfl)) (fun _ _ _ h => h) (Or.inl ⟨by rfl, ?_⟩) hHeld ?_ ?_
                                rotate_left
                                · rintro w' ⟨s0, s1, s2, s3, s4, s5⟩
                                  go_simp
                                  with_reducible rfl
                                rotate_left
                                · simp only [Act.put, List.setIfInBounds_toArray, List.set_cons_zero, List.set_cons_succ, i64_w, i32_w]
                                  rfl
                                refine pure_ (i := 21) (N := some 80) (v := ?_) (a' := ?_) #[true, true, true, true, true, true, true, true, true, true, true, true, true, true, true, true, true, true, true, true, true, true, false, false] rfl rfl (any_of HT_.out (by kernel_rfl)) (fun _ _ _ h => h) (Or.inl ⟨by rfl, ?_⟩) ?_ ?_
                                rotate_left
                                · intro w'
                                  go_simp
                                  with_reducible rfl
                                rotate_left
                                · simp only [Act.put, List.setIfInBounds_toArray, List.set_cons_zero, List.set_cons_succ, i64_w, i32_w]
                                  rfl
                                refine pure_ (i := 22) (N := some 81) (v := ?_) (a' := ?_) #[true, true, true, true, true, true, true, true, true, true, true, true, true, true, true, true, true, true, true, true, true, true, true, false] rfl rfl (any_of HT_.out (by kernel_rfl)) (fun _ _ _ h => h) (Or.inl ⟨by rfl, ?_⟩) ?_ ?_
                                rotate_left
                                · intro w'
                                  go_simp
                                  with_reducible rfl
                                rotate_left
                                · simp only [Act.put, List.setIfInBounds_toArray, List.set_cons_zero, List.set_cons_succ, i64_w, i32_w]
                                  rfl
                                refine pure_ (i := 23) (N := some 10) (v := ?_) (a' := ?_) #[true, true, true, true, true, true, true, true, true, true, true, true, true, true, true, true, true, true, true, true, true, true, true, true] rfl rfl (any_of HT_.out (by kernel_rfl)) (fun _ _ _ h => h) (Or.inl ⟨by rfl, ?_⟩) ?_ ?_
                                rotate_left
                                · intro w'
                                  go_simp
                                  with_reducible rfl
                                rotate_left
                                · simp only [Act.put, List.setIfInBounds_toArray, List.set_cons_zero, List.set_cons_succ, i64_w, i32_w]
                                  rfl
                                refine done_ (done_of HT_.out (by kernel_rfl)) ?_
                                try go_wp2
                                have n0_ := Aside0.mk (Kd.Q_drew HO_3.out)
                                have n1_ := Aside0.mk (Kd.Q_drew HO_4.out)
                                have n2_ := Aside0.mk (Kd.R_drew HO_5.out)
                                have n3_ := Aside0.mk (Kd.Q_drew HO_7.out)
                                have n4_ := Aside0.mk (below_drew1 HB.out)
                                clear HO_3
                                clear HO_4
                                clear HO_5
                                clear HO_7
                                clear HB
                                have HO_3 := n0_
                                have HO_4 := n1_
                                have HO_5 := n2_
                                have HO_7 := n3_
                                have HB := n4_
                                clear n0_ n1_ n2_ n3_ n4_
                                have p298 : 0 ≤ (0 : Int) := (by omega)
                                have q298 : 0 < (t276.length : Int) := of_decide_eq_true (by first | (with_reducible assumption) | assumption)
                                obtain ⟨ad298, e298, hx298_0⟩ := Kd.at_int (Kd.Q_reads' HO_4.out).2.2 0 p298 q298
                                cases e298
                                have qi298 : (0 < t276.length) = True := eq_true (by omega)
                                (try rw [show ((0 : Int)).toNat = 0 from rfl] at hx298_0)
                                (try rw [Addr.add_zero'] at hx298_0)
                                replace p298 := eq_true p298
                                replace q298 := eq_true q298
                                have p299 : 0 ≤ (0 : Int) := (by omega)
                                have q299 : 0 < (t276.length : Int) := of_decide_eq_true (by first | (with_reducible assumption) | assumption)
                                obtain ⟨ad299, e299, hx299_0⟩ := Kd.at_int (Kd.Q_reads' HO_4.out).2.2 0 p299 q299
                                obtain rfl : ad298 = ad299 := (by injection e299)
                                have qi299 : (0 < t276.length) = True := eq_true (by omega)
                                (try rw [show ((0 : Int)).toNat = 0 from rfl] at hx299_0)
                                (try rw [Addr.add_zero'] at hx299_0)
                                replace p299 := eq_true p299
                                replace q299 := eq_true q299
                                have p300 : 0 ≤ (1 : Int) := (by omega)
                                have q300 : 1 < (t276.length : Int) := of_decide_eq_true (by first | (with_reducible assumption) | assumption)
                                obtain ⟨ad300, e300, hx300_0⟩ := Kd.at_int (Kd.Q_reads' HO_4.out).2.2 1 p300 q300
                                obtain rfl : ad298 = ad300 := (by injection e300)
                                (try simp only [show (1 : Int).toNat = 1 from rfl, Nat.reduceMul, Nat.reduceEqDiff, Go.Addr.add, ↓reduceIte] at hx300_0)
                                have qi300 : (1 < t276.length) = True := eq_true (by omega)
                                (try rw [show ((1 : Int)).toNat = 1 from rfl] at hx300_0)
                                replace p300 := eq_true p300
                                replace q300 := eq_true q300
                                have p301 : 0 ≤ (1 : Int) := (by omega)
                                have q301 : 1 < (t276.length : Int) := of_decide_eq_true (by first | (with_reducible assumption) | assumption)
                                obtain ⟨ad301, e301, hx301_0⟩ := Kd.at_int (Kd.Q_reads' HO_4.out).2.2 1 p301 q301
                                obtain rfl : ad298 = ad301 := (by injection e301)
                                (try simp only [show (1 : Int).toNat = 1 from rfl, Nat.reduceMul, Nat.reduceEqDiff, Go.Addr.add, ↓reduceIte] at hx301_0)
                                have qi301 : (1 < t276.length) = True := eq_true (by omega)
                                (try rw [show ((1 : Int)).toNat = 1 from rfl] at hx301_0)
                                replace p301 := eq_true p301
                                replace q301 := eq_true q301
                                have p302 : 0 ≤ (2 : Int) := (by omega)
                                have q302 : 2 < (t276.length : Int) := of_decide_eq_true (by first | (with_reducible assumption) | assumption)
                                obtain ⟨ad302, e302, hx302_0⟩ := Kd.at_int (Kd.Q_reads' HO_4.out).2.2 2 p302 q302
                                obtain rfl : ad298 = ad302 := (by injection e302)
                                (try simp only [show (2 : Int).toNat = 2 from rfl, Nat.reduceMul, Nat.reduceEqDiff, Go.Addr.add, ↓reduceIte] at hx302_0)
                                have qi302 : (2 < t276.length) = True := eq_true (by omega)
                                (try rw [show ((2 : Int)).toNat = 2 from rfl] at hx302_0)
                                replace p302 := eq_true p302
                                replace q302 := eq_true q302
                                have p303 : 0 ≤ (2 : Int) := (by omega)
                                have q303 : 2 < (t276.length : Int) := of_decide_eq_true (by first | (with_reducible assumption) | assumption)
                                obtain ⟨ad303, e303, hx303_0⟩ := Kd.at_int (Kd.Q_reads' HO_4.out).2.2 2 p303 q303
                                obtain rfl : ad298 = ad303 := (by injection e303)
                                (try simp only [show (2 : Int).toNat = 2 from rfl, Nat.reduceMul, Nat.reduceEqDiff, Go.Addr.add, ↓reduceIte] at hx303_0)
                                have qi303 : (2 < t276.length) = True := eq_true (by omega)
                                (try rw [show ((2 : Int)).toNat = 2 from rfl] at hx303_0)
                                replace p303 := eq_true p303
                                replace q303 := eq_true q303
                                refine start_ (n := 24) (S := fun w' => w'.cell? ad298 = some (.int .i64 (rd t276 0)) ∧ w'.cell? ad298 = some (.int .i64 (rd t276 0)) ∧ w'.cell? ⟨ad298.block, ad298.off + 1, none⟩ = some (.int .i64 (rd t276 1)) ∧ w'.cell? ⟨ad298.block, ad298.off + 1, none⟩ = some (.int .i64 (rd t276 1)) ∧ w'.cell? ⟨ad298.block, ad298.off + 2, none⟩ = some (.int .i64 (rd t276 2)) ∧ w'.cell? ⟨ad298.block, ad298.off + 2, none⟩ = some (.int .i64 (rd t276 2))) (ds := []) #[false, false, false, false, false, false, false, false, false, false, false, false, false, false, false, false, false, false, false, false, false, false, false, false] (by kernel_rfl) rfl rfl ⟨hx298_0, hx299_0, hx300_0, hx301_0, hx302_0, hx303_0⟩ (fun hHeld => ?_); refine with_tabW laws_FnTurn.tab10 laws_FnTurn.bits10 (fun HT_ HW_ => ?_)
                                generalize w60.drew = w62 at HO_3 HO_4 HO_5 HO_7 HB hx298_0 hx299_0 hx300_0 hx301_0 hx302_0 hx303_0 hHeld ⊢
                                refine pure_ (i := 0) (N := some 82) (v := ?_) (a' := ?_) #[true, false, false, false, false, false, false, false, false, false, false, false, false, false, false, false, false, false, false, false, false, false, false, false] rfl rfl (any_of HT_.out (by kernel_rfl)) (fun _ _ _ h => h) (Or.inl ⟨by rfl, ?_⟩) ?_ ?_
                                rotate_left
                                · intro w'
                                  go_simp
                                  with_reducible rfl
                                rotate_left
                                · simp only [Act.put, List.setIfInBounds_toArray, List.set_cons_zero, List.set_cons_succ, i64_w, i32_w]
                                  rfl
                                refine pure_ (i := 1) (N := some 83) (v := ?_) (a' := ?_) #[true, true, false, false, false, false, false, false, false, false, false, false, false, false, false, false, false, false, false, false, false, false, false, false] rfl rfl (any_of HT_.out (by kernel_rfl)) (fun _ _ _ h => h) (Or.inl ⟨by rfl, ?_⟩) ?_ ?_
                                rotate_left
                                · intro w'
                                  go_simp
                                  with_reducible rfl
                                rotate_left
                                · simp only [Act.put, List.setIfInBounds_toArray, List.set_cons_zero, List.set_cons_succ, i64_w, i32_w]
                                  rfl
                                refine pure_ (i := 3) (N := some 85) (v := ?_) (a' := ?_) #[true, true, false, true, false, false, false, false, false, false, false, false, false, false, false, false, false, false, false, false, false, false, false, false] rfl rfl (any_of HT_.out (by kernel_rfl)) (fun _ _ _ h => h) (Or.inl ⟨by rfl, ?_⟩) ?_ ?_
                                rotate_left
                                · intro w'
                                  go_simp
                                  with_reducible rfl
                                rotate_left
                                · simp only [Act.put, List.setIfInBounds_toArray, List.set_cons_zero, List.set_cons_succ, i64_w, i32_w]
                                  rfl
                                refine pure_ (i := 4) (N := some 86) (v := ?_) (a' := ?_) #[true, true, false, true, true, false, false, false, false, false, false, false, false, false, false, false, false, false, false, false, false, false, false, false] rfl rfl (any_of HT_.out (by kernel_rfl)) (fun _ _ _ h => h) (Or.inl ⟨by rfl, ?_⟩) ?_ ?_
                                rotate_left
                                · intro w'
                                  go_simp
                                  with_reducible rfl
                                rotate_left
                                · simp only [Act.put, List.setIfInBounds_toArray, List.set_cons_zero, List.set_cons_succ, i64_w, i32_w]
                                  rfl
                                refine pure_ (i := 7) (N := some 89) (v := ?_) (a' := ?_) #[true, true, false, true, true, false, false, true, false, false, false, false, false, false, false, false, false, false, false, false, false, false, false, false] rfl rfl (any_of HT_.out (by kernel_rfl)) (fun _ _ _ h => h) (Or.inl ⟨by rfl, ?_⟩) ?_ ?_
                                rotate_left
                                · intro w'
                                  go_simp
                                  with_reducible rfl
                                rotate_left
                                · simp only [Act.put, List.setIfInBounds_toArray, List.set_cons_zero, List.set_cons_succ, i64_w, i32_w]
                                  rfl
                                refine pure_ (i := 8) (N := some 90) (v := ?_) (a' := ?_) #[true, true, false, true, true, false, false, true, true, false, false, false, false, false, false, false, false, false, false, false, false, false, false, false] rfl rfl (any_of HT_.out (by kernel_rfl)) (fun _ _ _ h => h) (Or.inl ⟨by rfl, ?_⟩) ?_ ?_
                                rotate_left
                                · intro w'
                                  go_simp
                                  with_reducible rfl
                                rotate_left
                                · simp only [Act.put, List.setIfInBounds_toArray, List.set_cons_zero, List.set_cons_succ, i64_w, i32_w]
                                  rfl
                                refine pure_ (i := 10) (N := some 92) (v := ?_) (a' := ?_) #[true, true, false, true, true, false, false, true, true, false, true, false, false, false, false, false, false, false, false, false, false, false, false, false] rfl rfl (any_of HT_.out (by kernel_rfl)) (fun _ _ _ h => h) (Or.inl ⟨by rfl, ?_⟩) ?_ ?_
                                rotate_left
                                · intro w'
                                  go_simp
                                  with_reducible rfl
                                rotate_left
                                · simp only [Act.put, List.setIfInBounds_toArray, List.set_cons_zero, List.set_cons_succ, i64_w, i32_w]
                                  rfl
                                refine pure_ (i := 11) (N := some 93) (v := ?_) (a' := ?_) #[true, true, false, true, true, false, false, true, true, false, true, true, false, false, false, false, false, false, false, false, false, false, false, false] rfl rfl (any_of HT_.out (by kernel_rfl)) (fun _ _ _ h => h) (Or.inl ⟨by rfl, ?_⟩) ?_ ?_
                                rotate_left
                                · intro w'
                                  go_simp
                                  with_reducible rfl
                                rotate_left
                                · simp only [Act.put, List.setIfInBounds_toArray, List.set_cons_zero, List.set_cons_succ, i64_w, i32_w]
                                  rfl
                                refine pure_ (i := 15) (N := some 97) (v := ?_) (a' := ?_) #[true, true, false, true, true, false, false, true, true, false, true, true, false, false, false, true, false, false, false, false, false, false, false, false] rfl rfl (any_of HT_.out (by kernel_rfl)) (fun _ _ _ h => h) (Or.inl ⟨by rfl, ?_⟩) ?_ ?_
                                rotate_left
                                · intro w'
                                  go_simp
                                  with_reducible rfl
                                rotate_left
                                · simp only [Act.put, List.setIfInBounds_toArray, List.set_cons_zero, List.set_cons_succ, i64_w, i32_w]
                                  rfl
                                refine pure_ (i := 16) (N := some 98) (v := ?_) (a' := ?_) #[true, true, false, true, true, false, false, true, true, false, true, true, false, false, false, true, true, false, false, false, false, false, false, false] rfl rfl (any_of HT_.out (by kernel_rfl)) (fun _ _ _ h => h) (Or.inl ⟨by rfl, ?_⟩) ?_ ?_
                                rotate_left
                                · intro w'
                                  go_simp
                                  with_reducible rfl
                                rotate_left
                                · simp only [Act.put, List.setIfInBounds_toArray, List.set_cons_zero, List.set_cons_succ, i64_w, i32_w]
                                  rfl
                                refine pure_ (i := 18) (N := some 100) (v := ?_) (a' := ?_) #[true, true, false, true, true, false, false, true, true, false, true, true, false, false, false, true, true, false, true, false, false, false, false, false] rfl rfl (any_of HT_.out (by kernel_rfl)) (fun _ _ _ h => h) (Or.inl ⟨by rfl, ?_⟩) ?_ ?_
                                rotate_left
                                · intro w'
                                  go_simp
                                  with_reducible rfl
                                rotate_left
                                · simp only [Act.put, List.setIfInBounds_toArray, List.set_cons_zero, List.set_cons_succ, i64_w, i32_w]
                                  rfl
                                refine pure_ (i := 19) (N := some 101) (v := ?_) (a' := ?_) #[true, true, false, true, true, false, false, true, true, false, true, true, false, false, false, true, true, false, true, true, false, false, false, false] rfl rfl (any_of HT_.out (by kernel_rfl)) (fun _ _ _ h => h) (Or.inl ⟨by rfl, ?_⟩) ?_ ?_
                                rotate_left
                                · intro w'
                                  go_simp
                                  with_reducible rfl
                                rotate_left
                                · simp only [Act.put, List.setIfInBounds_toArray, List.set_cons_zero, List.set_cons_succ, i64_w, i32_w]
                                  rfl
                                refine take_ (i := 2) (N := some 84) (v := ?_) (a' := ?_) #[true, true, true, true, true, false, false, true, true, false, true, true, false, false, false, true, true, false, true, true, false, false, false, false] rfl rfl (take_ofW HT_.out HW_.out (by kernel_rfl)) (fun _ _ _ h => h) (Or.inl ⟨by rfl, ?_⟩) hHeld ?_ ?_
                                rotate_left
                                · rintro w' ⟨s0, s1, s2, s3, s4, s5⟩
                                  go_simp
                                  with_reducible rfl
                                rotate_left
                                · simp only [Act.put, List.setIfInBounds_toArray, List.set_cons_zero, List.set_cons_succ, i64_w, i32_w]
                                  rfl
                                refine take_ (i := 5) (N := some 87) (v := ?_) (a' := ?_) #[true, true, true, true, true, true, false, true, true, false, true, true, false, false, false, true, true, false, true, true, false, false, false, false] rfl rfl (take_ofW HT_.out HW_.out (by kernel_rfl)) (fun _ _ _ h => h) (Or.inl ⟨by rfl, ?_⟩) hHeld ?_ ?_
                                rotate_left
                                · rintro w' ⟨s0, s1, s2, s3, s4, s5⟩
                                  go_simp
                                  with_reducible rfl
                                rotate_left
                                · simp only [Act.put, List.setIfInBounds_toArray, List.set_cons_zero, List.set_cons_succ, i64_w, i32_w]
                                  rfl
                                refine pure_ (i := 6) (N := some 88) (v := ?_) (a' := ?_) #[true, true, true, true, true, true, true, true, true, false, true, true, false, false, false, true, true, false, true, true, false, false, false, false] rfl rfl (any_of HT_.out (by kernel_rfl)) (fun _ _ _ h => h) (Or.inl ⟨by rfl, ?_⟩) ?_ ?_
                                rotate_left
                                · intro w'
                                  go_simp
                                  with_reducible rfl
                                rotate_left
                                · simp only [Act.put, List.setIfInBounds_toArray, List.set_cons_zero, List.set_cons_succ, i64_w, i32_w]
                                  rfl
                                refine take_ (i := 9) (N := some 91) (v := ?_) (a' := ?_) #[true, true, true, true, true, true, true, true, true, true, true, true, false, false, false, true, true, false, true, true, false, false, false, false] rfl rfl (take_ofW HT_.out HW_.out (by kernel_rfl)) (fun _ _ _ h => h) (Or.inl ⟨by rfl, ?_⟩) hHeld ?_ ?_
                                rotate_left
                                · rintro w' ⟨s0, s1, s2, s3, s4, s5⟩
                                  go_simp
                                  with_reducible rfl
                                rotate_left
                                · simp only [Act.put, List.setIfInBounds_toArray, List.set_cons_zero, List.set_cons_succ, i64_w, i32_w]
                                  rfl
                                refine take_ (i := 12) (N := some 94) (v := ?_) (a' := ?_) #[true, true, true, true, true, true, true, true, true, true, true, true, true, false, false, true, true, false, true, true, false, false, false, false] rfl rfl (take_ofW HT_.out HW_.out (by kernel_rfl)) (fun _ _ _ h => h) (Or.inl ⟨by rfl, ?_⟩) hHeld ?_ ?_
                                rotate_left
                                · rintro w' ⟨s0, s1, s2, s3, s4, s5⟩
                                  go_simp
                                  with_reducible rfl
                                rotate_left
                                · simp only [Act.put, List.setIfInBounds_toArray, List.set_cons_zero, List.set_cons_succ, i64_w, i32_w]
                                  rfl
                                refine pure_ (i := 13) (N := some 95) (v := ?_) (a' := ?_) #[true, true, true, true, true, true, true, true, true, true, true, true, true, true, false, true, true, false, true, true, false, false, false, false] rfl rfl (any_of HT_.out (by kernel_rfl)) (fun _ _ _ h => h) (Or.inl ⟨by rfl, ?_⟩) ?_ ?_
                                rotate_left
                                · intro w'
                                  go_simp
                                  with_reducible rfl
                                rotate_left
                                · simp only [Act.put, List.setIfInBounds_toArray, List.set_cons_zero, List.set_cons_succ, i64_w, i32_w]
                                  rfl
                                refine pure_ (i := 14) (N := some 96) (v := ?_) (a' := ?_) #[true, true, true, true, true, true, true, true, true, true, true, true, true, true, true, true, true, false, true, true, false, false, false, false] rfl rfl (any_of HT_.out (by kernel_rfl)) (fun _ _ _ h => h) (Or.inl ⟨by rfl, ?_⟩) ?_ ?_
                                rotate_left
                                · intro w'
                                  go_simp
                                  with_reducible rfl
                                rotate_left
                                · simp only [Act.put, List.setIfInBounds_toArray, List.set_cons_zero, List.set_cons_succ, i64_w, i32_w]
                                  rfl
                                refine take_ (i := 17) (N := some 99) (v := ?_) (a' := ?_) #[true, true, true, true, true, true, true, true, true, true, true, true, true, true, true, true, true, true, true, true, false, false, false, false] rfl rfl (take_ofW HT_.out HW_.out (by kernel_rfl)) (fun _ _ _ h => h) (Or.inl ⟨by rfl, ?_⟩) hHeld ?_ ?_
                                rotate_left
                                · rintro w' ⟨s0, s1, s2, s3, s4, s5⟩
                                  go_simp
                                  with_reducible rfl
                                rotate_left
                                · simp only [Act.put, List.setIfInBounds_toArray, List.set_cons_zero, List.set_cons_succ, i64_w, i32_w]
                                  rfl
                                refine take_ (i := 20) (N := some 102) (v := ?_) (a' := ?_) #[true, true, true, true, true, true, true, true, true, true, true, true, true, true, true, true, true, true, true, true, true, false, false, false] rfl rfl (take_ofW HT_.out HW_.out (by kernel_rfl)) (fun _ _ _ h => h) (Or.inl ⟨by rfl, ?_⟩) hHeld ?_ ?_
                                rotate_left
                                · rintro w' ⟨s0, s1, s2, s3, s4, s5⟩
                                  go_simp
                                  with_reducible rfl
                                rotate_left
                                · simp only [Act.put, List.setIfInBounds_toArray, List.set_cons_zero, List.set_cons_succ, i64_w, i32_w]
                                  rfl
                                refine pure_ (i := 21) (N := some 103) (v := ?_) (a' := ?_) #[true, true, true, true, true, true, true, true, true, true, true, true, true, true, true, true, true, true, true, true, true, true, false, false] rfl rfl (any_of HT_.out (by kernel_rfl)) (fun _ _ _ h => h) (Or.inl ⟨by rfl, ?_⟩) ?_ ?_
                                rotate_left
                                · intro w'
                                  go_simp
                                  with_reducible rfl
                                rotate_left
                                · simp only [Act.put, List.setIfInBounds_toArray, List.set_cons_zero, List.set_cons_succ, i64_w, i32_w]
                                  rfl
                                refine pure_ (i := 22) (N := some 104) (v := ?_) (a' := ?_) #[true, true, true, true, true, true, true, true, true, true, true, true, true, true, true, true, true, true, true, true, true, true, true, false] rfl rfl (any_of HT_.out (by kernel_rfl)) (fun _ _ _ h => h) (Or.inl ⟨by rfl, ?_⟩) ?_ ?_
                                rotate_left
                                · intro w'
                                  go_simp
                                  with_reducible rfl
                                rotate_left
                                · simp only [Act.put, List.setIfInBounds_toArray, List.set_cons_zero, List.set_cons_succ, i64_w, i32_w]
                                  rfl
                                refine pure_ (i := 23) (N := some 11) (v := ?_) (a' := ?_) #[true, true, true, true, true, true, true, true, true, true, true, true, true, true, true, true, true, true, true, true, true, true, true, true] rfl rfl (any_of HT_.out (by kernel_rfl)) (fun _ _ _ h => h) (Or.inl ⟨by rfl, ?_⟩) ?_ ?_
                                rotate_left
                                · intro w'
                                  go_simp
                                  with_reducible rfl
                                rotate_left
                                · simp only [Act.put, List.setIfInBounds_toArray, List.set_cons_zero, List.set_cons_succ, i64_w, i32_w]
                                  rfl
                                refine done_ (done_of HT_.out (by kernel_rfl)) ?_
                                try go_wp2_with (first | ((with_reducible refine gate_callee (f := 45) rfl ?_); refine goesL_ (some 107) rfl rfl Try.func45 (by kernel_rfl) rfl #[.slice Ao8 t275.length co8] rfl Sqz.auM ?_; (with_reducible refine (laws_minusOf.calls kj5 _ _ t275 t304 _ ?side1 ?side2 A31.out).mono ?_); (case side1 => exact Sqz.mvC ((Kd.Q_reads' HO_3.out).2.2)); (case side2 => exact (Kd.Q_reads' HO_3.out).2.1); rintro e w63 ⟨v305, rfl, ho0, hb⟩; refine ⟨_, rfl, ?_⟩; have n0_ := Aside0.mk (Kd.Q_elder' ((Sqz.mvQ HO_3.out)) (Kd.R_base ho0) hb); have n1_ := Aside0.mk (Kd.Q_elder' ((Sqz.mvQ HO_4.out)) (Kd.R_base ho0) hb); have n2_ := Aside0.mk (Kd.R_elder' ((Sqz.mvR HO_5.out)) (Kd.R_base ho0) hb); have n3_ := Aside0.mk (Kd.Q_elder' ((Sqz.mvQ HO_7.out)) (Kd.R_base ho0) hb); have n4_ := Aside0.mk (Kd.R_lower (Kd.R_new' (Kd.R_new' (Kd.R_new' (Kd.R_new' ho0 (Kd.Q_lt ((Sqz.mvQ HO_3.out)))) (Kd.Q_lt ((Sqz.mvQ HO_4.out)))) (Kd.R_lt ((Sqz.mvR HO_5.out)))) (Kd.Q_lt ((Sqz.mvQ HO_7.out)))) (below_size (Sqz.auHB))); have n5_ := Aside0.mk (below_step (Sqz.auHB) hb); clear HO_3; clear HO_4; clear HO_5; clear HO_7; clear HB; have HO_3 := n0_; have HO_4 := n1_; have HO_5 := n2_; have HO_7 := n3_; have HO306 := n4_; have HB := n5_; clear n0_ n1_ n2_ n3_ n4_ n5_; (try clear hb); (try clear hb2); (try clear hk); (try clear hi); (try clear ho0); obtain ⟨Ao64, co64, eo64⟩ := Kd.R_slice HO306.out; subst eo64) | ((with_reducible refine gate_callee (f := 43) rfl ?_); refine goesL_ (some 109) rfl rfl Try.func43 (by kernel_rfl) rfl #[.slice Ao64 t304.length co64, .slice (some ad298) t276.length co9] rfl Sqz.auM ?_; (with_reducible refine (impl_QuatTurn.calls kj5 _ _ t304 _ _ t276 t307 true _ ?side1 ?side2 ?side3 ?side4 A32.out).mono ?_); (case side1 => exact Sqz.mvC ((Kd.R_reads' HO306.out).2.2)); (case side2 => exact (Kd.R_reads' HO306.out).2.1); (case side3 => exact Sqz.mvC ((Kd.Q_reads' HO_4.out).2.2)); (case side4 => exact (Kd.Q_reads' HO_4.out).2.1); rintro e w65 ⟨v309, rfl, ho0, hb⟩; refine ⟨_, rfl, ?_⟩; have n0_ := Aside0.mk (Kd.Q_elder' ((Sqz.mvQ HO_3.out)) (Kd.R_base ho0) hb); have n1_ := Aside0.mk (Kd.Q_elder' ((Sqz.mvQ HO_4.out)) (Kd.R_base ho0) hb); have n2_ := Aside0.mk (Kd.R_elder' ((Sqz.mvR HO_5.out)) (Kd.R_base ho0) hb); have n3_ := Aside0.mk (Kd.Q_elder' ((Sqz.mvQ HO_7.out)) (Kd.R_base ho0) hb); have n4_ := Aside0.mk (Kd.R_elder' ((Sqz.mvR HO306.out)) (Kd.R_base ho0) hb); have n5_ := Aside0.mk (Kd.R_lower (Kd.R_new' (Kd.R_new' (Kd.R_new' (Kd.R_new' (Kd.R_new' ho0 (Kd.Q_lt ((Sqz.mvQ HO_3.out)))) (Kd.Q_lt ((Sqz.mvQ HO_4.out)))) (Kd.R_lt ((Sqz.mvR HO_5.out)))) (Kd.Q_lt ((Sqz.mvQ HO_7.out)))) (Kd.R_lt ((Sqz.mvR HO306.out)))) (below_size (Sqz.auHB))); have n6_ := Aside0.mk (below_step (Sqz.auHB) hb); clear HO_3; clear HO_4; clear HO_5; clear HO_7; clear HO306; clear HB; have HO_3 := n0_; have HO_4 := n1_; have HO_5 := n2_; have HO_7 := n3_; have HO306 := n4_; have HO310 := n5_; have HB := n6_; clear n0_ n1_ n2_ n3_ n4_ n5_ n6_; (try clear hb); (try clear hb2); (try clear hk); (try clear hi); (try clear ho0); have q66 : (1 : Int) ≤ ((t275.length : Int) : Int) := of_decide_eq_true (by first | (with_reducible assumption) | assumption); obtain ⟨i066, hi066, _, hsz66, _⟩ := info_parts info3; have hroom66 : t275.length ≤ co8 := (Kd.Q_reads' HO_3.out).2.1; have hC66 : Kd.C (Kd.int .i64) _ Ao8 t275.length t275 := (Kd.Q_reads' HO_3.out).2.2; have hcut66 := cut_from (P := Try.prog) 26 3 .i64 Try.underlying26 hi066 1 hsz66 Ao8 t275.length co8 1 (by omega) q66; have hr66 := Kd.C_drop (m := (1 : Int).toNat) (c := co8) hC66 (by omega) hroom66; obtain ⟨A66, hA66⟩ : ∃ A1, A1 = (if co8 = (1 : Int).toNat then Ao8 else (Ao8 : Option Addr).map (·.add ((1 : Int).toNat * 1))) := ⟨_, rfl⟩; obtain ⟨c66, hc66⟩ : ∃ c1, c1 = co8 - (1 : Int).toNat := ⟨_, rfl⟩; have hy66 : y311.length = t275.length - (1 : Int).toNat := (by rw [Ny311.out, List.length_drop] <;> omega); rw [show (t275).drop (1 : Int).toNat = y311 from Ny311.out.symm] at hr66; replace hr66 : Kd.C (Kd.int .i64) _ A66 y311.length y311 := (by rw [hA66]; exact hr66); rw [← hy66, ← hA66, ← hc66] at hcut66; have HR314 := Aside0.mk hr66; have HC314 := Aside0.mk (show y311.length ≤ c66 from by rw [hy66, hc66]; exact Nat.sub_le_sub_right hroom66 _); clear hr66 hC66 hroom66 hi066 hsz66 hc66; have KY66 := Aside0.mk hy66; have KA66 := Aside0.mk hA66; clear hy66 hA66; have KL66 := Aside0.mk (show 1 ≤ t275.length from by omega); replace q66 := eq_true q66) | ((with_reducible refine gate_callee (f := 43) rfl ?_); refine goesL_ (some 116) rfl rfl Try.func43 (by kernel_rfl) rfl #[.slice Ao8 t275.length co8, .slice A66 y311.length c66] rfl Sqz.auM ?_; (with_reducible refine (impl_QuatTurn.calls kj5 _ _ t275 _ _ y311 t315 false _ ?side1 ?side2 ?side3 ?side4 A34.out).mono ?_); (case side1 => exact Sqz.mvC ((Kd.Q_reads' HO_3.out).2.2)); (case side2 => exact (Kd.Q_reads' HO_3.out).2.1); (case side3 => repeat (first | exact (by repeat (first | (with_reducible exact HR314.out) | (with_reducible refine Kd.C_alloc ?_ _) | (with_reducible refine Kd.C_drewN ?_ _) | (with_reducible refine Kd.C_drew ?_) | exact HR314.out)) | (with_reducible refine Kd.C_alloc ?_ _) | (with_reducible refine Kd.C_drewN ?_ _) | (with_reducible refine Kd.C_drew ?_))); (case side4 => exact HC314.out); rintro e w67 ⟨v317, rfl, ho0, hb⟩; refine ⟨_, rfl, ?_⟩; have n0_ := Aside0.mk (Kd.Q_elder' ((Sqz.mvQ HO_3.out)) (Kd.R_base ho0) hb); have n1_ := Aside0.mk (Kd.Q_elder' ((Sqz.mvQ HO_4.out)) (Kd.R_base ho0) hb); have n2_ := Aside0.mk (Kd.R_elder' ((Sqz.mvR HO_5.out)) (Kd.R_base ho0) hb); have n3_ := Aside0.mk (Kd.Q_elder' ((Sqz.mvQ HO_7.out)) (Kd.R_base ho0) hb); have n4_ := Aside0.mk (Kd.R_elder' ((Sqz.mvR HO306.out)) (Kd.R_base ho0) hb); have n5_ := Aside0.mk (Kd.R_elder' ((Sqz.mvR HO310.out)) (Kd.R_base ho0) hb); have n6_ := Aside0.mk (Kd.R_lower (Kd.R_new' (Kd.R_new' (Kd.R_new' (Kd.R_new' (Kd.R_new' (Kd.R_new' ho0 (Kd.Q_lt ((Sqz.mvQ HO_3.out)))) (Kd.Q_lt ((Sqz.mvQ HO_4.out)))) (Kd.R_lt ((Sqz.mvR HO_5.out)))) (Kd.Q_lt ((Sqz.mvQ HO_7.out)))) (Kd.R_lt ((Sqz.mvR HO306.out)))) (Kd.R_lt ((Sqz.mvR HO310.out)))) (below_size (Sqz.auHB))); have n7_ := Aside0.mk (Kd.C_below (by repeat (first | (with_reducible exact HR314.out) | (with_reducible refine Kd.C_alloc ?_ _) | (with_reducible refine Kd.C_drewN ?_ _) | (with_reducible refine Kd.C_drew ?_) | exact HR314.out)) hb); have n8_ := Aside0.mk (below_step (Sqz.auHB) hb); clear HO_3; clear HO_4; clear HO_5; clear HO_7; clear HO306; clear HO310; clear HR314; clear HB; have HO_3 := n0_; have HO_4 := n1_; have HO_5 := n2_; have HO_7 := n3_; have HO306 := n4_; have HO310 := n5_; have HO318 := n6_; have HR314 := n7_; have HB := n8_; clear n0_ n1_ n2_ n3_ n4_ n5_ n6_ n7_ n8_; (try clear hb); (try clear hb2); (try clear hk); (try clear hi); (try clear ho0)))
                                have n0_ := Aside0.mk (Kd.Q_drew HO_3.out)
                                have n1_ := Aside0.mk (Kd.Q_drew HO_4.out)
                                have n2_ := Aside0.mk (Kd.R_drew HO_5.out)
                                have n3_ := Aside0.mk (Kd.Q_drew HO_7.out)
                                have n4_ := Aside0.mk (Kd.R_drew HO306.out)
                                have n5_ := Aside0.mk (Kd.R_drew HO310.out)
                                have n6_ := Aside0.mk (Kd.R_drew HO318.out)
                                have n7_ := Aside0.mk (Kd.C_drew HR314.out)
                                have n8_ := Aside0.mk (below_drew1 HB.out)
                                clear HO_3
                                clear HO_4
                                clear HO_5
                                clear HO_7
                                clear HO306
                                clear HO310
                                clear HO318
                                clear HR314
                                clear HB
                                have HO_3 := n0_
                                have HO_4 := n1_
                                have HO_5 := n2_
                                have HO_7 := n3_
                                have HO306 := n4_
                                have HO310 := n5_
                                have HO318 := n6_
                                have HR314 := n7_
                                have HB := n8_
                                clear n0_ n1_ n2_ n3_ n4_ n5_ n6_ n7_ n8_
                                obtain ⟨Ao69, co69, eo69⟩ := Kd.R_slice HO310.out
                                (first | subst eo69 | (injection eo69 with f1_ f2_ f3_; have f4_ := f1_.symm; have f5_ := f3_.symm; clear f1_ f2_ f3_; subst f4_; subst f5_))
                                refine start_ (n := 40) (S := fun w' => True) (ds := []) #[false, false, false, false, false, false, false, false, false, false, false, false, false, false, false, false, false, false, false, false, false, false, false, false, false, false, false, false, false, false, false, false, false, false, false, false, false, false, false, false] (by kernel_rfl) rfl rfl trivial (fun hHeld => ?_); refine with_tabW laws_FnTurn.tab13 laws_FnTurn.bits13 (fun HT_ HW_ => ?_)
                                generalize w67.drew = w68 at HO_3 HO_4 HO_5 HO_7 HO306 HO310 HO318 HR314 HB hHeld ⊢
                                refine pure_ (i := 0) (N := some 119) (v := ?_) (a' := ?_) #[true, false, false, false, false, false, false, false, false, false, false, false, false, false, false, false, false, false, false, false, false, false, false, false, false, false, false, false, false, false, false, false, false, false, false, false, false, false, false, false] rfl rfl (any_of HT_.out (by kernel_rfl)) (fun _ _ _ h => h) (Or.inl ⟨by rfl, ?_⟩) ?_ ?_
                                rotate_left
                                · intro w'
                                  go_simp
                                  with_reducible rfl
                                rotate_left
                                · simp only [Act.put, List.setIfInBounds_toArray, List.set_cons_zero, List.set_cons_succ, i64_w, i32_w]
                                  rfl
                                refine pure_ (i := 1) (N := some 120) (v := ?_) (a' := ?_) #[true, true, false, false, false, false, false, false, false, false, false, false, false, false, false, false, false, false, false, false, false, false, false, false, false, false, false, false, false, false, false, false, false, false, false, false, false, false, false, false] rfl rfl (any_of HT_.out (by kernel_rfl)) (fun _ _ _ h => h) (Or.inl ⟨by rfl, ?_⟩) ?_ ?_
                                rotate_left
                                · intro w'
                                  go_simp
                                  with_reducible rfl
                                rotate_left
                                · simp only [Act.put, List.setIfInBounds_toArray, List.set_cons_zero, List.set_cons_succ, i64_w, i32_w]
                                  rfl
                                refine pure_ (i := 2) (N := some 121) (v := ?_) (a' := ?_) #[true, true, true, false, false, false, false, false, false, false, false, false, false, false, false, false, false, false, false, false, false, false, false, false, false, false, false, false, false, false, false, false, false, false, false, false, false, false, false, false] rfl rfl (any_of HT_.out (by kernel_rfl)) (fun _ _ _ h => h) (Or.inl ⟨by rfl, ?_⟩) ?_ ?_
                                rotate_left
                                · intro w'
                                  go_simp
                                  with_reducible rfl
                                rotate_left
                                · simp only [Act.put, List.setIfInBounds_toArray, List.set_cons_zero, List.set_cons_succ, i64_w, i32_w]
                                  rfl
                                refine pure_ (i := 3) (N := some 122) (v := ?_) (a' := ?_) #[true, true, true, true, false, false, false, false, false, false, false, false, false, false, false, false, false, false, false, false, false, false, false, false, false, false, false, false, false, false, false, false, false, false, false, false, false, false, false, false] rfl rfl (any_of HT_.out (by kernel_rfl)) (fun _ _ _ h => h) (Or.inl ⟨by rfl, ?_⟩) ?_ ?_
                                rotate_left
                                · intro w'
                                  go_simp
                                  with_reducible rfl
                                rotate_left
                                · simp only [Act.put, List.setIfInBounds_toArray, List.set_cons_zero, List.set_cons_succ, i64_w, i32_w]
                                  rfl
                                refine pure_ (i := 4) (N := some 123) (v := ?_) (a' := ?_) #[true, true, true, true, true, false, false, false, false, false, false, false, false, false, false, false, false, false, false, false, false, false, false, false, false, false, false, false, false, false, false, false, false, false, false, false, false, false, false, false] rfl rfl (any_of HT_.out (by kernel_rfl)) (fun _ _ _ h => h) (Or.inl ⟨by rfl, ?_⟩) ?_ ?_
                                rotate_left
                                · intro w'
                                  go_simp
                                  with_reducible rfl
                                rotate_left
                                · simp only [Act.put, List.setIfInBounds_toArray, List.set_cons_zero, List.set_cons_succ, i64_w, i32_w]
                                  rfl
                                refine pure_ (i := 5) (N := some 124) (v := ?_) (a' := ?_) #[true, true, true, true, true, true, false, false, false, false, false, false, false, false, false, false, false, false, false, false, false, false, false, false, false, false, false, false, false, false, false, false, false, false, false, false, false, false, false, false] rfl rfl (any_of HT_.out (by kernel_rfl)) (fun _ _ _ h => h) (Or.inl ⟨by rfl, ?_⟩) ?_ ?_
                                rotate_left
                                · intro w'
                                  go_simp
                                  with_reducible rfl
                                rotate_left
                                · simp only [Act.put, List.setIfInBounds_toArray, List.set_cons_zero, List.set_cons_succ, i64_w, i32_w]
                                  rfl
                                refine pure_ (i := 6) (N := some 125) (v := ?_) (a' := ?_) #[true, true, true, true, true, true, true, false, false, false, false, false, false, false, false, false, false, false, false, false, false, false, false, false, false, false, false, false, false, false, false, false, false, false, false, false, false, false, false, false] rfl rfl (any_of HT_.out (by kernel_rfl)) (fun _ _ _ h => h) (Or.inl ⟨by rfl, ?_⟩) ?_ ?_
                                rotate_left
                                · intro w'
                                  go_simp
                                  with_reducible rfl
                                rotate_left
                                · simp only [Act.put, List.setIfInBounds_toArray, List.set_cons_zero, List.set_cons_succ, i64_w, i32_w]
                                  rfl
                                refine pure_ (i := 7) (N := some 126) (v := ?_) (a' := ?_) #[true, true, true, true, true, true, true, true, false, false, false, false, false, false, false, false, false, false, false, false, false, false, false, false, false, false, false, false, false, false, false, false, false, false, false, false, false, false, false, false] rfl rfl (any_of HT_.out (by kernel_rfl)) (fun _ _ _ h => h) (Or.inl ⟨by rfl, ?_⟩) ?_ ?_
                                rotate_left
                                · intro w'
                                  go_simp
                                  with_reducible rfl
                                rotate_left
                                · simp only [Act.put, List.setIfInBounds_toArray, List.set_cons_zero, List.set_cons_succ, i64_w, i32_w]
                                  rfl
                                refine pure_ (i := 8) (N := some 127) (v := ?_) (a' := ?_) #[true, true, true, true, true, true, true, true, true, false, false, false, false, false, false, false, false, false, false, false, false, false, false, false, false, false, false, false, false, false, false, false, false, false, false, false, false, false, false, false] rfl rfl (any_of HT_.out (by kernel_rfl)) (fun _ _ _ h => h) (Or.inl ⟨by rfl, ?_⟩) ?_ ?_
                                rotate_left
                                · intro w'
                                  go_simp
                                  with_reducible rfl
                                rotate_left
                                · simp only [Act.put, List.setIfInBounds_toArray, List.set_cons_zero, List.set_cons_succ, i64_w, i32_w]
                                  rfl
                                refine pure_ (i := 9) (N := some 128) (v := ?_) (a' := ?_) #[true, true, true, true, true, true, true, true, true, true, false, false, false, false, false, false, false, false, false, false, false, false, false, false, false, false, false, false, false, false, false, false, false, false, false, false, false, false, false, false] rfl rfl (any_of HT_.out (by kernel_rfl)) (fun _ _ _ h => h) (Or.inl ⟨by rfl, ?_⟩) ?_ ?_
                                rotate_left
                                · intro w'
                                  go_simp
                                  with_reducible rfl
                                rotate_left
                                · simp only [Act.put, List.setIfInBounds_toArray, List.set_cons_zero, List.set_cons_succ, i64_w, i32_w]
                                  rfl
                                refine pure_ (i := 10) (N := some 129) (v := ?_) (a' := ?_) #[true, true, true, true, true, true, true, true, true, true, true, false, false, false, false, false, false, false, false, false, false, false, false, false, false, false, false, false, false, false, false, false, false, false, false, false, false, false, false, false] rfl rfl (any_of HT_.out (by kernel_rfl)) (fun _ _ _ h => h) (Or.inl ⟨by rfl, ?_⟩) ?_ ?_
                                rotate_left
                                · intro w'
                                  go_simp
                                  with_reducible rfl
                                rotate_left
                                · simp only [Act.put, List.setIfInBounds_toArray, List.set_cons_zero, List.set_cons_succ, i64_w, i32_w]
                                  rfl
                                refine pure_ (i := 11) (N := some 130) (v := ?_) (a' := ?_) #[true, true, true, true, true, true, true, true, true, true, true, true, false, false, false, false, false, false, false, false, false, false, false, false, false, false, false, false, false, false, false, false, false, false, false, false, false, false, false, false] rfl rfl (any_of HT_.out (by kernel_rfl)) (fun _ _ _ h => h) (Or.inl ⟨by rfl, ?_⟩) ?_ ?_
                                rotate_left
                                · intro w'
                                  go_simp
                                  with_reducible rfl
                                rotate_left
                                · simp only [Act.put, List.setIfInBounds_toArray, List.set_cons_zero, List.set_cons_succ, i64_w, i32_w]
                                  rfl
                                refine pure_ (i := 12) (N := some 131) (v := ?_) (a' := ?_) #[true, true, true, true, true, true, true, true, true, true, true, true, true, false, false, false, false, false, false, false, false, false, false, false, false, false, false, false, false, false, false, false, false, false, false, false, false, false, false, false] rfl rfl (any_of HT_.out (by kernel_rfl)) (fun _ _ _ h => h) (Or.inl ⟨by rfl, ?_⟩) ?_ ?_
                                rotate_left
                                · intro w'
                                  go_simp
                                  with_reducible rfl
                                rotate_left
                                · simp only [Act.put, List.setIfInBounds_toArray, List.set_cons_zero, List.set_cons_succ, i64_w, i32_w]
                                  rfl
                                refine one_ (i := 13) (N := some 132) #[true, true, true, true, true, true, true, true, true, true, true, true, true, true, false, false, false, false, false, false, false, false, false, false, false, false, false, false, false, false, false, false, false, false, false, false, false, false, false, false] rfl rfl (one_of HT_.out (by kernel_rfl)) (by decide) (fun K hK => ?_)
                                refine goes_ Try.func36 (by kernel_rfl) rfl #[.slice Ao69 t307.length co69, .slice (some ad292) t281.length co61] (by rfl) rfl rfl Sqz.auM ?_
                                with_reducible refine (laws_sameInts.calls kj5 _ _ t307 _ _ t281 true _ ?side1 ?side2 ?side3 ?side4 A37.out).mono ?_
                                (case side1 => exact Sqz.mvC ((Kd.R_reads' HO310.out).2.2))
                                (case side2 => exact (Kd.R_reads' HO310.out).2.1)
                                (case side3 => exact Sqz.mvC ((Kd.R_reads' HO_5.out).2.2))
                                (case side4 => exact (Kd.R_reads' HO_5.out).2.1)
                                rintro e w' ⟨rfl, ⟨nd, rfl⟩⟩
                                refine ⟨_, rfl, ?_⟩
                                refine hK.out _ _ trivial (fun hHeld => ?_)
                                clear hK K
                                refine norm_ (a' := ?_) ?_ ?_
                                rotate_left
                                · show Act.put _ (some 132) _ = _
                                  simp only [Act.put, List.setIfInBounds_toArray, List.set_cons_zero, List.set_cons_succ, i64_w, i32_w]
                                  rfl
                                refine pure_ (i := 14) (N := some 133) (v := ?_) (a' := ?_) #[true, true, true, true, true, true, true, true, true, true, true, true, true, true, true, false, false, false, false, false, false, false, false, false, false, false, false, false, false, false, false, false, false, false, false, false, false, false, false, false] rfl rfl (any_of HT_.out (by kernel_rfl)) (fun _ _ _ h => h) (Or.inl ⟨by rfl, ?_⟩) ?_ ?_
                                rotate_left
                                · intro w'
                                  go_simp
                                  with_reducible rfl
                                rotate_left
                                · simp only [Act.put, List.setIfInBounds_toArray, List.set_cons_zero, List.set_cons_succ, i64_w, i32_w]
                                  rfl
                                refine pure_ (i := 15) (N := some 134) (v := ?_) (a' := ?_) #[true, true, true, true, true, true, true, true, true, true, true, true, true, true, true, true, false, false, false, false, false, false, false, false, false, false, false, false, false, false, false, false, false, false, false, false, false, false, false, false] rfl rfl (any_of HT_.out (by kernel_rfl)) (fun _ _ _ h => h) (Or.inl ⟨by rfl, ?_⟩) ?_ ?_
                                rotate_left
                                · intro w'
                                  go_simp
                                  with_reducible rfl
                                rotate_left
                                · simp only [Act.put, List.setIfInBounds_toArray, List.set_cons_zero, List.set_cons_succ, i64_w, i32_w]
                                  rfl
                                refine pure_ (i := 16) (N := some 135) (v := ?_) (a' := ?_) #[true, true, true, true, true, true, true, true, true, true, true, true, true, true, true, true, true, false, false, false, false, false, false, false, false, false, false, false, false, false, false, false, false, false, false, false, false, false, false, false] rfl rfl (any_of HT_.out (by kernel_rfl)) (fun _ _ _ h => h) (Or.inl ⟨by rfl, ?_⟩) ?_ ?_
                                rotate_left
                                · intro w'
                                  go_simp
                                  with_reducible rfl
                                rotate_left
                                · simp only [Act.put, List.setIfInBounds_toArray, List.set_cons_zero, List.set_cons_succ, i64_w, i32_w]
                                  rfl
                                refine pure_ (i := 17) (N := some 136) (v := ?_) (a' := ?_) #[true, true, true, true, true, true, true, true, true, true, true, true, true, true, true, true, true, true, false, false, false, false, false, false, false, false, false, false, false, false, false, false, false, false, false, false, false, false, false, false] rfl rfl (any_of HT_.out (by kernel_rfl)) (fun _ _ _ h => h) (Or.inl ⟨by rfl, ?_⟩) ?_ ?_
                                rotate_left
                                · intro w'
                                  go_simp
                                  with_reducible rfl
                                rotate_left
                                · simp only [Act.put, List.setIfInBounds_toArray, List.set_cons_zero, List.set_cons_succ, i64_w, i32_w]
                                  rfl
                                refine pure_ (i := 18) (N := some 137) (v := ?_) (a' := ?_) #[true, true, true, true, true, true, true, true, true, true, true, true, true, true, true, true, true, true, true, false, false, false, false, false, false, false, false, false, false, false, false, false, false, false, false, false, false, false, false, false] rfl rfl (any_of HT_.out (by kernel_rfl)) (fun _ _ _ h => h) (Or.inl ⟨by rfl, ?_⟩) ?_ ?_
                                rotate_left
                                · intro w'
                                  go_simp
                                  with_reducible rfl
                                rotate_left
                                · simp only [Act.put, List.setIfInBounds_toArray, List.set_cons_zero, List.set_cons_succ, i64_w, i32_w]
                                  rfl
                                refine pure_ (i := 19) (N := some 138) (v := undef) (a' := ?_) #[true, true, true, true, true, true, true, true, true, true, true, true, true, true, true, true, true, true, true, true, false, false, false, false, false, false, false, false, false, false, false, false, false, false, false, false, false, false, false, false] rfl rfl (any_of HT_.out (by kernel_rfl)) (fun _ _ _ h => h) (Or.inr ⟨by rfl, rfl⟩) ?_ ?_
                                rotate_left
                                · simp only [Act.put, List.setIfInBounds_toArray, List.set_cons_zero, List.set_cons_succ, i64_w, i32_w]
                                  rfl
                                refine pure_ (i := 20) (N := some 139) (v := undef) (a' := ?_) #[true, true, true, true, true, true, true, true, true, true, true, true, true, true, true, true, true, true, true, true, true, false, false, false, false, false, false, false, false, false, false, false, false, false, false, false, false, false, false, false] rfl rfl (any_of HT_.out (by kernel_rfl)) (fun _ _ _ h => h) (Or.inr ⟨by rfl, rfl⟩) ?_ ?_
                                rotate_left
                                · simp only [Act.put, List.setIfInBounds_toArray, List.set_cons_zero, List.set_cons_succ, i64_w, i32_w]
                                  rfl
                                refine pure_ (i := 21) (N := some 140) (v := undef) (a' := ?_) #[true, true, true, true, true, true, true, true, true, true, true, true, true, true, true, true, true, true, true, true, true, true, false, false, false, false, false, false, false, false, false, false, false, false, false, false, false, false, false, false] rfl rfl (any_of HT_.out (by kernel_rfl)) (fun _ _ _ h => h) (Or.inr ⟨by rfl, rfl⟩) ?_ ?_
                                rotate_left
                                · simp only [Act.put, List.setIfInBounds_toArray, List.set_cons_zero, List.set_cons_succ, i64_w, i32_w]
                                  rfl
                                refine pure_ (i := 22) (N := some 141) (v := undef) (a' := ?_) #[true, true, true, true, true, true, true, true, true, true, true, true, true, true, true, true, true, true, true, true, true, true, true, false, false, false, false, false, false, false, false, false, false, false, false, false, false, false, false, false] rfl rfl (any_of HT_.out (by kernel_rfl)) (fun _ _ _ h => h) (Or.inr ⟨by rfl, rfl⟩) ?_ ?_
                                rotate_left
                                · simp only [Act.put, List.setIfInBounds_toArray, List.set_cons_zero, List.set_cons_succ, i64_w, i32_w]
                                  rfl
                                refine pure_ (i := 23) (N := some 142) (v := undef) (a' := ?_) #[true, true, true, true, true, true, true, true, true, true, true, true, true, true, true, true, true, true, true, true, true, true, true, true, false, false, false, false, false, false, false, false, false, false, false, false, false, false, false, false] rfl rfl (any_of HT_.out (by kernel_rfl)) (fun _ _ _ h => h) (Or.inr ⟨by rfl, rfl⟩) ?_ ?_
                                rotate_left
                                · simp only [Act.put, List.setIfInBounds_toArray, List.set_cons_zero, List.set_cons_succ, i64_w, i32_w]
                                  rfl
                                refine pure_ (i := 24) (N := some 143) (v := undef) (a' := ?_) #[true, true, true, true, true, true, true, true, true, true, true, true, true, true, true, true, true, true, true, true, true, true, true, true, true, false, false, false, false, false, false, false, false, false, false, false, false, false, false, false] rfl rfl (any_of HT_.out (by kernel_rfl)) (fun _ _ _ h => h) (Or.inr ⟨by rfl, rfl⟩) ?_ ?_
                                rotate_left
                                · simp only [Act.put, List.setIfInBounds_toArray, List.set_cons_zero, List.set_cons_succ, i64_w, i32_w]
                                  rfl
                                refine pure_ (i := 25) (N := some 144) (v := undef) (a' := ?_) #[true, true, true, true, true, true, true, true, true, true, true, true, true, true, true, true, true, true, true, true, true, true, true, true, true, true, false, false, false, false, false, false, false, false, false, false, false, false, false, false] rfl rfl (any_of HT_.out (by kernel_rfl)) (fun _ _ _ h => h) (Or.inr ⟨by rfl, rfl⟩) ?_ ?_
                                rotate_left
                                · simp only [Act.put, List.setIfInBounds_toArray, List.set_cons_zero, List.set_cons_succ, i64_w, i32_w]
                                  rfl
                                refine pure_ (i := 26) (N := some 145) (v := undef) (a' := ?_) #[true, true, true, true, true, true, true, true, true, true, true, true, true, true, true, true, true, true, true, true, true, true, true, true, true, true, true, false, false, false, false, false, false, false, false, false, false, false, false, false] rfl rfl (any_of HT_.out (by kernel_rfl)) (fun _ _ _ h => h) (Or.inr ⟨by rfl, rfl⟩) ?_ ?_
                                rotate_left
                                · simp only [Act.put, List.setIfInBounds_toArray, List.set_cons_zero, List.set_cons_succ, i64_w, i32_w]
                                  rfl
                                refine pure_ (i := 27) (N := some 146) (v := undef) (a' := ?_) #[true, true, true, true, true, true, true, true, true, true, true, true, true, true, true, true, true, true, true, true, true, true, true, true, true, true, true, true, false, false, false, false, false, false, false, false, false, false, false, false] rfl rfl (any_of HT_.out (by kernel_rfl)) (fun _ _ _ h => h) (Or.inr ⟨by rfl, rfl⟩) ?_ ?_
                                rotate_left
                                · simp only [Act.put, List.setIfInBounds_toArray, List.set_cons_zero, List.set_cons_succ, i64_w, i32_w]
                                  rfl
                                refine pure_ (i := 28) (N := some 147) (v := undef) (a' := ?_) #[true, true, true, true, true, true, true, true, true, true, true, true, true, true, true, true, true, true, true, true, true, true, true, true, true, true, true, true, true, false, false, false, false, false, false, false, false, false, false, false] rfl rfl (any_of HT_.out (by kernel_rfl)) (fun _ _ _ h => h) (Or.inr ⟨by rfl, rfl⟩) ?_ ?_
                                rotate_left
                                · simp only [Act.put, List.setIfInBounds_toArray, List.set_cons_zero, List.set_cons_succ, i64_w, i32_w]
                                  rfl
                                refine pure_ (i := 29) (N := some 148) (v := undef) (a' := ?_) #[true, true, true, true, true, true, true, true, true, true, true, true, true, true, true, true, true, true, true, true, true, true, true, true, true, true, true, true, true, true, false, false, false, false, false, false, false, false, false, false] rfl rfl (any_of HT_.out (by kernel_rfl)) (fun _ _ _ h => h) (Or.inr ⟨by rfl, rfl⟩) ?_ ?_
                                rotate_left
                                · simp only [Act.put, List.setIfInBounds_toArray, List.set_cons_zero, List.set_cons_succ, i64_w, i32_w]
                                  rfl
                                refine pure_ (i := 30) (N := some 149) (v := undef) (a' := ?_) #[true, true, true, true, true, true, true, true, true, true, true, true, true, true, true, true, true, true, true, true, true, true, true, true, true, true, true, true, true, true, true, false, false, false, false, false, false, false, false, false] rfl rfl (any_of HT_.out (by kernel_rfl)) (fun _ _ _ h => h) (Or.inr ⟨by rfl, rfl⟩) ?_ ?_
                                rotate_left
                                · simp only [Act.put, List.setIfInBounds_toArray, List.set_cons_zero, List.set_cons_succ, i64_w, i32_w]
                                  rfl
                                refine pure_ (i := 31) (N := some 150) (v := undef) (a' := ?_) #[true, true, true, true, true, true, true, true, true, true, true, true, true, true, true, true, true, true, true, true, true, true, true, true, true, true, true, true, true, true, true, true, false, false, false, false, false, false, false, false] rfl rfl (any_of HT_.out (by kernel_rfl)) (fun _ _ _ h => h) (Or.inr ⟨by rfl, rfl⟩) ?_ ?_
                                rotate_left
                                · simp only [Act.put, List.setIfInBounds_toArray, List.set_cons_zero, List.set_cons_succ, i64_w, i32_w]
                                  rfl
                                refine pure_ (i := 32) (N := some 151) (v := undef) (a' := ?_) #[true, true, true, true, true, true, true, true, true, true, true, true, true, true, true, true, true, true, true, true, true, true, true, true, true, true, true, true, true, true, true, true, true, false, false, false, false, false, false, false] rfl rfl (any_of HT_.out (by kernel_rfl)) (fun _ _ _ h => h) (Or.inr ⟨by rfl, rfl⟩) ?_ ?_
                                rotate_left
                                · simp only [Act.put, List.setIfInBounds_toArray, List.set_cons_zero, List.set_cons_succ, i64_w, i32_w]
                                  rfl
                                refine pure_ (i := 33) (N := some 152) (v := undef) (a' := ?_) #[true, true, true, true, true, true, true, true, true, true, true, true, true, true, true, true, true, true, true, true, true, true, true, true, true, true, true, true, true, true, true, true, true, true, false, false, false, false, false, false] rfl rfl (any_of HT_.out (by kernel_rfl)) (fun _ _ _ h => h) (Or.inr ⟨by rfl, rfl⟩) ?_ ?_
                                rotate_left
                                · simp only [Act.put, List.setIfInBounds_toArray, List.set_cons_zero, List.set_cons_succ, i64_w, i32_w]
                                  rfl
                                refine pure_ (i := 34) (N := some 153) (v := undef) (a' := ?_) #[true, true, true, true, true, true, true, true, true, true, true, true, true, true, true, true, true, true, true, true, true, true, true, true, true, true, true, true, true, true, true, true, true, true, true, false, false, false, false, false] rfl rfl (any_of HT_.out (by kernel_rfl)) (fun _ _ _ h => h) (Or.inr ⟨by rfl, rfl⟩) ?_ ?_
                                rotate_left
                                · simp only [Act.put, List.setIfInBounds_toArray, List.set_cons_zero, List.set_cons_succ, i64_w, i32_w]
                                  rfl
                                refine pure_ (i := 35) (N := some 154) (v := undef) (a' := ?_) #[true, true, true, true, true, true, true, true, true, true, true, true, true, true, true, true, true, true, true, true, true, true, true, true, true, true, true, true, true, true, true, true, true, true, true, true, false, false, false, false] rfl rfl (any_of HT_.out (by kernel_rfl)) (fun _ _ _ h => h) (Or.inr ⟨by rfl, rfl⟩) ?_ ?_
                                rotate_left
                                · simp only [Act.put, List.setIfInBounds_toArray, List.set_cons_zero, List.set_cons_succ, i64_w, i32_w]
                                  rfl
                                refine pure_ (i := 36) (N := some 155) (v := undef) (a' := ?_) #[true, true, true, true, true, true, true, true, true, true, true, true, true, true, true, true, true, true, true, true, true, true, true, true, true, true, true, true, true, true, true, true, true, true, true, true, true, false, false, false] rfl rfl (any_of HT_.out (by kernel_rfl)) (fun _ _ _ h => h) (Or.inr ⟨by rfl, rfl⟩) ?_ ?_
                                rotate_left
                                · simp only [Act.put, List.setIfInBounds_toArray, List.set_cons_zero, List.set_cons_succ, i64_w, i32_w]
                                  rfl
                                refine pure_ (i := 37) (N := some 156) (v := ?_) (a' := ?_) #[true, true, true, true, true, true, true, true, true, true, true, true, true, true, true, true, true, true, true, true, true, true, true, true, true, true, true, true, true, true, true, true, true, true, true, true, true, true, false, false] rfl rfl (any_of HT_.out (by kernel_rfl)) (fun _ _ _ h => h) (Or.inl ⟨by rfl, ?_⟩) ?_ ?_
                                rotate_left
                                · intro w'
                                  go_simp
                                  with_reducible rfl
                                rotate_left
                                · simp only [Act.put, List.setIfInBounds_toArray, List.set_cons_zero, List.set_cons_succ, i64_w, i32_w]
                                  rfl
                                refine pure_ (i := 38) (N := some 157) (v := ?_) (a' := ?_) #[true, true, true, true, true, true, true, true, true, true, true, true, true, true, true, true, true, true, true, true, true, true, true, true, true, true, true, true, true, true, true, true, true, true, true, true, true, true, true, false] rfl rfl (any_of HT_.out (by kernel_rfl)) (fun _ _ _ h => h) (Or.inl ⟨by rfl, ?_⟩) ?_ ?_
                                rotate_left
                                · intro w'
                                  go_simp
                                  with_reducible rfl
                                rotate_left
                                · simp only [Act.put, List.setIfInBounds_toArray, List.set_cons_zero, List.set_cons_succ, i64_w, i32_w]
                                  rfl
                                refine pure_ (i := 39) (N := some 2) (v := ?_) (a' := ?_) #[true, true, true, true, true, true, true, true, true, true, true, true, true, true, true, true, true, true, true, true, true, true, true, true, true, true, true, true, true, true, true, true, true, true, true, true, true, true, true, true] rfl rfl (any_of HT_.out (by kernel_rfl)) (fun _ _ _ h => h) (Or.inl ⟨by rfl, ?_⟩) ?_ ?_
                                rotate_left
                                · intro w'
                                  go_simp
                                  with_reducible rfl
                                rotate_left
                                · simp only [Act.put, List.setIfInBounds_toArray, List.set_cons_zero, List.set_cons_succ, i64_w, i32_w]
                                  rfl
                                refine done_ (done_of HT_.out (by kernel_rfl)) ?_
                                try go_wp2
                                go_ret
                                exact ⟨Sqz.auR, Sqz.auHB⟩
                            · replace c38 := Bool.eq_false_iff.mpr c38
                              subst c38
                              have H1 : (some false) = some r := by rw [if_neg (show ¬ (false = true) by decide)] at H; exact H
                              rw [hrt] at H1; exact absurd H1 (by simp)
                          · replace c36 := Bool.eq_false_iff.mpr c36
                            subst c36
                            have H1 : (some false) = some r := by rw [if_neg (show ¬ (false = true) by decide)] at H; exact H
                            rw [hrt] at H1; exact absurd H1 (by simp)
                        · rw [if_neg c35] at H
                          rw [hrt] at H; exact absurd H (by simp)
                      · rw [if_neg c33] at H
                        exact absurd H (by simp)
                    · rw [if_neg c30] at H
                      exact absurd H (by simp)
                  · rw [if_neg c29] at H
                    exact absurd H (by simp)
                · rw [if_neg c28] at H
                  exact absurd H (by simp)
              · rw [if_neg c27] at H
                exact absurd H (by simp)
            · rw [if_neg c26] at H
              exact absurd H (by simp)
          · rw [if_neg c25] at H
            exact absurd H (by simp)

/-- THE ONE PURE STATEMENT of laws_FnTurn: yours. -/
def laws_FnTurn.Pure : Prop := ∀ (l0 : List Int), l0.length ≤ maxLen → l0.length * 1 ≤ 140737488351232 → (∀ x ∈ l0, (Lit.int .u8 x).wf = true) → ∃ k, laws_FnTurn.f k l0 = some true
theorem laws_FnTurn.walk (P : laws_FnTurn.Pure) (a0 : Option Addr) (len0 cap0 : Nat) (z0 : List Int) (w : World) (w0 : (a0 = none ∧ len0 = 0 ∧ cap0 = 0 ∧ z0 = []) ∨ ∃ x, a0 = some x ∧ len0 ≤ cap0 ∧ cap0 ≤ maxLen ∧ z0.length = cap0 ∧ (∀ i, i < z0.length → w.cell? (x.add i) = some (.int .u8 (z0.getD i 0))) ∧ ∀ n ∈ z0, (Lit.int .u8 n).wf = true) (y0 : len0 * 1 ≤ 140737488351232) :
    Calls Try.prog 14 #[.slice a0 len0 cap0] w fun e w' => e = .returned (.bool true) ∧ Below w.heap.size w w' := by
  obtain ⟨l0, rfl, hr0, hm0, hw0, hc0⟩ := ReadsInt.ofRowC w0
  obtain ⟨k, h⟩ := P l0 hm0 y0 hw0
  refine (laws_FnTurn.calls k _ _ l0 true rfl w (Kd.C_of_reads (d := (0 : Int)) (h1 := fun _ => rfl) hr0) hc0 h).mono ?_
  rintro e w' ⟨rfl, hd⟩
  exact ⟨rfl, hd⟩

end Go.Proofs.Ytfhehcgefbknbaa.PFnTurn
