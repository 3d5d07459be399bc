/- A function's Lean twin and its walk, written by a program of this session. -/
import Derived.Test.YtnnpafjgghpecaaTPFnRestx0
import Derived.Test.YtnnpafjgghpecaaTPFnRestx1
import Derived.Test.YtnnpafjgghpecaaTPFnRestx2
import Derived.Test.YtnnpafjgghpecaaTPFnRestx3
import Derived.Test.YtnnpafjgghpecaaTPFnRestx4
namespace Go.Proofs.Ytnnpafjgghpecaa.PFnRest
open Go.RowKit Go.Proofs.YtnnpafjgghpecaaW.PrintWords Go.Proofs.YtnnpafjgghpecaaW.PrintLast Go.Proofs.YtnnpafjgghpecaaW.PrintMore
attribute [local go_sem] max2_int min2_int max_two min_two max_three min_three max_four min_four   -- for this text's walks alone
set_option linter.unusedVariables false
set_option linter.unusedSimpArgs false

/-! ### impl_PlanesRest: function 27 -/
def impl_PlanesRest.f (k : Nat) (l0 : List Int) : Option (Int × Bool) := if (l0.length : Int) = 3 then ((impl_FormValid.f k l0).bind fun t254 => (if t254 = true then ((impl_FormBad.f k l0).bind fun t255 => (if (t255.length : Int) > 0 then (some (0, false)) else ((impl_FormDisc.f k l0).bind fun t258 => ((impl_size.f t258).bind fun t259 => (if t259 > 30 then (some (0, false)) else ((impl_FormDisc.f k l0).bind fun t260 => (some (wrap64 (-t260), true)))))))) else (some (0, false)))) else (some (0, false))
set_option maxHeartbeats 8000000 in
set_option maxRecDepth 100000 in
theorem impl_PlanesRest.calls (k : Nat) (A0 : Option Addr) (c0 : Nat) (l0 : List Int) (r1 : Int) (r2 : Bool) (w : World) (hr0 : Kd.C (Kd.int .i64) w A0 l0.length l0) (hc0 : l0.length ≤ c0) (h : impl_PlanesRest.f k l0 = some (r1, r2)) :
  Calls Try.prog 27 #[.slice A0 l0.length c0] w fun e w' => e = .returned (.tuple #[.int .i64 r1, .bool r2]) ∧ Below w.heap.size w w' := by
 have HR0 := Aside0.mk hr0; have HC0 := Aside0.mk hc0; clear hr0 hc0; have HB := Aside0.mk (Below.refl w.heap.size w); have H : (if (l0.length : Int) = 3 then ((impl_FormValid.f k l0).bind fun t254 => (if t254 = true then ((impl_FormBad.f k l0).bind fun t255 => (if (t255.length : Int) > 0 then (some (0, false)) else ((impl_FormDisc.f k l0).bind fun t258 => ((impl_size.f t258).bind fun t259 => (if t259 > 30 then (some (0, false)) else ((impl_FormDisc.f k l0).bind fun t260 => (some (wrap64 (-t260), true)))))))) else (some (0, false)))) else (some (0, false))) = some (r1, r2) := h; clear h
 by_cases c2 : (l0.length : Int) = 3
 ·rw [if_pos c2] at H; have c2b0 := beq_iff_eq.mpr c2; have c2b1 := bne_eq_false_iff_eq.mpr c2; clear c2; obtain ⟨t254, A3, H⟩ := Sqz.be H
  by_cases c4 : t254 = true
  ·subst c4; have H1 : ((impl_FormBad.f k l0).bind fun t255 => (if (t255.length : Int) > 0 then (some (0, false)) else ((impl_FormDisc.f k l0).bind fun t258 => ((impl_size.f t258).bind fun t259 => (if t259 > 30 then (some (0, false)) else ((impl_FormDisc.f k l0).bind fun t260 => (some (wrap64 (-t260), true)))))))) = some (r1, r2) := by rw [if_pos rfl] at H; exact H
   clear H; have H := H1; clear H1; obtain ⟨t255, A5, H⟩ := Sqz.be H
   by_cases c6 : (t255.length : Int) > 0
   ·rw [if_pos c6] at H; have c6b0 : decide (0 < (t255.length : Int)) = true := decide_eq_true c6; have c6b1 : decide (0 < t255.length) = true := decide_eq_true (by omega); clear c6; simp only [Option.some.injEq, Prod.mk.injEq] at H; obtain ⟨rfl, rfl⟩ := H
    go_enter Try.func27, Try.ntmps27
    go_wp2_with (first | (go_at_call 44; (with_reducible refine (impl_FormValid.calls k _ _ l0 true _ ?side1 ?side2 A3.out).mono ?_); (case side1 => exact Sqz.mvC (HR0.out)); (case side2 => exact HC0.out); rintro e w7 ⟨rfl, hb⟩; replace HB := Aside0.mk (below_step (Sqz.auHB) hb); (try clear hb)) | (go_at_call 45; (with_reducible refine (impl_FormBad.calls k _ _ l0 t255 _ ?side1 ?side2 A5.out).mono ?_); (case side1 => exact Sqz.mvC ((Kd.C_below HR0.out HB.out))); (case side2 => exact HC0.out); rintro e w8 ⟨v256, rfl, ho0, hb⟩; have HO257 := Aside0.mk (Kd.R_lower ho0 (below_size (Sqz.auHB))); replace HB := Aside0.mk (below_step (Sqz.auHB) hb); (try clear hb); (try clear ho0); obtain ⟨Ao9, co9, eo9⟩ := Kd.R_slice HO257.out; subst eo9))
    go_ret2
    exact ⟨Sqz.auR, Sqz.auHB⟩
   ·rw [if_neg c6] at H; have c6b0 : decide (0 < (t255.length : Int)) = false := decide_eq_false c6; have c6b1 : decide (0 < t255.length) = false := decide_eq_false (by omega); clear c6; obtain ⟨t258, A10, H⟩ := Sqz.be H; obtain ⟨t259, A11, H⟩ := Sqz.be H
    by_cases c12 : t259 > 30
    ·rw [if_pos c12] at H; have c12b0 : decide (30 < t259) = true := decide_eq_true c12; clear c12; simp only [Option.some.injEq, Prod.mk.injEq] at H; obtain ⟨rfl, rfl⟩ := H
     go_enter Try.func27, Try.ntmps27
     go_wp2_with (first | (go_at_call 44; (with_reducible refine (impl_FormValid.calls k _ _ l0 true _ ?side1 ?side2 A3.out).mono ?_); (case side1 => exact Sqz.mvC (HR0.out)); (case side2 => exact HC0.out); rintro e w13 ⟨rfl, hb⟩; replace HB := Aside0.mk (below_step (Sqz.auHB) hb); (try clear hb)) | (go_at_call 45; (with_reducible refine (impl_FormBad.calls k _ _ l0 t255 _ ?side1 ?side2 A5.out).mono ?_); (case side1 => exact Sqz.mvC ((Kd.C_below HR0.out HB.out))); (case side2 => exact HC0.out); rintro e w14 ⟨v256, rfl, ho0, hb⟩; have HO257 := Aside0.mk (Kd.R_lower ho0 (below_size (Sqz.auHB))); replace HB := Aside0.mk (below_step (Sqz.auHB) hb); (try clear hb); (try clear ho0); obtain ⟨Ao15, co15, eo15⟩ := Kd.R_slice HO257.out; subst eo15) | (go_at_call 47; (with_reducible refine (impl_FormDisc.calls k _ _ l0 t258 _ ?side1 ?side2 A10.out).mono ?_); (case side1 => exact Sqz.mvC ((Kd.C_below HR0.out HB.out))); (case side2 => exact HC0.out); rintro e w16 ⟨rfl, hb⟩; replace HO257 := Aside0.mk (Kd.R_below ((Sqz.mvR HO257.out)) hb); replace HB := Aside0.mk (below_step (Sqz.auHB) hb); (try clear hb)) | (go_at_call 46; (with_reducible refine (impl_size.calls t258 t259 _ A11.out).mono ?_); rintro e w17 ⟨rfl, hb⟩; replace HO257 := Aside0.mk (Kd.R_below ((Sqz.mvR HO257.out)) hb); replace HB := Aside0.mk (below_step (Sqz.auHB) hb); (try clear hb)))
     go_ret2
     exact ⟨Sqz.auR, Sqz.auHB⟩
    ·rw [if_neg c12] at H; have c12b0 : decide (30 < t259) = false := decide_eq_false c12; clear c12; obtain ⟨t260, A18, H⟩ := Sqz.be H; simp only [Option.some.injEq, Prod.mk.injEq] at H; obtain ⟨rfl, rfl⟩ := H
     go_enter Try.func27, Try.ntmps27
     go_wp2_with (first | (go_at_call 44; (with_reducible refine (impl_FormValid.calls k _ _ l0 true _ ?side1 ?side2 A3.out).mono ?_); (case side1 => exact Sqz.mvC (HR0.out)); (case side2 => exact HC0.out); rintro e w19 ⟨rfl, hb⟩; replace HB := Aside0.mk (below_step (Sqz.auHB) hb); (try clear hb)) | (go_at_call 45; (with_reducible refine (impl_FormBad.calls k _ _ l0 t255 _ ?side1 ?side2 A5.out).mono ?_); (case side1 => exact Sqz.mvC ((Kd.C_below HR0.out HB.out))); (case side2 => exact HC0.out); rintro e w20 ⟨v256, rfl, ho0, hb⟩; have HO257 := Aside0.mk (Kd.R_lower ho0 (below_size (Sqz.auHB))); replace HB := Aside0.mk (below_step (Sqz.auHB) hb); (try clear hb); (try clear ho0); obtain ⟨Ao21, co21, eo21⟩ := Kd.R_slice HO257.out; subst eo21) | (go_at_call 47; (with_reducible refine (impl_FormDisc.calls k _ _ l0 t258 _ ?side1 ?side2 A10.out).mono ?_); (case side1 => exact Sqz.mvC ((Kd.C_below HR0.out HB.out))); (case side2 => exact HC0.out); rintro e w22 ⟨rfl, hb⟩; replace HO257 := Aside0.mk (Kd.R_below ((Sqz.mvR HO257.out)) hb); replace HB := Aside0.mk (below_step (Sqz.auHB) hb); (try clear hb)) | (go_at_call 46; (with_reducible refine (impl_size.calls t258 t259 _ A11.out).mono ?_); rintro e w23 ⟨rfl, hb⟩; replace HO257 := Aside0.mk (Kd.R_below ((Sqz.mvR HO257.out)) hb); replace HB := Aside0.mk (below_step (Sqz.auHB) hb); (try clear hb)) | ((with_reducible refine gate_callee (f := 47) rfl ?_); refine goesL_ (some 25) rfl rfl Try.func47 (by kernel_rfl) rfl #[.slice A0 l0.length c0] rfl Sqz.auM ?_; (with_reducible refine (impl_FormDisc.calls k _ _ l0 t260 _ ?side1 ?side2 A18.out).mono ?_); (case side1 => exact Sqz.mvC ((Kd.C_below HR0.out HB.out))); (case side2 => exact HC0.out); rintro e w24 ⟨rfl, hb⟩; refine ⟨_, rfl, ?_⟩; replace HO257 := Aside0.mk (Kd.R_below ((Sqz.mvR HO257.out)) hb); replace HB := Aside0.mk (below_step (Sqz.auHB) hb); (try clear hb)))
     go_ret2
     exact ⟨Sqz.auR, Sqz.auHB⟩
  ·replace c4 := Bool.eq_false_iff.mpr c4; subst c4; have H1 : (some (0, false)) = some (r1, r2) := by rw [if_neg (show ¬ (false = true) by decide)] at H; exact H
   clear H; have H := H1; clear H1; simp only [Option.some.injEq, Prod.mk.injEq] at H; obtain ⟨rfl, rfl⟩ := H
   go_enter Try.func27, Try.ntmps27
   go_wp2_with (first | (go_at_call 44; (with_reducible refine (impl_FormValid.calls k _ _ l0 false _ ?side1 ?side2 A3.out).mono ?_); (case side1 => exact Sqz.mvC (HR0.out)); (case side2 => exact HC0.out); rintro e w25 ⟨rfl, hb⟩; replace HB := Aside0.mk (below_step (Sqz.auHB) hb); (try clear hb)))
   go_ret2
   exact ⟨Sqz.auR, Sqz.auHB⟩
 ·rw [if_neg c2] at H; have c2b0 := beq_eq_false_iff_ne.mpr c2; have c2b1 := bne_iff_ne.mpr c2; simp only [Option.some.injEq, Prod.mk.injEq] at H; obtain ⟨rfl, rfl⟩ := H
  go_enter Try.func27, Try.ntmps27
  go_wp2; go_ret2
  exact ⟨Sqz.auR, Sqz.auHB⟩

/-! ### spec_l4Product: function 79 -/
def spec_l4Product.l0 : Nat → List Int → Int → Int → Option (Int)
 | 0, _, _, _ => none
 | k + 1, x0, x3, x4 => if x4 < (x0.length : Int) then (if 0 ≤ x4 then (spec_l4Product.l0 k x0 (wrap64 (x3 * (rd x0 x4))) (wrap64 (x4 + 1))) else (none)) else (some x3)
def spec_l4Product.f (k : Nat) (l0 : List Int) : Option (Int) := spec_l4Product.l0 k l0 1 0
set_option maxHeartbeats 8000000 in
set_option maxRecDepth 100000 in
theorem spec_l4Product.calls (k : Nat) (A0 : Option Addr) (c0 : Nat) (l0 : List Int) (r : Int) (w : World) (hr0 : Kd.C (Kd.int .i64) w A0 l0.length l0) (hc0 : l0.length ≤ c0) (h : spec_l4Product.f k l0 = some r) :
  Calls Try.prog 79 #[.slice A0 l0.length c0] w fun e w' => e = .returned (.int .i64 r) ∧ Drawn0 w w' := by
 have HR0 := Aside0.mk hr0; have HC0 := Aside0.mk hc0; clear hr0 hc0; have H : (spec_l4Product.l0 k l0 1 0) = some r := h; clear h; have H' := Aside0.mk H; clear H
 go_enter Try.func79, Try.ntmps79
 go_wp2
 go_loopg [3, 4] k (fun kq v3 v4 w' => ∃ (x3_1 : Int) (x4_1 : Int), v3 = .int .i64 x3_1 ∧ v4 = .int .i64 x4_1 ∧ Aside0 (spec_l4Product.l0 kq l0 x3_1 x4_1 = some r) ∧ Aside0 (kq ≤ k) ∧ Drawn0 w w')
 case atStart => exact ⟨(1), (0), Sqz.auS, Sqz.auS, H', ⟨Nat.le_refl _⟩, by repeat (first | exact Drawn0.refl _ | apply Drawn0.step)⟩
 case round =>
  clear H'; obtain ⟨x3_1, x4_1, rfl, rfl, HA, HK1, ⟨m1, rfl⟩⟩ := hrel; cases gk with
  | zero => exact absurd HA.out (by simp [spec_l4Product.l0])
  | succ k1 =>
   have H := HA.out; clear HA; simp only [spec_l4Product.l0] at H
   by_cases c2 : x4_1 < (l0.length : Int)
   ·rw [if_pos c2] at H; have c2b0 := decide_eq_true c2; clear c2
    by_cases c3 : 0 ≤ x4_1
    ·rw [if_pos c3] at H; have c3b0 := decide_eq_true c3; clear c3; have H' := Aside0.mk H; clear H; have p261 : 0 ≤ (x4_1 : Int) := Sqz.od; have q261 : x4_1 < (l0.length : Int) := Sqz.od; obtain ⟨ad261, e261, hx261_0⟩ := Kd.at_int HR0.out x4_1 p261 q261; cases e261; replace p261 := eq_true p261; replace q261 := eq_true q261; go_wp2
     go_roundg k1
     case measure => have := HK1.out; omega
     case rel => exact ⟨(wrap64 (x3_1 * (rd l0 x4_1))), (wrap64 (x4_1 + 1)), Sqz.auS, Sqz.auS, H', ⟨by have := HK1.out; omega⟩, by repeat (first | exact Drawn0.refl _ | apply Drawn0.step)⟩
    ·rw [if_neg c3] at H; exact absurd H (by simp)
   ·rw [if_neg c2] at H; have c2b0 := decide_eq_false c2; clear c2; obtain rfl := Option.some.inj H; go_wp2; go_ret
    exact ⟨Sqz.auS, by repeat (first | exact Drawn0.refl _ | apply Drawn0.step)⟩

/-! ### spec_l1Primes: function 105 -/
mutual
def spec_l1Primes.l0 : Nat → Int → List Int → Int → Option (List Int)
 | 0, _, _, _ => none
 | k + 1, x0, x3, x4 => if (wrap64 (x4 * x4)) ≤ x0 then (if x4 = 0 then (none) else (if (Int.tmod x0 x4) = 0 then (if x3.length < 17592186044416 then (spec_l1Primes.j1 k x0 (x3 ++ [x4]) x4) else (none)) else (spec_l1Primes.j1 k x0 x3 x4))) else (if x0 > 1 then (if x3.length < 17592186044416 then (some (x3 ++ [x0])) else (none)) else (some x3))
def spec_l1Primes.j1 : Nat → Int → List Int → Int → Option (List Int)
 | 0, _, _, _ => none
 | k + 1, x0, x3, x4 => spec_l1Primes.l1 k x0 x3 x4
def spec_l1Primes.l1 : Nat → Int → List Int → Int → Option (List Int)
 | 0, _, _, _ => none
 | k + 1, x0, x3, x4 => if x4 = 0 then (none) else (if (Int.tmod x0 x4) = 0 then (spec_l1Primes.l1 k (wrap64 (Int.tdiv x0 x4)) x3 x4) else (spec_l1Primes.l0 k x0 x3 (wrap64 (x4 + 1))))
end
def spec_l1Primes.f (k : Nat) (a0 : Int) : Option (List Int) := (spec_l1Size.f a0).bind fun t265 => (spec_l1Primes.l0 k t265 (([] : List Int)) 2)
set_option maxHeartbeats 8000000 in
set_option maxRecDepth 100000 in
theorem spec_l1Primes.calls (k : Nat) (a0 : Int) (r : List Int) (w : World) (h : spec_l1Primes.f k a0 = some r) :
  Calls Try.prog 105 #[.int .i64 a0] w fun e w' => ∃ v0_ : Value, e = .returned (v0_) ∧ Kd.R (Kd.int .i64) 3 w' w.heap.size (fun _ => True) v0_ r ∧ Below w.heap.size w w' := by
 have HB := Aside0.mk (Below.refl w.heap.size w); have H : ((spec_l1Size.f a0).bind fun t265 => (spec_l1Primes.l0 k t265 (([] : List Int)) 2)) = some r := h; clear h; obtain ⟨y262, hyy⟩ : ∃ y_ : List Int, y_ = (([] : List Int)) := ⟨_, rfl⟩
 replace H : ((spec_l1Size.f a0).bind fun t265 => (spec_l1Primes.l0 k t265 y262 2)) = some r := Sqz.auY
 have Ny262 := Aside0.mk hyy; clear hyy; obtain ⟨t265, A2, H⟩ := Sqz.be H; have H' := Aside0.mk H; clear H
 go_enter Try.func105, Try.ntmps105
 go_wp2_with (first | ((with_reducible refine gate_dst (N := 5) rfl ?_); refine Kd.R_lit (Kd.int .i64) _ 3 ?hg (N := 5) ?hd (xs := ([] : List Int)) (inner := []) (ok := fun _ => True) (okp := fun _ => True) ?hr ?hp (fun _ hk => hk) trivial (Below.refl _ _) (Nat.le_refl _) (by simp) ?_; (case hd => rfl); (case hg => rfl); (case hr => first | (go_simp; done) | (go_simp; rfl)); (case hp => exact (Reps.none _ _)); intro v263 w3 ho4 hb hg_ hnew_; clear hg_ hnew_; (first | rw [← Ny262.out] at ho4 | (simp only [Int.reduceToNat] at ho4; rw [← Ny262.out] at ho4)); have HO264 := Aside0.mk (Kd.R_lower ho4 (below_size (Sqz.auHB))); replace HB := Aside0.mk (below_step (Sqz.auHB) hb); clear hb ho4) | ((with_reducible refine gate_callee (f := 49) rfl ?_); refine goesL_ (some 7) rfl rfl Try.func49 (by kernel_rfl) rfl #[.int .i64 a0] rfl Sqz.auM ?_; (with_reducible refine (spec_l1Size.calls a0 t265 _ A2.out).mono ?_); rintro e w5 ⟨rfl, hb⟩; refine ⟨_, rfl, ?_⟩; replace HO264 := Aside0.mk (Kd.R_below ((Sqz.mvR HO264.out)) hb); replace HB := Aside0.mk (below_step (Sqz.auHB) hb); (try clear hb)))
 go_loopg [0, 3, 4] k (fun kq v0 v3 v4 w' => ∃ (x0_1 : Int) (x3_1 : List Int) (x4_1 : Int), v0 = .int .i64 x0_1 ∧ v4 = .int .i64 x4_1 ∧ Aside0 (spec_l1Primes.l0 kq x0_1 x3_1 x4_1 = some r) ∧ Aside0 (kq ≤ k) ∧ Aside0 (Kd.R (Kd.int .i64) 3 w' w.heap.size (fun _ => True) v3 x3_1) ∧ Aside0 (Below w.heap.size w w'))
 case atStart => exact ⟨(t265), (y262), (2), Sqz.auS, Sqz.auS, H', ⟨Nat.le_refl _⟩, ⟨(Sqz.mvR HO264.out)⟩, ⟨Sqz.auHB⟩⟩
 case round =>
  clear H'
  try clear c1
  try clear p2
  try clear c4
  obtain ⟨x0_1, x3_1, x4_1, rfl, rfl, HA, HK1, HO_3, HB⟩ := hrel; cases gk with
  | zero => exact absurd HA.out (by simp [spec_l1Primes.l0])
  | succ k1 =>
   have H := HA.out; clear HA; simp only [spec_l1Primes.l0] at H
   by_cases c6 : (wrap64 (x4_1 * x4_1)) ≤ x0_1
   ·rw [if_pos c6] at H; have c6b0 := decide_eq_true c6; clear c6
    by_cases c7 : x4_1 = 0
    ·rw [if_pos c7] at H; exact absurd H (by simp)
    ·rw [if_neg c7] at H; have c7b0 := beq_eq_false_iff_ne.mpr c7; have c7b1 := bne_iff_ne.mpr c7; have HC8 := Aside0.mk H; clear H
     go_upto_if 18 with (fail)
     go_cut [3] (fun v3 wc => ∃ (kq : Nat) (x3_7 : List Int), Aside0 (spec_l1Primes.j1 kq x0_1 x3_7 x4_1 = some r) ∧ Aside0 (kq ≤ k1) ∧ Aside0 (Kd.R (Kd.int .i64) 3 wc w.heap.size (fun _ => True) v3 x3_7) ∧ Aside0 (Below w.heap.size w wc))
     case first =>
      have H := HC8.out; clear HC8
      by_cases c9 : (Int.tmod x0_1 x4_1) = 0
      ·rw [if_pos c9] at H; have c9b0 := beq_iff_eq.mpr c9; have c9b1 := bne_eq_false_iff_eq.mpr c9; clear c9
       (first | rw [c9b0] | (simp only [i64_w, i32_w]; rw [c9b0]) | skip)
       by_cases c10 : x3_1.length < 17592186044416
       ·rw [if_pos c10] at H; have LMc10 := Aside0.mk c10; clear c10; obtain ⟨y269, hyy⟩ : ∃ y_ : List Int, y_ = (x3_1 ++ [x4_1]) := ⟨_, rfl⟩
        replace H : (spec_l1Primes.j1 k1 x0_1 y269 x4_1) = some r := Sqz.auY
        have Ny269 := Aside0.mk hyy; clear hyy; have H' := Aside0.mk H; clear H
        go_wp2_with (first | ((with_reducible refine gate_builtin (b := .append) (xs := #[.tmp 19, .tmp 21]) rfl ?_); at_builtin; refine Kd.R_append (Kd.int .i64) (w0 := w) w.heap.size rfl (.tmp 19) (.tmp 21) 22 3 (.int .i64 0) 8 rfl Try.underlying22 info3 rfl (by decide) (by omega) u3 x3_1 x4_1 [.int .i64 x4_1] (fun _ => True) (fun _ => False) rfl rfl ?aP (fun _ hk => hk.elim) ?aF ?aO ?aB ?aS ?aL ?_; (case aP => exact rfl); (case aB => exact (Sqz.auHB)); (case aF => exact (fun _ _ => trivial)); (case aO => exact ((Sqz.mvR HO_3.out))); (case aS => exact (below_size (Sqz.auHB))); (case aL => have := LMc10.out; omega); intro v270 w11 ho hb hg hat; rw [← Ny269.out] at ho; replace HB := Aside0.mk (hb); have HO271 := Aside0.mk (ho); clear HO_3; clear ho hb hg hat))
        go_meet
        case rel => exact ⟨_, (y269), H', ⟨by have := HK1.out; first | omega | exact Nat.le_refl _⟩, ⟨(Sqz.mvR HO271.out)⟩, ⟨Sqz.auHB⟩⟩
       ·rw [if_neg c10] at H; exact absurd H (by simp)
      ·rw [if_neg c9] at H; have c9b0 := beq_eq_false_iff_ne.mpr c9; have c9b1 := bne_iff_ne.mpr c9
       (first | rw [c9b0] | (simp only [i64_w, i32_w]; rw [c9b0]) | skip)
       have H' := Aside0.mk H; clear H; go_wp2
       go_meet
       case rel => exact ⟨_, (x3_1), H', ⟨by have := HK1.out; first | omega | exact Nat.le_refl _⟩, ⟨(Sqz.mvR HO_3.out)⟩, ⟨Sqz.auHB⟩⟩
     case rest =>
      clear HC8
      try clear c1
      try clear p2
      try clear c4
      try clear c6
      try clear c6b0
      try clear p6
      try clear c7
      try clear c7b0
      try clear c7b1
      try clear c9
      try clear c9b0
      try clear c9b1
      try clear c10
      try clear p2
      obtain ⟨kq, x3_7, HA, HJ7, HO_3, HB⟩ := hcut; cases kq with
      | zero => exact absurd HA.out (by simp [spec_l1Primes.j1])
      | succ kj7 =>
       have H := HA.out; clear HA; simp only [spec_l1Primes.j1] at H; have H' := Aside0.mk H; clear H; go_wp2
       go_loopg [0] kj7 (fun kq v0 w' => ∃ (x0_3 : Int), v0 = .int .i64 x0_3 ∧ Aside0 (spec_l1Primes.l1 kq x0_3 x3_7 x4_1 = some r) ∧ Aside0 (kq ≤ kj7) ∧ Aside0 (Kd.R (Kd.int .i64) 3 w' w.heap.size (fun _ => True) u3 x3_7) ∧ Aside0 (Below w.heap.size w w'))
       case atStart => exact ⟨(x0_1), Sqz.auS, H', ⟨Nat.le_refl _⟩, ⟨(Sqz.mvR HO_3.out)⟩, ⟨Sqz.auHB⟩⟩
       case round =>
        clear H'
        try clear c1
        try clear p2
        try clear c4
        try clear c6
        try clear c6b0
        try clear p6
        try clear c7
        try clear c7b0
        try clear c7b1
        try clear c9
        try clear c9b0
        try clear c9b1
        try clear c10
        try clear p2
        try clear p6
        obtain ⟨x0_3, rfl, HA, HK3, HO_3, HB⟩ := hrel; cases gk with
        | zero => exact absurd HA.out (by simp [spec_l1Primes.l1])
        | succ k3 =>
         have H := HA.out; clear HA; simp only [spec_l1Primes.l1] at H
         by_cases c12 : x4_1 = 0
         ·rw [if_pos c12] at H; exact absurd H (by simp)
         ·rw [if_neg c12] at H; have c12b0 := beq_eq_false_iff_ne.mpr c12; have c12b1 := bne_iff_ne.mpr c12
          by_cases c13 : (Int.tmod x0_3 x4_1) = 0
          ·rw [if_pos c13] at H; have c13b0 := beq_iff_eq.mpr c13; have c13b1 := bne_eq_false_iff_eq.mpr c13; clear c13; have H' := Aside0.mk H; clear H; go_wp2
           go_roundg k3
           case measure => have := HK1.out; have := HJ7.out; have := HK3.out; omega
           case rel => exact ⟨(wrap64 (Int.tdiv x0_3 x4_1)), Sqz.auS, H', ⟨by have := HK1.out; have := HJ7.out; have := HK3.out; omega⟩, ⟨(Sqz.mvR HO_3.out)⟩, ⟨Sqz.auHB⟩⟩
          ·rw [if_neg c13] at H; have c13b0 := beq_eq_false_iff_ne.mpr c13; have c13b1 := bne_iff_ne.mpr c13; have H' := Aside0.mk H; clear H; go_wp2
           go_roundg k3
           case measure => have := HK1.out; have := HJ7.out; have := HK3.out; omega
           case rel => exact ⟨(x0_3), (x3_7), (wrap64 (x4_1 + 1)), Sqz.auS, Sqz.auS, H', ⟨by have := HK1.out; have := HJ7.out; have := HK3.out; omega⟩, ⟨(Sqz.mvR HO_3.out)⟩, ⟨Sqz.auHB⟩⟩
   ·rw [if_neg c6] at H; have c6b0 := decide_eq_false c6; clear c6
    by_cases c14 : x0_1 > 1
    ·rw [if_pos c14] at H; have c14b0 : decide (1 < x0_1) = true := decide_eq_true c14; clear c14
     by_cases c15 : x3_1.length < 17592186044416
     ·rw [if_pos c15] at H; have LMc15 := Aside0.mk c15; clear c15; obtain ⟨y266, hyy⟩ : ∃ y_ : List Int, y_ = (x3_1 ++ [x0_1]) := ⟨_, rfl⟩
      replace H : (some y266) = some r := Sqz.auY
      have Ny266 := Aside0.mk hyy; clear hyy; obtain rfl := Option.some.inj H
      go_wp2_with (first | ((with_reducible refine gate_builtin (b := .append) (xs := #[.tmp 32, .tmp 34]) rfl ?_); at_builtin; refine Kd.R_append (Kd.int .i64) (w0 := w) w.heap.size rfl (.tmp 32) (.tmp 34) 22 3 (.int .i64 0) 8 rfl Try.underlying22 info3 rfl (by decide) (by omega) u3 x3_1 x0_1 [.int .i64 x0_1] (fun _ => True) (fun _ => False) rfl rfl ?aP (fun _ hk => hk.elim) ?aF ?aO ?aB ?aS ?aL ?_; (case aP => exact rfl); (case aB => exact (Sqz.auHB)); (case aF => exact (fun _ _ => trivial)); (case aO => exact ((Sqz.mvR HO_3.out))); (case aS => exact (below_size (Sqz.auHB))); (case aL => have := LMc15.out; omega); intro v267 w16 ho hb hg hat; rw [← Ny266.out] at ho; replace HB := Aside0.mk (hb); have HO268 := Aside0.mk (ho); clear HO_3; clear ho hb hg hat))
      go_ret
      exact ⟨_, Sqz.auR, (Sqz.mvR HO268.out), Sqz.auHB⟩
     ·rw [if_neg c15] at H; exact absurd H (by simp)
    ·rw [if_neg c14] at H; have c14b0 : decide (1 < x0_1) = false := decide_eq_false c14; clear c14; obtain rfl := Option.some.inj H; go_wp2; go_ret
     exact ⟨_, Sqz.auR, (Sqz.mvR HO_3.out), Sqz.auHB⟩

/-! ### spec_l2Places: function 92 -/
def spec_l2Places.l0 : Nat → List Int → List Int → Int → Option (List Int)
 | 0, _, _, _ => none
 | k + 1, x3, x4, x5 => if x5 < (x4.length : Int) then (if 0 ≤ x5 then (if (rd x4 x5) > 2 then (if x3.length < 17592186044416 then (spec_l2Places.l0 k (x3 ++ [rd x4 x5]) x4 (wrap64 (x5 + 1))) else (none)) else (spec_l2Places.l0 k x3 x4 (wrap64 (x5 + 1)))) else (none)) else (some x3)
def spec_l2Places.f (k : Nat) (a0 : Int) : Option (List Int) := (spec_l1Primes.f k a0).bind fun t275 => (spec_l2Places.l0 k (([0, 2] : List Int)) t275 0)
set_option maxHeartbeats 8000000 in
set_option maxRecDepth 100000 in
theorem spec_l2Places.calls (k : Nat) (a0 : Int) (r : List Int) (w : World) (h : spec_l2Places.f k a0 = some r) :
  Calls Try.prog 92 #[.int .i64 a0] w fun e w' => ∃ v0_ : Value, e = .returned (v0_) ∧ Kd.R (Kd.int .i64) 3 w' w.heap.size (fun _ => True) v0_ r ∧ Below w.heap.size w w' := by
 have HB := Aside0.mk (Below.refl w.heap.size w); have H : ((spec_l1Primes.f k a0).bind fun t275 => (spec_l2Places.l0 k (([0, 2] : List Int)) t275 0)) = some r := h; clear h; obtain ⟨y272, hyy⟩ : ∃ y_ : List Int, y_ = (([0, 2] : List Int)) := ⟨_, rfl⟩
 replace H : ((spec_l1Primes.f k a0).bind fun t275 => (spec_l2Places.l0 k y272 t275 0)) = some r := Sqz.auY
 have Ny272 := Aside0.mk hyy; clear hyy; obtain ⟨t275, A2, H⟩ := Sqz.be H; have H' := Aside0.mk H; clear H
 go_enter Try.func92, Try.ntmps92
 go_wp2_with (first | ((with_reducible refine gate_dst (N := 6) rfl ?_); refine Kd.R_lit (Kd.int .i64) _ 3 ?hg (N := 6) ?hd (xs := ([0, 2] : List Int)) (inner := [.int .i64 0, .int .i64 2]) (ok := fun _ => True) (okp := fun _ => True) ?hr ?hp (fun _ hk => hk) trivial (Below.refl _ _) (Nat.le_refl _) (by simp) ?_; (case hd => rfl); (case hg => rfl); (case hr => first | (go_simp; done) | (go_simp; rfl)); (case hp => exact (Reps.one (show Kd.M (Kd.int .i64) _ _ _ 0 [.int .i64 0] from rfl) (Reps.one (show Kd.M (Kd.int .i64) _ _ _ 2 [.int .i64 2] from rfl) (Reps.none _ _)))); intro v273 w3 ho4 hb hg_ hnew_; clear hg_ hnew_; (first | rw [← Ny272.out] at ho4 | (simp only [Int.reduceToNat] at ho4; rw [← Ny272.out] at ho4)); have HO274 := Aside0.mk (Kd.R_lower ho4 (below_size (Sqz.auHB))); replace HB := Aside0.mk (below_step (Sqz.auHB) hb); clear hb ho4) | ((with_reducible refine gate_callee (f := 105) rfl ?_); refine goesL_ (some 8) rfl rfl Try.func105 (by kernel_rfl) rfl #[.int .i64 a0] rfl Sqz.auM ?_; (with_reducible refine (spec_l1Primes.calls k a0 t275 _ A2.out).mono ?_); rintro e w5 ⟨v276, rfl, ho0, hb⟩; refine ⟨_, rfl, ?_⟩; have HO277 := Aside0.mk (Kd.R_lower (Kd.R_new' ho0 (Kd.R_lt ((Sqz.mvR HO274.out)))) (below_size (Sqz.auHB))); replace HO274 := Aside0.mk (Kd.R_elder' ((Sqz.mvR HO274.out)) (Kd.R_base ho0) hb); replace HB := Aside0.mk (below_step (Sqz.auHB) hb); (try clear hb); (try clear ho0)))
 go_loopg [3, 5] k (fun kq v3 v5 w' => ∃ (x3_1 : List Int) (x5_1 : Int), v5 = .int .i64 x5_1 ∧ Aside0 (spec_l2Places.l0 kq x3_1 t275 x5_1 = some r) ∧ Aside0 (kq ≤ k) ∧ Aside0 (Kd.R (Kd.int .i64) 3 w' w.heap.size (fun k_ => some k_ ≠ (v276 : Value).ownBlock) v3 x3_1) ∧ Aside0 (Kd.R (Kd.int .i64) 3 w' w.heap.size (fun k_ => some k_ ≠ (v3 : Value).ownBlock) v276 t275) ∧ Aside0 (Below w.heap.size w w'))
 case atStart => exact ⟨(y272), (0), Sqz.auS, H', ⟨Nat.le_refl _⟩, ⟨(Sqz.mvR (Kd.R_mono HO274.out (fun _ hk => hk.2)))⟩, ⟨(Sqz.mvR (Kd.R_mono HO277.out (fun _ hk => hk.2)))⟩, ⟨Sqz.auHB⟩⟩
 case round =>
  clear H'
  try clear c1
  try clear p2
  obtain ⟨x3_1, x5_1, rfl, HA, HK1, HO_3, HO_4, HB⟩ := hrel; cases gk with
  | zero => exact absurd HA.out (by simp [spec_l2Places.l0])
  | succ k1 =>
   have H := HA.out; clear HA; simp only [spec_l2Places.l0] at H
   by_cases c6 : x5_1 < (t275.length : Int)
   ·rw [if_pos c6] at H; have c6b0 := decide_eq_true c6; clear c6
    by_cases c7 : 0 ≤ x5_1
    ·rw [if_pos c7] at H; have c7b0 := decide_eq_true c7; clear c7
     by_cases c8 : (rd t275 x5_1) > 2
     ·rw [if_pos c8] at H; have c8b0 : decide (2 < (rd t275 x5_1)) = true := decide_eq_true c8; clear c8
      by_cases c9 : x3_1.length < 17592186044416
      ·rw [if_pos c9] at H; have LMc9 := Aside0.mk c9; clear c9; obtain ⟨y280, hyy⟩ : ∃ y_ : List Int, y_ = (x3_1 ++ [rd t275 x5_1]) := ⟨_, rfl⟩
       replace H : (spec_l2Places.l0 k1 y280 t275 (wrap64 (x5_1 + 1))) = some r := Sqz.auY
       have Ny280 := Aside0.mk hyy; clear hyy; have H' := Aside0.mk H; clear H; obtain ⟨Ao10, co10, eo10⟩ := Kd.R_slice HO_4.out; subst eo10; have p278 : 0 ≤ (x5_1 : Int) := Sqz.od; have q278 : x5_1 < (t275.length : Int) := Sqz.od; obtain ⟨ad278, e278, hx278_0⟩ := Kd.at_int (Kd.R_reads' HO_4.out).2.2 x5_1 p278 q278; cases e278; replace p278 := eq_true p278; replace q278 := eq_true q278; have p279 : 0 ≤ (x5_1 : Int) := Sqz.od; have q279 : x5_1 < (t275.length : Int) := Sqz.od; obtain ⟨ad279, e279, hx279_0⟩ := Kd.at_int (Kd.R_reads' HO_4.out).2.2 x5_1 p279 q279; obtain rfl : ad278 = ad279 := (by injection e279); replace p279 := eq_true p279; replace q279 := eq_true q279
       go_wp2_with (first | ((with_reducible refine gate_builtin (b := .append) (xs := #[.tmp 20, .tmp 25]) rfl ?_); at_builtin; refine Kd.R_append (Kd.int .i64) (w0 := w) w.heap.size rfl (.tmp 20) (.tmp 25) 22 3 (.int .i64 0) 8 rfl Try.underlying22 info3 rfl (by decide) (by omega) u3 x3_1 (rd t275 x5_1) [.int .i64 (rd t275 x5_1)] (fun k_ => some k_ ≠ (.slice (some ad278) t275.length co10 : Value).ownBlock) (fun _ => False) rfl rfl ?aP (fun _ hk => hk.elim) ?aF ?aO ?aB ?aS ?aL ?_; (case aP => exact rfl); (case aB => exact (Sqz.auHB)); (case aF => exact (fun k_ hk => Kd.fresh' (Kd.R_lt ((Sqz.mvR HO_4.out))) k_ hk)); (case aO => exact ((Sqz.mvR HO_3.out))); (case aS => exact (below_size (Sqz.auHB))); (case aL => have := LMc9.out; omega); intro v281 w11 ho hb hg hat; rw [← Ny280.out] at ho; replace HO_4 := Aside0.mk (Kd.R_after (ok := (fun _ => True)) ((Sqz.mvR (Kd.R_mono HO_4.out (fun _ hk => ⟨trivial, hk⟩)))) hg hat); replace HB := Aside0.mk (hb); have HO282 := Aside0.mk (ho); clear HO_3; clear ho hb hg hat))
       go_roundg k1
       case measure => have := HK1.out; omega
       case rel => exact ⟨(y280), (wrap64 (x5_1 + 1)), Sqz.auS, H', ⟨by have := HK1.out; omega⟩, ⟨(Sqz.mvR HO282.out)⟩, ⟨(Sqz.mvR (Kd.R_mono HO_4.out (fun _ hk => hk.2)))⟩, ⟨Sqz.auHB⟩⟩
      ·rw [if_neg c9] at H; exact absurd H (by simp)
     ·rw [if_neg c8] at H; have c8b0 : decide (2 < (rd t275 x5_1)) = false := decide_eq_false c8; clear c8; have H' := Aside0.mk H; clear H; obtain ⟨Ao12, co12, eo12⟩ := Kd.R_slice HO_4.out; subst eo12; have p278 : 0 ≤ (x5_1 : Int) := Sqz.od; have q278 : x5_1 < (t275.length : Int) := Sqz.od; obtain ⟨ad278, e278, hx278_0⟩ := Kd.at_int (Kd.R_reads' HO_4.out).2.2 x5_1 p278 q278; cases e278; replace p278 := eq_true p278; replace q278 := eq_true q278; go_wp2
      go_roundg k1
      case measure => have := HK1.out; omega
      case rel => exact ⟨(x3_1), (wrap64 (x5_1 + 1)), Sqz.auS, H', ⟨by have := HK1.out; omega⟩, ⟨(Sqz.mvR HO_3.out)⟩, ⟨(Sqz.mvR HO_4.out)⟩, ⟨Sqz.auHB⟩⟩
    ·rw [if_neg c7] at H; exact absurd H (by simp)
   ·rw [if_neg c6] at H; have c6b0 := decide_eq_false c6; clear c6; obtain rfl := Option.some.inj H; obtain ⟨Ao13, co13, eo13⟩ := Kd.R_slice HO_4.out; subst eo13; go_wp2; go_ret
    exact ⟨_, Sqz.auR, (Sqz.mvR (Kd.R_mono HO_3.out (fun _ hk => trivial))), Sqz.auHB⟩

/-! ### spec_FormPlaces: function 76 -/
def spec_FormPlaces.f (k : Nat) (l0 : List Int) : Option (List Int) := (spec_FormValid.f k l0).bind fun t283 => (if t283 = true then ((spec_l4Product.f k l0).bind fun t284 => ((spec_l2Places.f k t284).bind fun t285 => (some t285))) else (some (([] : List Int))))
set_option maxHeartbeats 8000000 in
set_option maxRecDepth 100000 in
theorem spec_FormPlaces.calls (k : Nat) (A0 : Option Addr) (c0 : Nat) (l0 : List Int) (r : List Int) (w : World) (hr0 : Kd.C (Kd.int .i64) w A0 l0.length l0) (hc0 : l0.length ≤ c0) (h : spec_FormPlaces.f k l0 = some r) :
  Calls Try.prog 76 #[.slice A0 l0.length c0] w fun e w' => ∃ v0_ : Value, e = .returned (v0_) ∧ Kd.R (Kd.int .i64) 3 w' w.heap.size (fun _ => True) v0_ r ∧ Below w.heap.size w w' := by
 have HR0 := Aside0.mk hr0; have HC0 := Aside0.mk hc0; clear hr0 hc0; have HB := Aside0.mk (Below.refl w.heap.size w); have H : ((spec_FormValid.f k l0).bind fun t283 => (if t283 = true then ((spec_l4Product.f k l0).bind fun t284 => ((spec_l2Places.f k t284).bind fun t285 => (some t285))) else (some (([] : List Int))))) = some r := h; clear h; obtain ⟨t283, A2, H⟩ := Sqz.be H
 by_cases c3 : t283 = true
 ·subst c3; have H1 : ((spec_l4Product.f k l0).bind fun t284 => ((spec_l2Places.f k t284).bind fun t285 => (some t285))) = some r := by rw [if_pos rfl] at H; exact H
  clear H; have H := H1; clear H1; obtain ⟨t284, A4, H⟩ := Sqz.be H; obtain ⟨t285, A5, H⟩ := Sqz.be H; obtain rfl := Option.some.inj H
  go_enter Try.func76, Try.ntmps76
  go_wp2_with (first | ((with_reducible refine gate_callee (f := 72) rfl ?_); refine goesL_ (some 4) rfl rfl Try.func72 (by kernel_rfl) rfl #[.slice A0 l0.length c0] rfl Sqz.auM ?_; (with_reducible refine (spec_FormValid.calls k _ _ l0 true _ ?side1 ?side2 A2.out).mono ?_); (case side1 => exact Sqz.mvC (HR0.out)); (case side2 => exact HC0.out); rintro e w' ⟨rfl, ⟨nd, rfl⟩⟩; refine ⟨_, rfl, ?_⟩) | ((with_reducible refine gate_callee (f := 79) rfl ?_); refine goesL_ (some 8) rfl rfl Try.func79 (by kernel_rfl) rfl #[.slice A0 l0.length c0] rfl Sqz.auM ?_; (with_reducible refine (spec_l4Product.calls k _ _ l0 t284 _ ?side1 ?side2 A4.out).mono ?_); (case side1 => exact Sqz.mvC (HR0.out)); (case side2 => exact HC0.out); rintro e w' ⟨rfl, ⟨nd, rfl⟩⟩; refine ⟨_, rfl, ?_⟩) | ((with_reducible refine gate_callee (f := 92) rfl ?_); refine goesL_ (some 9) rfl rfl Try.func92 (by kernel_rfl) rfl #[.int .i64 t284] rfl Sqz.auM ?_; (with_reducible refine (spec_l2Places.calls k t284 t285 _ A5.out).mono ?_); rintro e w6 ⟨v286, rfl, ho0, hb⟩; refine ⟨_, rfl, ?_⟩; have HO287 := Aside0.mk (Kd.R_lower ho0 (below_size (Sqz.auHB))); replace HB := Aside0.mk (below_step (Sqz.auHB) hb); (try clear hb); (try clear ho0)))
  go_ret
  exact ⟨_, Sqz.auR, (Sqz.mvR HO287.out), Sqz.auHB⟩
 ·replace c3 := Bool.eq_false_iff.mpr c3; subst c3; have H1 : (some (([] : List Int))) = some r := by rw [if_neg (show ¬ (false = true) by decide)] at H; exact H
  clear H; have H := H1; clear H1; obtain ⟨y288, hyy⟩ : ∃ y_ : List Int, y_ = (([] : List Int)) := ⟨_, rfl⟩
  replace H : (some y288) = some r := Sqz.auY
  have Ny288 := Aside0.mk hyy; clear hyy; obtain rfl := Option.some.inj H
  go_enter Try.func76, Try.ntmps76
  go_wp2_with (first | ((with_reducible refine gate_callee (f := 72) rfl ?_); refine goesL_ (some 4) rfl rfl Try.func72 (by kernel_rfl) rfl #[.slice A0 l0.length c0] rfl Sqz.auM ?_; (with_reducible refine (spec_FormValid.calls k _ _ l0 false _ ?side1 ?side2 A2.out).mono ?_); (case side1 => exact Sqz.mvC (HR0.out)); (case side2 => exact HC0.out); rintro e w' ⟨rfl, ⟨nd, rfl⟩⟩; refine ⟨_, rfl, ?_⟩) | ((with_reducible refine gate_dst (N := 6) rfl ?_); refine Kd.R_lit (Kd.int .i64) _ 3 ?hg (N := 6) ?hd (xs := ([] : List Int)) (inner := []) (ok := fun _ => True) (okp := fun _ => True) ?hr ?hp (fun _ hk => hk) trivial (Below.refl _ _) (Nat.le_refl _) (by simp) ?_; (case hd => rfl); (case hg => rfl); (case hr => first | (go_simp; done) | (go_simp; rfl)); (case hp => exact (Reps.none _ _)); intro v289 w7 ho8 hb hg_ hnew_; clear hg_ hnew_; (first | rw [← Ny288.out] at ho8 | (simp only [Int.reduceToNat] at ho8; rw [← Ny288.out] at ho8)); have HO290 := Aside0.mk (Kd.R_lower ho8 (below_size (Sqz.auHB))); replace HB := Aside0.mk (below_step (Sqz.auHB) hb); clear hb ho8))
  go_ret
  exact ⟨_, Sqz.auR, (Sqz.mvR HO290.out), Sqz.auHB⟩

/-! ### spec_l4Less: function 93 -/
def spec_l4Less.l0 : Nat → List Int → Int → Int → Option (Int)
 | 0, _, _, _ => none
 | k + 1, x0, x3, x4 => if x4 < (x0.length : Int) then (if 0 ≤ x4 then (if (rd x0 x4) < 0 then (spec_l4Less.l0 k x0 (wrap64 (x3 + 1)) (wrap64 (x4 + 1))) else (spec_l4Less.l0 k x0 x3 (wrap64 (x4 + 1)))) else (none)) else (some x3)
def spec_l4Less.f (k : Nat) (l0 : List Int) : Option (Int) := spec_l4Less.l0 k l0 0 0
set_option maxHeartbeats 8000000 in
set_option maxRecDepth 100000 in
theorem spec_l4Less.calls (k : Nat) (A0 : Option Addr) (c0 : Nat) (l0 : List Int) (r : Int) (w : World) (hr0 : Kd.C (Kd.int .i64) w A0 l0.length l0) (hc0 : l0.length ≤ c0) (h : spec_l4Less.f k l0 = some r) :
  Calls Try.prog 93 #[.slice A0 l0.length c0] w fun e w' => e = .returned (.int .i64 r) ∧ Drawn0 w w' := by
 have HR0 := Aside0.mk hr0; have HC0 := Aside0.mk hc0; clear hr0 hc0; have H : (spec_l4Less.l0 k l0 0 0) = some r := h; clear h; have H' := Aside0.mk H; clear H
 go_enter Try.func93, Try.ntmps93
 go_wp2
 go_loopg [3, 4] k (fun kq v3 v4 w' => ∃ (x3_1 : Int) (x4_1 : Int), v3 = .int .i64 x3_1 ∧ v4 = .int .i64 x4_1 ∧ Aside0 (spec_l4Less.l0 kq l0 x3_1 x4_1 = some r) ∧ Aside0 (kq ≤ k) ∧ Drawn0 w w')
 case atStart => exact ⟨(0), (0), Sqz.auS, Sqz.auS, H', ⟨Nat.le_refl _⟩, by repeat (first | exact Drawn0.refl _ | apply Drawn0.step)⟩
 case round =>
  clear H'; obtain ⟨x3_1, x4_1, rfl, rfl, HA, HK1, ⟨m1, rfl⟩⟩ := hrel; cases gk with
  | zero => exact absurd HA.out (by simp [spec_l4Less.l0])
  | succ k1 =>
   have H := HA.out; clear HA; simp only [spec_l4Less.l0] at H
   by_cases c2 : x4_1 < (l0.length : Int)
   ·rw [if_pos c2] at H; have c2b0 := decide_eq_true c2; clear c2
    by_cases c3 : 0 ≤ x4_1
    ·rw [if_pos c3] at H; have c3b0 := decide_eq_true c3; clear c3
     by_cases c4 : (rd l0 x4_1) < 0
     ·rw [if_pos c4] at H; have c4b0 := decide_eq_true c4; clear c4; have H' := Aside0.mk H; clear H; have p291 : 0 ≤ (x4_1 : Int) := Sqz.od; have q291 : x4_1 < (l0.length : Int) := Sqz.od; obtain ⟨ad291, e291, hx291_0⟩ := Kd.at_int HR0.out x4_1 p291 q291; cases e291; replace p291 := eq_true p291; replace q291 := eq_true q291; go_wp2
      go_roundg k1
      case measure => have := HK1.out; omega
      case rel => exact ⟨(wrap64 (x3_1 + 1)), (wrap64 (x4_1 + 1)), Sqz.auS, Sqz.auS, H', ⟨by have := HK1.out; omega⟩, by repeat (first | exact Drawn0.refl _ | apply Drawn0.step)⟩
     ·rw [if_neg c4] at H; have c4b0 := decide_eq_false c4; clear c4; have H' := Aside0.mk H; clear H; have p291 : 0 ≤ (x4_1 : Int) := Sqz.od; have q291 : x4_1 < (l0.length : Int) := Sqz.od; obtain ⟨ad291, e291, hx291_0⟩ := Kd.at_int HR0.out x4_1 p291 q291; cases e291; replace p291 := eq_true p291; replace q291 := eq_true q291; go_wp2
      go_roundg k1
      case measure => have := HK1.out; omega
      case rel => exact ⟨(x3_1), (wrap64 (x4_1 + 1)), Sqz.auS, Sqz.auS, H', ⟨by have := HK1.out; omega⟩, by repeat (first | exact Drawn0.refl _ | apply Drawn0.step)⟩
    ·rw [if_neg c3] at H; exact absurd H (by simp)
   ·rw [if_neg c2] at H; have c2b0 := decide_eq_false c2; clear c2; obtain rfl := Option.some.inj H; go_wp2; go_ret
    exact ⟨Sqz.auS, by repeat (first | exact Drawn0.refl _ | apply Drawn0.step)⟩

/-! ### spec_l1Valuation: function 108 -/
def spec_l1Valuation.l0 : Nat → Int → Int → Int → Option (Int × Int)
 | 0, _, _, _ => none
 | k + 1, x0, x1, x6 => if x1 = 0 then (none) else (if (Int.tmod x0 x1) = 0 then (spec_l1Valuation.l0 k (wrap64 (Int.tdiv x0 x1)) x1 (wrap64 (x6 + 1))) else (some (x6, x0)))
def spec_l1Valuation.f (k : Nat) (a0 : Int) (a1 : Int) : Option (Int × Int) := spec_l1Valuation.l0 k a0 a1 0
set_option maxHeartbeats 8000000 in
set_option maxRecDepth 100000 in
theorem spec_l1Valuation.calls (k : Nat) (a0 : Int) (a1 : Int) (r1 : Int) (r2 : Int) (w : World) (h : spec_l1Valuation.f k a0 a1 = some (r1, r2)) :
  Calls Try.prog 108 #[.int .i64 a0, .int .i64 a1] w fun e w' => e = .returned (.tuple #[.int .i64 r1, .int .i64 r2]) ∧ Drawn0 w w' := by
 have H : (spec_l1Valuation.l0 k a0 a1 0) = some (r1, r2) := h; clear h; have H' := Aside0.mk H; clear H
 go_enter Try.func108, Try.ntmps108
 go_wp2
 go_loopg [0, 6] k (fun kq v0 v6 w' => ∃ (x0_1 : Int) (x6_1 : Int), v0 = .int .i64 x0_1 ∧ v6 = .int .i64 x6_1 ∧ Aside0 (spec_l1Valuation.l0 kq x0_1 a1 x6_1 = some (r1, r2)) ∧ Aside0 (kq ≤ k) ∧ Drawn0 w w')
 case atStart => exact ⟨(a0), (0), Sqz.auS, Sqz.auS, H', ⟨Nat.le_refl _⟩, by repeat (first | exact Drawn0.refl _ | apply Drawn0.step)⟩
 case round =>
  clear H'
  try clear c1
  try clear p2
  obtain ⟨x0_1, x6_1, rfl, rfl, HA, HK1, ⟨m1, rfl⟩⟩ := hrel; cases gk with
  | zero => exact absurd HA.out (by simp [spec_l1Valuation.l0])
  | succ k1 =>
   have H := HA.out; clear HA; simp only [spec_l1Valuation.l0] at H
   by_cases c3 : a1 = 0
   ·rw [if_pos c3] at H; exact absurd H (by simp)
   ·rw [if_neg c3] at H; have c3b0 := beq_eq_false_iff_ne.mpr c3; have c3b1 := bne_iff_ne.mpr c3
    by_cases c4 : (Int.tmod x0_1 a1) = 0
    ·rw [if_pos c4] at H; have c4b0 := beq_iff_eq.mpr c4; have c4b1 := bne_eq_false_iff_eq.mpr c4; clear c4; have H' := Aside0.mk H; clear H; go_wp2
     go_roundg k1
     case measure => have := HK1.out; omega
     case rel => exact ⟨(wrap64 (Int.tdiv x0_1 a1)), (wrap64 (x6_1 + 1)), Sqz.auS, Sqz.auS, H', ⟨by have := HK1.out; omega⟩, by repeat (first | exact Drawn0.refl _ | apply Drawn0.step)⟩
    ·rw [if_neg c4] at H; have c4b0 := beq_eq_false_iff_ne.mpr c4; have c4b1 := bne_iff_ne.mpr c4; simp only [Option.some.injEq, Prod.mk.injEq] at H; obtain ⟨rfl, rfl⟩ := H; go_wp2; go_ret2
     exact ⟨Sqz.auS, by repeat (first | exact Drawn0.refl _ | apply Drawn0.step)⟩

/-! ### spec_l1Mod: function 109 -/
def spec_l1Mod.f (a0 : Int) (a1 : Int) : Option (Int) := if a1 = 0 then (none) else (some (Int.tmod (wrap64 ((Int.tmod a0 a1) + a1)) a1))
set_option maxHeartbeats 8000000 in
set_option maxRecDepth 100000 in
theorem spec_l1Mod.calls (a0 : Int) (a1 : Int) (r : Int) (w : World) (h : spec_l1Mod.f a0 a1 = some r) :
  Calls Try.prog 109 #[.int .i64 a0, .int .i64 a1] w fun e w' => e = .returned (.int .i64 r) ∧ Drawn0 w w' := by
 have H : (if a1 = 0 then (none) else (some (Int.tmod (wrap64 ((Int.tmod a0 a1) + a1)) a1))) = some r := h; clear h
 by_cases c3 : a1 = 0
 ·rw [if_pos c3] at H; exact absurd H (by simp)
 ·rw [if_neg c3] at H; have c3b0 := beq_eq_false_iff_ne.mpr c3; have c3b1 := bne_iff_ne.mpr c3; obtain rfl := Option.some.inj H
  go_enter Try.func109, Try.ntmps109
  go_wp2; go_ret
  exact ⟨Sqz.auS, by repeat (first | exact Drawn0.refl _ | apply Drawn0.step)⟩

/-! ### spec_l1Power: function 124 -/
def spec_l1Power.l0 : Nat → Int → Int → Int → Int → Option (Int)
 | 0, _, _, _, _ => none
 | k + 1, x0, x1, x2, x7 => if x1 > 0 then (if (Int.tmod x1 2) = 1 then (if x2 = 0 then (none) else (spec_l1Power.l0 k (Int.tmod (wrap64 (x0 * x0)) x2) (wrap64 (Int.tdiv x1 2)) x2 (Int.tmod (wrap64 (x7 * x0)) x2))) else (if x2 = 0 then (none) else (spec_l1Power.l0 k (Int.tmod (wrap64 (x0 * x0)) x2) (wrap64 (Int.tdiv x1 2)) x2 x7))) else (some x7)
def spec_l1Power.f (k : Nat) (a0 : Int) (a1 : Int) (a2 : Int) : Option (Int) := if a2 = 0 then (none) else ((spec_l1Mod.f a0 a2).bind fun t292 => (spec_l1Power.l0 k t292 a1 a2 ((1 : Int) % a2)))
set_option maxHeartbeats 8000000 in
set_option maxRecDepth 100000 in
theorem spec_l1Power.calls (k : Nat) (a0 : Int) (a1 : Int) (a2 : Int) (r : Int) (w : World) (h : spec_l1Power.f k a0 a1 a2 = some r) :
  Calls Try.prog 124 #[.int .i64 a0, .int .i64 a1, .int .i64 a2] w fun e w' => e = .returned (.int .i64 r) ∧ Drawn0 w w' := by
 have H : (if a2 = 0 then (none) else ((spec_l1Mod.f a0 a2).bind fun t292 => (spec_l1Power.l0 k t292 a1 a2 ((1 : Int) % a2)))) = some r := h; clear h
 by_cases c4 : a2 = 0
 ·rw [if_pos c4] at H; exact absurd H (by simp)
 ·rw [if_neg c4] at H; have c4b0 := beq_eq_false_iff_ne.mpr c4; have c4b1 := bne_iff_ne.mpr c4; obtain ⟨t292, A5, H⟩ := Sqz.be H; have H' := Aside0.mk H; clear H
  go_enter Try.func124, Try.ntmps124
  go_wp2_with (first | ((with_reducible refine gate_callee (f := 109) rfl ?_); refine goesL_ (some 12) rfl rfl Try.func109 (by kernel_rfl) rfl #[.int .i64 a0, .int .i64 a2] rfl Sqz.auM ?_; (with_reducible refine (spec_l1Mod.calls a0 a2 t292 _ A5.out).mono ?_); rintro e w' ⟨rfl, ⟨nd, rfl⟩⟩; refine ⟨_, rfl, ?_⟩))
  go_loopg [0, 1, 7] k (fun kq v0 v1 v7 w' => ∃ (x0_1 : Int) (x1_1 : Int) (x7_1 : Int), v0 = .int .i64 x0_1 ∧ v1 = .int .i64 x1_1 ∧ v7 = .int .i64 x7_1 ∧ Aside0 (spec_l1Power.l0 kq x0_1 x1_1 a2 x7_1 = some r) ∧ Aside0 (kq ≤ k) ∧ Drawn0 w w')
  case atStart => exact ⟨(t292), (a1), ((1 : Int) % a2), Sqz.auS, Sqz.auS, Sqz.auS, H', ⟨Nat.le_refl _⟩, by repeat (first | exact Drawn0.refl _ | apply Drawn0.step)⟩
  case round =>
   clear H'
   try clear c1
   try clear p2
   try clear c4
   try clear c4b0
   try clear c4b1
   obtain ⟨x0_1, x1_1, x7_1, rfl, rfl, rfl, HA, HK1, ⟨m1, rfl⟩⟩ := hrel; cases gk with
   | zero => exact absurd HA.out (by simp [spec_l1Power.l0])
   | succ k1 =>
    have H := HA.out; clear HA; simp only [spec_l1Power.l0] at H
    by_cases c6 : x1_1 > 0
    ·rw [if_pos c6] at H; have c6b0 : decide (0 < x1_1) = true := decide_eq_true c6; clear c6
     by_cases c7 : (Int.tmod x1_1 2) = 1
     ·rw [if_pos c7] at H; have c7b0 := beq_iff_eq.mpr c7; have c7b1 := bne_eq_false_iff_eq.mpr c7; clear c7
      by_cases c8 : a2 = 0
      ·rw [if_pos c8] at H; exact absurd H (by simp)
      ·rw [if_neg c8] at H; have c8b0 := beq_eq_false_iff_ne.mpr c8; have c8b1 := bne_iff_ne.mpr c8; have H' := Aside0.mk H; clear H; go_wp2
       go_roundg k1
       case measure => have := HK1.out; omega
       case rel => exact ⟨(Int.tmod (wrap64 (x0_1 * x0_1)) a2), (wrap64 (Int.tdiv x1_1 2)), (Int.tmod (wrap64 (x7_1 * x0_1)) a2), Sqz.auS, Sqz.auS, Sqz.auS, H', ⟨by have := HK1.out; omega⟩, by repeat (first | exact Drawn0.refl _ | apply Drawn0.step)⟩
     ·rw [if_neg c7] at H; have c7b0 := beq_eq_false_iff_ne.mpr c7; have c7b1 := bne_iff_ne.mpr c7
      by_cases c9 : a2 = 0
      ·rw [if_pos c9] at H; exact absurd H (by simp)
      ·rw [if_neg c9] at H; have c9b0 := beq_eq_false_iff_ne.mpr c9; have c9b1 := bne_iff_ne.mpr c9; have H' := Aside0.mk H; clear H; go_wp2
       go_roundg k1
       case measure => have := HK1.out; omega
       case rel => exact ⟨(Int.tmod (wrap64 (x0_1 * x0_1)) a2), (wrap64 (Int.tdiv x1_1 2)), (x7_1), Sqz.auS, Sqz.auS, Sqz.auS, H', ⟨by have := HK1.out; omega⟩, by repeat (first | exact Drawn0.refl _ | apply Drawn0.step)⟩
    ·rw [if_neg c6] at H; have c6b0 : decide (0 < x1_1) = false := decide_eq_false c6; clear c6; obtain rfl := Option.some.inj H; go_wp2; go_ret
     exact ⟨Sqz.auS, by repeat (first | exact Drawn0.refl _ | apply Drawn0.step)⟩

/-! ### spec_l1Residue: function 110 -/
def spec_l1Residue.f (k : Nat) (a0 : Int) (a1 : Int) : Option (Int) := (spec_l1Power.f k a0 (wrap64 (Int.tdiv (wrap64 (a1 - 1)) 2)) a1).bind fun t293 => (if t293 = (wrap64 (a1 - 1)) then (some (-1)) else (some t293))
set_option maxHeartbeats 8000000 in
set_option maxRecDepth 100000 in
theorem spec_l1Residue.calls (k : Nat) (a0 : Int) (a1 : Int) (r : Int) (w : World) (h : spec_l1Residue.f k a0 a1 = some r) :
  Calls Try.prog 110 #[.int .i64 a0, .int .i64 a1] w fun e w' => e = .returned (.int .i64 r) ∧ Drawn0 w w' := by
 have H : ((spec_l1Power.f k a0 (wrap64 (Int.tdiv (wrap64 (a1 - 1)) 2)) a1).bind fun t293 => (if t293 = (wrap64 (a1 - 1)) then (some (-1)) else (some t293))) = some r := h; clear h; obtain ⟨t293, A3, H⟩ := Sqz.be H
 by_cases c4 : t293 = (wrap64 (a1 - 1))
 ·rw [if_pos c4] at H; have c4b0 := beq_iff_eq.mpr c4; have c4b1 := bne_eq_false_iff_eq.mpr c4; clear c4; obtain rfl := Option.some.inj H
  go_enter Try.func110, Try.ntmps110
  go_wp2_with (first | ((with_reducible refine gate_callee (f := 124) rfl ?_); refine goesL_ (some 11) rfl rfl Try.func124 (by kernel_rfl) rfl #[.int .i64 a0, .int .i64 (wrap64 (Int.tdiv (wrap64 (a1 - 1)) 2)), .int .i64 a1] rfl Sqz.auM ?_; (with_reducible refine (spec_l1Power.calls k a0 (wrap64 (Int.tdiv (wrap64 (a1 - 1)) 2)) a1 t293 _ A3.out).mono ?_); rintro e w' ⟨rfl, ⟨nd, rfl⟩⟩; refine ⟨_, rfl, ?_⟩))
  go_ret
  exact ⟨Sqz.auS, by repeat (first | exact Drawn0.refl _ | apply Drawn0.step)⟩
 ·rw [if_neg c4] at H; have c4b0 := beq_eq_false_iff_ne.mpr c4; have c4b1 := bne_iff_ne.mpr c4; obtain rfl := Option.some.inj H
  go_enter Try.func110, Try.ntmps110
  go_wp2_with (first | ((with_reducible refine gate_callee (f := 124) rfl ?_); refine goesL_ (some 11) rfl rfl Try.func124 (by kernel_rfl) rfl #[.int .i64 a0, .int .i64 (wrap64 (Int.tdiv (wrap64 (a1 - 1)) 2)), .int .i64 a1] rfl Sqz.auM ?_; (with_reducible refine (spec_l1Power.calls k a0 (wrap64 (Int.tdiv (wrap64 (a1 - 1)) 2)) a1 t293 _ A3.out).mono ?_); rintro e w' ⟨rfl, ⟨nd, rfl⟩⟩; refine ⟨_, rfl, ?_⟩))
  go_ret
  exact ⟨Sqz.auS, by repeat (first | exact Drawn0.refl _ | apply Drawn0.step)⟩

/-! ### spec_l2Square: function 95 -/
def spec_l2Square.f (k : Nat) (a0 : Int) (a1 : Int) : Option (Bool) := if a1 = 0 then (some (decide (a0 > 0))) else ((spec_l1Valuation.f k a0 a1).bind fun bt294 => (if a1 = 2 then (if (Int.tmod bt294.1 2) = 0 then ((spec_l1Mod.f bt294.2 8).bind fun t296 => (some (t296 == 1))) else (some false)) else (if (Int.tmod bt294.1 2) = 0 then ((spec_l1Residue.f k bt294.2 a1).bind fun t297 => (some (t297 == 1))) else (some false))))
set_option maxHeartbeats 8000000 in
set_option maxRecDepth 100000 in
theorem spec_l2Square.calls (k : Nat) (a0 : Int) (a1 : Int) (r : Bool) (w : World) (h : spec_l2Square.f k a0 a1 = some r) :
  Calls Try.prog 95 #[.int .i64 a0, .int .i64 a1] w fun e w' => e = .returned (.bool r) ∧ Drawn0 w w' := by
 have H : (if a1 = 0 then (some (decide (a0 > 0))) else ((spec_l1Valuation.f k a0 a1).bind fun bt294 => (if a1 = 2 then (if (Int.tmod bt294.1 2) = 0 then ((spec_l1Mod.f bt294.2 8).bind fun t296 => (some (t296 == 1))) else (some false)) else (if (Int.tmod bt294.1 2) = 0 then ((spec_l1Residue.f k bt294.2 a1).bind fun t297 => (some (t297 == 1))) else (some false))))) = some r := h; clear h
 by_cases c3 : a1 = 0
 ·rw [if_pos c3] at H; have c3b0 := beq_iff_eq.mpr c3; have c3b1 := bne_eq_false_iff_eq.mpr c3; clear c3; obtain rfl := Option.some.inj H
  go_enter Try.func95, Try.ntmps95
  go_wp2; go_ret
  exact ⟨Sqz.auS, by repeat (first | exact Drawn0.refl _ | apply Drawn0.step)⟩
 ·rw [if_neg c3] at H; have c3b0 := beq_eq_false_iff_ne.mpr c3; have c3b1 := bne_iff_ne.mpr c3; replace H := Option.bind_eq_some_iff.mp H; obtain ⟨⟨t294, t295⟩, A40, H⟩ := H; replace H : (if a1 = 2 then (if (Int.tmod t294 2) = 0 then ((spec_l1Mod.f t295 8).bind fun t296 => (some (t296 == 1))) else (some false)) else (if (Int.tmod t294 2) = 0 then ((spec_l1Residue.f k t295 a1).bind fun t297 => (some (t297 == 1))) else (some false))) = some r := H; have A4 := Aside0.mk A40; clear A40
  by_cases c5 : a1 = 2
  ·rw [if_pos c5] at H; have c5b0 := beq_iff_eq.mpr c5; have c5b1 := bne_eq_false_iff_eq.mpr c5; clear c5
   by_cases c6 : (Int.tmod t294 2) = 0
   ·rw [if_pos c6] at H; have c6b0 := beq_iff_eq.mpr c6; have c6b1 := bne_eq_false_iff_eq.mpr c6; clear c6; obtain ⟨t296, A7, H⟩ := Sqz.be H; obtain rfl := Option.some.inj H
    go_enter Try.func95, Try.ntmps95
    go_wp2_with (first | ((with_reducible refine gate_callee (f := 108) rfl ?_); refine goesL_ (some 14) rfl rfl Try.func108 (by kernel_rfl) rfl #[.int .i64 a0, .int .i64 a1] rfl Sqz.auM ?_; (with_reducible refine (spec_l1Valuation.calls k a0 a1 t294 t295 _ A4.out).mono ?_); rintro e w' ⟨rfl, ⟨nd, rfl⟩⟩; refine ⟨_, rfl, ?_⟩) | (go_at_call 109; (with_reducible refine (spec_l1Mod.calls t295 8 t296 _ A7.out).mono ?_); rintro e w' ⟨rfl, ⟨nd, rfl⟩⟩))
    go_ret
    exact ⟨Sqz.auS, by repeat (first | exact Drawn0.refl _ | apply Drawn0.step)⟩
   ·rw [if_neg c6] at H; have c6b0 := beq_eq_false_iff_ne.mpr c6; have c6b1 := bne_iff_ne.mpr c6; obtain rfl := Option.some.inj H
    go_enter Try.func95, Try.ntmps95
    go_wp2_with (first | ((with_reducible refine gate_callee (f := 108) rfl ?_); refine goesL_ (some 14) rfl rfl Try.func108 (by kernel_rfl) rfl #[.int .i64 a0, .int .i64 a1] rfl Sqz.auM ?_; (with_reducible refine (spec_l1Valuation.calls k a0 a1 t294 t295 _ A4.out).mono ?_); rintro e w' ⟨rfl, ⟨nd, rfl⟩⟩; refine ⟨_, rfl, ?_⟩))
    go_ret
    exact ⟨Sqz.auS, by repeat (first | exact Drawn0.refl _ | apply Drawn0.step)⟩
  ·rw [if_neg c5] at H; have c5b0 := beq_eq_false_iff_ne.mpr c5; have c5b1 := bne_iff_ne.mpr c5
   by_cases c8 : (Int.tmod t294 2) = 0
   ·rw [if_pos c8] at H; have c8b0 := beq_iff_eq.mpr c8; have c8b1 := bne_eq_false_iff_eq.mpr c8; clear c8; obtain ⟨t297, A9, H⟩ := Sqz.be H; obtain rfl := Option.some.inj H
    go_enter Try.func95, Try.ntmps95
    go_wp2_with (first | ((with_reducible refine gate_callee (f := 108) rfl ?_); refine goesL_ (some 14) rfl rfl Try.func108 (by kernel_rfl) rfl #[.int .i64 a0, .int .i64 a1] rfl Sqz.auM ?_; (with_reducible refine (spec_l1Valuation.calls k a0 a1 t294 t295 _ A4.out).mono ?_); rintro e w' ⟨rfl, ⟨nd, rfl⟩⟩; refine ⟨_, rfl, ?_⟩) | (go_at_call 110; (with_reducible refine (spec_l1Residue.calls k t295 a1 t297 _ A9.out).mono ?_); rintro e w' ⟨rfl, ⟨nd, rfl⟩⟩))
    go_ret
    exact ⟨Sqz.auS, by repeat (first | exact Drawn0.refl _ | apply Drawn0.step)⟩
   ·rw [if_neg c8] at H; have c8b0 := beq_eq_false_iff_ne.mpr c8; have c8b1 := bne_iff_ne.mpr c8; obtain rfl := Option.some.inj H
    go_enter Try.func95, Try.ntmps95
    go_wp2_with (first | ((with_reducible refine gate_callee (f := 108) rfl ?_); refine goesL_ (some 14) rfl rfl Try.func108 (by kernel_rfl) rfl #[.int .i64 a0, .int .i64 a1] rfl Sqz.auM ?_; (with_reducible refine (spec_l1Valuation.calls k a0 a1 t294 t295 _ A4.out).mono ?_); rintro e w' ⟨rfl, ⟨nd, rfl⟩⟩; refine ⟨_, rfl, ?_⟩))
    go_ret
    exact ⟨Sqz.auS, by repeat (first | exact Drawn0.refl _ | apply Drawn0.step)⟩

/-! ### spec_l3Half: function 123 -/
def spec_l3Half.f (a0 : Int) : Option (Int) := if (Int.tmod a0 2) = 0 then (some 1) else (some (-1))
set_option maxHeartbeats 8000000 in
set_option maxRecDepth 100000 in
theorem spec_l3Half.calls (a0 : Int) (r : Int) (w : World) (h : spec_l3Half.f a0 = some r) :
  Calls Try.prog 123 #[.int .i64 a0] w fun e w' => e = .returned (.int .i64 r) ∧ Drawn0 w w' := by
 have H : (if (Int.tmod a0 2) = 0 then (some 1) else (some (-1))) = some r := h; clear h
 by_cases c2 : (Int.tmod a0 2) = 0
 ·rw [if_pos c2] at H; have c2b0 := beq_iff_eq.mpr c2; have c2b1 := bne_eq_false_iff_eq.mpr c2; clear c2; obtain rfl := Option.some.inj H
  go_enter Try.func123, Try.ntmps123
  go_wp2; go_ret
  exact ⟨Sqz.auS, by repeat (first | exact Drawn0.refl _ | apply Drawn0.step)⟩
 ·rw [if_neg c2] at H; have c2b0 := beq_eq_false_iff_ne.mpr c2; have c2b1 := bne_iff_ne.mpr c2; obtain rfl := Option.some.inj H
  go_enter Try.func123, Try.ntmps123
  go_wp2; go_ret
  exact ⟨Sqz.auS, by repeat (first | exact Drawn0.refl _ | apply Drawn0.step)⟩

end Go.Proofs.Ytnnpafjgghpecaa.PFnRest
