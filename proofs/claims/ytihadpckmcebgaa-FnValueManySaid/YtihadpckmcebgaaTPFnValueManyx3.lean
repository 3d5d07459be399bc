/- A function's Lean twin and its walk, written by a program of this session. -/
import Derived.Test.YtihadpckmcebgaaTPFnValueManyx0
import Derived.Test.YtihadpckmcebgaaTPFnValueManyx1
import Derived.Test.YtihadpckmcebgaaTPFnValueManyx2
namespace Go.Proofs.Ytihadpckmcebgaa.PFnValueMany
open Go.RowKit Go.Proofs.YtihadpckmcebgaaW.PrintWords Go.Proofs.YtihadpckmcebgaaW.PrintLast Go.Proofs.YtihadpckmcebgaaW.PrintMore
attribute [local go_sem] max2_int min2_int max_two min_two max_three min_three max_four min_four   -- for this text's walks alone
set_option linter.unusedVariables false
set_option linter.unusedSimpArgs false

/-! ### slices_Index_int_int: function 151 -/
def slices_Index_int_int.l0 : Nat → List Int → Int → Int → Int → Option (Int)
 | 0, _, _, _, _ => none
 | k + 1, x0, x1, x7, x8 => if x8 < x7 then (if 0 ≤ x8 then (if x8 < (x0.length : Int) then (if x1 = (rd x0 x8) then (some x8) else (slices_Index_int_int.l0 k x0 x1 x7 (wrap64 (x8 + 1)))) else (none)) else (none)) else (some (-1))
def slices_Index_int_int.f (k : Nat) (l0 : List Int) (a1 : Int) : Option (Int) := slices_Index_int_int.l0 k l0 a1 (l0.length : Int) 0
set_option maxHeartbeats 8000000 in
set_option maxRecDepth 100000 in
theorem slices_Index_int_int.calls (k : Nat) (A0 : Option Addr) (c0 : Nat) (l0 : List Int) (a1 : Int) (r : Int) (w : World) (hr0 : Kd.C (Kd.int .i64) w A0 l0.length l0) (hc0 : l0.length ≤ c0) (h : slices_Index_int_int.f k l0 a1 = some r) :
  Calls Try.prog 151 #[.slice A0 l0.length c0, .int .i64 a1] w fun e w' => e = .returned (.int .i64 r) ∧ Drawn0 w w' := by
 have HR0 := Aside0.mk hr0; have HC0 := Aside0.mk hc0; clear hr0 hc0; have H : (slices_Index_int_int.l0 k l0 a1 (l0.length : Int) 0) = some r := h; clear h; have H' := Aside0.mk H; clear H
 go_enter Try.func151, Try.ntmps151
 go_wp2
 go_loopg [8] k (fun kq v8 w' => ∃ (x8_1 : Int), v8 = .int .i64 x8_1 ∧ Aside0 (slices_Index_int_int.l0 kq l0 a1 (l0.length : Int) x8_1 = some r) ∧ Aside0 (kq ≤ k) ∧ Drawn0 w w')
 case atStart => exact ⟨(0), Sqz.auS, H', ⟨Nat.le_refl _⟩, by repeat (first | exact Drawn0.refl _ | apply Drawn0.step)⟩
 case round =>
  clear H'
  try clear c1
  try clear p2
  obtain ⟨x8_1, rfl, HA, HK1, ⟨m1, rfl⟩⟩ := hrel; cases gk with
  | zero => exact absurd HA.out (by simp [slices_Index_int_int.l0])
  | succ k1 =>
   have H := HA.out; clear HA; simp only [slices_Index_int_int.l0] at H
   by_cases c3 : x8_1 < (l0.length : Int)
   ·rw [if_pos c3] at H; have c3b0 := decide_eq_true c3; clear c3
    by_cases c4 : 0 ≤ x8_1
    ·rw [if_pos c4] at H; have c4b0 := decide_eq_true c4; clear c4
     by_cases c5 : x8_1 < (l0.length : Int)
     ·rw [if_pos c5] at H; have c5b0 := decide_eq_true c5; clear c5
      by_cases c6 : a1 = (rd l0 x8_1)
      ·rw [if_pos c6] at H; have c6b0 := beq_iff_eq.mpr c6; have c6b1 := bne_eq_false_iff_eq.mpr c6; clear c6; obtain rfl := Option.some.inj H; have p156 : 0 ≤ (x8_1 : Int) := Sqz.od; have q156 : x8_1 < (l0.length : Int) := Sqz.od; obtain ⟨ad156, e156, hx156_0⟩ := Kd.at_int HR0.out x8_1 p156 q156; cases e156; replace p156 := eq_true p156; replace q156 := eq_true q156; go_wp2; go_ret
       exact ⟨Sqz.auS, by repeat (first | exact Drawn0.refl _ | apply Drawn0.step)⟩
      ·rw [if_neg c6] at H; have c6b0 := beq_eq_false_iff_ne.mpr c6; have c6b1 := bne_iff_ne.mpr c6; have H' := Aside0.mk H; clear H; have p156 : 0 ≤ (x8_1 : Int) := Sqz.od; have q156 : x8_1 < (l0.length : Int) := Sqz.od; obtain ⟨ad156, e156, hx156_0⟩ := Kd.at_int HR0.out x8_1 p156 q156; cases e156; replace p156 := eq_true p156; replace q156 := eq_true q156; go_wp2
       go_roundg k1
       case measure => have := HK1.out; omega
       case rel => exact ⟨(wrap64 (x8_1 + 1)), Sqz.auS, H', ⟨by have := HK1.out; omega⟩, by repeat (first | exact Drawn0.refl _ | apply Drawn0.step)⟩
     ·rw [if_neg c5] at H; exact absurd H (by simp)
    ·rw [if_neg c4] at H; exact absurd H (by simp)
   ·rw [if_neg c3] at H; have c3b0 := decide_eq_false c3; clear c3; obtain rfl := Option.some.inj H; go_wp2; go_ret
    exact ⟨Sqz.auS, by repeat (first | exact Drawn0.refl _ | apply Drawn0.step)⟩

/-! ### slices_Contains_int_int: function 140 -/
def slices_Contains_int_int.f (k : Nat) (l0 : List Int) (a1 : Int) : Option (Bool) := (slices_Index_int_int.f k l0 a1).bind fun t157 => (some (decide (t157 ≥ 0)))
set_option maxHeartbeats 8000000 in
set_option maxRecDepth 100000 in
theorem slices_Contains_int_int.calls (k : Nat) (A0 : Option Addr) (c0 : Nat) (l0 : List Int) (a1 : Int) (r : Bool) (w : World) (hr0 : Kd.C (Kd.int .i64) w A0 l0.length l0) (hc0 : l0.length ≤ c0) (h : slices_Contains_int_int.f k l0 a1 = some r) :
  Calls Try.prog 140 #[.slice A0 l0.length c0, .int .i64 a1] w fun e w' => e = .returned (.bool r) ∧ Drawn0 w w' := by
 have HR0 := Aside0.mk hr0; have HC0 := Aside0.mk hc0; clear hr0 hc0; have H : ((slices_Index_int_int.f k l0 a1).bind fun t157 => (some (decide (t157 ≥ 0)))) = some r := h; clear h; obtain ⟨t157, A3, H⟩ := Sqz.be H; obtain rfl := Option.some.inj H
 go_enter Try.func140, Try.ntmps140
 go_wp2_with (first | ((with_reducible refine gate_callee (f := 151) rfl ?_); refine goesL_ (some 7) rfl rfl Try.func151 (by kernel_rfl) rfl #[.slice A0 l0.length c0, .int .i64 a1] rfl Sqz.auM ?_; (with_reducible refine (slices_Index_int_int.calls k _ _ l0 a1 t157 _ ?side1 ?side2 A3.out).mono ?_); (case side1 => exact Sqz.mvC (HR0.out)); (case side2 => exact HC0.out); rintro e w' ⟨rfl, ⟨nd, rfl⟩⟩; refine ⟨_, rfl, ?_⟩))
 go_ret
 exact ⟨Sqz.auS, by repeat (first | exact Drawn0.refl _ | apply Drawn0.step)⟩

/-! ### slices_Sort_int_int: function 141 -/
section
open Locg
/-! ### slices.Sort of whole numbers, on a row of the call's own -/
def slices_Sort_int_int.f (l0 : List Int) : Option (List Int) := if 1 ≤ l0.length ∧ l0.length ≤ 17592186044416 then some (l0.mergeSort fun x y => decide (x ≤ y)) else none
theorem slices_Sort_int_int.calls (P0_ : Nat → Prop) (u9000_ : Value) (l0 : List Int) (r : List Int) (w0 w : World) (hB : Below w0.heap.size w0 w) (ho0 : Kd.R (Kd.int .i64) 3 w w0.heap.size P0_ u9000_ l0) (h : slices_Sort_int_int.f l0 = some r) :
  Calls Try.prog 141 #[u9000_] w fun e w' => e = .returned (.tuple #[]) ∧ Kd.R (Kd.int .i64) 3 w' w0.heap.size (fun k_ => (P0_ k_ ∨ w.heap.size ≤ k_)) u9000_ r ∧ Below w0.heap.size w0 w' ∧ Kept w w' (fun k_ => P0_ k_) := by
 unfold slices_Sort_int_int.f at h
 by_cases hl : 1 ≤ l0.length ∧ l0.length ≤ 17592186044416
 ·rw [if_pos hl] at h; injection h with h
  subst h; have hok := ho0.1; obtain ⟨_, h2⟩ := Kd.own_of_R (enc := Value.int .i64) (h1 := fun _ => rfl) ho0
  rcases h2 with ⟨_, h2⟩ | ⟨g, cap, cur, rfl, hb, hh, hn, hc, hs, ht⟩
  ·omega
  ·have ht' : cur.toList.take l0.length = l0.map (Value.int .i64) := by rw [Nat.mul_one] at ht; exact ht
   have hlt := lt_of_block hh; refine (Try.slices_Sort_int g 0 cap l0 w (holds_of_blockI hh ht') hlt (by omega)).mono ?_; rintro e w' ⟨rfl, n, os, rfl⟩; have hlen : (l0.mergeSort fun x y => decide (x ≤ y)).length = l0.length := List.length_mergeSort l0; have hg := grownBy_sortedI (w := w) (g := g) (n := n) (os := os) (l0.mergeSort fun x y => decide (x ≤ y)).toArray; have hown := ownsRow_sortedI (n := n) (os := os) hlen hb hh hn hc hs; refine ⟨rfl, ?_, hB.grown hg hB.size (fun k hk => by injection hk with hk; omega), Kept.of_grown hg (Kept.refl _ _) (fun k hk => Or.inl (hok k hk))⟩; refine Kd.R_of_own (enc := Value.int .i64) (h1 := fun _ => rfl) ?_ (fun k hk => Or.inl (hok k hk)); rw [hlen]; exact hown
 ·rw [if_neg hl] at h; cases h

end

/-! ### impl_placesOf: function 101 -/
mutual
def impl_placesOf.l0 : Nat → List Int → List Int → Int → Int → Option (List Int)
 | 0, _, _, _, _ => none
 | k + 1, x3, x9, x10, x11 => if x11 < x10 then (if 0 ≤ x11 then (if x11 < (x9.length : Int) then ((impl_primesOf.f k (rd x9 x11)).bind fun t163 => (impl_placesOf.l1 k x3 x9 x10 x11 t163 (t163.length : Int) 0)) else (none)) else (none)) else ((slices_Sort_int_int.f x3).bind fun t161 => (some t161))
def impl_placesOf.l1 : Nat → List Int → List Int → Int → Int → List Int → Int → Int → Option (List Int)
 | 0, _, _, _, _, _, _, _ => none
 | k + 1, x3, x9, x10, x11, x16, x17, x18 => if x18 < x17 then (if 0 ≤ x18 then (if x18 < (x16.length : Int) then ((slices_Contains_int_int.f k x3 (rd x16 x18)).bind fun t167 => (if t167 = true then (impl_placesOf.l1 k x3 x9 x10 x11 x16 x17 (wrap64 (x18 + 1))) else (if x3.length < 17592186044416 then (impl_placesOf.l1 k (x3 ++ [rd x16 x18]) x9 x10 x11 x16 x17 (wrap64 (x18 + 1))) else (none)))) else (none)) else (none)) else (impl_placesOf.l0 k x3 x9 x10 (wrap64 (x11 + 1)))
end
def impl_placesOf.f (k : Nat) (l0 : List Int) : Option (List Int) := impl_placesOf.l0 k (([0, 2] : List Int)) l0 (l0.length : Int) 0
set_option maxHeartbeats 8000000 in
set_option maxRecDepth 100000 in
theorem impl_placesOf.calls (k : Nat) (A0 : Option Addr) (c0 : Nat) (l0 : List Int) (r : List Int) (w : World) (hr0 : Kd.C (Kd.int .i64) w A0 l0.length l0) (hc0 : l0.length ≤ c0) (h : impl_placesOf.f k l0 = some r) :
  Calls Try.prog 101 #[.slice A0 l0.length c0] w fun e w' => ∃ v0_ : Value, e = .returned (v0_) ∧ Kd.R (Kd.int .i64) 3 w' w.heap.size (fun _ => True) v0_ r ∧ Below w.heap.size w w' := by
 have HR0 := Aside0.mk hr0; have HC0 := Aside0.mk hc0; clear hr0 hc0; have HB := Aside0.mk (Below.refl w.heap.size w); have H : (impl_placesOf.l0 k (([0, 2] : List Int)) l0 (l0.length : Int) 0) = some r := h; clear h; obtain ⟨y158, hyy⟩ : ∃ y_ : List Int, y_ = (([0, 2] : List Int)) := ⟨_, rfl⟩
 replace H : (impl_placesOf.l0 k y158 l0 (l0.length : Int) 0) = some r := Sqz.auY
 have Ny158 := Aside0.mk hyy; clear hyy; have H' := Aside0.mk H; clear H
 go_enter Try.func101, Try.ntmps101
 go_wp2_with (first | ((with_reducible refine gate_dst (N := 8) rfl ?_); refine Kd.R_lit (Kd.int .i64) _ 3 ?hg (N := 8) ?hd (xs := ([0, 2] : List Int)) (inner := [.int .i64 0, .int .i64 2]) (ok := fun _ => True) (okp := fun _ => True) ?hr ?hp (fun _ hk => hk) trivial (Below.refl _ _) (Nat.le_refl _) (by simp) ?_; (case hd => rfl); (case hg => rfl); (case hr => first | (go_simp; done) | (go_simp; rfl)); (case hp => exact (Reps.one (show Kd.M (Kd.int .i64) _ _ _ 0 [.int .i64 0] from rfl) (Reps.one (show Kd.M (Kd.int .i64) _ _ _ 2 [.int .i64 2] from rfl) (Reps.none _ _)))); intro v159 w2 ho3 hb hg_ hnew_; clear hg_ hnew_; (first | rw [← Ny158.out] at ho3 | (simp only [Int.reduceToNat] at ho3; rw [← Ny158.out] at ho3)); have HO160 := Aside0.mk (Kd.R_lower ho3 (below_size (Sqz.auHB))); replace HB := Aside0.mk (below_step (Sqz.auHB) hb); clear hb ho3))
 go_loopg [3, 11] k (fun kq v3 v11 w' => ∃ (x3_1 : List Int) (x11_1 : Int), v11 = .int .i64 x11_1 ∧ Aside0 (impl_placesOf.l0 kq x3_1 l0 (l0.length : Int) x11_1 = some r) ∧ Aside0 (kq ≤ k) ∧ Aside0 (Kd.R (Kd.int .i64) 3 w' w.heap.size (fun _ => True) v3 x3_1) ∧ Aside0 (Below w.heap.size w w'))
 case atStart => exact ⟨(y158), (0), Sqz.auS, H', ⟨Nat.le_refl _⟩, ⟨(Sqz.mvR HO160.out)⟩, ⟨Sqz.auHB⟩⟩
 case round =>
  clear H'
  try clear c1
  try clear p2
  obtain ⟨x3_1, x11_1, rfl, HA, HK1, HO_3, HB⟩ := hrel; cases gk with
  | zero => exact absurd HA.out (by simp [impl_placesOf.l0])
  | succ k1 =>
   have H := HA.out; clear HA; simp only [impl_placesOf.l0] at H
   by_cases c4 : x11_1 < (l0.length : Int)
   ·rw [if_pos c4] at H; have c4b0 := decide_eq_true c4; clear c4
    by_cases c5 : 0 ≤ x11_1
    ·rw [if_pos c5] at H; have c5b0 := decide_eq_true c5; clear c5
     by_cases c6 : x11_1 < (l0.length : Int)
     ·rw [if_pos c6] at H; have c6b0 := decide_eq_true c6; clear c6; obtain ⟨t163, A7, H⟩ := Sqz.be H; have H' := Aside0.mk H; clear H; have p162 : 0 ≤ (x11_1 : Int) := Sqz.od; have q162 : x11_1 < (l0.length : Int) := Sqz.od; obtain ⟨ad162, e162, hx162_0⟩ := Kd.at_int HR0.out x11_1 p162 q162; cases e162; replace hx162_0 := (HB.out.cell (World.block_lt_of_cell? w _ hx162_0)).trans hx162_0; replace p162 := eq_true p162; replace q162 := eq_true q162
      go_wp2_with (first | ((with_reducible refine gate_callee (f := 111) rfl ?_); refine goesL_ (some 16) rfl rfl Try.func111 (by kernel_rfl) rfl #[.int .i64 (rd l0 x11_1)] rfl Sqz.auM ?_; (with_reducible refine (impl_primesOf.calls k1 (rd l0 x11_1) t163 _ A7.out).mono ?_); rintro e w8 ⟨v164, rfl, ho0, hb⟩; refine ⟨_, rfl, ?_⟩; have HO165 := Aside0.mk (Kd.R_lower (Kd.R_new' ho0 (Kd.R_lt ((Sqz.mvR HO_3.out)))) (below_size (Sqz.auHB))); replace HO_3 := Aside0.mk (Kd.R_elder' ((Sqz.mvR HO_3.out)) (Kd.R_base ho0) hb); replace HB := Aside0.mk (below_step (Sqz.auHB) hb); (try clear hb); (try clear ho0); obtain ⟨Ao9, co9, eo9⟩ := Kd.R_slice HO165.out; subst eo9))
      go_loopg [3, 18] k1 (fun kq v3 v18 w' => ∃ (x3_2 : List Int) (x18_2 : Int), v18 = .int .i64 x18_2 ∧ Aside0 (impl_placesOf.l1 kq x3_2 l0 (l0.length : Int) x11_1 t163 (t163.length : Int) x18_2 = some r) ∧ Aside0 (kq ≤ k1) ∧ Aside0 (Kd.R (Kd.int .i64) 3 w' w.heap.size (fun k_ => some k_ ≠ ((.slice Ao9 t163.length co9) : Value).ownBlock) v3 x3_2) ∧ Aside0 (Kd.R (Kd.int .i64) 3 w' w.heap.size (fun k_ => some k_ ≠ (v3 : Value).ownBlock) (.slice Ao9 t163.length co9) t163) ∧ Aside0 (Below w.heap.size w w'))
      case atStart => exact ⟨(x3_1), (0), Sqz.auS, H', ⟨Nat.le_refl _⟩, ⟨(Sqz.mvR (Kd.R_mono HO_3.out (fun _ hk => hk.2)))⟩, ⟨(Sqz.mvR (Kd.R_mono HO165.out (fun _ hk => hk.2)))⟩, ⟨Sqz.auHB⟩⟩
      case round =>
       clear H'
       try clear c1
       try clear p1
       try clear q1
       try clear hx1
       try clear p2
       try clear c4
       try clear c4b0
       try clear c5
       try clear c5b0
       try clear c6
       try clear c6b0
       try clear hx162_0
       try clear p162
       try clear p2
       try clear q162
       obtain ⟨x3_2, x18_2, rfl, HA, HK2, HO_3, HO_16, HB⟩ := hrel; cases gk with
       | zero => exact absurd HA.out (by simp [impl_placesOf.l1])
       | succ k2 =>
        have H := HA.out; clear HA; simp only [impl_placesOf.l1] at H
        by_cases c10 : x18_2 < (t163.length : Int)
        ·rw [if_pos c10] at H; have c10b0 := decide_eq_true c10; clear c10
         by_cases c11 : 0 ≤ x18_2
         ·rw [if_pos c11] at H; have c11b0 := decide_eq_true c11; clear c11
          by_cases c12 : x18_2 < (t163.length : Int)
          ·rw [if_pos c12] at H; have c12b0 := decide_eq_true c12; clear c12; obtain ⟨t167, A13, H⟩ := Sqz.be H
           by_cases c14 : t167 = true
           ·subst c14; have H1 : (impl_placesOf.l1 k2 x3_2 l0 (l0.length : Int) x11_1 t163 (t163.length : Int) (wrap64 (x18_2 + 1))) = some r := by rw [if_pos rfl] at H; exact H
            clear H; have H := H1; clear H1; have H' := Aside0.mk H; clear H; have p166 : 0 ≤ (x18_2 : Int) := Sqz.od; have q166 : x18_2 < (t163.length : Int) := Sqz.od; obtain ⟨ad166, e166, hx166_0⟩ := Kd.at_int (Kd.R_reads' HO_16.out).2.2 x18_2 p166 q166; cases e166; replace p166 := eq_true p166; replace q166 := eq_true q166; obtain ⟨Ao15, co15, eo15⟩ := Kd.R_slice HO_3.out; subst eo15
            go_wp2_with (first | ((with_reducible refine gate_callee (f := 140) rfl ?_); refine goesL_ (some 24) rfl rfl Try.func140 (by kernel_rfl) rfl #[.slice Ao15 x3_2.length co15, .int .i64 (rd t163 x18_2)] rfl Sqz.auM ?_; (with_reducible refine (slices_Contains_int_int.calls k2 _ _ x3_2 (rd t163 x18_2) true _ ?side1 ?side2 A13.out).mono ?_); (case side1 => exact Sqz.mvC ((Kd.R_reads' HO_3.out).2.2)); (case side2 => exact (Kd.R_reads' HO_3.out).2.1); rintro e w' ⟨rfl, ⟨nd, rfl⟩⟩; refine ⟨_, rfl, ?_⟩))
            go_roundg k2
            case measure => have := HK1.out; have := HK2.out; omega
            case rel => exact ⟨(x3_2), (wrap64 (x18_2 + 1)), Sqz.auS, H', ⟨by have := HK1.out; have := HK2.out; omega⟩, ⟨(Sqz.mvR HO_3.out)⟩, ⟨(Sqz.mvR HO_16.out)⟩, ⟨Sqz.auHB⟩⟩
           ·replace c14 := Bool.eq_false_iff.mpr c14; subst c14; have H1 : (if x3_2.length < 17592186044416 then (impl_placesOf.l1 k2 (x3_2 ++ [rd t163 x18_2]) l0 (l0.length : Int) x11_1 t163 (t163.length : Int) (wrap64 (x18_2 + 1))) else (none)) = some r := by rw [if_neg (show ¬ (false = true) by decide)] at H; exact H
            clear H; have H := H1; clear H1
            by_cases c16 : x3_2.length < 17592186044416
            ·rw [if_pos c16] at H; have LMc16 := Aside0.mk c16; clear c16; obtain ⟨y168, hyy⟩ : ∃ y_ : List Int, y_ = (x3_2 ++ [rd t163 x18_2]) := ⟨_, rfl⟩
             replace H : (impl_placesOf.l1 k2 y168 l0 (l0.length : Int) x11_1 t163 (t163.length : Int) (wrap64 (x18_2 + 1))) = some r := Sqz.auY
             have Ny168 := Aside0.mk hyy; clear hyy; have H' := Aside0.mk H; clear H; have p166 : 0 ≤ (x18_2 : Int) := Sqz.od; have q166 : x18_2 < (t163.length : Int) := Sqz.od; obtain ⟨ad166, e166, hx166_0⟩ := Kd.at_int (Kd.R_reads' HO_16.out).2.2 x18_2 p166 q166; cases e166; replace p166 := eq_true p166; replace q166 := eq_true q166; obtain ⟨Ao17, co17, eo17⟩ := Kd.R_slice HO_3.out; subst eo17
             go_wp2_with (first | ((with_reducible refine gate_callee (f := 140) rfl ?_); refine goesL_ (some 24) rfl rfl Try.func140 (by kernel_rfl) rfl #[.slice Ao17 x3_2.length co17, .int .i64 (rd t163 x18_2)] rfl Sqz.auM ?_; (with_reducible refine (slices_Contains_int_int.calls k2 _ _ x3_2 (rd t163 x18_2) false _ ?side1 ?side2 A13.out).mono ?_); (case side1 => exact Sqz.mvC ((Kd.R_reads' HO_3.out).2.2)); (case side2 => exact (Kd.R_reads' HO_3.out).2.1); rintro e w' ⟨rfl, ⟨nd, rfl⟩⟩; refine ⟨_, rfl, ?_⟩) | ((with_reducible refine gate_builtin (b := .append) (xs := #[.tmp 26, .tmp 28]) rfl ?_); at_builtin; refine Kd.R_append (Kd.int .i64) (w0 := w) w.heap.size rfl (.tmp 26) (.tmp 28) 25 3 (.int .i64 0) 8 rfl Try.underlying25 info3 rfl (by decide) (by omega) (.slice Ao17 x3_2.length co17) x3_2 (rd t163 x18_2) [.int .i64 (rd t163 x18_2)] (fun k_ => some k_ ≠ (.slice (some ad166) t163.length co9 : Value).ownBlock) (fun _ => False) rfl rfl ?aP (fun _ hk => hk.elim) ?aF ?aO ?aB ?aS ?aL ?_; (case aP => exact rfl); (case aB => exact (Sqz.auHB)); (case aF => exact (fun k_ hk => Kd.fresh' (Kd.R_lt ((Sqz.mvR HO_16.out))) k_ hk)); (case aO => exact ((Sqz.mvR HO_3.out))); (case aS => exact (below_size (Sqz.auHB))); (case aL => have := LMc16.out; omega); intro v169 w18 ho hb hg hat; rw [← Ny168.out] at ho; replace HO_16 := Aside0.mk (Kd.R_after (ok := (fun _ => True)) ((Sqz.mvR (Kd.R_mono HO_16.out (fun _ hk => ⟨trivial, hk⟩)))) hg hat); replace HB := Aside0.mk (hb); have HO170 := Aside0.mk (ho); clear HO_3; clear ho hb hg hat))
             go_roundg k2
             case measure => have := HK1.out; have := HK2.out; omega
             case rel => exact ⟨(y168), (wrap64 (x18_2 + 1)), Sqz.auS, H', ⟨by have := HK1.out; have := HK2.out; omega⟩, ⟨(Sqz.mvR HO170.out)⟩, ⟨(Sqz.mvR (Kd.R_mono HO_16.out (fun _ hk => hk.2)))⟩, ⟨Sqz.auHB⟩⟩
            ·rw [if_neg c16] at H; exact absurd H (by simp)
          ·rw [if_neg c12] at H; exact absurd H (by simp)
         ·rw [if_neg c11] at H; exact absurd H (by simp)
        ·rw [if_neg c10] at H; have c10b0 := decide_eq_false c10; clear c10; have H' := Aside0.mk H; clear H; go_wp2
         go_roundg k2
         case measure => have := HK1.out; have := HK2.out; omega
         case rel => exact ⟨(x3_2), (wrap64 (x11_1 + 1)), Sqz.auS, H', ⟨by have := HK1.out; have := HK2.out; omega⟩, ⟨(Sqz.mvR (Kd.R_mono HO_3.out (fun _ hk => trivial)))⟩, ⟨Sqz.auHB⟩⟩
     ·rw [if_neg c6] at H; exact absurd H (by simp)
    ·rw [if_neg c5] at H; exact absurd H (by simp)
   ·rw [if_neg c4] at H; have c4b0 := decide_eq_false c4; clear c4; obtain ⟨t161, A19, H⟩ := Sqz.be H; obtain rfl := Option.some.inj H; obtain ⟨Ao20, co20, eo20⟩ := Kd.R_slice HO_3.out; subst eo20
    go_wp2_with (first | ((with_reducible refine gate_callee (f := 141) rfl ?_); refine goesL_ (some 33) rfl rfl Try.func141 (by kernel_rfl) rfl #[.slice Ao20 x3_1.length co20] rfl Sqz.auM ?_; (with_reducible refine (slices_Sort_int_int.calls (fun k_ => some k_ = (.slice Ao20 x3_1.length co20 : Value).ownBlock) (.slice Ao20 x3_1.length co20) x3_1 t161 w _ ?side1 ?side2 A19.out).mono ?_); (case side1 => repeat (first | (with_reducible first | exact HB.out | apply below_alloc | apply pw_below_drewN | apply below_drew1) | exact HB.out)); (case side2 => exact Kd.R_tight rfl HO_3.out); rintro e w21 ⟨rfl, hy0, hb, hkp⟩; refine ⟨_, rfl, ?_⟩; replace HO_3 := Aside0.mk (Kd.R_reok rfl hy0 (fun k_ e_ => HO_3.out.1 k_ e_)); replace HB := Aside0.mk (hb); (try clear hb); (try clear hkp); (try clear hy0)))
    go_ret
    exact ⟨_, Sqz.auR, (Sqz.mvR HO_3.out), Sqz.auHB⟩

/-! ### impl_ValueBad: function 49 -/
mutual
def impl_ValueBad.j0 : Nat → List Int → Int → Bool → Option (List Int)
 | 0, _, _, _ => none
 | k + 1, x0, x1, x15 => if x15 = true then (some ([] : List Int)) else ((slices_Clone_int_int.f x0).bind fun t176 => (if t176.length < 17592186044416 then ((impl_placesOf.f k (t176 ++ [x1])).bind fun t182 => (impl_ValueBad.l0 k x0 x1 (([] : List Int)) t182 (t182.length : Int) 0)) else (none)))
def impl_ValueBad.l0 : Nat → List Int → Int → List Int → List Int → Int → Int → Option (List Int)
 | 0, _, _, _, _, _, _ => none
 | k + 1, x0, x1, x5, x22, x23, x24 => if x24 < x23 then (if 0 ≤ x24 then (if x24 < (x22.length : Int) then ((impl_represents.f k x0 x1 (rd x22 x24)).bind fun t186 => (if t186 = true then (impl_ValueBad.l0 k x0 x1 x5 x22 x23 (wrap64 (x24 + 1))) else (if x5.length < 17592186044416 then (impl_ValueBad.l0 k x0 x1 (x5 ++ [rd x22 x24]) x22 x23 (wrap64 (x24 + 1))) else (none)))) else (none)) else (none)) else (some x5)
end
def impl_ValueBad.f (k : Nat) (l0 : List Int) (a1 : Int) : Option (List Int) := (impl_FormValid.f k l0).bind fun t171 => (if t171 = true then ((impl_valueOk.f a1).bind fun t172 => (impl_ValueBad.j0 k l0 a1 (!t172))) else (impl_ValueBad.j0 k l0 a1 true))
set_option maxHeartbeats 8000000 in
set_option maxRecDepth 100000 in
theorem impl_ValueBad.calls (k : Nat) (A0 : Option Addr) (c0 : Nat) (l0 : List Int) (a1 : Int) (r : List Int) (w : World) (hr0 : Kd.C (Kd.int .i64) w A0 l0.length l0) (hc0 : l0.length ≤ c0) (h : impl_ValueBad.f k l0 a1 = some r) :
  Calls Try.prog 49 #[.slice A0 l0.length c0, .int .i64 a1] w fun e w' => ∃ v0_ : Value, e = .returned (v0_) ∧ Kd.R (Kd.int .i64) 3 w' w.heap.size (fun _ => True) v0_ r ∧ Below w.heap.size w w' := by
 have HR0 := Aside0.mk hr0; have HC0 := Aside0.mk hc0; clear hr0 hc0; have HB := Aside0.mk (Below.refl w.heap.size w); have H : ((impl_FormValid.f k l0).bind fun t171 => (if t171 = true then ((impl_valueOk.f a1).bind fun t172 => (impl_ValueBad.j0 k l0 a1 (!t172))) else (impl_ValueBad.j0 k l0 a1 true))) = some r := h; clear h; have HC3 := Aside0.mk H; clear H
 go_enter Try.func49, Try.ntmps49
 go_upto_region 1 with (fail)
 go_cut [15] (fun v15 wc => ∃ (kq : Nat) (x15_2 : Bool), v15 = .bool x15_2 ∧ Aside0 (impl_ValueBad.j0 kq l0 a1 x15_2 = some r) ∧ Aside0 (kq ≤ k) ∧ Aside0 (Below w.heap.size w wc))
 case first =>
  have H := HC3.out; clear HC3; obtain ⟨t171, A4, H⟩ := Sqz.be H
  by_cases c5 : t171 = true
  ·subst c5; have H1 : ((impl_valueOk.f a1).bind fun t172 => (impl_ValueBad.j0 k l0 a1 (!t172))) = some r := by rw [if_pos rfl] at H; exact H
   clear H; have H := H1; clear H1; obtain ⟨t172, A6, H⟩ := Sqz.be H; have H' := Aside0.mk H; clear H
   go_wp2_with (first | ((with_reducible refine gate_callee (f := 20) rfl ?_); refine goesL_ (some 9) rfl rfl Try.func20 (by kernel_rfl) rfl #[.slice A0 l0.length c0] rfl Sqz.auM ?_; (with_reducible refine (impl_FormValid.calls k _ _ l0 true _ ?side1 ?side2 A4.out).mono ?_); (case side1 => exact Sqz.mvC ((Kd.C_below HR0.out HB.out))); (case side2 => exact HC0.out); rintro e w7 ⟨rfl, hb⟩; refine ⟨_, rfl, ?_⟩; replace HB := Aside0.mk (below_step (Sqz.auHB) hb); (try clear hb)) | (go_at_call 82; (with_reducible refine (impl_valueOk.calls a1 t172 _ A6.out).mono ?_); rintro e w' ⟨rfl, ⟨nd, rfl⟩⟩))
   go_meet
   case rel => exact ⟨_, (!t172), Sqz.auS, H', ⟨Sqz.auN⟩, ⟨Sqz.auHB⟩⟩
  ·replace c5 := Bool.eq_false_iff.mpr c5; subst c5; have H1 : (impl_ValueBad.j0 k l0 a1 true) = some r := by rw [if_neg (show ¬ (false = true) by decide)] at H; exact H
   clear H; have H := H1; clear H1; have H' := Aside0.mk H; clear H
   go_wp2_with (first | ((with_reducible refine gate_callee (f := 20) rfl ?_); refine goesL_ (some 9) rfl rfl Try.func20 (by kernel_rfl) rfl #[.slice A0 l0.length c0] rfl Sqz.auM ?_; (with_reducible refine (impl_FormValid.calls k _ _ l0 false _ ?side1 ?side2 A4.out).mono ?_); (case side1 => exact Sqz.mvC ((Kd.C_below HR0.out HB.out))); (case side2 => exact HC0.out); rintro e w8 ⟨rfl, hb⟩; refine ⟨_, rfl, ?_⟩; replace HB := Aside0.mk (below_step (Sqz.auHB) hb); (try clear hb)))
   go_meet
   case rel => exact ⟨_, (true), Sqz.auS, H', ⟨Sqz.auN⟩, ⟨Sqz.auHB⟩⟩
 case rest =>
  clear HC3
  try clear c2
  try clear p2
  try clear c4
  try clear c5
  obtain ⟨kq, x15_2, rfl, HA, HJ2, HB⟩ := hcut; cases kq with
  | zero => exact absurd HA.out (by simp [impl_ValueBad.j0])
  | succ kj2 =>
   have H := HA.out; clear HA; simp only [impl_ValueBad.j0] at H
   by_cases c9 : x15_2 = true
   ·subst c9; have H1 : (some ([] : List Int)) = some r := by rw [if_pos rfl] at H; exact H
    clear H; have H := H1; clear H1; obtain rfl := Option.some.inj H; go_wp2; go_ret
    exact ⟨_, Sqz.auR, by first | exact Kd.R_nil _ _ _ _ _ | exact Kd.N_nil _ _ _ _ _ | exact Kd.V_nil _ _ _ _ _ | exact Kd.Q_nil _ _ _ _ _ | exact Kd.S_nil _ _ _ _ _, Sqz.auHB⟩
   ·replace c9 := Bool.eq_false_iff.mpr c9; subst c9; have H1 : ((slices_Clone_int_int.f l0).bind fun t176 => (if t176.length < 17592186044416 then ((impl_placesOf.f kj2 (t176 ++ [a1])).bind fun t182 => (impl_ValueBad.l0 kj2 l0 a1 (([] : List Int)) t182 (t182.length : Int) 0)) else (none))) = some r := by rw [if_neg (show ¬ (false = true) by decide)] at H; exact H
    clear H; have H := H1; clear H1; obtain ⟨y173, hyy⟩ : ∃ y_ : List Int, y_ = (([] : List Int)) := ⟨_, rfl⟩
    replace H : ((slices_Clone_int_int.f l0).bind fun t176 => (if t176.length < 17592186044416 then ((impl_placesOf.f kj2 (t176 ++ [a1])).bind fun t182 => (impl_ValueBad.l0 kj2 l0 a1 y173 t182 (t182.length : Int) 0)) else (none))) = some r := Sqz.auY
    have Ny173 := Aside0.mk hyy; clear hyy; obtain ⟨t176, A10, H⟩ := Sqz.be H
    by_cases c11 : t176.length < 17592186044416
    ·rw [if_pos c11] at H; have LMc11 := Aside0.mk c11; clear c11; obtain ⟨y179, hyy⟩ : ∃ y_ : List Int, y_ = (t176 ++ [a1]) := ⟨_, rfl⟩
     replace H : ((impl_placesOf.f kj2 y179).bind fun t182 => (impl_ValueBad.l0 kj2 l0 a1 y173 t182 (t182.length : Int) 0)) = some r := Sqz.auY
     have Ny179 := Aside0.mk hyy; clear hyy; obtain ⟨t182, A12, H⟩ := Sqz.be H; have H' := Aside0.mk H; clear H
     go_wp2_with (first | ((with_reducible refine gate_dst (N := 16) rfl ?_); refine Kd.R_lit (Kd.int .i64) _ 3 ?hg (N := 16) ?hd (xs := ([] : List Int)) (inner := []) (ok := fun _ => True) (okp := fun _ => True) ?hr ?hp (fun _ hk => hk) trivial (Below.refl _ _) (Nat.le_refl _) (by simp) ?_; (case hd => rfl); (case hg => rfl); (case hr => first | (go_simp; done) | (go_simp; rfl)); (case hp => exact (Reps.none _ _)); intro v174 w13 ho14 hb hg_ hnew_; clear hg_ hnew_; (first | rw [← Ny173.out] at ho14 | (simp only [Int.reduceToNat] at ho14; rw [← Ny173.out] at ho14)); have HO175 := Aside0.mk (Kd.R_lower ho14 (below_size (Sqz.auHB))); replace HB := Aside0.mk (below_step (Sqz.auHB) hb); clear hb ho14) | ((with_reducible refine gate_callee (f := 81) rfl ?_); refine goesL_ (some 18) rfl rfl Try.func81 (by kernel_rfl) rfl #[.slice A0 l0.length c0] rfl Sqz.auM ?_; (with_reducible refine (slices_Clone_int_int.calls _ _ l0 t176 _ ?side1 ?side2 A10.out).mono ?_); (case side1 => exact Sqz.mvC ((Kd.C_below HR0.out HB.out))); (case side2 => exact HC0.out); rintro e w15 ⟨v177, rfl, ho0, hb⟩; refine ⟨_, rfl, ?_⟩; have HO178 := Aside0.mk (Kd.R_lower (Kd.R_new' ho0 (Kd.R_lt ((Sqz.mvR HO175.out)))) (below_size (Sqz.auHB))); replace HO175 := Aside0.mk (Kd.R_elder' ((Sqz.mvR HO175.out)) (Kd.R_base ho0) hb); replace HB := Aside0.mk (below_step (Sqz.auHB) hb); (try clear hb); (try clear ho0)) | ((with_reducible refine gate_builtin (b := .append) (xs := #[.tmp 18, .tmp 20]) rfl ?_); at_builtin; refine Kd.R_append (Kd.int .i64) (w0 := w) w.heap.size rfl (.tmp 18) (.tmp 20) 25 3 (.int .i64 0) 8 rfl Try.underlying25 info3 rfl (by decide) (by omega) v177 t176 a1 [.int .i64 a1] (fun k_ => some k_ ≠ (v174 : Value).ownBlock) (fun _ => False) rfl rfl ?aP (fun _ hk => hk.elim) ?aF ?aO ?aB ?aS ?aL ?_; (case aP => exact rfl); (case aB => exact (Sqz.auHB)); (case aF => exact (fun k_ hk => Kd.fresh' (Kd.R_lt ((Sqz.mvR HO175.out))) k_ hk)); (case aO => exact ((Sqz.mvR (Kd.R_mono HO178.out (fun _ hk => hk.2))))); (case aS => exact (below_size (Sqz.auHB))); (case aL => have := LMc11.out; omega); intro v180 w16 ho hb hg hat; rw [← Ny179.out] at ho; replace HO175 := Aside0.mk (Kd.R_after (ok := (fun _ => True)) ((Sqz.mvR HO175.out)) hg hat); replace HB := Aside0.mk (hb); have HO181 := Aside0.mk (ho); clear HO178; clear ho hb hg hat; obtain ⟨Ao17, co17, eo17⟩ := Kd.R_slice HO181.out; subst eo17) | ((with_reducible refine gate_callee (f := 101) rfl ?_); refine goesL_ (some 22) rfl rfl Try.func101 (by kernel_rfl) rfl #[.slice Ao17 y179.length co17] rfl Sqz.auM ?_; (with_reducible refine (impl_placesOf.calls kj2 _ _ y179 t182 _ ?side1 ?side2 A12.out).mono ?_); (case side1 => exact Sqz.mvC ((Kd.R_reads' HO181.out).2.2)); (case side2 => exact (Kd.R_reads' HO181.out).2.1); rintro e w18 ⟨v183, rfl, ho0, hb⟩; refine ⟨_, rfl, ?_⟩; have HO184 := Aside0.mk (Kd.R_lower (Kd.R_new' (Kd.R_new' ho0 (Kd.R_lt ((Sqz.mvR HO175.out)))) (Kd.R_lt ((Sqz.mvR HO181.out)))) (below_size (Sqz.auHB))); replace HO175 := Aside0.mk (Kd.R_elder' ((Sqz.mvR HO175.out)) (Kd.R_base ho0) hb); replace HO181 := Aside0.mk (Kd.R_elder' ((Sqz.mvR HO181.out)) (Kd.R_base ho0) hb); replace HB := Aside0.mk (below_step (Sqz.auHB) hb); (try clear hb); (try clear ho0); obtain ⟨Ao19, co19, eo19⟩ := Kd.R_slice HO184.out; subst eo19))
     go_loopg [5, 24] kj2 (fun kq v5 v24 w' => ∃ (x5_2 : List Int) (x24_2 : Int), v24 = .int .i64 x24_2 ∧ Aside0 (impl_ValueBad.l0 kq l0 a1 x5_2 t182 (t182.length : Int) x24_2 = some r) ∧ Aside0 (kq ≤ kj2) ∧ Aside0 (Kd.R (Kd.int .i64) 3 w' w.heap.size (fun k_ => some k_ ≠ ((.slice Ao19 t182.length co19) : Value).ownBlock) v5 x5_2) ∧ Aside0 (Kd.R (Kd.int .i64) 3 w' w.heap.size (fun k_ => some k_ ≠ (v5 : Value).ownBlock) (.slice Ao19 t182.length co19) t182) ∧ Aside0 (Below w.heap.size w w'))
     case atStart => exact ⟨(y173), (0), Sqz.auS, H', ⟨Nat.le_refl _⟩, ⟨(Sqz.mvR (Kd.R_mono HO175.out (fun _ hk => hk.2)))⟩, ⟨(Sqz.mvR (Kd.R_mono HO184.out (fun _ hk => hk.1.2)))⟩, ⟨Sqz.auHB⟩⟩
     case round =>
      clear H'
      try clear c1
      try clear c2
      try clear p2
      try clear c4
      try clear c5
      try clear c8
      try clear c9
      try clear c10
      try clear c11
      try clear p2
      obtain ⟨x5_2, x24_2, rfl, HA, HK2, HO_5, HO_22, HB⟩ := hrel; cases gk with
      | zero => exact absurd HA.out (by simp [impl_ValueBad.l0])
      | succ k2 =>
       have H := HA.out; clear HA; simp only [impl_ValueBad.l0] at H
       by_cases c20 : x24_2 < (t182.length : Int)
       ·rw [if_pos c20] at H; have c20b0 := decide_eq_true c20; clear c20
        by_cases c21 : 0 ≤ x24_2
        ·rw [if_pos c21] at H; have c21b0 := decide_eq_true c21; clear c21
         by_cases c22 : x24_2 < (t182.length : Int)
         ·rw [if_pos c22] at H; have c22b0 := decide_eq_true c22; clear c22; obtain ⟨t186, A23, H⟩ := Sqz.be H
          by_cases c24 : t186 = true
          ·subst c24; have H1 : (impl_ValueBad.l0 k2 l0 a1 x5_2 t182 (t182.length : Int) (wrap64 (x24_2 + 1))) = some r := by rw [if_pos rfl] at H; exact H
           clear H; have H := H1; clear H1; have H' := Aside0.mk H; clear H; have p185 : 0 ≤ (x24_2 : Int) := Sqz.od; have q185 : x24_2 < (t182.length : Int) := Sqz.od; obtain ⟨ad185, e185, hx185_0⟩ := Kd.at_int (Kd.R_reads' HO_22.out).2.2 x24_2 p185 q185; cases e185; replace p185 := eq_true p185; replace q185 := eq_true q185
           go_wp2_with (first | ((with_reducible refine gate_callee (f := 83) rfl ?_); refine goesL_ (some 31) rfl rfl Try.func83 (by kernel_rfl) rfl #[.slice A0 l0.length c0, .int .i64 a1, .int .i64 (rd t182 x24_2)] rfl Sqz.auM ?_; (with_reducible refine (impl_represents.calls k2 _ _ l0 a1 (rd t182 x24_2) true _ ?side1 ?side2 A23.out).mono ?_); (case side1 => exact Sqz.mvC ((Kd.C_below HR0.out HB.out))); (case side2 => exact HC0.out); rintro e w25 ⟨rfl, hb⟩; refine ⟨_, rfl, ?_⟩; replace HO_5 := Aside0.mk (Kd.R_below ((Sqz.mvR HO_5.out)) hb); replace HO_22 := Aside0.mk (Kd.R_below ((Sqz.mvR HO_22.out)) hb); replace HB := Aside0.mk (below_step (Sqz.auHB) hb); (try clear hb)))
           go_roundg k2
           case measure => have := HJ2.out; have := HK2.out; omega
           case rel => exact ⟨(x5_2), (wrap64 (x24_2 + 1)), Sqz.auS, H', ⟨by have := HJ2.out; have := HK2.out; omega⟩, ⟨(Sqz.mvR HO_5.out)⟩, ⟨(Sqz.mvR HO_22.out)⟩, ⟨Sqz.auHB⟩⟩
          ·replace c24 := Bool.eq_false_iff.mpr c24; subst c24; have H1 : (if x5_2.length < 17592186044416 then (impl_ValueBad.l0 k2 l0 a1 (x5_2 ++ [rd t182 x24_2]) t182 (t182.length : Int) (wrap64 (x24_2 + 1))) else (none)) = some r := by rw [if_neg (show ¬ (false = true) by decide)] at H; exact H
           clear H; have H := H1; clear H1
           by_cases c26 : x5_2.length < 17592186044416
           ·rw [if_pos c26] at H; have LMc26 := Aside0.mk c26; clear c26; obtain ⟨y187, hyy⟩ : ∃ y_ : List Int, y_ = (x5_2 ++ [rd t182 x24_2]) := ⟨_, rfl⟩
            replace H : (impl_ValueBad.l0 k2 l0 a1 y187 t182 (t182.length : Int) (wrap64 (x24_2 + 1))) = some r := Sqz.auY
            have Ny187 := Aside0.mk hyy; clear hyy; have H' := Aside0.mk H; clear H; have p185 : 0 ≤ (x24_2 : Int) := Sqz.od; have q185 : x24_2 < (t182.length : Int) := Sqz.od; obtain ⟨ad185, e185, hx185_0⟩ := Kd.at_int (Kd.R_reads' HO_22.out).2.2 x24_2 p185 q185; cases e185; replace p185 := eq_true p185; replace q185 := eq_true q185
            go_wp2_with (first | ((with_reducible refine gate_callee (f := 83) rfl ?_); refine goesL_ (some 31) rfl rfl Try.func83 (by kernel_rfl) rfl #[.slice A0 l0.length c0, .int .i64 a1, .int .i64 (rd t182 x24_2)] rfl Sqz.auM ?_; (with_reducible refine (impl_represents.calls k2 _ _ l0 a1 (rd t182 x24_2) false _ ?side1 ?side2 A23.out).mono ?_); (case side1 => exact Sqz.mvC ((Kd.C_below HR0.out HB.out))); (case side2 => exact HC0.out); rintro e w27 ⟨rfl, hb⟩; refine ⟨_, rfl, ?_⟩; replace HO_5 := Aside0.mk (Kd.R_below ((Sqz.mvR HO_5.out)) hb); replace HO_22 := Aside0.mk (Kd.R_below ((Sqz.mvR HO_22.out)) hb); replace HB := Aside0.mk (below_step (Sqz.auHB) hb); (try clear hb)) | ((with_reducible refine gate_builtin (b := .append) (xs := #[.tmp 33, .tmp 35]) rfl ?_); at_builtin; refine Kd.R_append (Kd.int .i64) (w0 := w) w.heap.size rfl (.tmp 33) (.tmp 35) 25 3 (.int .i64 0) 8 rfl Try.underlying25 info3 rfl (by decide) (by omega) u5 x5_2 (rd t182 x24_2) [.int .i64 (rd t182 x24_2)] (fun k_ => some k_ ≠ (.slice (some ad185) t182.length co19 : Value).ownBlock) (fun _ => False) rfl rfl ?aP (fun _ hk => hk.elim) ?aF ?aO ?aB ?aS ?aL ?_; (case aP => exact rfl); (case aB => exact (Sqz.auHB)); (case aF => exact (fun k_ hk => Kd.fresh' (Kd.R_lt ((Sqz.mvR HO_22.out))) k_ hk)); (case aO => exact ((Sqz.mvR HO_5.out))); (case aS => exact (below_size (Sqz.auHB))); (case aL => have := LMc26.out; omega); intro v188 w28 ho hb hg hat; rw [← Ny187.out] at ho; replace HO_22 := Aside0.mk (Kd.R_after (ok := (fun _ => True)) ((Sqz.mvR (Kd.R_mono HO_22.out (fun _ hk => ⟨trivial, hk⟩)))) hg hat); replace HB := Aside0.mk (hb); have HO189 := Aside0.mk (ho); clear HO_5; clear ho hb hg hat))
            go_roundg k2
            case measure => have := HJ2.out; have := HK2.out; omega
            case rel => exact ⟨(y187), (wrap64 (x24_2 + 1)), Sqz.auS, H', ⟨by have := HJ2.out; have := HK2.out; omega⟩, ⟨(Sqz.mvR HO189.out)⟩, ⟨(Sqz.mvR (Kd.R_mono HO_22.out (fun _ hk => hk.2)))⟩, ⟨Sqz.auHB⟩⟩
           ·rw [if_neg c26] at H; exact absurd H (by simp)
         ·rw [if_neg c22] at H; exact absurd H (by simp)
        ·rw [if_neg c21] at H; exact absurd H (by simp)
       ·rw [if_neg c20] at H; have c20b0 := decide_eq_false c20; clear c20; obtain rfl := Option.some.inj H; go_wp2; go_ret
        exact ⟨_, Sqz.auR, (Sqz.mvR (Kd.R_mono HO_5.out (fun _ hk => trivial))), Sqz.auHB⟩
    ·rw [if_neg c11] at H; exact absurd H (by simp)

/-! ### impl_ValueEverywhere: function 45 -/
def impl_ValueEverywhere.f (k : Nat) (l0 : List Int) (a1 : Int) : Option (Bool) := (impl_FormValid.f k l0).bind fun t190 => (if t190 = true then ((impl_valueOk.f a1).bind fun t191 => (if t191 = true then ((impl_ValueBad.f k l0 a1).bind fun t192 => (some ((t192.length : Int) == 0))) else (some false))) else (some false))
set_option maxHeartbeats 8000000 in
set_option maxRecDepth 100000 in
theorem impl_ValueEverywhere.calls (k : Nat) (A0 : Option Addr) (c0 : Nat) (l0 : List Int) (a1 : Int) (r : Bool) (w : World) (hr0 : Kd.C (Kd.int .i64) w A0 l0.length l0) (hc0 : l0.length ≤ c0) (h : impl_ValueEverywhere.f k l0 a1 = some r) :
  Calls Try.prog 45 #[.slice A0 l0.length c0, .int .i64 a1] w fun e w' => e = .returned (.bool r) ∧ Below w.heap.size w w' := by
 have HR0 := Aside0.mk hr0; have HC0 := Aside0.mk hc0; clear hr0 hc0; have HB := Aside0.mk (Below.refl w.heap.size w); have H : ((impl_FormValid.f k l0).bind fun t190 => (if t190 = true then ((impl_valueOk.f a1).bind fun t191 => (if t191 = true then ((impl_ValueBad.f k l0 a1).bind fun t192 => (some ((t192.length : Int) == 0))) else (some false))) else (some false))) = some r := h; clear h; obtain ⟨t190, A3, H⟩ := Sqz.be H
 by_cases c4 : t190 = true
 ·subst c4; have H1 : ((impl_valueOk.f a1).bind fun t191 => (if t191 = true then ((impl_ValueBad.f k l0 a1).bind fun t192 => (some ((t192.length : Int) == 0))) else (some false))) = some r := by rw [if_pos rfl] at H; exact H
  clear H; have H := H1; clear H1; obtain ⟨t191, A5, H⟩ := Sqz.be H
  by_cases c6 : t191 = true
  ·subst c6; have H1 : ((impl_ValueBad.f k l0 a1).bind fun t192 => (some ((t192.length : Int) == 0))) = some r := by rw [if_pos rfl] at H; exact H
   clear H; have H := H1; clear H1; obtain ⟨t192, A7, H⟩ := Sqz.be H; obtain rfl := Option.some.inj H
   go_enter Try.func45, Try.ntmps45
   go_wp2_with (first | ((with_reducible refine gate_callee (f := 20) rfl ?_); refine goesL_ (some 6) rfl rfl Try.func20 (by kernel_rfl) rfl #[.slice A0 l0.length c0] rfl Sqz.auM ?_; (with_reducible refine (impl_FormValid.calls k _ _ l0 true _ ?side1 ?side2 A3.out).mono ?_); (case side1 => exact Sqz.mvC (HR0.out)); (case side2 => exact HC0.out); rintro e w8 ⟨rfl, hb⟩; refine ⟨_, rfl, ?_⟩; replace HB := Aside0.mk (below_step (Sqz.auHB) hb); (try clear hb)) | (go_at_call 82; (with_reducible refine (impl_valueOk.calls a1 true _ A5.out).mono ?_); rintro e w' ⟨rfl, ⟨nd, rfl⟩⟩) | (go_at_call 49; (with_reducible refine (impl_ValueBad.calls k _ _ l0 a1 t192 _ ?side1 ?side2 A7.out).mono ?_); (case side1 => repeat (first | exact (Kd.C_below HR0.out (Sqz.auHB)) | (with_reducible refine Kd.C_alloc ?_ _) | (with_reducible refine Kd.C_drewN ?_ _) | (with_reducible refine Kd.C_drew ?_))); (case side2 => exact HC0.out); rintro e w9 ⟨v193, rfl, ho0, hb⟩; have HO194 := Aside0.mk (Kd.R_lower ho0 (below_size (Sqz.auHB))); replace HB := Aside0.mk (below_step (Sqz.auHB) hb); (try clear hb); (try clear ho0); obtain ⟨Ao10, co10, eo10⟩ := Kd.R_slice HO194.out; subst eo10))
   go_ret
   exact ⟨Sqz.auR, Sqz.auHB⟩
  ·replace c6 := Bool.eq_false_iff.mpr c6; subst c6; have H1 : (some false) = some r := by rw [if_neg (show ¬ (false = true) by decide)] at H; exact H
   clear H; have H := H1; clear H1; obtain rfl := Option.some.inj H
   go_enter Try.func45, Try.ntmps45
   go_wp2_with (first | ((with_reducible refine gate_callee (f := 20) rfl ?_); refine goesL_ (some 6) rfl rfl Try.func20 (by kernel_rfl) rfl #[.slice A0 l0.length c0] rfl Sqz.auM ?_; (with_reducible refine (impl_FormValid.calls k _ _ l0 true _ ?side1 ?side2 A3.out).mono ?_); (case side1 => exact Sqz.mvC (HR0.out)); (case side2 => exact HC0.out); rintro e w11 ⟨rfl, hb⟩; refine ⟨_, rfl, ?_⟩; replace HB := Aside0.mk (below_step (Sqz.auHB) hb); (try clear hb)) | (go_at_call 82; (with_reducible refine (impl_valueOk.calls a1 false _ A5.out).mono ?_); rintro e w' ⟨rfl, ⟨nd, rfl⟩⟩))
   go_ret
   exact ⟨Sqz.auR, Sqz.auHB⟩
 ·replace c4 := Bool.eq_false_iff.mpr c4; subst c4; have H1 : (some false) = some r := by rw [if_neg (show ¬ (false = true) by decide)] at H; exact H
  clear H; have H := H1; clear H1; obtain rfl := Option.some.inj H
  go_enter Try.func45, Try.ntmps45
  go_wp2_with (first | ((with_reducible refine gate_callee (f := 20) rfl ?_); refine goesL_ (some 6) rfl rfl Try.func20 (by kernel_rfl) rfl #[.slice A0 l0.length c0] rfl Sqz.auM ?_; (with_reducible refine (impl_FormValid.calls k _ _ l0 false _ ?side1 ?side2 A3.out).mono ?_); (case side1 => exact Sqz.mvC (HR0.out)); (case side2 => exact HC0.out); rintro e w12 ⟨rfl, hb⟩; refine ⟨_, rfl, ?_⟩; replace HB := Aside0.mk (below_step (Sqz.auHB) hb); (try clear hb)))
  go_ret
  exact ⟨Sqz.auR, Sqz.auHB⟩

/-- A state of type 74 at block g of W; what its slices lead to came in by w0. -/
def IsS74 (w0 W : World) (g : Nat) (f0 : List Int) (f1 : Int) : Prop := ∃ A0 c0, W.heap[g]? = some (.cells #[.slice A0 f0.length c0, .int .i64 f1] 74 (0, 0)) ∧ w0.heap.size ≤ g ∧ Kd.C (Kd.int .u8) w0 A0 f0.length f0
theorem IsS74.grown {w0 W : World} {g : Nat} {f0 : List Int} {f1 : Int} {W1 : World} {row : Option Nat} (h : IsS74 w0 W g f0 f1) (hw : W.grownBy W1 row) (hne : some g ≠ row) : IsS74 w0 W1 g f0 f1 := by
 obtain ⟨A0, c0, hb, hg, hr0⟩ := h; exact ⟨A0, c0, blk_grown hb hw hne, hg, hr0⟩
theorem IsS74.own_neN {w0 W : World} {g : Nat} {f0 : List Int} {f1 : Int} {α : Type} {d : Kd α} {e : Nat} {base : Nat} {ok : Nat → Prop} {v : Value} {xs : List α} (h : IsS74 w0 W g f0 f1) (ho : Kd.N d e W base ok v xs) (ht : e ≠ 74) : some g ≠ v.ownBlock := by
 obtain ⟨A0, c0, hb, hg, hr0⟩ := h; exact Kd.N_ne ho hb ht
theorem IsS74.fresh {w0 W : World} {g : Nat} {f0 : List Int} {f1 : Int} (h : IsS74 w0 W g f0 f1) : ∀ k, W.heap.size ≤ k → k ≠ g := by
 obtain ⟨A0, c0, hb, hg, hr0⟩ := h; exact Kd.freshB hb
theorem IsS74.kept {w0 W : World} {g : Nat} {f0 : List Int} {f1 : Int} {W1 : World} {S : Nat → Prop} (h : IsS74 w0 W g f0 f1) (hk : Kept W W1 S) (hne : ¬ S g) : IsS74 w0 W1 g f0 f1 := by
 obtain ⟨A0, c0, hb, hg, hr0⟩ := h; exact ⟨A0, c0, blk_kept hb hk hne, hg, hr0⟩
theorem IsS74.below {w0 W : World} {g : Nat} {f0 : List Int} {f1 : Int} {W1 : World} (h : IsS74 w0 W g f0 f1) (hw : Below W.heap.size W W1) : IsS74 w0 W1 g f0 f1 := h.grown (grown_of_below hw none) (by simp)
theorem IsS74.alloc {w0 W : World} {g : Nat} {f0 : List Int} {f1 : Int} (h : IsS74 w0 W g f0 f1) (o : Obj) : IsS74 w0 (W.alloc o) g f0 f1 := h.below (below_alloc (Below.refl _ _) o)
theorem IsS74.drewN {w0 W : World} {g : Nat} {f0 : List Int} {f1 : Int} (h : IsS74 w0 W g f0 f1) (m : Nat) : IsS74 w0 (W.drewN m) g f0 f1 := h
theorem IsS74.drew {w0 W : World} {g : Nat} {f0 : List Int} {f1 : Int} (h : IsS74 w0 W g f0 f1) : IsS74 w0 W.drew g f0 f1 := h
theorem IsS74.at_ {w0 W : World} {g : Nat} {f0 : List Int} {f1 : Int} {w' : World} {m : Nat} (hq : W.drewN m = w') (h : IsS74 w0 W g f0 f1) : IsS74 w0 w' g f0 f1 := by subst hq; exact IsS74.drewN h m
theorem IsS74.apart {w0 W : World} {g : Nat} {f0 : List Int} {f1 : Int} {α : Type} {d : Kd α} {e : Nat} {base : Nat} {ok : Nat → Prop} {v : Value} {xs : List α} (h : IsS74 w0 W g f0 f1) (ho : d.R e W base ok v xs) (ht : ∀ q, q ∈ e :: d.E → q ≠ 74) : d.R e W base (fun k => ok k ∧ k ≠ g) v xs := by
 obtain ⟨A0, c0, hb, hg, hr0⟩ := h; exact Kd.R_types ho hb ht
theorem IsS74.own_ne {w0 W : World} {g : Nat} {f0 : List Int} {f1 : Int} {α : Type} {d : Kd α} {e : Nat} {base : Nat} {ok : Nat → Prop} {v : Value} {xs : List α} (h : IsS74 w0 W g f0 f1) (ho : d.R e W base ok v xs) (ht : e ≠ 74) : some g ≠ v.ownBlock := by
 obtain ⟨A0, c0, hb, hg, hr0⟩ := h; exact Kd.R_ne ho hb ht
theorem IsS74.apartQ {w0 W : World} {g : Nat} {f0 : List Int} {f1 : Int} {α : Type} {d : Kd α} {e : Nat} {base : Nat} {ok : Nat → Prop} {v : Value} {xs : List α} (h : IsS74 w0 W g f0 f1) (ho : d.Q e W base ok v xs) (ht : ∀ q, q ∈ e :: d.E → q ≠ 74) : d.Q e W base (fun k => ok k ∧ k ≠ g) v xs := by
 obtain ⟨A0, c0, hb, hg, hr0⟩ := h; exact Kd.Q_types ho hb ht
theorem IsS74.own_neQ {w0 W : World} {g : Nat} {f0 : List Int} {f1 : Int} {α : Type} {d : Kd α} {e : Nat} {base : Nat} {ok : Nat → Prop} {v : Value} {xs : List α} (h : IsS74 w0 W g f0 f1) (ho : d.Q e W base ok v xs) (ht : e ≠ 74) : some g ≠ v.ownBlock := by
 obtain ⟨A0, c0, hb, hg, hr0⟩ := h; exact Kd.Q_ne ho hb ht
theorem IsS74.apartS {w0 W : World} {g : Nat} {f0 : List Int} {f1 : Int} {α : Type} {d : Kd α} {e : Nat} {base : Nat} {ok : Nat → Prop} {v : Value} {xs : List α} (h : IsS74 w0 W g f0 f1) (ho : d.S e W base ok v xs) (ht : ∀ q, q ∈ e :: d.E → q ≠ 74) : d.S e W base (fun k => ok k ∧ k ≠ g) v xs := by
 obtain ⟨A0, c0, hb, hg, hr0⟩ := h; exact Kd.S_types ho hb ht
theorem IsS74.own_neS {w0 W : World} {g : Nat} {f0 : List Int} {f1 : Int} {α : Type} {d : Kd α} {e : Nat} {base : Nat} {ok : Nat → Prop} {v : Value} {xs : List α} (h : IsS74 w0 W g f0 f1) (ho : d.S e W base ok v xs) (ht : e ≠ 74) : some g ≠ v.ownBlock := by
 obtain ⟨A0, c0, hb, hg, hr0⟩ := h; exact Kd.S_ne ho hb ht
theorem IsS74.lt {w0 W : World} {g : Nat} {f0 : List Int} {f1 : Int} (h : IsS74 w0 W g f0 f1) : g < W.heap.size := by
 obtain ⟨A0, c0, hb, hg, hr0⟩ := h; exact blk_lt hb
theorem IsS74.ge {w0 W : World} {g : Nat} {f0 : List Int} {f1 : Int} (h : IsS74 w0 W g f0 f1) : w0.heap.size ≤ g := by
 obtain ⟨A0, c0, hb, hg, hr0⟩ := h; exact hg
theorem IsS74.ne_blk {w0 W : World} {g : Nat} {f0 : List Int} {f1 : Int} {a : Nat} {cs : Array Value} {t : TypeId} {fr : Nat × Nat} (h : IsS74 w0 W g f0 f1) (hb2 : W.heap[a]? = some (.cells cs t fr)) (ht : t ≠ 74) : g ≠ a := by
 obtain ⟨A0, c0, hb, hg, hr0⟩ := h; rintro rfl; rw [hb] at hb2; injection hb2 with hb2
 injection hb2 with _ ht2
 exact ht ht2.symm
theorem IsS74.far {w0 W : World} {g : Nat} {f0 : List Int} {f1 : Int} {p : Addr} (h : IsS74 w0 W g f0 f1) (hne : g ≠ p.block) (u : Value) : IsS74 w0 (W.setCell p u) g f0 f1 := by
 obtain ⟨A0, c0, hb, hg, hr0⟩ := h; exact ⟨A0, c0, blk_far hb hne u, hg, hr0⟩
theorem cellS74_0 {W : World} {g : Nat} {A0 : Option Addr} {c0 : Nat} {f0 : List Int} {f1 : Int} (h : W.heap[g]? = some (.cells #[.slice A0 f0.length c0, .int .i64 f1] 74 (0, 0))) : W.cell? ⟨g, 0, none⟩ = some (.slice A0 f0.length c0) := (blk_cell h 0).trans rfl
theorem cellS74_1 {W : World} {g : Nat} {A0 : Option Addr} {c0 : Nat} {f0 : List Int} {f1 : Int} (h : W.heap[g]? = some (.cells #[.slice A0 f0.length c0, .int .i64 f1] 74 (0, 0))) : W.cell? ⟨g, 1, none⟩ = some (.int .i64 f1) := (blk_cell h 1).trans rfl
theorem IsS74.set_1 {w0 W : World} {g : Nat} {f0 : List Int} {f1 : Int} (h : IsS74 w0 W g f0 f1) (x : Int) : IsS74 w0 (W.setCell ⟨g, 1, none⟩ (.int .i64 x)) g f0 x := by
 obtain ⟨A0, c0, hb, hg, hr0⟩ := h; exact ⟨A0, c0, by simpa using blk_set hb 1 (.int .i64 x), hg, hr0⟩
theorem IsS74.new (w0 W : World) (A0 : Option Addr) (c0 : Nat) (f0 : List Int) (f1 : Int) (hB : Below w0.heap.size w0 W) (hr0 : Kd.C (Kd.int .u8) w0 A0 f0.length f0) : IsS74 w0 (W.alloc (.cells #[.slice A0 f0.length c0, .int .i64 f1] 74)) W.heap.size f0 f1 := ⟨A0, c0, by simpa using heap_alloc_new W _, hB.size, hr0⟩

/-! ### spec_l6Open: function 67 -/
def spec_l6Open.f (l0 : List Int) : Option (List Int × Int) := if (l0.length : Int) > 2000 then (if 2000 ≤ (l0.length : Int) then (some (l0.take 2000, 0)) else (none)) else (some (l0, 0))
set_option maxHeartbeats 8000000 in
set_option maxRecDepth 100000 in
theorem spec_l6Open.calls (A0 : Option Addr) (c0 : Nat) (l0 : List Int) (r1 : List Int) (r2 : Int) (w0 w : World) (hB : Below w0.heap.size w0 w) (hr0 : Kd.C (Kd.int .u8) w0 A0 l0.length l0) (hc0 : l0.length ≤ c0) (h : spec_l6Open.f l0 = some (r1, r2)) :
  Calls Try.prog 67 #[.slice A0 l0.length c0] w fun e w' => ∃ g_ : Nat, e = .returned (.pointer (some ⟨g_, 0, none⟩)) ∧ IsS74 w0 w' g_ r1 r2 ∧ Below w0.heap.size w0 w' ∧ Below w.heap.size w w' := by
 have hu74 := Try.underlying74; have HR0 := Aside0.mk hr0; have HC0 := Aside0.mk hc0; clear hr0 hc0; have HBW := Aside0.mk (Below.refl w.heap.size w); have HW0 := Aside0.mk hB.size; have HB := Aside0.mk hB; clear hB; have H : (if (l0.length : Int) > 2000 then (if 2000 ≤ (l0.length : Int) then (some (l0.take 2000, 0)) else (none)) else (some (l0, 0))) = some (r1, r2) := h; clear h
 by_cases c2 : (l0.length : Int) > 2000
 ·rw [if_pos c2] at H; have c2b0 : decide (2000 < (l0.length : Int)) = true := decide_eq_true c2; have c2b1 : decide (2000 < l0.length) = true := decide_eq_true (by omega); clear c2
  by_cases c3 : 2000 ≤ (l0.length : Int)
  ·rw [if_pos c3] at H; have c3b0 := eq_true c3; have c3b1 := decide_eq_true c3; clear c3; simp only [Option.some.injEq, Prod.mk.injEq] at H; obtain ⟨rfl, rfl⟩ := H; obtain ⟨i04, hi04, _, hsz4, _⟩ := info_parts info5; obtain ⟨hcut4, hA4, hC4⟩ := print_take_of (P := Try.prog) (Value.int .u8) 0 22 5 .i64 Try.underlying22 hi04 hsz4 A0 c0 l0 2000 (by omega) (Sqz.od) HC0.out; have HR195 := Aside0.mk (Kd.C_of_reads (h1 := fun _ => rfl) (hA4 _ (Kd.reads_of_C HR0.out))); have HC195 := Aside0.mk hC4; clear hA4 hC4 hi04 hsz4
   go_enter Try.func67, Try.ntmps67
   go_wp2_with (first | ((with_reducible refine gate_dst (N := 10) rfl ?_); refine box_event ?hg (N := 10) ?hd (cs := #[.slice A0 (l0.take 2000).length c0, .int .i64 0]) (t := 74) ?hr ?_; (case hd => rfl); (case hg => rfl); (case hr => first | (go_simp; done) | (go_simp; rfl)); intro gb196 hg w5 hbox hb; replace HB := Aside0.mk (below_step (Sqz.auHB) hb); have BK196 := Aside0.mk (hbox); have GW196 := Aside0.mk ((by rw [hg]; exact (below_size (by repeat (first | (with_reducible first | exact HBW.out | apply below_alloc | apply pw_below_drewN | apply below_drew1) | exact HBW.out))) : w.heap.size ≤ gb196)); have GE196 := Aside0.mk ((Nat.le_trans HW0.out (by rw [hg]; exact (below_size (by repeat (first | (with_reducible first | exact HBW.out | apply below_alloc | apply pw_below_drewN | apply below_drew1) | exact HBW.out))) : w.heap.size ≤ gb196) : w0.heap.size ≤ gb196)); replace HBW := Aside0.mk (below_step HBW.out hb); clear hb hbox hg))
   go_ret
   exact ⟨_, rfl, (show IsS74 w0 _ gb196 (l0.take 2000) 0 from ⟨_, _, by (with_reducible repeat (first | refine blk_drewN ?_ _ | refine blk_drew ?_ | refine blk_alloc ?_ _)); exact BK196.out, GE196.out, HR195.out⟩), by repeat (first | (with_reducible first | exact HB.out | apply below_alloc | apply pw_below_drewN | apply below_drew1 | refine below_set ?_ GE196.out) | exact HB.out), by repeat (first | (with_reducible first | exact HBW.out | apply below_alloc | apply pw_below_drewN | apply below_drew1 | refine below_set ?_ GW196.out) | exact HBW.out)⟩
  ·rw [if_neg c3] at H; exact absurd H (by simp)
 ·rw [if_neg c2] at H; have c2b0 : decide (2000 < (l0.length : Int)) = false := decide_eq_false c2; have c2b1 : decide (2000 < l0.length) = false := decide_eq_false (by omega); clear c2; simp only [Option.some.injEq, Prod.mk.injEq] at H; obtain ⟨rfl, rfl⟩ := H
  go_enter Try.func67, Try.ntmps67
  go_wp2_with (first | ((with_reducible refine gate_dst (N := 10) rfl ?_); refine box_event ?hg (N := 10) ?hd (cs := #[.slice A0 l0.length c0, .int .i64 0]) (t := 74) ?hr ?_; (case hd => rfl); (case hg => rfl); (case hr => first | (go_simp; done) | (go_simp; rfl)); intro gb197 hg w6 hbox hb; replace HB := Aside0.mk (below_step (Sqz.auHB) hb); have BK197 := Aside0.mk (hbox); have GW197 := Aside0.mk ((by rw [hg]; exact (below_size (by repeat (first | (with_reducible first | exact HBW.out | apply below_alloc | apply pw_below_drewN | apply below_drew1) | exact HBW.out))) : w.heap.size ≤ gb197)); have GE197 := Aside0.mk ((Nat.le_trans HW0.out (by rw [hg]; exact (below_size (by repeat (first | (with_reducible first | exact HBW.out | apply below_alloc | apply pw_below_drewN | apply below_drew1) | exact HBW.out))) : w.heap.size ≤ gb197) : w0.heap.size ≤ gb197)); replace HBW := Aside0.mk (below_step HBW.out hb); clear hb hbox hg))
  go_ret
  exact ⟨_, rfl, (show IsS74 w0 _ gb197 l0 0 from ⟨_, _, by (with_reducible repeat (first | refine blk_drewN ?_ _ | refine blk_drew ?_ | refine blk_alloc ?_ _)); exact BK197.out, GE197.out, HR0.out⟩), by repeat (first | (with_reducible first | exact HB.out | apply below_alloc | apply pw_below_drewN | apply below_drew1 | refine below_set ?_ GE197.out) | exact HB.out), by repeat (first | (with_reducible first | exact HBW.out | apply below_alloc | apply pw_below_drewN | apply below_drew1 | refine below_set ?_ GW197.out) | exact HBW.out)⟩

end Go.Proofs.Ytihadpckmcebgaa.PFnValueMany
