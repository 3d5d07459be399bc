/- A function's Lean twin and its walk, written by a program of this session. -/
import Derived.Test.YtihadpckmcebgaaTPFnValueManyx0
import Derived.Test.YtihadpckmcebgaaTPFnValueManyx1
namespace Go.Proofs.Ytihadpckmcebgaa.PFnValueMany
open Go.RowKit Go.Proofs.YtihadpckmcebgaaW.PrintWords Go.Proofs.YtihadpckmcebgaaW.PrintLast Go.Proofs.YtihadpckmcebgaaW.PrintMore
attribute [local go_sem] max2_int min2_int max_two min_two max_three min_three max_four min_four   -- for this text's walks alone
set_option linter.unusedVariables false
set_option linter.unusedSimpArgs false

/-! ### impl_gcd: function 118 -/
mutual
def impl_gcd.l0 : Nat → Int → List Int → Int → Int → Option (Int)
 | 0, _, _, _, _ => none
 | k + 1, x3, x6, x7, x8 => if x8 < x7 then (if 0 ≤ x8 then (if x8 < (x6.length : Int) then ((impl_size.f (rd x6 x8)).bind fun t275 => (impl_gcd.l1 k x3 t275 x6 x7 x8)) else (none)) else (none)) else (some x3)
def impl_gcd.l1 : Nat → Int → Int → List Int → Int → Int → Option (Int)
 | 0, _, _, _, _, _ => none
 | k + 1, x3, x5, x6, x7, x8 => if x5 = 0 then (impl_gcd.l0 k x3 x6 x7 (wrap64 (x8 + 1))) else (impl_gcd.l1 k x5 (Int.tmod x3 x5) x6 x7 x8)
end
def impl_gcd.f (k : Nat) (l0 : List Int) : Option (Int) := impl_gcd.l0 k 0 l0 (l0.length : Int) 0
set_option maxHeartbeats 8000000 in
set_option maxRecDepth 100000 in
theorem impl_gcd.calls (k : Nat) (A0 : Option Addr) (c0 : Nat) (l0 : List Int) (r : Int) (w : World) (hr0 : Kd.C (Kd.int .i64) w A0 l0.length l0) (hc0 : l0.length ≤ c0) (h : impl_gcd.f k l0 = some r) :
  Calls Try.prog 118 #[.slice A0 l0.length c0] w fun e w' => e = .returned (.int .i64 r) ∧ Below w.heap.size w w' := by
 have HR0 := Aside0.mk hr0; have HC0 := Aside0.mk hc0; clear hr0 hc0; have HB := Aside0.mk (Below.refl w.heap.size w); have H : (impl_gcd.l0 k 0 l0 (l0.length : Int) 0) = some r := h; clear h; have H' := Aside0.mk H; clear H
 go_enter Try.func118, Try.ntmps118
 go_wp2
 repeat (go_quiet (fail); try go_wp2)
 go_loopg [3, 8] k (fun kq v3 v8 w' => ∃ (x3_1 : Int) (x8_1 : Int), v3 = .int .i64 x3_1 ∧ v8 = .int .i64 x8_1 ∧ Aside0 (impl_gcd.l0 kq x3_1 l0 (l0.length : Int) x8_1 = some r) ∧ Aside0 (kq ≤ k) ∧ Aside0 (Below w.heap.size w w'))
 case atStart => exact ⟨(0), (0), Sqz.auS, Sqz.auS, H', ⟨Nat.le_refl _⟩, ⟨Sqz.auHB⟩⟩
 case round =>
  clear H'
  try clear c1
  obtain ⟨x3_1, x8_1, rfl, rfl, HA, HK1, HB⟩ := hrel; cases gk with
  | zero => exact absurd HA.out (by simp [impl_gcd.l0])
  | succ k1 =>
   have H := HA.out; clear HA; simp only [impl_gcd.l0] at H
   by_cases c2 : x8_1 < (l0.length : Int)
   ·rw [if_pos c2] at H; have c2b0 := decide_eq_true c2; clear c2
    by_cases c3 : 0 ≤ x8_1
    ·rw [if_pos c3] at H; have c3b0 := decide_eq_true c3; clear c3
     by_cases c4 : x8_1 < (l0.length : Int)
     ·rw [if_pos c4] at H; have c4b0 := decide_eq_true c4; clear c4; obtain ⟨t275, A5, H⟩ := Sqz.be H; have H' := Aside0.mk H; clear H; have p274 : 0 ≤ (x8_1 : Int) := Sqz.od; have q274 : x8_1 < (l0.length : Int) := Sqz.od; obtain ⟨ad274, e274, hx274_0⟩ := Kd.at_int HR0.out x8_1 p274 q274; cases e274; replace hx274_0 := (HB.out.cell (World.block_lt_of_cell? w _ hx274_0)).trans hx274_0; replace p274 := eq_true p274; replace q274 := eq_true q274
      go_wp2_with (first | (go_at_call 72; (with_reducible refine (impl_size.calls (rd l0 x8_1) t275 _ A5.out).mono ?_); rintro e w6 ⟨rfl, hb⟩; replace HB := Aside0.mk (below_step (Sqz.auHB) hb); (try clear hb)))
      repeat (go_quiet (first | (go_at_call 72; (with_reducible refine (impl_size.calls (rd l0 x8_1) t275 _ A5.out).mono ?_); rintro e w6 ⟨rfl, hb⟩; replace HB := Aside0.mk (below_step (Sqz.auHB) hb); (try clear hb))); try go_wp2_with (first | (go_at_call 72; (with_reducible refine (impl_size.calls (rd l0 x8_1) t275 _ A5.out).mono ?_); rintro e w6 ⟨rfl, hb⟩; replace HB := Aside0.mk (below_step (Sqz.auHB) hb); (try clear hb))))
      go_loopg [3, 5] k1 (fun kq v3 v5 w' => ∃ (x3_2 : Int) (x5_2 : Int), v3 = .int .i64 x3_2 ∧ v5 = .int .i64 x5_2 ∧ Aside0 (impl_gcd.l1 kq x3_2 x5_2 l0 (l0.length : Int) x8_1 = some r) ∧ Aside0 (kq ≤ k1) ∧ Aside0 (Below w.heap.size w w'))
      case atStart => exact ⟨(x3_1), (t275), Sqz.auS, Sqz.auS, H', ⟨Nat.le_refl _⟩, ⟨Sqz.auHB⟩⟩
      case round =>
       clear H'
       try clear c1
       try clear c2
       try clear c2b0
       try clear p2
       try clear q2
       try clear hx2
       try clear c3
       try clear c3b0
       try clear c4
       try clear c4b0
       try clear hx274_0
       try clear p274
       try clear q274
       obtain ⟨x3_2, x5_2, rfl, rfl, HA, HK2, HB⟩ := hrel; cases gk with
       | zero => exact absurd HA.out (by simp [impl_gcd.l1])
       | succ k2 =>
        have H := HA.out; clear HA; simp only [impl_gcd.l1] at H
        by_cases c7 : x5_2 = 0
        ·rw [if_pos c7] at H; have c7b0 := beq_iff_eq.mpr c7; have c7b1 := bne_eq_false_iff_eq.mpr c7; clear c7; have H' := Aside0.mk H; clear H; go_wp2
         repeat (go_quiet (fail); try go_wp2)
         go_roundg k2
         case measure => have := HK1.out; have := HK2.out; omega
         case rel => exact ⟨(x3_2), (wrap64 (x8_1 + 1)), Sqz.auS, Sqz.auS, H', ⟨by have := HK1.out; have := HK2.out; omega⟩, ⟨Sqz.auHB⟩⟩
        ·rw [if_neg c7] at H; have c7b0 := beq_eq_false_iff_ne.mpr c7; have c7b1 := bne_iff_ne.mpr c7; have H' := Aside0.mk H; clear H; go_wp2
         repeat (go_quiet (fail); try go_wp2)
         go_roundg k2
         case measure => have := HK1.out; have := HK2.out; omega
         case rel => exact ⟨(x5_2), (Int.tmod x3_2 x5_2), Sqz.auS, Sqz.auS, H', ⟨by have := HK1.out; have := HK2.out; omega⟩, ⟨Sqz.auHB⟩⟩
     ·rw [if_neg c4] at H; exact absurd H (by simp)
    ·rw [if_neg c3] at H; exact absurd H (by simp)
   ·rw [if_neg c2] at H; have c2b0 := decide_eq_false c2; clear c2; obtain rfl := Option.some.inj H; go_wp2
    repeat (go_quiet (fail); try go_wp2)
    go_ret
    exact ⟨Sqz.auR, Sqz.auHB⟩

/-! ### impl_plain: function 120 -/
mutual
def impl_plain.j1 : Nat → List Int → Int → Option (List Int)
 | 0, _, _ => none
 | k + 1, x0, x3 => impl_plain.l1 k x3 (([] : List Int)) x0 (x0.length : Int) 0
def impl_plain.l1 : Nat → Int → List Int → List Int → Int → Int → Option (List Int)
 | 0, _, _, _, _, _ => none
 | k + 1, x3, x6, x25, x26, x27 => if x27 < x26 then (if 0 ≤ x27 then (if x27 < (x25.length : Int) then (if x3 = 0 then (none) else (if x6.length < 17592186044416 then (impl_plain.l1 k x3 (x6 ++ [wrap64 (Int.tdiv (rd x25 x27) x3)]) x25 x26 (wrap64 (x27 + 1))) else (none))) else (none)) else (none)) else (some x6)
def impl_plain.l0 : Nat → List Int → Int → List Int → Int → Int → Option (List Int)
 | 0, _, _, _, _, _ => none
 | k + 1, x0, x3, x11, x12, x13 => if x13 < x12 then (if 0 ≤ x13 then (if x13 < (x11.length : Int) then (if (rd x11 x13) = 0 then (impl_plain.l0 k x0 x3 x11 x12 (wrap64 (x13 + 1))) else (if (rd x11 x13) < 0 then (impl_plain.j1 k x0 (wrap64 (-x3))) else (impl_plain.j1 k x0 x3))) else (none)) else (none)) else (impl_plain.j1 k x0 x3)
end
def impl_plain.f (k : Nat) (l0 : List Int) : Option (List Int) := (impl_gcd.f k l0).bind fun t276 => (impl_plain.l0 k l0 t276 l0 (l0.length : Int) 0)
set_option maxHeartbeats 8000000 in
set_option maxRecDepth 100000 in
theorem impl_plain.calls (k : Nat) (A0 : Option Addr) (c0 : Nat) (l0 : List Int) (r : List Int) (w : World) (hr0 : Kd.C (Kd.int .i64) w A0 l0.length l0) (hc0 : l0.length ≤ c0) (h : impl_plain.f k l0 = some r) :
  Calls Try.prog 120 #[.slice A0 l0.length c0] w fun e w' => ∃ v0_ : Value, e = .returned (v0_) ∧ Kd.R (Kd.int .i64) 3 w' w.heap.size (fun _ => True) v0_ r ∧ Below w.heap.size w w' := by
 have HR0 := Aside0.mk hr0; have HC0 := Aside0.mk hc0; clear hr0 hc0; have HB := Aside0.mk (Below.refl w.heap.size w); have H : ((impl_gcd.f k l0).bind fun t276 => (impl_plain.l0 k l0 t276 l0 (l0.length : Int) 0)) = some r := h; clear h; obtain ⟨t276, A2, H⟩ := Sqz.be H; have HC3 := Aside0.mk H; clear H
 go_enter Try.func120, Try.ntmps120
 go_upto_block 0 with (first | ((with_reducible refine gate_callee (f := 118) rfl ?_); refine goesL_ (some 10) rfl rfl Try.func118 (by kernel_rfl) rfl #[.slice A0 l0.length c0] rfl Sqz.auM ?_; (with_reducible refine (impl_gcd.calls k _ _ l0 t276 _ ?side1 ?side2 A2.out).mono ?_); (case side1 => exact Sqz.mvC (HR0.out)); (case side2 => exact HC0.out); rintro e w4 ⟨rfl, hb⟩; refine ⟨_, rfl, ?_⟩; replace HB := Aside0.mk (below_step (Sqz.auHB) hb); (try clear hb)))
 (try simp only [Act.put, List.setIfInBounds_toArray, List.set_cons_zero, List.set_cons_succ])
 go_cut [3] (fun v3 wc => ∃ (kq : Nat) (x3_2 : Int), v3 = .int .i64 x3_2 ∧ Aside0 (impl_plain.j1 kq l0 x3_2 = some r) ∧ Aside0 (kq ≤ k) ∧ Aside0 (Below w.heap.size w wc))
 case first =>
  have H := HC3.out; clear HC3; have H' := Aside0.mk H; clear H; go_wp2
  go_loopg [3, 13] k (fun kq v3 v13 w' => ∃ (x3_1 : Int) (x13_1 : Int), v3 = .int .i64 x3_1 ∧ v13 = .int .i64 x13_1 ∧ Aside0 (impl_plain.l0 kq l0 x3_1 l0 (l0.length : Int) x13_1 = some r) ∧ Aside0 (kq ≤ k) ∧ Aside0 (Below w.heap.size w w'))
  case atStart => exact ⟨(t276), (0), Sqz.auS, Sqz.auS, H', ⟨Nat.le_refl _⟩, ⟨Sqz.auHB⟩⟩
  case round =>
   clear H'
   try clear c1
   try clear p2
   obtain ⟨x3_1, x13_1, rfl, rfl, HA, HK1, HB⟩ := hrel; cases gk with
   | zero => exact absurd HA.out (by simp [impl_plain.l0])
   | succ k1 =>
    have H := HA.out; clear HA; simp only [impl_plain.l0] at H
    by_cases c5 : x13_1 < (l0.length : Int)
    ·rw [if_pos c5] at H; have c5b0 := decide_eq_true c5; clear c5
     (first | rw [c5b0] | (simp only [i64_w, i32_w]; rw [c5b0]) | skip)
     by_cases c6 : 0 ≤ x13_1
     ·rw [if_pos c6] at H; have c6b0 := decide_eq_true c6; clear c6
      by_cases c7 : x13_1 < (l0.length : Int)
      ·rw [if_pos c7] at H; have c7b0 := decide_eq_true c7; clear c7
       by_cases c8 : (rd l0 x13_1) = 0
       ·rw [if_pos c8] at H; have c8b0 := beq_iff_eq.mpr c8; have c8b1 := bne_eq_false_iff_eq.mpr c8; clear c8; have H' := Aside0.mk H; clear H; have p277 : 0 ≤ (x13_1 : Int) := Sqz.od; have q277 : x13_1 < (l0.length : Int) := Sqz.od; obtain ⟨ad277, e277, hx277_0⟩ := Kd.at_int HR0.out x13_1 p277 q277; cases e277; replace hx277_0 := (HB.out.cell (World.block_lt_of_cell? w _ hx277_0)).trans hx277_0; replace p277 := eq_true p277; replace q277 := eq_true q277; go_wp2
        go_roundg k1
        case measure => have := HK1.out; omega
        case rel => exact ⟨(x3_1), (wrap64 (x13_1 + 1)), Sqz.auS, Sqz.auS, H', ⟨by have := HK1.out; omega⟩, ⟨Sqz.auHB⟩⟩
       ·rw [if_neg c8] at H; have c8b0 := beq_eq_false_iff_ne.mpr c8; have c8b1 := bne_iff_ne.mpr c8
        by_cases c9 : (rd l0 x13_1) < 0
        ·rw [if_pos c9] at H; have c9b0 := decide_eq_true c9; clear c9; have H' := Aside0.mk H; clear H; have p277 : 0 ≤ (x13_1 : Int) := Sqz.od; have q277 : x13_1 < (l0.length : Int) := Sqz.od; obtain ⟨ad277, e277, hx277_0⟩ := Kd.at_int HR0.out x13_1 p277 q277; cases e277; replace hx277_0 := (HB.out.cell (World.block_lt_of_cell? w _ hx277_0)).trans hx277_0; replace p277 := eq_true p277; replace q277 := eq_true q277; go_wp2
         go_meet
         case rel => exact ⟨_, (wrap64 (-x3_1)), Sqz.auS, H', ⟨by have := HK1.out; first | omega | exact Nat.le_refl _⟩, ⟨Sqz.auHB⟩⟩
        ·rw [if_neg c9] at H; have c9b0 := decide_eq_false c9; clear c9; have H' := Aside0.mk H; clear H; have p277 : 0 ≤ (x13_1 : Int) := Sqz.od; have q277 : x13_1 < (l0.length : Int) := Sqz.od; obtain ⟨ad277, e277, hx277_0⟩ := Kd.at_int HR0.out x13_1 p277 q277; cases e277; replace hx277_0 := (HB.out.cell (World.block_lt_of_cell? w _ hx277_0)).trans hx277_0; replace p277 := eq_true p277; replace q277 := eq_true q277; go_wp2
         go_meet
         case rel => exact ⟨_, (x3_1), Sqz.auS, H', ⟨by have := HK1.out; first | omega | exact Nat.le_refl _⟩, ⟨Sqz.auHB⟩⟩
      ·rw [if_neg c7] at H; exact absurd H (by simp)
     ·rw [if_neg c6] at H; exact absurd H (by simp)
    ·rw [if_neg c5] at H; have c5b0 := decide_eq_false c5; clear c5
     (first | rw [c5b0] | (simp only [i64_w, i32_w]; rw [c5b0]) | skip)
     have H' := Aside0.mk H; clear H; go_wp2
     go_meet
     case rel => exact ⟨_, (x3_1), Sqz.auS, H', ⟨by have := HK1.out; first | omega | exact Nat.le_refl _⟩, ⟨Sqz.auHB⟩⟩
 case rest =>
  clear HC3
  try clear c1
  try clear p2
  try clear q2
  try clear hx2
  try clear c5
  try clear c5b0
  try clear c6
  try clear c6b0
  try clear p6
  try clear c7
  try clear c7b0
  try clear c8
  try clear c8b0
  try clear c8b1
  try clear c9
  try clear c9b0
  try clear hx277_0
  try clear p2
  try clear p277
  try clear q277
  obtain ⟨kq, x3_2, rfl, HA, HJ2, HB⟩ := hcut; cases kq with
  | zero => exact absurd HA.out (by simp [impl_plain.j1])
  | succ kj2 =>
   have H := HA.out; clear HA; simp only [impl_plain.j1] at H; obtain ⟨y278, hyy⟩ : ∃ y_ : List Int, y_ = (([] : List Int)) := ⟨_, rfl⟩
   replace H : (impl_plain.l1 kj2 x3_2 y278 l0 (l0.length : Int) 0) = some r := Sqz.auY
   have Ny278 := Aside0.mk hyy; clear hyy; have H' := Aside0.mk H; clear H
   go_wp2_with (first | ((with_reducible refine gate_dst (N := 24) rfl ?_); refine Kd.R_lit (Kd.int .i64) _ 3 ?hg (N := 24) ?hd (xs := ([] : List Int)) (inner := []) (ok := fun _ => True) (okp := fun _ => True) ?hr ?hp (fun _ hk => hk) trivial (Below.refl _ _) (Nat.le_refl _) (by simp) ?_; (case hd => rfl); (case hg => rfl); (case hr => first | (go_simp; done) | (go_simp; rfl)); (case hp => exact (Reps.none _ _)); intro v279 w10 ho11 hb hg_ hnew_; clear hg_ hnew_; (first | rw [← Ny278.out] at ho11 | (simp only [Int.reduceToNat] at ho11; rw [← Ny278.out] at ho11)); have HO280 := Aside0.mk (Kd.R_lower ho11 (below_size (Sqz.auHB))); replace HB := Aside0.mk (below_step (Sqz.auHB) hb); clear hb ho11))
   go_loopg [6, 27] kj2 (fun kq v6 v27 w' => ∃ (x6_2 : List Int) (x27_2 : Int), v27 = .int .i64 x27_2 ∧ Aside0 (impl_plain.l1 kq x3_2 x6_2 l0 (l0.length : Int) x27_2 = some r) ∧ Aside0 (kq ≤ kj2) ∧ Aside0 (Kd.R (Kd.int .i64) 3 w' w.heap.size (fun _ => True) v6 x6_2) ∧ Aside0 (Below w.heap.size w w'))
   case atStart => exact ⟨(y278), (0), Sqz.auS, H', ⟨Nat.le_refl _⟩, ⟨(Sqz.mvR HO280.out)⟩, ⟨Sqz.auHB⟩⟩
   case round =>
    clear H'
    try clear c1
    try clear p2
    try clear q2
    try clear hx2
    try clear c5
    try clear c5b0
    try clear c6
    try clear c6b0
    try clear p6
    try clear c7
    try clear c7b0
    try clear c8
    try clear c8b0
    try clear c8b1
    try clear c9
    try clear c9b0
    try clear c11
    try clear hx277_0
    try clear p2
    try clear p277
    try clear p6
    try clear q2
    try clear q277
    obtain ⟨x6_2, x27_2, rfl, HA, HK2, HO_6, HB⟩ := hrel; cases gk with
    | zero => exact absurd HA.out (by simp [impl_plain.l1])
    | succ k2 =>
     have H := HA.out; clear HA; simp only [impl_plain.l1] at H
     by_cases c12 : x27_2 < (l0.length : Int)
     ·rw [if_pos c12] at H; have c12b0 := decide_eq_true c12; clear c12
      by_cases c13 : 0 ≤ x27_2
      ·rw [if_pos c13] at H; have c13b0 := decide_eq_true c13; clear c13
       by_cases c14 : x27_2 < (l0.length : Int)
       ·rw [if_pos c14] at H; have c14b0 := decide_eq_true c14; clear c14
        by_cases c15 : x3_2 = 0
        ·rw [if_pos c15] at H; exact absurd H (by simp)
        ·rw [if_neg c15] at H; have c15b0 := beq_eq_false_iff_ne.mpr c15; have c15b1 := bne_iff_ne.mpr c15
         by_cases c16 : x6_2.length < 17592186044416
         ·rw [if_pos c16] at H; have LMc16 := Aside0.mk c16; clear c16; obtain ⟨y282, hyy⟩ : ∃ y_ : List Int, y_ = (x6_2 ++ [wrap64 (Int.tdiv (rd l0 x27_2) x3_2)]) := ⟨_, rfl⟩
          replace H : (impl_plain.l1 k2 x3_2 y282 l0 (l0.length : Int) (wrap64 (x27_2 + 1))) = some r := Sqz.auY
          have Ny282 := Aside0.mk hyy; clear hyy; have H' := Aside0.mk H; clear H; have p281 : 0 ≤ (x27_2 : Int) := Sqz.od; have q281 : x27_2 < (l0.length : Int) := Sqz.od; obtain ⟨ad281, e281, hx281_0⟩ := Kd.at_int HR0.out x27_2 p281 q281; cases e281; replace hx281_0 := (HB.out.cell (World.block_lt_of_cell? w _ hx281_0)).trans hx281_0; replace p281 := eq_true p281; replace q281 := eq_true q281
          go_wp2_with (first | ((with_reducible refine gate_builtin (b := .append) (xs := #[.tmp 31, .tmp 35]) rfl ?_); at_builtin; refine Kd.R_append (Kd.int .i64) (w0 := w) w.heap.size rfl (.tmp 31) (.tmp 35) 25 3 (.int .i64 0) 8 rfl Try.underlying25 info3 rfl (by decide) (by omega) u6 x6_2 (wrap64 (Int.tdiv (rd l0 x27_2) x3_2)) [.int .i64 (wrap64 (Int.tdiv (rd l0 x27_2) x3_2))] (fun _ => True) (fun _ => False) rfl rfl ?aP (fun _ hk => hk.elim) ?aF ?aO ?aB ?aS ?aL ?_; (case aP => exact rfl); (case aB => exact (Sqz.auHB)); (case aF => exact (fun _ _ => trivial)); (case aO => exact ((Sqz.mvR HO_6.out))); (case aS => exact (below_size (Sqz.auHB))); (case aL => have := LMc16.out; omega); intro v283 w17 ho hb hg hat; rw [← Ny282.out] at ho; replace HB := Aside0.mk (hb); have HO284 := Aside0.mk (ho); clear HO_6; clear ho hb hg hat))
          go_roundg k2
          case measure => have := HJ2.out; have := HK2.out; omega
          case rel => exact ⟨(y282), (wrap64 (x27_2 + 1)), Sqz.auS, H', ⟨by have := HJ2.out; have := HK2.out; omega⟩, ⟨(Sqz.mvR HO284.out)⟩, ⟨Sqz.auHB⟩⟩
         ·rw [if_neg c16] at H; exact absurd H (by simp)
       ·rw [if_neg c14] at H; exact absurd H (by simp)
      ·rw [if_neg c13] at H; exact absurd H (by simp)
     ·rw [if_neg c12] at H; have c12b0 := decide_eq_false c12; clear c12; obtain rfl := Option.some.inj H; go_wp2; go_ret
      exact ⟨_, Sqz.auR, (Sqz.mvR HO_6.out), Sqz.auHB⟩

/-! ### slices_Equal_int_int: function 119 -/
def slices_Equal_int_int.l0 : Nat → List Int → List Int → Int → Int → Option (Bool)
 | 0, _, _, _, _ => none
 | k + 1, x0, x1, x12, x13 => if x13 < x12 then (if 0 ≤ x13 then (if x13 < (x0.length : Int) then (if x13 < (x1.length : Int) then (if (rd x0 x13) = (rd x1 x13) then (slices_Equal_int_int.l0 k x0 x1 x12 (wrap64 (x13 + 1))) else (some false)) else (none)) else (none)) else (none)) else (some true)
def slices_Equal_int_int.f (k : Nat) (l0 : List Int) (l1 : List Int) : Option (Bool) := if (l0.length : Int) = (l1.length : Int) then (slices_Equal_int_int.l0 k l0 l1 (l0.length : Int) 0) else (some false)
set_option maxHeartbeats 8000000 in
set_option maxRecDepth 100000 in
theorem slices_Equal_int_int.calls (k : Nat) (A0 : Option Addr) (c0 : Nat) (l0 : List Int) (A1 : Option Addr) (c1 : Nat) (l1 : List Int) (r : Bool) (w : World) (hr0 : Kd.C (Kd.int .i64) w A0 l0.length l0) (hc0 : l0.length ≤ c0) (hr1 : Kd.C (Kd.int .i64) w A1 l1.length l1) (hc1 : l1.length ≤ c1) (h : slices_Equal_int_int.f k l0 l1 = some r) :
  Calls Try.prog 119 #[.slice A0 l0.length c0, .slice A1 l1.length c1] w fun e w' => e = .returned (.bool r) ∧ Drawn0 w w' := by
 have HR0 := Aside0.mk hr0; have HC0 := Aside0.mk hc0; clear hr0 hc0; have HR1 := Aside0.mk hr1; have HC1 := Aside0.mk hc1; clear hr1 hc1; have H : (if (l0.length : Int) = (l1.length : Int) then (slices_Equal_int_int.l0 k l0 l1 (l0.length : Int) 0) else (some false)) = some r := h; clear h
 by_cases c3 : (l0.length : Int) = (l1.length : Int)
 ·rw [if_pos c3] at H; have c3b0 := beq_iff_eq.mpr c3; have c3b1 := bne_eq_false_iff_eq.mpr c3; have c3b2 : (l0.length == l1.length) = true := by first | simpa using c3 | (simp at c3 ⊢; omega)
  clear c3; have H' := Aside0.mk H; clear H
  go_enter Try.func119, Try.ntmps119
  go_wp2
  repeat (go_quiet (fail); try go_wp2)
  go_loopg [13] k (fun kq v13 w' => ∃ (x13_1 : Int), v13 = .int .i64 x13_1 ∧ Aside0 (slices_Equal_int_int.l0 kq l0 l1 (l0.length : Int) x13_1 = some r) ∧ Aside0 (kq ≤ k) ∧ Drawn0 w w')
  case atStart => exact ⟨(0), Sqz.auS, H', ⟨Nat.le_refl _⟩, by repeat (first | exact Drawn0.refl _ | apply Drawn0.step)⟩
  case round =>
   clear H'
   try clear c1
   try clear p2
   try clear c3
   try clear c3b0
   try clear c3b1
   try clear c3b2
   obtain ⟨x13_1, rfl, HA, HK1, ⟨m1, rfl⟩⟩ := hrel; cases gk with
   | zero => exact absurd HA.out (by simp [slices_Equal_int_int.l0])
   | succ k1 =>
    have H := HA.out; clear HA; simp only [slices_Equal_int_int.l0] at H
    by_cases c4 : x13_1 < (l0.length : Int)
    ·rw [if_pos c4] at H; have c4b0 := decide_eq_true c4; clear c4
     by_cases c5 : 0 ≤ x13_1
     ·rw [if_pos c5] at H; have c5b0 := decide_eq_true c5; clear c5
      by_cases c6 : x13_1 < (l0.length : Int)
      ·rw [if_pos c6] at H; have c6b0 := decide_eq_true c6; clear c6
       by_cases c7 : x13_1 < (l1.length : Int)
       ·rw [if_pos c7] at H; have c7b0 := decide_eq_true c7; clear c7
        by_cases c8 : (rd l0 x13_1) = (rd l1 x13_1)
        ·rw [if_pos c8] at H; have c8b0 := beq_iff_eq.mpr c8; have c8b1 := bne_eq_false_iff_eq.mpr c8; clear c8; have H' := Aside0.mk H; clear H; have p285 : 0 ≤ (x13_1 : Int) := Sqz.od; have q285 : x13_1 < (l0.length : Int) := Sqz.od; obtain ⟨ad285, e285, hx285_0⟩ := Kd.at_int HR0.out x13_1 p285 q285; cases e285; replace p285 := eq_true p285; replace q285 := eq_true q285; have p286 : 0 ≤ (x13_1 : Int) := Sqz.od; have q286 : x13_1 < (l1.length : Int) := Sqz.od; obtain ⟨ad286, e286, hx286_0⟩ := Kd.at_int HR1.out x13_1 p286 q286; cases e286; replace p286 := eq_true p286; replace q286 := eq_true q286; go_wp2
         repeat (go_quiet (fail); try go_wp2)
         go_roundg k1
         case measure => have := HK1.out; omega
         case rel => exact ⟨(wrap64 (x13_1 + 1)), Sqz.auS, H', ⟨by have := HK1.out; omega⟩, by repeat (first | exact Drawn0.refl _ | apply Drawn0.step)⟩
        ·rw [if_neg c8] at H; have c8b0 := beq_eq_false_iff_ne.mpr c8; have c8b1 := bne_iff_ne.mpr c8; obtain rfl := Option.some.inj H; have p285 : 0 ≤ (x13_1 : Int) := Sqz.od; have q285 : x13_1 < (l0.length : Int) := Sqz.od; obtain ⟨ad285, e285, hx285_0⟩ := Kd.at_int HR0.out x13_1 p285 q285; cases e285; replace p285 := eq_true p285; replace q285 := eq_true q285; have p286 : 0 ≤ (x13_1 : Int) := Sqz.od; have q286 : x13_1 < (l1.length : Int) := Sqz.od; obtain ⟨ad286, e286, hx286_0⟩ := Kd.at_int HR1.out x13_1 p286 q286; cases e286; replace p286 := eq_true p286; replace q286 := eq_true q286; go_wp2
         repeat (go_quiet (fail); try go_wp2)
         go_ret
         exact ⟨Sqz.auS, by repeat (first | exact Drawn0.refl _ | apply Drawn0.step)⟩
       ·rw [if_neg c7] at H; exact absurd H (by simp)
      ·rw [if_neg c6] at H; exact absurd H (by simp)
     ·rw [if_neg c5] at H; exact absurd H (by simp)
    ·rw [if_neg c4] at H; have c4b0 := decide_eq_false c4; clear c4; obtain rfl := Option.some.inj H; go_wp2
     repeat (go_quiet (fail); try go_wp2)
     go_ret
     exact ⟨Sqz.auS, by repeat (first | exact Drawn0.refl _ | apply Drawn0.step)⟩
 ·rw [if_neg c3] at H; have c3b0 := beq_eq_false_iff_ne.mpr c3; have c3b1 := bne_iff_ne.mpr c3; have c3b2 : (l0.length == l1.length) = false := by first | simpa using c3 | (simp at c3 ⊢; omega)
  obtain rfl := Option.some.inj H
  go_enter Try.func119, Try.ntmps119
  go_wp2
  repeat (go_quiet (fail); try go_wp2)
  go_ret
  exact ⟨Sqz.auS, by repeat (first | exact Drawn0.refl _ | apply Drawn0.step)⟩

/-! ### impl_ZeroMany: function 65 -/
section
open Locg
def VecAtZ (L : VecL) (b0 b1 : Nat) (many n : Int) (xs : List Int) (w : World) : Prop :=
 w.heap[L.a]? = some (.cells #[.int .i64 many] 3 (0, 0)) ∧ w.heap[L.n]? = some (.cells #[.int .i64 n] 3 (0, 0)) ∧
 w.heap[L.t]? = some (.cells #[.func (.func 117) #[] #[.pointer (some ⟨b0, 0, none⟩), .pointer (some ⟨b1, 0, none⟩)]] 66 (0, 0)) ∧
 w.heap[L.v]? = some (.cells #[.slice (some ⟨L.r, 0, none⟩) xs.length xs.length] 25 (0, 0)) ∧
 w.heap[L.y]? = some (.cells #[.func (.func 139) #[] #[.pointer (some ⟨L.a, 0, none⟩), .pointer (some ⟨L.t, 0, none⟩), .pointer (some ⟨L.v, 0, none⟩), .pointer (some ⟨L.n, 0, none⟩), .pointer (some ⟨L.y, 0, none⟩)]] 79 (0, 0)) ∧
 w.ownsRow L.r 3 1 (.slice (some ⟨L.r, 0, none⟩) xs.length xs.length) xs.length (nums .i64 xs) ∧ (xs.length : Int) = many
def TellOkZ (L : VecL) (b0 b1 : Nat) (many : Int) (J : Int → World → Prop) (g : List Int → Option Bool) : Prop :=
 (∀ c w w', J c w → Below L.a w w' → J c w') ∧
 ∀ (c : Int) (b : Bool) (xs : List Int) (w : World), J c w → (xs.length : Int) = many → w.ownsRow L.r 3 1 (.slice (some ⟨L.r, 0, none⟩) xs.length xs.length) xs.length (nums .i64 xs) → L.a < w.heap.size → g xs = some b →
  Calls Try.prog 117 #[.slice (some ⟨L.r, 0, none⟩) xs.length xs.length, .pointer (some ⟨b0, 0, none⟩), .pointer (some ⟨b1, 0, none⟩)] w fun e w' => e = .returned (.tuple #[]) ∧ J (c + if b = true then 1 else 0) w' ∧ (∀ k, L.a ≤ k → k < w.heap.size → w'.heap[k]? = w.heap[k]?) ∧ w.heap.size ≤ w'.heap.size
def VecSaysZ (L : VecL) (b0 b1 : Nat) (many n : Int) (J : Int → World → Prop) (g : List Int → Option Bool) (d : Nat) : Prop :=
 ∀ (p c s : Int) (xs : List Int) (w : World), VecAtZ L b0 b1 many n xs w → J c w → 0 ≤ p → p + d = many → cntO g n.toNat d (xs.take p.toNat) = some s →
  Calls Try.prog 139 #[.int .i64 p, .pointer (some ⟨L.a, 0, none⟩), .pointer (some ⟨L.t, 0, none⟩), .pointer (some ⟨L.v, 0, none⟩), .pointer (some ⟨L.n, 0, none⟩), .pointer (some ⟨L.y, 0, none⟩)] w fun e w' =>
   e = .returned (.tuple #[]) ∧ ∃ xs', VecAtZ L b0 b1 many n xs' w' ∧ xs'.take p.toNat = xs.take p.toNat ∧ J (c + s) w' ∧ w.heap.size ≤ w'.heap.size
theorem VecAtZ.keep {L : VecL} {b0 b1 : Nat} {many n : Int} {xs : List Int} {w w' : World} (h : VecAtZ L b0 b1 many n xs w) (hk : ∀ k, L.a ≤ k → k < w.heap.size → w'.heap[k]? = w.heap[k]?) : VecAtZ L b0 b1 many n xs w' := by
 obtain ⟨hA, hN, hT, hV, hY, hR, hm⟩ := h; have b1 := lt_of_block hA; have b2 := lt_of_block hN; have b3 := lt_of_block hT; have b4 := lt_of_block hV; have b5 := lt_of_block hY; have := L.h1; have := L.h2; have := L.h3; have := L.h4; have := L.h5
 exact ⟨(hk _ (by omega) b1).trans hA, (hk _ (by omega) b2).trans hN, (hk _ (by omega) b3).trans hT, (hk _ (by omega) b4).trans hV, (hk _ (by omega) b5).trans hY,
  own_move hR (fun k hkk => by simp only [Value.ownBlock, Option.some.injEq] at hkk; subst hkk; exact hk _ (by omega) (by omega)), hm⟩
set_option maxHeartbeats 1600000 in
set_option maxRecDepth 100000 in
theorem vec_baseZ {L : VecL} {b0 b1 : Nat} {many n : Int} {J : Int → World → Prop} {g : List Int → Option Bool} (hT : TellOkZ L b0 b1 many J g) : VecSaysZ L b0 b1 many n J g 0 := by
 intro p c s xs w hv hJ hp hpm hg; have HI := Aside0.mk hv; obtain ⟨hA, hN, hTe, hV, hY, hR, hm⟩ := hv; have cA := cell_of_one hA; have cT := cell_of_one hTe; have cV := cell_of_one hV; have e1 : (p == many) = true := by rw [beq_iff_eq]; omega
 simp only [cntO] at hg; obtain ⟨b, hb, hg⟩ := Option.bind_eq_some_iff.mp hg; have hl : xs.take p.toNat = xs := List.take_of_length_le (by omega); rw [hl] at hb; have HC := Aside0.mk (hT.2 c b xs w hJ hm hR (lt_of_block hA) hb); clear hA hN hTe hV hY hR hb hJ hT
 go_enter Try.func139, Try.ntmps139
 go_wp2_with (go_at_call 117; refine HC.out.mono ?_; rintro e w2 ⟨rfl, hJ2, hk2, hs2⟩)
 (try simp only [Exit.inBlock, Exit.then]); refine bodyPost_ret (results_none rfl _ _ _) rfl ?_; exact ⟨rfl, xs, HI.out.keep hk2, rfl, by have := Option.some.inj hg; rw [← this]; exact hJ2, hs2⟩
theorem VecAtZ.put {L : VecL} {b0 b1 : Nat} {many n : Int} {xs : List Int} {w : World} (h : VecAtZ L b0 b1 many n xs w) (p x : Int) : VecAtZ L b0 b1 many n (xs.set p.toNat x) (w.setCell ⟨L.r, p.toNat, none⟩ (.int .i64 x)) := by
 obtain ⟨hA, hN, hT, hV, hY, hR, hm⟩ := h; have := L.h1; have := L.h2; have := L.h3; have := L.h4; have := L.h5; have hl : (xs.set p.toNat x).length = xs.length := by simp
 refine ⟨(heap_setCell_other _ _ _ _ (by show L.a ≠ L.r; omega)).trans hA, (heap_setCell_other _ _ _ _ (by show L.n ≠ L.r; omega)).trans hN, (heap_setCell_other _ _ _ _ (by show L.t ≠ L.r; omega)).trans hT, ?_, (heap_setCell_other _ _ _ _ (by show L.y ≠ L.r; omega)).trans hY, ?_, by rw [hl]; exact hm⟩
 ·rw [hl]; exact (heap_setCell_other _ _ _ _ (by show L.v ≠ L.r; omega)).trans hV
 ·have := own_put hR p x
  rwa [hl] at this ⊢
theorem TellOkZ.put {L : VecL} {b0 b1 : Nat} {many : Int} {J : Int → World → Prop} {g : List Int → Option Bool} (hT : TellOkZ L b0 b1 many J g) {c : Int} {w : World} (h : J c w) (i : Nat) (v : Value) : J c (w.setCell ⟨L.r, i, none⟩ v) := by
 have := L.h1; have := L.h2; have := L.h3; exact hT.1 c w _ h ((Below.refl _ _).setCell (show L.a ≤ L.r by omega) _)
theorem vec_rdZ {p : Int} {zs ys : List Int} (hp : 0 ≤ p) (h : zs.take (p + 1).toNat = ys.take (p + 1).toNat) : rdOf 0 zs p = rdOf 0 ys p := by
 unfold rdOf
 rw [List.getD_eq_getElem?_getD, List.getD_eq_getElem?_getD]; have h1 : (zs.take (p + 1).toNat)[p.toNat]? = (ys.take (p + 1).toNat)[p.toNat]? := by rw [h]
 rw [List.getElem?_take_of_lt (by omega), List.getElem?_take_of_lt (by omega)] at h1; rw [h1]
set_option maxHeartbeats 4000000 in
set_option maxRecDepth 100000 in
theorem vec_stepZ {L : VecL} {b0 b1 : Nat} {many n : Int} {J : Int → World → Prop} {g : List Int → Option Bool} (hT : TellOkZ L b0 b1 many J g) (hn0 : 0 ≤ n) (hn : n ≤ 1000) (hM : many ≤ 1000) (d : Nat) (IH : VecSaysZ L b0 b1 many n J g d) : VecSaysZ L b0 b1 many n J g (d + 1) := by
 intro p c s xs w hv hJ hp hpm hg; have hv0 := hv; obtain ⟨hA, hN, hTe, hV, hY, hR, hm⟩ := hv; have cA := cell_of_one hA; have cN := cell_of_one hN; have cV := cell_of_one hV; have e1 : (p == many) = false := by rw [beq_eq_false_iff_ne]; omega
 have hlt : p < (xs.length : Int) := by omega
 obtain ⟨hc, hf⟩ := Kd.R_celln 0 (Kd.R_of_own (enc := Value.int .i64) (h1 := fun _ => rfl) (ok := fun _ => True) hR (fun _ _ => trivial)) p hp hlt; have p1 : (0 ≤ p) = True := eq_true hp; have p2 : (p < (xs.length : Int)) = True := eq_true hlt; have wn : wrap64 (-n) = -n := w64 (by omega) (by omega); have wp : wrap64 (p + 1) = p + 1 := w64 (by omega) (by omega); have HV := Aside0.mk (hv0.put p (-n)); have HJ := Aside0.mk (hT.put hJ p.toNat (.int .i64 (-n))); simp only [cntO] at hg; have HG := Aside0.mk hg; have HIH := Aside0.mk IH; have HT := Aside0.mk hT; have HP := Aside0.mk hpm; have HL := Aside0.mk hlt; have HM := Aside0.mk hm; have H0 := Aside0.mk hp; clear hA hN hTe hV hY hR hg hJ hv0 hT IH hpm hlt hm
 go_enter Try.func139, Try.ntmps139
 go_wp2
 go_loopg [] (2 * n.toNat + 1) (fun kq wr => ∃ (x s0 rest : Int) (ys : List Int), Aside0 (VecAtZ L b0 b1 many n ys wr) ∧ Aside0 (J (c + s0) wr) ∧ Aside0 (x + (kq : Int) = n + 1 ∧ -n ≤ x ∧ ys.take p.toNat = xs.take p.toNat ∧ ys.length = xs.length ∧ rdOf 0 ys p = x ∧ s0 + rest = s) ∧ Aside0 (sumO (fun x => cntO g n.toNat d (xs.take p.toNat ++ [x])) kq x = some rest) ∧ Aside0 (w.heap.size ≤ wr.heap.size))
 case atStart =>
  have hl := HL.out; refine ⟨-n, 0, s, xs.set p.toNat (-n), HV, by rw [Int.add_zero]; exact HJ, ⟨⟨by omega, Int.le_refl _, ?_, by simp, ?_, by omega⟩⟩, ⟨by have := HG.out; rwa [show (-((n.toNat : Nat) : Int)) = -n from by omega] at this⟩, ⟨by simp [World.setCell]⟩⟩
  ·rw [List.take_set_of_le (Nat.le_refl _)]
  ·unfold rdOf; rw [List.getD_eq_getElem?_getD, List.getElem?_set_self (by omega)]; rfl
 case round =>
  obtain ⟨x, s0, rest, ys, HV2, HJ2, HA, HS, HZ⟩ := hrel; have hv2 := HV2.out; obtain ⟨hA, hN, hTe, hV, hY, hR, hm⟩ := hv2; have hlt : p < (ys.length : Int) := by have := HA.out.2.2.2.1; have := HL.out; omega
  have cN := cell_of_one hN; have cV := cell_of_one hV; have cY := cell_of_one hY; obtain ⟨hc, hf⟩ := Kd.R_celln 0 (Kd.R_of_own (enc := Value.int .i64) (h1 := fun _ => rfl) (ok := fun _ => True) hR (fun _ _ => trivial)) p hp hlt; rw [HA.out.2.2.2.2.1] at hc; have p2 : (p < (ys.length : Int)) = True := eq_true hlt; have HX := HA; clear hA hN hTe hV hY hR hm hlt HV HJ HG
  by_cases c1 : x ≤ n
  ·have c1b : decide (x ≤ n) = true := decide_eq_true c1; obtain ⟨k1, rfl⟩ : ∃ k1, gk = k1 + 1 := ⟨gk - 1, by have := HA.out.1; omega⟩
   have hs := HS.out; simp only [sumO] at hs; obtain ⟨a1, ha1, hs⟩ := Option.bind_eq_some_iff.mp hs; obtain ⟨b1, hb1, hs⟩ := Option.bind_eq_some_iff.mp hs; have hs := Option.some.inj hs; have hp1 : (p + 1).toNat = p.toNat + 1 := by omega
   have hty : ys.take (p + 1).toNat = xs.take p.toNat ++ [x] := by
    have h1 := HA.out.2.2.2.1; have h2 := HL.out; rw [hp1, List.take_add_one, HA.out.2.2.1]
    have : ys[p.toNat]? = some x := by
     have h3 := HA.out.2.2.2.2.1
     unfold rdOf at h3
     rw [List.getD_eq_getElem?_getD, List.getElem?_eq_getElem (by omega)] at h3; rw [List.getElem?_eq_getElem (by omega)]
     simpa using h3
    rw [this]; rfl
   have HC := Aside0.mk (show 0 ≤ p + 1 ∧ p + 1 + (d : Int) = many ∧ cntO g n.toNat d (ys.take (p + 1).toNat) = some a1 from ⟨by omega, by have := HP.out; push_cast at this; omega, by rw [hty]; exact ha1⟩); have HQ := Aside0.mk (fun m : Nat => HIH.out (p + 1) (c + s0) a1 ys (wr.drewN m) (HV2.out.keep (fun _ _ _ => rfl)) (HT.out.1 _ _ _ HJ2.out (pw_below_drewN (Below.refl _ _) _)) HC.out.1 HC.out.2.1 HC.out.2.2); have HB1 := Aside0.mk hb1; have HSS := Aside0.mk hs; have HTY := Aside0.mk hty; have wx : wrap64 (x + 1) = x + 1 := w64 (by have := HA.out.2.1; omega) (by omega); clear HS ha1 hb1 hs hty c1 hp1
   go_wp2_with (go_at_call 139; refine (HQ.out _).mono ?_; rintro e w2 ⟨rfl, zs, hv3, ht3, hj3, hz3⟩; have HV3 := Aside0.mk hv3; obtain ⟨hA, hN, hTe, hV, hY, hR, hm⟩ := hv3; have cV3 := cell_of_one hV; have hl3 : p < (zs.length : Int) := (by have := HA.out.2.2.2.1; have := HL.out; have := HM.out; obtain ⟨_, _, _, _, _, _, hm9⟩ := HV3.out; omega); have p3 : (p < (zs.length : Int)) = True := eq_true hl3; obtain ⟨hc3, hf3⟩ := Kd.R_celln 0 (Kd.R_of_own (enc := Value.int .i64) (h1 := fun _ => rfl) (ok := fun _ => True) hR (fun _ _ => trivial)) p H0.out hl3; have h3x : rdOf 0 zs p = x := (vec_rdZ (show 0 ≤ p from H0.out) ht3).trans HA.out.2.2.2.2.1; rw [h3x] at hc3; have HT3 := Aside0.mk ht3; have HJ3 := Aside0.mk hj3; have HZ3 := Aside0.mk hz3; clear hA hN hTe hV hY hm hf hc cV cN cY hR hl3 h3x ht3 hj3 hz3)
   repeat (go_quiet ((go_at_call 139; refine (HQ.out _).mono ?_; rintro e w2 ⟨rfl, zs, hv3, ht3, hj3, hz3⟩; have HV3 := Aside0.mk hv3; obtain ⟨hA, hN, hTe, hV, hY, hR, hm⟩ := hv3; have cV3 := cell_of_one hV; have hl3 : p < (zs.length : Int) := (by have := HA.out.2.2.2.1; have := HL.out; have := HM.out; obtain ⟨_, _, _, _, _, _, hm9⟩ := HV3.out; omega); have p3 : (p < (zs.length : Int)) = True := eq_true hl3; obtain ⟨hc3, hf3⟩ := Kd.R_celln 0 (Kd.R_of_own (enc := Value.int .i64) (h1 := fun _ => rfl) (ok := fun _ => True) hR (fun _ _ => trivial)) p H0.out hl3; have h3x : rdOf 0 zs p = x := (vec_rdZ (show 0 ≤ p from H0.out) ht3).trans HA.out.2.2.2.2.1; rw [h3x] at hc3; have HT3 := Aside0.mk ht3; have HJ3 := Aside0.mk hj3; have HZ3 := Aside0.mk hz3; clear hA hN hTe hV hY hm hf hc cV cN cY hR hl3 h3x ht3 hj3 hz3)); try go_wp2_with (go_at_call 139; refine (HQ.out _).mono ?_; rintro e w2 ⟨rfl, zs, hv3, ht3, hj3, hz3⟩; have HV3 := Aside0.mk hv3; obtain ⟨hA, hN, hTe, hV, hY, hR, hm⟩ := hv3; have cV3 := cell_of_one hV; have hl3 : p < (zs.length : Int) := (by have := HA.out.2.2.2.1; have := HL.out; have := HM.out; obtain ⟨_, _, _, _, _, _, hm9⟩ := HV3.out; omega); have p3 : (p < (zs.length : Int)) = True := eq_true hl3; obtain ⟨hc3, hf3⟩ := Kd.R_celln 0 (Kd.R_of_own (enc := Value.int .i64) (h1 := fun _ => rfl) (ok := fun _ => True) hR (fun _ _ => trivial)) p H0.out hl3; have h3x : rdOf 0 zs p = x := (vec_rdZ (show 0 ≤ p from H0.out) ht3).trans HA.out.2.2.2.2.1; rw [h3x] at hc3; have HT3 := Aside0.mk ht3; have HJ3 := Aside0.mk hj3; have HZ3 := Aside0.mk hz3; clear hA hN hTe hV hY hm hf hc cV cN cY hR hl3 h3x ht3 hj3 hz3))
   go_roundg k1
   case measure => omega
   case rel =>
    have h3 := HT3.out; have hlz : zs.length = xs.length := by obtain ⟨_, _, _, _, _, _, hm3⟩ := HV3.out; have := HM.out; omega
    have htk : zs.take p.toNat = xs.take p.toNat := by
     have := congrArg (List.take p.toNat) h3; rw [List.take_take, List.take_take, show min p.toNat (p + 1).toNat = p.toNat by omega] at this; rw [this]; exact HA.out.2.2.1
    refine ⟨x + 1, s0 + a1, b1, zs.set p.toNat (x + 1), ⟨HV3.out.put p (x + 1)⟩, ⟨by have := HT.out.put HJ3.out p.toNat (.int .i64 (x + 1)); rwa [Int.add_assoc] at this⟩, ⟨⟨by have := HA.out.1; push_cast at this; omega, by have := HA.out.2.1; omega, ?_, by simp [hlz], ?_, by have := HA.out.2.2.2.2.2; have := HSS.out; omega⟩⟩, HB1, ⟨by simp only [World.setCell, Array.size_modify]; exact Nat.le_trans HZ.out HZ3.out⟩⟩
    ·rw [List.take_set_of_le (Nat.le_refl _)]; exact htk
    ·have := HL.out; unfold rdOf; rw [List.getD_eq_getElem?_getD, List.getElem?_set_self (by omega)]; rfl
  ·have c1b : decide (x ≤ n) = false := decide_eq_false c1; have hk0 : gk = 0 := by have := HA.out.1; omega
   subst hk0; have hr : rest = 0 := by have := HS.out; simp only [sumO] at this; exact (Option.some.inj this).symm
   subst hr; clear c1; go_wp2
   repeat (go_quiet (fail); try go_wp2)
   go_end0
   exact ⟨rfl, ys, HV2.out.keep (fun _ _ _ => rfl), HA.out.2.2.1, HT.out.1 (c + s) wr _ (by have := HA.out.2.2.2.2.2; rw [show s = s0 by omega]; exact HJ2.out) (pw_below_drewN (Below.refl _ _) _), HZ.out⟩
theorem vec_allZ {L : VecL} {b0 b1 : Nat} {many n : Int} {J : Int → World → Prop} {g : List Int → Option Bool} (hT : TellOkZ L b0 b1 many J g) (hn0 : 0 ≤ n) (hn : n ≤ 1000) (hM : many ≤ 1000) : ∀ d, VecSaysZ L b0 b1 many n J g d
 | 0 => vec_baseZ hT
 | d + 1 => vec_stepZ hT hn0 hn hM d (vec_allZ hT hn0 hn hM d)
theorem vec_startZ (w : World) (b0 b1 : Nat) (m : Nat) (n : Int) (hm : m ≤ 1000) : VecAtZ (vecL w.heap.size) b0 b1 (m : Int) n (List.replicate m 0)
  ((((((w.alloc (.cells #[.int .i64 (m : Int)] 3)).alloc (.cells #[.int .i64 n] 3)).alloc (.cells #[.func (.func 117) #[] #[.pointer (some ⟨b0, 0, none⟩), .pointer (some ⟨b1, 0, none⟩)]] 66)).alloc (.cells (madeCells #[.int .i64 0] m) 3)).alloc (.cells #[.slice (some ⟨w.heap.size + 1 + 1 + 1, 0, none⟩) m m] 25)).alloc
   (.cells #[.func (.func 139) #[] #[.pointer (some ⟨w.heap.size, 0, none⟩), .pointer (some ⟨w.heap.size + 1 + 1, 0, none⟩), .pointer (some ⟨w.heap.size + 1 + 1 + 1 + 1, 0, none⟩), .pointer (some ⟨w.heap.size + 1, 0, none⟩), .pointer (some ⟨w.heap.size + 1 + 1 + 1 + 1 + 1, 0, none⟩)]] 79)) := by
 have hl : (List.replicate m (0 : Int)).length = m := by simp
 have o1 := own_made' (((w.alloc (.cells #[.int .i64 (m : Int)] 3)).alloc (.cells #[.int .i64 n] 3)).alloc (.cells #[.func (.func 117) #[] #[.pointer (some ⟨b0, 0, none⟩), .pointer (some ⟨b1, 0, none⟩)]] 66)) (w.heap.size + 1 + 1 + 1) 3 .i64 m (by simp) (by omega); rw [hl] at o1; refine ⟨?_, ?_, ?_, ?_, ?_, ?_, by simp⟩
 ·exact (Below.heap_alloc _ _ _ (by simp [vecL] <;> omega)).trans ((Below.heap_alloc _ _ _ (by simp [vecL] <;> omega)).trans ((Below.heap_alloc _ _ _ (by simp [vecL] <;> omega)).trans ((Below.heap_alloc _ _ _ (by simp [vecL] <;> omega)).trans ((Below.heap_alloc _ _ _ (by simp [vecL])).trans (heap_alloc_new w _)))))
 ·exact (Below.heap_alloc _ _ _ (by simp [vecL] <;> omega)).trans ((Below.heap_alloc _ _ _ (by simp [vecL] <;> omega)).trans ((Below.heap_alloc _ _ _ (by simp [vecL] <;> omega)).trans ((Below.heap_alloc _ _ _ (by simp [vecL])).trans (by simpa [vecL] using heap_alloc_new (w.alloc (.cells #[.int .i64 (m : Int)] 3)) (.cells #[.int .i64 n] 3)))))
 ·exact (Below.heap_alloc _ _ _ (by simp [vecL] <;> omega)).trans ((Below.heap_alloc _ _ _ (by simp [vecL] <;> omega)).trans ((Below.heap_alloc _ _ _ (by simp [vecL])).trans (by simpa [vecL] using heap_alloc_new ((w.alloc (.cells #[.int .i64 (m : Int)] 3)).alloc (.cells #[.int .i64 n] 3)) (.cells #[.func (.func 117) #[] #[.pointer (some ⟨b0, 0, none⟩), .pointer (some ⟨b1, 0, none⟩)]] 66))))
 ·rw [hl]; exact (Below.heap_alloc _ _ _ (by simp [vecL])).trans (by simpa [vecL] using heap_alloc_new ((((w.alloc (.cells #[.int .i64 (m : Int)] 3)).alloc (.cells #[.int .i64 n] 3)).alloc (.cells #[.func (.func 117) #[] #[.pointer (some ⟨b0, 0, none⟩), .pointer (some ⟨b1, 0, none⟩)]] 66)).alloc (.cells (madeCells #[.int .i64 0] m) 3)) (.cells #[.slice (some ⟨w.heap.size + 1 + 1 + 1, 0, none⟩) m m] 25))
 ·simpa [vecL] using heap_alloc_new (((((w.alloc (.cells #[.int .i64 (m : Int)] 3)).alloc (.cells #[.int .i64 n] 3)).alloc (.cells #[.func (.func 117) #[] #[.pointer (some ⟨b0, 0, none⟩), .pointer (some ⟨b1, 0, none⟩)]] 66)).alloc (.cells (madeCells #[.int .i64 0] m) 3)).alloc (.cells #[.slice (some ⟨w.heap.size + 1 + 1 + 1, 0, none⟩) m m] 25)) (.cells #[.func (.func 139) #[] #[.pointer (some ⟨w.heap.size, 0, none⟩), .pointer (some ⟨w.heap.size + 1 + 1, 0, none⟩), .pointer (some ⟨w.heap.size + 1 + 1 + 1 + 1, 0, none⟩), .pointer (some ⟨w.heap.size + 1, 0, none⟩), .pointer (some ⟨w.heap.size + 1 + 1 + 1 + 1 + 1, 0, none⟩)]] 79)
 ·rw [hl]
  have o2 := own_move (w1 := ((((((w.alloc (.cells #[.int .i64 (m : Int)] 3)).alloc (.cells #[.int .i64 n] 3)).alloc (.cells #[.func (.func 117) #[] #[.pointer (some ⟨b0, 0, none⟩), .pointer (some ⟨b1, 0, none⟩)]] 66)).alloc (.cells (madeCells #[.int .i64 0] m) 3)).alloc (.cells #[.slice (some ⟨w.heap.size + 1 + 1 + 1, 0, none⟩) m m] 25)).alloc
   (.cells #[.func (.func 139) #[] #[.pointer (some ⟨w.heap.size, 0, none⟩), .pointer (some ⟨w.heap.size + 1 + 1, 0, none⟩), .pointer (some ⟨w.heap.size + 1 + 1 + 1 + 1, 0, none⟩), .pointer (some ⟨w.heap.size + 1, 0, none⟩), .pointer (some ⟨w.heap.size + 1 + 1 + 1 + 1 + 1, 0, none⟩)]] 79))) o1 (fun k hk => by
    simp only [Value.ownBlock, Option.some.injEq] at hk; subst hk; exact (Below.heap_alloc _ _ _ (by simp <;> omega)).trans (Below.heap_alloc _ _ _ (by simp)))
  simpa [vecL] using o2
set_option maxHeartbeats 4000000 in
set_option maxRecDepth 100000 in
theorem vectorsZ {b0 b1 : Nat} {many n : Int} {J : Int → World → Prop} {g : List Int → Option Bool} {c s : Int} {w : World} (hT : TellOkZ (vecL w.heap.size) b0 b1 many J g) (hJ : J c w) (hn0 : 0 ≤ n) (hn : n ≤ 1000) (hM0 : 0 ≤ many) (hM : many ≤ 1000) (hg : cntO g n.toNat many.toNat [] = some s) :
  Calls Try.prog 97 #[.int .i64 many, .int .i64 n, .func (.func 117) #[] #[.pointer (some ⟨b0, 0, none⟩), .pointer (some ⟨b1, 0, none⟩)]] w fun e w' => e = .returned (.tuple #[]) ∧ J (c + s) w' ∧ w.heap.size ≤ w'.heap.size := by
 have HT := Aside0.mk hT; have HJ := Aside0.mk hJ; have HG := Aside0.mk hg; clear hT hJ hg; obtain ⟨m, rfl⟩ := Int.eq_ofNat_of_zero_le hM0; have hmk := print_make (P := Try.prog) 25 3 .i64 8 Try.underlying25 vecInfo (by decide) m (by omega)
 go_enter Try.func97, Try.ntmps97
 go_wp2_with (go_at_call 139; refine (vec_allZ HT.out hn0 hn hM m 0 c s _ _ (vec_startZ w b0 b1 m n (by omega)) (HT.out.1 _ _ _ HJ.out ((((((((Below.refl w.heap.size w).alloc (Nat.le_refl _) _).alloc (by simp) _).alloc (by simp <;> omega) _).alloc (by simp <;> omega) _).alloc (by simp <;> omega) _).alloc (by simp <;> omega) _))) (Int.le_refl 0) (by omega) HG.out).mono ?_; rintro e w2 ⟨rfl, zs, _, _, hj2, hz2⟩)
 go_end0
 exact ⟨rfl, hj2, by simp at hz2; omega⟩
/-! ### plain zeros up to a size, counted -/
def tellZ (k : Nat) (form : List Int) (v : List Int) : Option Bool := (impl_pair.f k form v v).bind fun s => if s = 0 then ((impl_gcd.f k v).bind fun g => if g = 0 then some false else (impl_plain.f k v).bind fun p => slices_Equal_int_int.f k p v) else some false
def JZ (w0 : World) (A : Option Addr) (c0 : Nat) (form : List Int) (b0 b1 : Nat) (c : Int) (w : World) : Prop :=
 w.heap[b0]? = some (.cells #[.slice A form.length c0] 25 (0, 0)) ∧ w.heap[b1]? = some (.cells #[.int .i64 (wrap64 c)] 3 (0, 0)) ∧ Below w0.heap.size w0 w
set_option maxHeartbeats 8000000 in
set_option maxRecDepth 100000 in
theorem tell_okZ {w0 : World} {A : Option Addr} {c0 : Nat} {form : List Int} {b0 b1 k : Nat} {L : VecL} (hr0 : Kd.C (Kd.int .i64) w0 A form.length form) (hc0 : form.length ≤ c0) (h0 : w0.heap.size ≤ b0) (h01 : b0 < b1) (hL : b1 < L.a) :
  TellOkZ L b0 b1 form.length (JZ w0 A c0 form b0 b1) (tellZ k form) := by
 constructor
 ·rintro c w w' ⟨g0, g1, hB⟩ hb; exact ⟨(hb.block _ (by omega)).trans g0, (hb.block _ (by omega)).trans g1, hB.trans (hb.mono (by omega))⟩
 ·rintro c b xs w ⟨g0, g1, hB⟩ hm hR ha hg; have k0 := cell_of_one g0; have HF := Aside0.mk (Kd.C_below hr0 hB); have HX := Aside0.mk (show Kd.C (Kd.int .i64) w (some ⟨L.r, 0, none⟩) xs.length xs from (Kd.R_reads' (Kd.R_of_own (enc := Value.int .i64) (h1 := fun _ => rfl) (ok := fun _ => True) hR (fun _ _ => trivial))).2.2); have HCF := Aside0.mk hc0; have HG := Aside0.mk (show _ ∧ _ ∧ _ from ⟨g0, g1, hB⟩); have HI0 := Aside0.mk (lt_of_block g0); have HI := Aside0.mk (lt_of_block g1); have HI2 := Aside0.mk (show w0.heap.size ≤ w.heap.size from hB.size); have HH := Aside0.mk (show _ ∧ _ ∧ _ from ⟨h0, h01, hL⟩); have HB := Aside0.mk (Below.refl w.heap.size w)
  unfold tellZ at hg
  obtain ⟨s, hs, hg⟩ := Option.bind_eq_some_iff.mp hg; have HP := Aside0.mk hs; clear g0 g1 hB hR hs hr0 hc0 h0 h01 hL
  by_cases c1 : s = 0
  ·rw [if_pos c1] at hg; obtain ⟨gg, hq, hg⟩ := Option.bind_eq_some_iff.mp hg; have HQ := Aside0.mk hq; have d1 := beq_iff_eq.mpr c1; clear hq c1
   by_cases c2 : gg = 0
   ·rw [if_pos c2] at hg; obtain rfl : b = false := (Option.some.inj hg).symm; rw [if_neg (by simp), Int.add_zero]; have d2 := bne_eq_false_iff_eq.mpr c2; clear hg c2
    go_enter Try.func117, Try.ntmps117
    go_wp2_with (first | (go_at_call 99; refine (impl_pair.calls k _ _ form _ _ xs _ _ xs s _ ?s1 ?s2 ?s3 ?s4 ?s5 ?s6 HP.out).mono ?_; (case s1 => exact Sqz.mvC HF.out); (case s2 => exact HCF.out); (case s3 => exact Sqz.mvC HX.out); (case s4 => exact Nat.le_refl _); (case s5 => exact Sqz.mvC HX.out); (case s6 => exact Nat.le_refl _); rintro e w' ⟨rfl, ⟨nd, rfl⟩⟩) | (go_at_call 118; refine (impl_gcd.calls k _ _ xs gg _ ?s1 ?s2 HQ.out).mono ?_; (case s1 => exact Sqz.mvC HX.out); (case s2 => exact Nat.le_refl _); rintro e w2 ⟨rfl, hb⟩; replace HB := Aside0.mk (below_step (Sqz.auHB) hb); clear hb))
    go_end0
    exact ⟨rfl, ⟨(HB.out.block _ HI0.out).trans HG.out.1, (HB.out.block _ HI.out).trans HG.out.2.1, HG.out.2.2.trans ((Sqz.auHB : Below w.heap.size w _).mono HI2.out)⟩, fun k _ h2 => (Sqz.auHB : Below w.heap.size w _).block k h2, (Sqz.auHB : Below w.heap.size w _).size⟩
   ·rw [if_neg c2] at hg; obtain ⟨pp, hp, hg⟩ := Option.bind_eq_some_iff.mp hg; have HR := Aside0.mk hp; have HS := Aside0.mk hg; have d2 := bne_iff_ne.mpr c2; clear hp hg c2; cases b with
    | false =>
     rw [if_neg (by simp), Int.add_zero]
     go_enter Try.func117, Try.ntmps117
     go_wp2_with (first | (go_at_call 99; refine (impl_pair.calls k _ _ form _ _ xs _ _ xs s _ ?s1 ?s2 ?s3 ?s4 ?s5 ?s6 HP.out).mono ?_; (case s1 => exact Sqz.mvC HF.out); (case s2 => exact HCF.out); (case s3 => exact Sqz.mvC HX.out); (case s4 => exact Nat.le_refl _); (case s5 => exact Sqz.mvC HX.out); (case s6 => exact Nat.le_refl _); rintro e w' ⟨rfl, ⟨nd, rfl⟩⟩) | (go_at_call 118; refine (impl_gcd.calls k _ _ xs gg _ ?s1 ?s2 HQ.out).mono ?_; (case s1 => exact Sqz.mvC HX.out); (case s2 => exact Nat.le_refl _); rintro e w2 ⟨rfl, hb⟩; replace HB := Aside0.mk (below_step (Sqz.auHB) hb); clear hb) | (go_at_call 120; refine (impl_plain.calls k _ _ xs pp _ ?s1 ?s2 HR.out).mono ?_; (case s1 => exact Kd.C_below HX.out (Sqz.auHB)); (case s2 => exact Nat.le_refl _); rintro e w3 ⟨v3, rfl, ho3, hb⟩; have HO := Aside0.mk ho3; replace HB := Aside0.mk (below_step (Sqz.auHB) hb); clear hb ho3; obtain ⟨Ao, co, eo⟩ := Kd.R_slice HO.out; subst eo; have k9 := cell_of_one ((HB.out.block b1 HI.out).trans HG.out.2.1); have f9 := free_of_one ((HB.out.block b1 HI.out).trans HG.out.2.1)) | (go_at_call 119; refine (slices_Equal_int_int.calls k _ _ pp _ _ xs false _ ?s1 ?s2 ?s3 ?s4 HS.out).mono ?_; (case s1 => exact Sqz.mvC ((Kd.R_reads' HO.out).2.2)); (case s2 => exact (Kd.R_reads' HO.out).2.1); (case s3 => exact Kd.C_below HX.out (Sqz.auHB)); (case s4 => exact Nat.le_refl _); rintro e w' ⟨rfl, ⟨nd, rfl⟩⟩))
     go_end0
     exact ⟨rfl, ⟨(HB.out.block _ HI0.out).trans HG.out.1, (HB.out.block _ HI.out).trans HG.out.2.1, HG.out.2.2.trans ((Sqz.auHB : Below w.heap.size w _).mono HI2.out)⟩, fun k _ h2 => (Sqz.auHB : Below w.heap.size w _).block k h2, (Sqz.auHB : Below w.heap.size w _).size⟩
    | true =>
     rw [if_pos rfl]
     go_enter Try.func117, Try.ntmps117
     go_wp2_with (first | (go_at_call 99; refine (impl_pair.calls k _ _ form _ _ xs _ _ xs s _ ?s1 ?s2 ?s3 ?s4 ?s5 ?s6 HP.out).mono ?_; (case s1 => exact Sqz.mvC HF.out); (case s2 => exact HCF.out); (case s3 => exact Sqz.mvC HX.out); (case s4 => exact Nat.le_refl _); (case s5 => exact Sqz.mvC HX.out); (case s6 => exact Nat.le_refl _); rintro e w' ⟨rfl, ⟨nd, rfl⟩⟩) | (go_at_call 118; refine (impl_gcd.calls k _ _ xs gg _ ?s1 ?s2 HQ.out).mono ?_; (case s1 => exact Sqz.mvC HX.out); (case s2 => exact Nat.le_refl _); rintro e w2 ⟨rfl, hb⟩; replace HB := Aside0.mk (below_step (Sqz.auHB) hb); clear hb) | (go_at_call 120; refine (impl_plain.calls k _ _ xs pp _ ?s1 ?s2 HR.out).mono ?_; (case s1 => exact Kd.C_below HX.out (Sqz.auHB)); (case s2 => exact Nat.le_refl _); rintro e w3 ⟨v3, rfl, ho3, hb⟩; have HO := Aside0.mk ho3; replace HB := Aside0.mk (below_step (Sqz.auHB) hb); clear hb ho3; obtain ⟨Ao, co, eo⟩ := Kd.R_slice HO.out; subst eo; have k9 := cell_of_one ((HB.out.block b1 HI.out).trans HG.out.2.1); have f9 := free_of_one ((HB.out.block b1 HI.out).trans HG.out.2.1)) | (go_at_call 119; refine (slices_Equal_int_int.calls k _ _ pp _ _ xs true _ ?s1 ?s2 ?s3 ?s4 HS.out).mono ?_; (case s1 => exact Sqz.mvC ((Kd.R_reads' HO.out).2.2)); (case s2 => exact (Kd.R_reads' HO.out).2.1); (case s3 => exact Kd.C_below HX.out (Sqz.auHB)); (case s4 => exact Nat.le_refl _); rintro e w' ⟨rfl, ⟨nd, rfl⟩⟩))
     go_end0
     obtain ⟨g0, g1, hB⟩ := HG.out; obtain ⟨h0, h01, hL⟩ := HH.out; refine ⟨rfl, ⟨(Below.heap_setCell _ _ _ _ (show b0 ≠ b1 by omega)).trans ((HB.out.block _ HI0.out).trans g0), ?_, (hB.trans ((Sqz.auHB : Below w.heap.size w _).mono HI2.out)).setCell (show _ ≤ b1 by omega) _⟩, fun k h1 h2 => (Below.heap_setCell _ _ _ _ (show k ≠ b1 by omega)).trans ((Sqz.auHB : Below w.heap.size w _).block k h2), by simp only [World.setCell, Array.size_modify]; exact (Sqz.auHB : Below w.heap.size w _).size⟩; rw [show wrap64 (c + 1) = wrap64 (wrap64 c + 1) by unfold wrap64; omega]; exact one_setCell ((HB.out.block _ HI.out).trans g1)
  ·rw [if_neg c1] at hg; obtain rfl : b = false := (Option.some.inj hg).symm; rw [if_neg (by simp), Int.add_zero]; have d1 := beq_eq_false_iff_ne.mpr c1; clear hg c1
   go_enter Try.func117, Try.ntmps117
   go_wp2_with (first | (go_at_call 99; refine (impl_pair.calls k _ _ form _ _ xs _ _ xs s _ ?s1 ?s2 ?s3 ?s4 ?s5 ?s6 HP.out).mono ?_; (case s1 => exact Sqz.mvC HF.out); (case s2 => exact HCF.out); (case s3 => exact Sqz.mvC HX.out); (case s4 => exact Nat.le_refl _); (case s5 => exact Sqz.mvC HX.out); (case s6 => exact Nat.le_refl _); rintro e w' ⟨rfl, ⟨nd, rfl⟩⟩))
   go_end0
   exact ⟨rfl, ⟨(HB.out.block _ HI0.out).trans HG.out.1, (HB.out.block _ HI.out).trans HG.out.2.1, HG.out.2.2.trans ((Sqz.auHB : Below w.heap.size w _).mono HI2.out)⟩, fun k _ h2 => (Sqz.auHB : Below w.heap.size w _).block k h2, (Sqz.auHB : Below w.heap.size w _).size⟩
def impl_ZeroMany.f (k : Nat) (l0 : List Int) (a1 : Int) : Option Int := (impl_FormValid.f k l0).bind fun v => if v = true then (if a1 < 1 then some (-1) else if a1 > 6 then some (-1) else if l0.length ≤ 1000 then ((cntO (tellZ k l0) a1.toNat l0.length []).bind fun r => some (wrap64 r)) else none) else some (-1)
theorem zm_call {k : Nat} {A0 : Option Addr} {c0 : Nat} {l0 : List Int} {a1 s : Int} {w w1 : World} (hr0 : Kd.C (Kd.int .i64) w A0 l0.length l0) (hc0 : l0.length ≤ c0) (h0 : w1.heap[w.heap.size]? = some (.cells #[.slice A0 l0.length c0] 25 (0, 0)))
  (hB : Below w.heap.size w w1) (hW : w.heap.size < w1.heap.size) (ha : 1 ≤ a1 ∧ a1 ≤ 6) (hl : l0.length ≤ 1000) (hs : cntO (tellZ k l0) a1.toNat ((l0.length : Int)).toNat [] = some s) :
  Calls Try.prog 97 #[.int .i64 (l0.length : Int), .int .i64 a1, .func (.func 117) #[] #[.pointer (some ⟨w.heap.size, 0, none⟩), .pointer (some ⟨w1.heap.size, 0, none⟩)]] (w1.alloc (.cells #[.int .i64 0] 3)) fun e w' =>
   e = .returned (.tuple #[]) ∧ w'.heap[w1.heap.size]? = some (.cells #[.int .i64 (wrap64 s)] 3 (0, 0)) ∧ Below w.heap.size w w' := by
 have hT : TellOkZ (vecL (w1.alloc (.cells #[.int .i64 0] 3)).heap.size) w.heap.size w1.heap.size l0.length (JZ w A0 c0 l0 w.heap.size w1.heap.size) (tellZ k l0) :=
  tell_okZ hr0 hc0 (Nat.le_refl _) hW (by simp [vecL])
 have hJ : JZ w A0 c0 l0 w.heap.size w1.heap.size 0 (w1.alloc (.cells #[.int .i64 0] 3)) :=
  ⟨(Below.heap_alloc _ _ _ (by omega)).trans h0, by rw [show wrap64 0 = (0 : Int) by unfold wrap64; omega]; exact heap_alloc_new w1 _, hB.alloc (by omega) _⟩
 refine (vectorsZ hT hJ (by omega) (by omega) (by omega) (by omega) hs).mono ?_; rintro e w' ⟨he, ⟨_, g2, hb⟩, _⟩; rw [Int.zero_add] at g2; exact ⟨he, g2, hb⟩
set_option maxHeartbeats 8000000 in
set_option maxRecDepth 100000 in
theorem impl_ZeroMany.calls (k : Nat) (A0 : Option Addr) (c0 : Nat) (l0 : List Int) (a1 : Int) (r : Int) (w : World) (hr0 : Kd.C (Kd.int .i64) w A0 l0.length l0) (hc0 : l0.length ≤ c0) (h : impl_ZeroMany.f k l0 a1 = some r) :
  Calls Try.prog 65 #[.slice A0 l0.length c0, .int .i64 a1] w fun e w' => e = .returned (.int .i64 r) ∧ Below w.heap.size w w' := by
 unfold impl_ZeroMany.f at h
 obtain ⟨v, hv, h⟩ := Option.bind_eq_some_iff.mp h; have HV := Aside0.mk hv; have HF := Aside0.mk hr0; have HC := Aside0.mk hc0; clear hv; have hB0 : Below w.heap.size w (w.alloc (.cells #[.slice A0 l0.length c0] 25)) := (Below.refl _ w).alloc (Nat.le_refl _) _; have g0 : (w.alloc (.cells #[.slice A0 l0.length c0] 25)).heap[w.heap.size]? = some (.cells #[.slice A0 l0.length c0] 25 (0, 0)) := heap_alloc_new w _; have HB0 := Aside0.mk hB0; have HG0 := Aside0.mk g0; clear hB0 g0 hr0 hc0; cases v with
 | false =>
  have hr := Option.some.inj h; subst hr; clear h
  go_enter Try.func65, Try.ntmps65
  go_wp2_with (go_at_call 20; refine (impl_FormValid.calls k _ _ l0 false _ ?s1 ?s2 HV.out).mono ?_; (case s1 => exact Kd.C_below HF.out HB0.out); (case s2 => exact HC.out); rintro e w1 ⟨rfl, hb⟩; have k0 := cell_of_one ((hb.block w.heap.size (by simp)).trans HG0.out); have HB1 := Aside0.mk (HB0.out.trans (hb.mono (by simp))); clear hb)
  go_ret
  exact ⟨rfl, HB1.out⟩
 | true =>
  rw [if_pos rfl] at h
  by_cases c3 : a1 < 1
  ·rw [if_pos c3] at h; have hr := Option.some.inj h; subst hr; have d3 := decide_eq_true c3; clear h c3
   go_enter Try.func65, Try.ntmps65
   go_wp2_with (go_at_call 20; refine (impl_FormValid.calls k _ _ l0 true _ ?s1 ?s2 HV.out).mono ?_; (case s1 => exact Kd.C_below HF.out HB0.out); (case s2 => exact HC.out); rintro e w1 ⟨rfl, hb⟩; have k0 := cell_of_one ((hb.block w.heap.size (by simp)).trans HG0.out); have HB1 := Aside0.mk (HB0.out.trans (hb.mono (by simp))); clear hb)
   go_ret
   exact ⟨rfl, HB1.out⟩
  ·rw [if_neg c3] at h; have d3 := decide_eq_false c3
   by_cases c4 : a1 > 6
   ·rw [if_pos c4] at h; have hr := Option.some.inj h; subst hr; have d4 : decide (6 < a1) = true := decide_eq_true c4; clear h c3 c4
    go_enter Try.func65, Try.ntmps65
    go_wp2_with (go_at_call 20; refine (impl_FormValid.calls k _ _ l0 true _ ?s1 ?s2 HV.out).mono ?_; (case s1 => exact Kd.C_below HF.out HB0.out); (case s2 => exact HC.out); rintro e w1 ⟨rfl, hb⟩; have k0 := cell_of_one ((hb.block w.heap.size (by simp)).trans HG0.out); have HB1 := Aside0.mk (HB0.out.trans (hb.mono (by simp))); clear hb)
    go_ret
    exact ⟨rfl, HB1.out⟩
   ·rw [if_neg c4] at h; have d4 : decide (6 < a1) = false := decide_eq_false c4
    by_cases c5 : l0.length ≤ 1000
    ·rw [if_pos c5] at h; obtain ⟨s, hs, h⟩ := Option.bind_eq_some_iff.mp h; have hr := Option.some.inj h; subst hr; have HS := Aside0.mk (show cntO (tellZ k l0) a1.toNat ((l0.length : Int)).toNat [] = some s from hs); have HL := Aside0.mk c5; have HA := Aside0.mk (show 1 ≤ a1 ∧ a1 ≤ 6 from ⟨by omega, by omega⟩); clear h hs c3 c4 c5
     go_enter Try.func65, Try.ntmps65
     go_wp2_with (first | (go_at_call 20; refine (impl_FormValid.calls k _ _ l0 true _ ?s1 ?s2 HV.out).mono ?_; (case s1 => exact Kd.C_below HF.out HB0.out); (case s2 => exact HC.out); rintro e w1 ⟨rfl, hb⟩; have k0 := cell_of_one ((hb.block w.heap.size (by simp)).trans HG0.out); have K0 := Aside0.mk ((hb.block w.heap.size (by simp)).trans HG0.out); have HW := Aside0.mk (show w.heap.size < w1.heap.size by have := hb.size; simp at this; omega); have hw0 : w.heap.size < w1.heap.size := HW.out; have HB1 := Aside0.mk (HB0.out.trans (hb.mono (by simp))); clear hb) | (go_at_call 97; refine (zm_call HF.out HC.out K0.out HB1.out HW.out HA.out HL.out HS.out).mono ?_; rintro e w2 ⟨rfl, h2, hb2⟩; have k2 := cell_of_one h2; have HB2 := Aside0.mk hb2; clear h2 hb2 k0 hw0))
     go_ret
     exact ⟨rfl, HB2.out⟩
    ·rw [if_neg c5] at h; cases h

end

end Go.Proofs.Ytihadpckmcebgaa.PFnValueMany
