/- A function's Lean twin and its walk, written by a program of this session. -/
import Derived.Test.YtacfcoilmdhgnaaGreatDoorTPFnExecuteValuex0
import Derived.Test.YtacfcoilmdhgnaaGreatDoorTPFnExecuteValuex1
namespace Go.Proofs.YtacfcoilmdhgnaaGreatDoor.PFnExecuteValue
open Go.RowKit Go.Proofs.YtacfcoilmdhgnaaGreatDoorW.PrintWords Go.Proofs.YtacfcoilmdhgnaaGreatDoorW.PrintLast Go.Proofs.YtacfcoilmdhgnaaGreatDoorW.PrintMore
attribute [local go_sem] max2_int min2_int max_two min_two max_three min_three max_four min_four   -- for this text's walks alone
set_option linter.unusedVariables false
set_option linter.unusedSimpArgs false

/-! ### impl_plain: function 77 -/
mutual
def impl_plain.j1 : Nat → List Int → Int → Option (List Int)
 | 0, _, _ => none
 | k + 1, x0, x3 => impl_plain.l1 k x3 (([] : List Int)) x0 (x0.length : Int) 0
def impl_plain.l1 : Nat → Int → List Int → List Int → Int → Int → Option (List Int)
 | 0, _, _, _, _, _ => none
 | k + 1, x3, x6, x25, x26, x27 => if x27 < x26 then (if 0 ≤ x27 then (if x27 < (x25.length : Int) then (if x3 = 0 then (none) else (if x6.length < 17592186044416 then (impl_plain.l1 k x3 (x6 ++ [wrap64 (Int.tdiv (rd x25 x27) x3)]) x25 x26 (wrap64 (x27 + 1))) else (none))) else (none)) else (none)) else (some x6)
def impl_plain.l0 : Nat → List Int → Int → List Int → Int → Int → Option (List Int)
 | 0, _, _, _, _, _ => none
 | k + 1, x0, x3, x11, x12, x13 => if x13 < x12 then (if 0 ≤ x13 then (if x13 < (x11.length : Int) then (if (rd x11 x13) = 0 then (impl_plain.l0 k x0 x3 x11 x12 (wrap64 (x13 + 1))) else (if (rd x11 x13) < 0 then (impl_plain.j1 k x0 (wrap64 (-x3))) else (impl_plain.j1 k x0 x3))) else (none)) else (none)) else (impl_plain.j1 k x0 x3)
end
def impl_plain.f (k : Nat) (l0 : List Int) : Option (List Int) := (impl_gcd.f k l0).bind fun t126 => (impl_plain.l0 k l0 t126 l0 (l0.length : Int) 0)
set_option maxHeartbeats 8000000 in
set_option maxRecDepth 100000 in
theorem impl_plain.calls (k : Nat) (A0 : Option Addr) (c0 : Nat) (l0 : List Int) (r : List Int) (w : World) (hr0 : Kd.C (Kd.int .i64) w A0 l0.length l0) (hc0 : l0.length ≤ c0) (h : impl_plain.f k l0 = some r) :
  Calls Tryz.prog 77 #[.slice A0 l0.length c0] w fun e w' => ∃ v0_ : Value, e = .returned (v0_) ∧ Kd.R (Kd.int .i64) 3 w' w.heap.size (fun _ => True) v0_ r ∧ Below w.heap.size w w' := by
 have HR0 := Aside0.mk hr0; have HC0 := Aside0.mk hc0; clear hr0 hc0; have HB := Aside0.mk (Below.refl w.heap.size w); have H : ((impl_gcd.f k l0).bind fun t126 => (impl_plain.l0 k l0 t126 l0 (l0.length : Int) 0)) = some r := h; clear h; obtain ⟨t126, A2, H⟩ := Sqz.be H; have HC3 := Aside0.mk H; clear H
 go_enter Tryz.func77, Tryz.ntmps77
 go_upto_block 0 with (((with_reducible refine gate_callee (f := 88) rfl ?_); refine goesL_ (some 10) rfl rfl Tryz.func88 (by kernel_rfl) rfl #[.slice A0 l0.length c0] rfl Sqz.auM ?_; (with_reducible refine (impl_gcd.calls k _ _ l0 t126 _ ?side1 ?side2 A2.out).mono ?_); (case side1 => exact Sqz.mvC (HR0.out)); (case side2 => exact HC0.out); rintro e w4 ⟨rfl, hb⟩; refine ⟨_, rfl, ?_⟩; replace HB := Aside0.mk (below_step (Sqz.auHB) hb); (try clear hb)))
 (try simp only [Act.put, List.setIfInBounds_toArray, List.set_cons_zero, List.set_cons_succ])
 go_cut [3] (fun v3 wc => ∃ (kq : Nat) (x3_2 : Int), v3 = .int .i64 x3_2 ∧ Aside0 (impl_plain.j1 kq l0 x3_2 = some r) ∧ Aside0 (kq ≤ k) ∧ Aside0 (Below w.heap.size w wc))
 case first =>
  have H := HC3.out; clear HC3; have H' := Aside0.mk H; clear H; go_wp2
  go_loopg [3, 13] k (fun kq v3 v13 w' => ∃ (x3_1 : Int) (x13_1 : Int), v3 = .int .i64 x3_1 ∧ v13 = .int .i64 x13_1 ∧ Aside0 (impl_plain.l0 kq l0 x3_1 l0 (l0.length : Int) x13_1 = some r) ∧ Aside0 (kq ≤ k) ∧ Aside0 (Below w.heap.size w w'))
  case atStart => exact ⟨(t126), (0), Sqz.auS, Sqz.auS, H', ⟨Nat.le_refl _⟩, ⟨Sqz.auHB⟩⟩
  case round =>
   clear H'
   obtain ⟨x3_1, x13_1, rfl, rfl, HA, HK1, HB⟩ := hrel; cases gk with
   | zero => exact absurd HA.out (by simp [impl_plain.l0])
   | succ k1 =>
    have H := HA.out; clear HA; simp only [impl_plain.l0] at H
    by_cases c5 : x13_1 < (l0.length : Int)
    ·rw [if_pos c5] at H; have c5b0 := decide_eq_true c5; clear c5
     by_cases c6 : 0 ≤ x13_1
     ·rw [if_pos c6] at H; have c6b0 := decide_eq_true c6; clear c6
      by_cases c7 : x13_1 < (l0.length : Int)
      ·rw [if_pos c7] at H; have c7b0 := decide_eq_true c7; clear c7
       by_cases c8 : (rd l0 x13_1) = 0
       ·rw [if_pos c8] at H; have c8b1 := bne_eq_false_iff_eq.mpr c8; clear c8; have H' := Aside0.mk H; clear H; have p127 : 0 ≤ (x13_1 : Int) := Sqz.od; have q127 : x13_1 < (l0.length : Int) := Sqz.od; obtain ⟨ad127, e127, hx127_0⟩ := Kd.at_int HR0.out x13_1 p127 q127; cases e127; replace hx127_0 := (HB.out.cell (World.block_lt_of_cell? w _ hx127_0)).trans hx127_0; replace p127 := eq_true p127; replace q127 := eq_true q127; go_wp2
        go_roundg k1
        case measure => have := HK1.out; omega
        case rel => exact ⟨(x3_1), (wrap64 (x13_1 + 1)), Sqz.auS, Sqz.auS, H', ⟨by have := HK1.out; omega⟩, ⟨Sqz.auHB⟩⟩
       ·rw [if_neg c8] at H; have c8b1 := bne_iff_ne.mpr c8
        by_cases c9 : (rd l0 x13_1) < 0
        ·rw [if_pos c9] at H; have c9b0 := decide_eq_true c9; clear c9; have H' := Aside0.mk H; clear H; have p127 : 0 ≤ (x13_1 : Int) := Sqz.od; have q127 : x13_1 < (l0.length : Int) := Sqz.od; obtain ⟨ad127, e127, hx127_0⟩ := Kd.at_int HR0.out x13_1 p127 q127; cases e127; replace hx127_0 := (HB.out.cell (World.block_lt_of_cell? w _ hx127_0)).trans hx127_0; replace p127 := eq_true p127; replace q127 := eq_true q127; go_wp2
         go_meet
         case rel => exact ⟨_, (wrap64 (-x3_1)), Sqz.auS, H', ⟨by have := HK1.out; first | omega | exact Nat.le_refl _⟩, ⟨Sqz.auHB⟩⟩
        ·rw [if_neg c9] at H; have c9b0 := decide_eq_false c9; clear c9; have H' := Aside0.mk H; clear H; have p127 : 0 ≤ (x13_1 : Int) := Sqz.od; have q127 : x13_1 < (l0.length : Int) := Sqz.od; obtain ⟨ad127, e127, hx127_0⟩ := Kd.at_int HR0.out x13_1 p127 q127; cases e127; replace hx127_0 := (HB.out.cell (World.block_lt_of_cell? w _ hx127_0)).trans hx127_0; replace p127 := eq_true p127; replace q127 := eq_true q127; go_wp2
         go_meet
         case rel => exact ⟨_, (x3_1), Sqz.auS, H', ⟨by have := HK1.out; first | omega | exact Nat.le_refl _⟩, ⟨Sqz.auHB⟩⟩
      ·rw [if_neg c7] at H; exact absurd H (by simp)
     ·rw [if_neg c6] at H; exact absurd H (by simp)
    ·rw [if_neg c5] at H; have c5b0 := decide_eq_false c5; clear c5
     have H' := Aside0.mk H; clear H; go_wp2
     go_meet
     case rel => exact ⟨_, (x3_1), Sqz.auS, H', ⟨by have := HK1.out; first | omega | exact Nat.le_refl _⟩, ⟨Sqz.auHB⟩⟩
 case rest =>
  clear HC3
  obtain ⟨kq, x3_2, rfl, HA, HJ2, HB⟩ := hcut; cases kq with
  | zero => exact absurd HA.out (by simp [impl_plain.j1])
  | succ kj2 =>
   have H := HA.out; clear HA; simp only [impl_plain.j1] at H; obtain ⟨y128, hyy⟩ : ∃ y_ : List Int, y_ = (([] : List Int)) := ⟨_, rfl⟩
   replace H : (impl_plain.l1 kj2 x3_2 y128 l0 (l0.length : Int) 0) = some r := Sqz.auY
   have Ny128 := Aside0.mk hyy; clear hyy; have H' := Aside0.mk H; clear H
   go_wp2_with (((with_reducible refine gate_dst (N := 24) rfl ?_); refine Kd.R_lit (Kd.int .i64) _ 3 ?hg (N := 24) ?hd (xs := ([] : List Int)) (inner := []) (ok := fun _ => True) (okp := fun _ => True) ?hr ?hp (fun _ hk => hk) trivial (Below.refl _ _) (Nat.le_refl _) (by simp) ?_; (case hd => rfl); (case hg => rfl); (case hr => first | (go_simp; done) | (go_simp; rfl)); (case hp => exact (Reps.none _ _)); intro v129 w10 ho11 hb hg_ hnew_; clear hg_ hnew_; (first | rw [← Ny128.out] at ho11 | (simp only [Int.reduceToNat] at ho11; rw [← Ny128.out] at ho11)); have HO130 := Aside0.mk (Kd.R_lower ho11 (below_size (Sqz.auHB))); replace HB := Aside0.mk (below_step (Sqz.auHB) hb); clear hb ho11))
   go_loopg [6, 27] kj2 (fun kq v6 v27 w' => ∃ (x6_2 : List Int) (x27_2 : Int), v27 = .int .i64 x27_2 ∧ Aside0 (impl_plain.l1 kq x3_2 x6_2 l0 (l0.length : Int) x27_2 = some r) ∧ Aside0 (kq ≤ kj2) ∧ Aside0 (Kd.R (Kd.int .i64) 3 w' w.heap.size (fun _ => True) v6 x6_2) ∧ Aside0 (Below w.heap.size w w'))
   case atStart => exact ⟨(y128), (0), Sqz.auS, H', ⟨Nat.le_refl _⟩, ⟨(Sqz.mvR HO130.out)⟩, ⟨Sqz.auHB⟩⟩
   case round =>
    clear H'
    obtain ⟨x6_2, x27_2, rfl, HA, HK2, HO_6, HB⟩ := hrel; cases gk with
    | zero => exact absurd HA.out (by simp [impl_plain.l1])
    | succ k2 =>
     have H := HA.out; clear HA; simp only [impl_plain.l1] at H
     by_cases c12 : x27_2 < (l0.length : Int)
     ·rw [if_pos c12] at H; have c12b0 := decide_eq_true c12; clear c12
      by_cases c13 : 0 ≤ x27_2
      ·rw [if_pos c13] at H; have c13b0 := decide_eq_true c13; clear c13
       by_cases c14 : x27_2 < (l0.length : Int)
       ·rw [if_pos c14] at H; have c14b0 := decide_eq_true c14; clear c14
        by_cases c15 : x3_2 = 0
        ·rw [if_pos c15] at H; exact absurd H (by simp)
        ·rw [if_neg c15] at H
         by_cases c16 : x6_2.length < 17592186044416
         ·rw [if_pos c16] at H; have LMc16 := Aside0.mk c16; clear c16; obtain ⟨y132, hyy⟩ : ∃ y_ : List Int, y_ = (x6_2 ++ [wrap64 (Int.tdiv (rd l0 x27_2) x3_2)]) := ⟨_, rfl⟩
          replace H : (impl_plain.l1 k2 x3_2 y132 l0 (l0.length : Int) (wrap64 (x27_2 + 1))) = some r := Sqz.auY
          have Ny132 := Aside0.mk hyy; clear hyy; have H' := Aside0.mk H; clear H; have p131 : 0 ≤ (x27_2 : Int) := Sqz.od; have q131 : x27_2 < (l0.length : Int) := Sqz.od; obtain ⟨ad131, e131, hx131_0⟩ := Kd.at_int HR0.out x27_2 p131 q131; cases e131; replace hx131_0 := (HB.out.cell (World.block_lt_of_cell? w _ hx131_0)).trans hx131_0; replace p131 := eq_true p131; replace q131 := eq_true q131
          go_wp2_with (((with_reducible refine gate_builtin (b := .append) (xs := #[.tmp 31, .tmp 35]) rfl ?_); at_builtin; refine Kd.R_append (Kd.int .i64) (w0 := w) w.heap.size rfl (.tmp 31) (.tmp 35) 27 3 (.int .i64 0) 8 rfl Tryz.underlying27 info3 rfl (by decide) (by omega) u6 x6_2 (wrap64 (Int.tdiv (rd l0 x27_2) x3_2)) [.int .i64 (wrap64 (Int.tdiv (rd l0 x27_2) x3_2))] (fun _ => True) (fun _ => False) rfl rfl ?aP (fun _ hk => hk.elim) ?aF ?aO ?aB ?aS ?aL ?_; (case aP => exact rfl); (case aB => exact (Sqz.auHB)); (case aF => exact (fun _ _ => trivial)); (case aO => exact ((Sqz.mvR HO_6.out))); (case aS => exact (below_size (Sqz.auHB))); (case aL => have := LMc16.out; omega); intro v133 w17 ho hb hg hat; rw [← Ny132.out] at ho; replace HB := Aside0.mk (hb); have HO134 := Aside0.mk (ho); clear HO_6; clear ho hb hg hat))
          go_roundg k2
          case measure => have := HJ2.out; have := HK2.out; omega
          case rel => exact ⟨(y132), (wrap64 (x27_2 + 1)), Sqz.auS, H', ⟨by have := HJ2.out; have := HK2.out; omega⟩, ⟨(Sqz.mvR HO134.out)⟩, ⟨Sqz.auHB⟩⟩
         ·rw [if_neg c16] at H; exact absurd H (by simp)
       ·rw [if_neg c14] at H; exact absurd H (by simp)
      ·rw [if_neg c13] at H; exact absurd H (by simp)
     ·rw [if_neg c12] at H; have c12b0 := decide_eq_false c12; clear c12; obtain rfl := Option.some.inj H; go_wp2; go_ret
      exact ⟨_, Sqz.auR, (Sqz.mvR HO_6.out), Sqz.auHB⟩

/-! ### slices_Clone_int_int: function 87 -/
section
open Locg
theorem cloneInfo : (Tryz.prog.info? 3).map (fun i => (i.zero, i.size, i.bytes)) = some (some (.int .i64 0), 1, 8) := by kernel_rfl
def slices_Clone_int_int.f (l0 : List Int) : Option (List Int) := if l0.length ≤ 17592186044416 then some l0 else none
set_option maxHeartbeats 4000000 in
set_option maxRecDepth 100000 in
theorem slices_Clone_int_int.calls (A0 : Option Addr) (c0 : Nat) (l0 : List Int) (r : List Int) (w : World) (hr0 : Kd.C (Kd.int .i64) w A0 l0.length l0) (hc0 : l0.length ≤ c0) (h : slices_Clone_int_int.f l0 = some r) :
  Calls Tryz.prog 87 #[.slice A0 l0.length c0] w fun e w' => ∃ v0_ : Value, e = .returned (v0_) ∧ Kd.R (Kd.int .i64) 3 w' w.heap.size (fun _ => True) v0_ r ∧ Below w.heap.size w w' := by
 unfold slices_Clone_int_int.f at h
 by_cases hl : l0.length ≤ 17592186044416
 ·rw [if_pos hl] at h; injection h with h
  subst h; have hR : ReadsInt w .i64 A0 l0.length l0 := Kd.reads_of_C (enc := Value.int .i64) (d := (0 : Int)) (h1 := fun _ => rfl) hr0
  rcases A0 with _ | ad
  ·obtain rfl : l0 = [] := by
    rcases Nat.eq_zero_or_pos l0.length with h0 | h0
    ·exact List.eq_nil_of_length_eq_zero h0
    ·obtain ⟨ad, he, _⟩ := hR.2.2 h0; cases he
   clear hR hr0 hl; have he := fun W => Lib.run_eql_slice_nil (P := Tryz.prog) W 27 3 none (List.length ([] : List Int)) c0 0 0 Tryz.underlying27
   simp only [List.length_nil] at he ⊢
   go_enter Tryz.func87, Tryz.ntmps87
   go_wp2; go_ret
   exact ⟨_, rfl, Kd.R_nil _ _ _ _ _, Below.refl _ _⟩
  ·have he := fun W => Lib.run_eql_slice_nil (P := Tryz.prog) W 27 3 (some ad) l0.length c0 0 0 Tryz.underlying27
   have HR := Lib.hid hR; have HL := Lib.hid hl; clear hR hr0 hl
   go_enter Tryz.func87, Tryz.ntmps87
   go_wp2_with (at_builtin; refine print_append_row (w0 := w) w.heap.size rfl (.tmp 5) (.tmp 6) 27 3 .i64 8 rfl Tryz.underlying27 cloneInfo (by decide) (.slice (some ⟨w.heap.size, 0, none⟩) 0 0) [] l0 (some ad) l0.length c0 rfl rfl (own_lit w w.heap.size 3 .i64 [] (Nat.le_refl _) (by simp)) (HR.out.below (below_alloc (Below.refl _ _) _)) (below_alloc (Below.refl _ _) _) (by simp) (by have := HL.out; simp; omega) ?_; intro v1 w1 hown1 hB1 hg1 hat1; clear hat1; obtain ⟨A1, k1, rfl⟩ := own_slice hown1)
   go_ret
   exact ⟨_, rfl, Kd.R_of_own hown1 (fun _ _ => trivial), hB1⟩
 ·rw [if_neg hl] at h; cases h

end

/-! ### impl_sharedPrime: function 135 -/
section
open Locg
/-! ### the first prime that two of three terms share -/
def shAt (l0 : List Int) (k : Nat) (p q : Int) (next : Option (Int × Int × Int)) : Option (Int × Int × Int) :=
 (impl_gcd.f k [rd l0 p, rd l0 q]).bind fun d => if d > 1 then ((impl_primesOf.f k d).bind fun ps => if 0 < ps.length then some (p, q, rd ps 0) else none) else next
def shF (l0 : List Int) (k : Nat) : Nat → Option (Int × Int × Int)
 | 0 => shAt l0 k 0 1 (shAt l0 k 0 2 (shAt l0 k 1 2 (some (0, 0, 0))))
 | 1 => shAt l0 k 0 2 (shAt l0 k 1 2 (some (0, 0, 0)))
 | 2 => shAt l0 k 1 2 (some (0, 0, 0))
 | _ => some (0, 0, 0)
def impl_sharedPrime.f (k : Nat) (l0 : List Int) : Option (Int × Int × Int) := if 3 ≤ l0.length then shF l0 k 0 else none
theorem sh_pre {α : Type} {d : Kd α} {e n c m : Nat} {w : World} {base : Nat} {ok : Nat → Prop} {A : Option Addr} {xs ys : List α} (h : d.R e w base ok (.slice A n c) xs) (hy : ys = xs.take m) : d.R e w base ok (.slice A ys.length c) ys := by
 subst hy
 rcases Nat.le_total m xs.length with hm | hm
 ·have := Kd.R_take (m := m) h hm; rw [show (xs.take m).length = m by rw [List.length_take]; omega]; exact this
 ·rw [List.take_of_length_le hm]; have e := (Kd.R_reads' h).1; subst e; exact h
theorem sh_two {w : World} {b : Nat} {x y : Int} (h : w.heap[b]? = some (.cells #[.int .i64 x, .int .i64 y] 3 (0, 0))) : (Kd.int .i64).C w (some ⟨b, 0, none⟩) [x, y].length [x, y] := by
 refine ⟨rfl, by simp, fun _ => ⟨_, rfl, fun j p hj => ⟨[.int .i64 p], rfl, rfl, fun i u hu => ?_⟩⟩⟩
 match i, hu with
 | 0, hu =>
  simp at hu
  subst hu
  match j, hj with
  | 0, hj => simp at hj; subst hj; exact blk_cell h 0
  | 1, hj => simp at hj; subst hj; exact blk_cell h 1
theorem sh_two' {w : World} {c : Obj} {x y : Int} : (Kd.int .i64).C ((w.alloc c).alloc (.cells #[.int .i64 x, .int .i64 y] 3 (0, 0))).drew (some ⟨w.heap.size + 1, 0, none⟩) [x, y].length [x, y] := by
 refine Kd.C_drew (sh_two ?_); have := heap_alloc_new (w.alloc c) (.cells #[.int .i64 x, .int .i64 y] 3 (0, 0)); have e : (w.alloc c).heap.size = w.heap.size + 1 := by simp
 rw [e] at this; exact this
theorem sh_kept {wr w' : World} {c : Obj} {b : Nat} {o : Obj} (h : wr.heap[b]? = some o) (hb : Below (wr.alloc c).heap.size (wr.alloc c) w') : w'.heap[b]? = some o := by
 have hl := lt_of_block h; have e : (wr.alloc c).heap.size = wr.heap.size + 1 := by simp
 rw [hb.block b (by omega), ((Below.refl wr.heap.size wr).alloc (Nat.le_refl _) c).block b hl]; exact h
theorem sh_ret3 {fn : Func} {t u v : Tmp} (h : fn.results = #[.tmp t, .tmp u, .tmp v]) (tmps : Array Value) (P : Program) (w : World) :
  (results fn tmps).run P w = .ok (.tuple #[tmps.getD t undef, tmps.getD u undef, tmps.getD v undef]) w := by
 simp [results, h]
theorem sh_lt {w : World} {a : Addr} {v : Value} (h : w.cell? a = some v) : a.block < w.heap.size := by
 by_cases ha : a.block < w.heap.size
 ·exact ha
 ·have : w.heap[a.block]? = none := Array.getElem?_eq_none (by omega)
  simp [World.cell?, this] at h
theorem sh_keep {wr w' : World} {t : Nat} {p q x y : Value} {a b : Addr} (h : wr.cell? a = some x) (h' : wr.cell? b = some y) (hb : Below (wr.alloc (.cells #[p, q] t (0, 0))).heap.size (wr.alloc (.cells #[p, q] t (0, 0))) w') :
  w'.cell? ⟨wr.heap.size, 0, none⟩ = some p ∧ w'.cell? ⟨wr.heap.size, 1, none⟩ = some q ∧ w'.cell? a = some x ∧ w'.cell? b = some y ∧ Below (wr.alloc (.cells #[p, q] t (0, 0))).heap.size (wr.alloc (.cells #[p, q] t (0, 0))) w' := by
 have ha := sh_lt h; have hb' := sh_lt h'; have e : (wr.alloc (.cells #[p, q] t (0, 0))).heap.size = wr.heap.size + 1 := by simp
 have hn := blk_cell (heap_alloc_new wr (.cells #[p, q] t (0, 0))); refine ⟨?_, ?_, ?_, ?_, hb⟩
 ·rw [hb.cell (by rw [e]; exact Nat.lt_succ_self _)]; exact hn 0
 ·rw [hb.cell (by rw [e]; exact Nat.lt_succ_self _)]; exact hn 1
 ·rw [hb.cell (by omega)]; exact ((Below.refl wr.heap.size wr).alloc (Nat.le_refl _) _ |>.cell ha).trans h
 ·rw [hb.cell (by omega)]; exact ((Below.refl wr.heap.size wr).alloc (Nat.le_refl _) _ |>.cell hb').trans h'
set_option maxHeartbeats 4000000 in
set_option maxRecDepth 100000 in
theorem impl_sharedPrime.calls (k : Nat) (A0 : Option Addr) (c0 : Nat) (l0 : List Int) (r1 r2 r3 : Int) (w : World) (hr0 : Kd.C (Kd.int .i64) w A0 l0.length l0) (hc0 : l0.length ≤ c0) (h : impl_sharedPrime.f k l0 = some (r1, r2, r3)) :
  Calls Tryz.prog 135 #[.slice A0 l0.length c0] w fun e w' => e = .returned (.tuple #[.int .i64 r1, .int .i64 r2, .int .i64 r3]) ∧ Below w.heap.size w w' := by
 unfold impl_sharedPrime.f at h
 by_cases hl : 3 ≤ l0.length
 ·rw [if_pos hl] at h; have HR0 := Aside0.mk hr0; have HC0 := Aside0.mk hc0; have HH := Aside0.mk h; have HL := Aside0.mk hl; clear hr0 hc0 h hl
  go_enter Tryz.func135, Tryz.ntmps135
  go_wp2_with fail
  go_loopw [13] (fun v13 wr => ∃ i : Nat, v13 = .int .i64 i ∧ i ≤ 3 ∧ Aside0 (shF l0 k i = some (r1, r2, r3)) ∧ Aside0 (wr.heap[w.heap.size]? = some (.cells #[.int .i64 0, .int .i64 1, .int .i64 0, .int .i64 2, .int .i64 1, .int .i64 2] 119 (0, 0))) ∧ Aside0 (Below w.heap.size w wr)) (fun v13 _ => 3 - (intOf v13).toNat)
  case atStart => exact ⟨0, rfl, by omega, HH, ⟨by simpa using heap_alloc_new w _⟩, ⟨below_alloc (Below.refl _ _) _⟩⟩
  case round =>
   clear HH; obtain ⟨i, rfl, hi, HF, HG, HB⟩ := hrel; have hcases : i = 0 ∨ i = 1 ∨ i = 2 ∨ i = 3 := by omega
   rcases hcases with rfl | rfl | rfl | rfl
   ·unfold shF shAt at HF
    obtain ⟨d, hd, hd2⟩ := Option.bind_eq_some_iff.mp HF.out; have HD := Aside0.mk hd; have HD2 := Aside0.mk hd2; clear HF hd hd2; have cl0 := blk_cell HG.out 0; have cl1 := blk_cell HG.out 1
    simp at cl0 cl1
    have HC := Kd.C_below HR0.out HB.out; have hl := HL.out; obtain ⟨ad, rfl, ht0⟩ := Kd.at_int HC 0 (by omega) (by omega); obtain ⟨ad', e_, ht1⟩ := Kd.at_int HC 1 (by omega) (by omega); cases e_; have hs0 : wr.cell? ad = some (.int .i64 (rd l0 0)) := ht0; have hs1 : wr.cell? ⟨ad.block, ad.off + 1, none⟩ = some (.int .i64 (rd l0 1)) := ht1; clear ht0 ht1; have b0 : 0 < l0.length := by omega
    have b1 : (1 : Int) < (l0.length : Int) := by omega
    go_wp2_with fail
    have hlt := lt_of_block HG.out
    go_region_held3 (fun w' => w'.cell? ⟨wr.heap.size, 0, none⟩ = some (.int .i64 0) ∧ w'.cell? ⟨wr.heap.size, 1, none⟩ = some (.int .i64 1) ∧ w'.cell? ad = some (.int .i64 (rd l0 0)) ∧ w'.cell? ⟨ad.block, ad.off + 1, none⟩ = some (.int .i64 (rd l0 1)) ∧ Below (wr.alloc (.cells #[.int .i64 0, .int .i64 1] 119 (0, 0))).heap.size (wr.alloc (.cells #[.int .i64 0, .int .i64 1] 119 (0, 0))) w')
     ((refine sh_keep hs0 hs1 ?_; go_split_ands; first | assumption | exact below_drew (Below.refl _ _) | exact below_drew (below_alloc (Below.refl _ _) _) | (refine below_step (below_drew (below_alloc (Below.refl _ _) _)) ?_; assumption) | (refine below_drew ?_; assumption) | (refine below_alloc ?_ _; assumption) | (refine below_step ?_ ?_ <;> assumption)))
     (first | (go_at_call 88; refine (impl_gcd.calls k _ _ [rd l0 0, rd l0 1] d _ ?s1 ?s2 HD.out).mono ?_; (case s1 => exact sh_two'); (case s2 => simp); rintro e w1 ⟨rfl, hb⟩; have hb2 := below_step (below_drew (below_alloc (Below.refl _ _) _)) hb; clear hb; dsimp only))
    go_split_ands
    rename_i g0 g1 g2 g3 g4
    by_cases hd : d > 1
    ·have hd2 := HD2.out; rw [if_pos hd] at hd2; obtain ⟨ps, hp1, hp2⟩ := Option.bind_eq_some_iff.mp hd2
     by_cases hp : 0 < ps.length
     ·rw [if_pos hp] at hp2; simp only [Option.some.injEq, Prod.mk.injEq] at hp2; obtain ⟨rfl, rfl, rfl⟩ := hp2; have HP := Aside0.mk hp1; clear hd2 hp1 HD2 HD
      go_wp2_with fail
      go_region_with ((go_at_call 113; refine (impl_primesOf.calls k d ps _ HP.out).mono ?_; rintro e w2 ⟨v, rfl, ho, hb⟩; have hb3 := below_step (below_drew g4) hb; have z0 := (sh_keep hs0 hs1 hb3).1; have z1 := (sh_keep hs0 hs1 hb3).2.1; have hz := below_step (below_alloc HB.out _) hb3; obtain ⟨Ao, co, rfl⟩ := Kd.R_slice ho; obtain ⟨ao, rfl, hps⟩ := Kd.at_int (Kd.R_reads' ho).2.2 0 (by omega) (by omega); have hps0 : w2.cell? ao = some (.int .i64 (rd ps 0)) := hps; clear hps ho hb; dsimp only))
      all_goals (go_wp2_with fail; (try simp only [Exit.inBlock, Exit.then]); refine bodyPost_ret (sh_ret3 rfl _ _ _) rfl ?_; exact ⟨rfl, hz⟩)
     ·rw [if_neg hp] at hp2; cases hp2
    ·have hd2 := HD2.out; rw [if_neg hd] at hd2
     go_wp2_with fail
     exact ⟨⟨0+1, rfl, by omega, ⟨hd2⟩, ⟨sh_kept HG.out g4⟩, ⟨below_step (below_alloc HB.out _) g4⟩⟩, by simp [intOf]⟩
   ·unfold shF shAt at HF
    obtain ⟨d, hd, hd2⟩ := Option.bind_eq_some_iff.mp HF.out; have HD := Aside0.mk hd; have HD2 := Aside0.mk hd2; clear HF hd hd2; have cl0 := blk_cell HG.out 2; have cl1 := blk_cell HG.out 3
    simp at cl0 cl1
    have HC := Kd.C_below HR0.out HB.out; have hl := HL.out; obtain ⟨ad, rfl, ht0⟩ := Kd.at_int HC 0 (by omega) (by omega); obtain ⟨ad', e_, ht1⟩ := Kd.at_int HC 2 (by omega) (by omega); cases e_; have hs0 : wr.cell? ad = some (.int .i64 (rd l0 0)) := ht0; have hs1 : wr.cell? ⟨ad.block, ad.off + 2, none⟩ = some (.int .i64 (rd l0 2)) := ht1; clear ht0 ht1; have b0 : 0 < l0.length := by omega
    have b1 : (2 : Int) < (l0.length : Int) := by omega
    go_wp2_with fail
    have hlt := lt_of_block HG.out
    go_region_held3 (fun w' => w'.cell? ⟨wr.heap.size, 0, none⟩ = some (.int .i64 0) ∧ w'.cell? ⟨wr.heap.size, 1, none⟩ = some (.int .i64 2) ∧ w'.cell? ad = some (.int .i64 (rd l0 0)) ∧ w'.cell? ⟨ad.block, ad.off + 2, none⟩ = some (.int .i64 (rd l0 2)) ∧ Below (wr.alloc (.cells #[.int .i64 0, .int .i64 2] 119 (0, 0))).heap.size (wr.alloc (.cells #[.int .i64 0, .int .i64 2] 119 (0, 0))) w')
     ((refine sh_keep hs0 hs1 ?_; go_split_ands; first | assumption | exact below_drew (Below.refl _ _) | exact below_drew (below_alloc (Below.refl _ _) _) | (refine below_step (below_drew (below_alloc (Below.refl _ _) _)) ?_; assumption) | (refine below_drew ?_; assumption) | (refine below_alloc ?_ _; assumption) | (refine below_step ?_ ?_ <;> assumption)))
     (first | (go_at_call 88; refine (impl_gcd.calls k _ _ [rd l0 0, rd l0 2] d _ ?s1 ?s2 HD.out).mono ?_; (case s1 => exact sh_two'); (case s2 => simp); rintro e w1 ⟨rfl, hb⟩; have hb2 := below_step (below_drew (below_alloc (Below.refl _ _) _)) hb; clear hb; dsimp only))
    go_split_ands
    rename_i g0 g1 g2 g3 g4
    by_cases hd : d > 1
    ·have hd2 := HD2.out; rw [if_pos hd] at hd2; obtain ⟨ps, hp1, hp2⟩ := Option.bind_eq_some_iff.mp hd2
     by_cases hp : 0 < ps.length
     ·rw [if_pos hp] at hp2; simp only [Option.some.injEq, Prod.mk.injEq] at hp2; obtain ⟨rfl, rfl, rfl⟩ := hp2; have HP := Aside0.mk hp1; clear hd2 hp1 HD2 HD
      go_wp2_with fail
      go_region_with ((go_at_call 113; refine (impl_primesOf.calls k d ps _ HP.out).mono ?_; rintro e w2 ⟨v, rfl, ho, hb⟩; have hb3 := below_step (below_drew g4) hb; have z0 := (sh_keep hs0 hs1 hb3).1; have z1 := (sh_keep hs0 hs1 hb3).2.1; have hz := below_step (below_alloc HB.out _) hb3; obtain ⟨Ao, co, rfl⟩ := Kd.R_slice ho; obtain ⟨ao, rfl, hps⟩ := Kd.at_int (Kd.R_reads' ho).2.2 0 (by omega) (by omega); have hps0 : w2.cell? ao = some (.int .i64 (rd ps 0)) := hps; clear hps ho hb; dsimp only))
      all_goals (go_wp2_with fail; (try simp only [Exit.inBlock, Exit.then]); refine bodyPost_ret (sh_ret3 rfl _ _ _) rfl ?_; exact ⟨rfl, hz⟩)
     ·rw [if_neg hp] at hp2; cases hp2
    ·have hd2 := HD2.out; rw [if_neg hd] at hd2
     go_wp2_with fail
     exact ⟨⟨1+1, rfl, by omega, ⟨hd2⟩, ⟨sh_kept HG.out g4⟩, ⟨below_step (below_alloc HB.out _) g4⟩⟩, by simp [intOf]⟩
   ·unfold shF shAt at HF
    obtain ⟨d, hd, hd2⟩ := Option.bind_eq_some_iff.mp HF.out; have HD := Aside0.mk hd; have HD2 := Aside0.mk hd2; clear HF hd hd2; have cl0 := blk_cell HG.out 4; have cl1 := blk_cell HG.out 5
    simp at cl0 cl1
    have HC := Kd.C_below HR0.out HB.out; have hl := HL.out; obtain ⟨ad, rfl, ht0⟩ := Kd.at_int HC 1 (by omega) (by omega); obtain ⟨ad', e_, ht1⟩ := Kd.at_int HC 2 (by omega) (by omega); cases e_; have hs0 : wr.cell? ⟨ad.block, ad.off + 1, none⟩ = some (.int .i64 (rd l0 1)) := ht0; have hs1 : wr.cell? ⟨ad.block, ad.off + 2, none⟩ = some (.int .i64 (rd l0 2)) := ht1; clear ht0 ht1; have b0 : (1 : Int) < (l0.length : Int) := by omega
    have b1 : (2 : Int) < (l0.length : Int) := by omega
    go_wp2_with fail
    have hlt := lt_of_block HG.out
    go_region_held3 (fun w' => w'.cell? ⟨wr.heap.size, 0, none⟩ = some (.int .i64 1) ∧ w'.cell? ⟨wr.heap.size, 1, none⟩ = some (.int .i64 2) ∧ w'.cell? ⟨ad.block, ad.off + 1, none⟩ = some (.int .i64 (rd l0 1)) ∧ w'.cell? ⟨ad.block, ad.off + 2, none⟩ = some (.int .i64 (rd l0 2)) ∧ Below (wr.alloc (.cells #[.int .i64 1, .int .i64 2] 119 (0, 0))).heap.size (wr.alloc (.cells #[.int .i64 1, .int .i64 2] 119 (0, 0))) w')
     ((refine sh_keep hs0 hs1 ?_; go_split_ands; first | assumption | exact below_drew (Below.refl _ _) | exact below_drew (below_alloc (Below.refl _ _) _) | (refine below_step (below_drew (below_alloc (Below.refl _ _) _)) ?_; assumption) | (refine below_drew ?_; assumption) | (refine below_alloc ?_ _; assumption) | (refine below_step ?_ ?_ <;> assumption)))
     (first | (go_at_call 88; refine (impl_gcd.calls k _ _ [rd l0 1, rd l0 2] d _ ?s1 ?s2 HD.out).mono ?_; (case s1 => exact sh_two'); (case s2 => simp); rintro e w1 ⟨rfl, hb⟩; have hb2 := below_step (below_drew (below_alloc (Below.refl _ _) _)) hb; clear hb; dsimp only))
    go_split_ands
    rename_i g0 g1 g2 g3 g4
    by_cases hd : d > 1
    ·have hd2 := HD2.out; rw [if_pos hd] at hd2; obtain ⟨ps, hp1, hp2⟩ := Option.bind_eq_some_iff.mp hd2
     by_cases hp : 0 < ps.length
     ·rw [if_pos hp] at hp2; simp only [Option.some.injEq, Prod.mk.injEq] at hp2; obtain ⟨rfl, rfl, rfl⟩ := hp2; have HP := Aside0.mk hp1; clear hd2 hp1 HD2 HD
      go_wp2_with fail
      go_region_with ((go_at_call 113; refine (impl_primesOf.calls k d ps _ HP.out).mono ?_; rintro e w2 ⟨v, rfl, ho, hb⟩; have hb3 := below_step (below_drew g4) hb; have z0 := (sh_keep hs0 hs1 hb3).1; have z1 := (sh_keep hs0 hs1 hb3).2.1; have hz := below_step (below_alloc HB.out _) hb3; obtain ⟨Ao, co, rfl⟩ := Kd.R_slice ho; obtain ⟨ao, rfl, hps⟩ := Kd.at_int (Kd.R_reads' ho).2.2 0 (by omega) (by omega); have hps0 : w2.cell? ao = some (.int .i64 (rd ps 0)) := hps; clear hps ho hb; dsimp only))
      all_goals (go_wp2_with fail; (try simp only [Exit.inBlock, Exit.then]); refine bodyPost_ret (sh_ret3 rfl _ _ _) rfl ?_; exact ⟨rfl, hz⟩)
     ·rw [if_neg hp] at hp2; cases hp2
    ·have hd2 := HD2.out; rw [if_neg hd] at hd2
     go_wp2_with fail
     exact ⟨⟨2+1, rfl, by omega, ⟨hd2⟩, ⟨sh_kept HG.out g4⟩, ⟨below_step (below_alloc HB.out _) g4⟩⟩, by simp [intOf]⟩
   ·have hf := HF.out; simp only [shF, Option.some.injEq, Prod.mk.injEq] at hf; obtain ⟨rfl, rfl, rfl⟩ := hf
    go_wp2_with fail
    (try simp only [Exit.inBlock, Exit.then]); refine bodyPost_ret (sh_ret3 rfl _ _ _) rfl ?_; exact ⟨rfl, HB.out⟩
 ·rw [if_neg hl] at h; cases h

end

end Go.Proofs.YtacfcoilmdhgnaaGreatDoor.PFnExecuteValue
