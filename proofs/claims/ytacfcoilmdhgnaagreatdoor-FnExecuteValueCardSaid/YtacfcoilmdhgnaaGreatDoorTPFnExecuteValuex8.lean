/- A function's Lean twin and its walk, written by a program of this session. -/
import Derived.Test.YtacfcoilmdhgnaaGreatDoorTPFnExecuteValuex0
import Derived.Test.YtacfcoilmdhgnaaGreatDoorTPFnExecuteValuex1
import Derived.Test.YtacfcoilmdhgnaaGreatDoorTPFnExecuteValuex7
namespace Go.Proofs.YtacfcoilmdhgnaaGreatDoor.PFnExecuteValue
open Go.RowKit Go.Proofs.YtacfcoilmdhgnaaGreatDoorW.PrintWords Go.Proofs.YtacfcoilmdhgnaaGreatDoorW.PrintLast Go.Proofs.YtacfcoilmdhgnaaGreatDoorW.PrintMore
attribute [local go_sem] max2_int min2_int max_two min_two max_three min_three max_four min_four   -- for this text's walks alone
set_option linter.unusedVariables false
set_option linter.unusedSimpArgs false

/-! ### strconv_Itoa: function 49 -/
section
open Locg
/-! ### library calls: what the world must hold, texts of numbers, joined texts, cut texts -/
/-- What the library's own variables hold: bytealg.MaxLen some number, strconv's powers of ten. -/
def GW (w : World) : Prop := (∃ m : Int, w.cell? ⟨0, 0, none⟩ = some (.int .i64 m)) ∧ Lib.TabIs Tryz.prog w "internal/strconv.uint64pow10" .u64 Lib.pow10Tab
theorem gw_global : Tryz.prog.globalNamed "internal/strconv.uint64pow10" = some 1 := by kernel_rfl
theorem GW.below {w w' : World} (h : GW w) (hb : Below w.heap.size w w') : GW w' := by
 obtain ⟨⟨m, hm⟩, ht⟩ := h; refine ⟨⟨m, (hb.cell (World.block_lt_of_cell? w _ hm)).trans hm⟩, ?_⟩
 unfold Lib.TabIs World.var? at ht ⊢
 rw [gw_global] at ht ⊢; simp only [Option.bind_some] at ht ⊢
 have hlt : 1 < w.heap.size := by
  rcases Nat.lt_or_ge 1 w.heap.size with h' | h'
  ·exact h'
  ·rw [Array.getElem?_eq_none h'] at ht; cases ht
 rw [hb.block _ hlt]; exact ht
def strconv_Itoa.f (a0 : Int) : Option ByteArray := if -9223372036854775808 ≤ a0 ∧ a0 ≤ 9223372036854775807 then some ⟨(Lib.itoa a0).toArray⟩ else none
theorem strconv_Itoa.calls (a0 : Int) (r : ByteArray) (w : World) (hG : GW w) (h : strconv_Itoa.f a0 = some r) :
  Calls Tryz.prog 49 #[.int .i64 a0] w fun e w' => e = .returned (.string r) ∧ Below w.heap.size w w' := by
 unfold strconv_Itoa.f at h
 by_cases c : -9223372036854775808 ≤ a0 ∧ a0 ≤ 9223372036854775807
 ·rw [if_pos c] at h; obtain rfl := Option.some.inj h; refine (Tryz.strconv_Itoa a0 c.1 c.2 w hG.2).mono ?_; rintro e w' ⟨rfl, k, os, rfl⟩; exact ⟨rfl, Lib.below_grow w.heap.size w (Nat.le_refl _) k os⟩
 ·rw [if_neg c] at h; cases h
def strings_Join.f (l0 : List ByteArray) (a1 : ByteArray) : Option ByteArray := if l0.length ≤ 140737488355328 ∧ (Lib.join (l0.map (·.data.toList)) a1.data.toList).length ≤ 140737488355328 then some ⟨(Lib.join (l0.map (·.data.toList)) a1.data.toList).toArray⟩ else none
theorem strings_Join.calls (A0 : Option Addr) (c0 : Nat) (l0 : List ByteArray) (a1 : ByteArray) (r : ByteArray) (w : World) (hr0 : Kd.C Kd.string w A0 l0.length l0) (hc0 : l0.length ≤ c0) (h : strings_Join.f l0 a1 = some r) :
  Calls Tryz.prog 103 #[.slice A0 l0.length c0, .string a1] w fun e w' => e = .returned (.string r) ∧ Below w.heap.size w w' := by
 unfold strings_Join.f at h
 by_cases c : l0.length ≤ 140737488355328 ∧ (Lib.join (l0.map (·.data.toList)) a1.data.toList).length ≤ 140737488355328
 ·rw [if_pos c] at h; obtain rfl := Option.some.inj h; cases l0 with
  | nil =>
   refine (Tryz.strings_Join_none A0 c0 a1 w).mono ?_; rintro e w' ⟨rfl, rfl⟩; exact ⟨rfl, Below.refl _ _⟩
  | cons x xs =>
   obtain ⟨_, _, hcells⟩ := Kd.reads_of_C (d := ByteArray.empty) hr0; obtain ⟨⟨bk, o, fl⟩, rfl, hc⟩ := hcells (by simp); have h0 := hc 0 (by simp); cases fl with
   | some q =>
    exfalso
    simp only [World.cell?, Addr.add] at h0
    split at h0
    ·simp at h0
    ·cases h0
   | none =>
    refine (Tryz.strings_Join bk o c0 (x :: xs) a1 w (fun j y hj => ?_) (World.block_lt_of_cell? w _ h0) c.1 hc0 c.2).mono ?_
    ·have hl := (List.getElem?_eq_some_iff.1 hj).1; have := hc j hl; rw [List.getD_eq_getElem?_getD, hj] at this; have e : (⟨bk, o, none⟩ : Addr).add j = ⟨bk, o + j, none⟩ := by cases j <;> simp [Addr.add]
     rw [e] at this; exact this
    ·rintro e w' ⟨rfl, hb⟩; exact ⟨rfl, hb⟩
 ·rw [if_neg c] at h; cases h
def strings_Split.f (a0 a1 : ByteArray) : Option (List ByteArray) := if a0.size < 4294967281 ∧ 1 ≤ a1.size then some (Lib.splitB a1 0 (Lib.countB a0 a1) a0) else none
theorem strings_Split.calls (a0 a1 : ByteArray) (r : List ByteArray) (w : World) (hG : GW w) (h : strings_Split.f a0 a1 = some r) :
  Calls Tryz.prog 46 #[.string a0, .string a1] w fun e w' => ∃ v0_ : Value, e = .returned v0_ ∧ Kd.R Kd.string 9 w' w.heap.size (fun _ => True) v0_ r ∧ Below w.heap.size w w' := by
 unfold strings_Split.f at h
 by_cases c : a0.size < 4294967281 ∧ 1 ≤ a1.size
 ·rw [if_pos c] at h; obtain rfl := Option.some.inj h; obtain ⟨⟨m, hm⟩, _⟩ := hG; refine (Tryz.strings_Split a0 a1 m w c.1 hm c.2).mono ?_; rintro e w' ⟨rfl, rfl⟩; have hl := Lib.splitB_all a1 c.2 0 _ a0 rfl; have hle := Lib.countB_le a1 c.2 a0.size a0 (Nat.le_refl _); refine ⟨_, rfl, ?_, (Below.refl _ w).alloc (Nat.le_refl _) _⟩; have ho := World.ownsRow_lit (base := w.heap.size) (e := 9) (size := 1) w ((Lib.splitB a1 0 (Lib.countB a0 a1) a0).map Value.string).toArray (Lib.countB a0 a1 + 1) (Nat.le_refl _) (by unfold maxLen; omega) (by simp [hl]); rw [← hl] at ho ⊢; exact Kd.R_of_own (by simpa [encs] using ho) (fun _ _ => trivial)
 ·rw [if_neg c] at h; cases h
/-! ### the Builder -/
/-- Every block but b, and but rows of bytes, is as it was. -/
structure KeepB (b : Nat) (w w' : World) : Prop where
 os : w'.os = w.os
 tape : w'.tape = w.tape
 output : w'.output = w.output
 size : w.heap.size ≤ w'.heap.size
 block : ∀ k, k < w.heap.size → k ≠ b → (∀ cells, w.heap[k]? ≠ some (.cells cells 5 (0, 0))) → w'.heap[k]? = w.heap[k]?
set_option maxHeartbeats 4000000 in
set_option maxRecDepth 100000 in
theorem bld_check (B b : Nat) (bs : List Value) (w : World) (h : Lib.IsBuilder 53 5 B b bs w) :
  Calls Tryz.prog 95 #[.pointer (some ⟨b, 0, none⟩)] w fun e w' => e = .returned (.tuple #[]) ∧ (Lib.BuilderAt 53 5 B b (.pointer (some ⟨b, 0, none⟩)) bs w' ∧ Below B w w' ∧ ∀ k, k ≠ b → w'.heap[k]? = w.heap[k]?) := by
 rcases h with h | h
 ·have c0 := h.cell0; have f0 := h.frozen0; have sh := h.shape; have HH := Aside0.mk h; clear h; obtain ⟨j, hj, hjs⟩ := Option.map_eq_some_iff.1 (show (Tryz.prog.info? 53).map (fun i => i.size) = some 2 by kernel_rfl); have HJ := Aside0.mk hj; have HJS := Aside0.mk hjs; clear hj hjs
  go_enter Tryz.func95, Tryz.ntmps95
  go_wp2; rw [Lib.run_to_unsafe w ⟨b, 0, none⟩ Tryz.underlying51 Tryz.underlying109 HJ.out (by rw [HJS.out]; decide) sh (Nat.zero_lt_succ 1)]; simp only [Result.andThen]; rw [Oper.upon_value]; go_wp2; rw [run_callFunc_extern Tryz.func143 (by kernel_rfl) (by kernel_rfl) (by kernel_rfl) (e := Extern.AbiNoEscape.same) (by kernel_rfl)]; rw [Lib.run_noEscape]; simp only [Result.andThen]; rw [Oper.upon_value]; go_wp2; rw [Lib.run_from_unsafe w ⟨b, 0, none⟩ Tryz.underlying109 Tryz.underlying51 HJ.out sh (by kernel_rfl)]; simp only [Result.andThen]; rw [Oper.upon_value]; go_wp2
  go_end0
  exact ⟨rfl, HH.out.used _, (Below.refl B w).setCell (p := ⟨b, 0, none⟩) HH.out.1 _, fun k hk => Below.heap_setCell _ _ _ _ hk⟩
 ·have c0 := h.cell0; have HH := Aside0.mk h; clear h; obtain ⟨j, hj, _⟩ := Option.map_eq_some_iff.1 (show (Tryz.prog.info? 53).map (fun i => i.size) = some 2 by kernel_rfl); have HJ := Aside0.mk hj; clear hj
  go_enter Tryz.func95, Tryz.ntmps95
  go_wp2; rw [Lib.run_neq_ptr_same w _ Tryz.underlying51 HJ.out]; go_wp2
  go_end0
  exact ⟨rfl, HH.out, Below.refl B _, fun _ _ => rfl⟩
theorem ob_slice {w : World} {B n : Nat} {e : TypeId} {size : Nat} {v : Value} {xs : List Value} (h : w.ownsRow B e size v n xs) : ∃ ao n' cap, v = .slice ao n' cap := by
 obtain ⟨A, c, hv⟩ := own_slice h; exact ⟨_, _, _, hv⟩
set_option maxHeartbeats 4000000 in
set_option maxRecDepth 100000 in
theorem bld_write (B b : Nat) (bs : List Value) (s : ByteArray) (w : World) (h : Lib.IsBuilder 53 5 B b bs w) (hlen : bs.length + s.size ≤ 140737488355328) (hBw : B ≤ w.heap.size) :
  Calls Tryz.prog 47 #[.pointer (some ⟨b, 0, none⟩), .string s] w fun e w' => e = .returned (.tuple #[.int .i64 s.size, .nilIface]) ∧ (Lib.BuilderAt 53 5 B b (.pointer (some ⟨b, 0, none⟩)) (bs ++ Lib.strCells s) w' ∧ Below B w w' ∧ KeepB b w w') := by
 obtain ⟨i0, hi, hz0, hz1, hz2⟩ := info_parts (show (Tryz.prog.info? 5).map (fun i => (i.zero, i.size, i.bytes)) = some (some (.int .u8 0), 1, 1) by kernel_rfl); have HI := Aside0.mk h; clear h
 go_enter Tryz.func47, Tryz.ntmps47
 go_wp2_with (first | (go_at_call 95; refine (bld_check B b bs _ HI.out).mono ?_; rintro e w1 ⟨rfl, h1, hb1, hk1⟩; obtain ⟨hB, v, hbk, hown, hne⟩ := h1; have HK := Aside0.mk hk1; clear hk1; have c0 : w1.cell? ⟨b, 0, none⟩ = some (.pointer (some ⟨b, 0, none⟩)) := (by rw [Lib.cell_of_heap hbk]; rfl); have c1 : w1.cell? ⟨b, 1, none⟩ = some v := (by rw [Lib.cell_of_heap hbk]; rfl); have HD := Aside0.mk (show _ ∧ _ ∧ _ ∧ _ from ⟨hbk, hown, hne, hb1⟩); have HB := Aside0.mk hB; clear hbk hown hne hb1 hB) | (at_builtin; refine Lib.wpList_append_own_string _ rfl _ _ 22 9 rfl B 5 i0 Tryz.underlying22 Tryz.underlying9 hi hz0 hz1 hz2 _ _ _ rfl HD.out.2.1 s rfl ?c3 ?c4 ?c5 ?_; (case c3 => (unfold maxLen; omega)); (case c4 => omega); (case c5 => (have := HD.out.2.2.2.size; omega)); intro v' w2 hown' hgrow _; have hlt : b < w1.heap.size := lt_of_block HD.out.1; have hb2 : w2.heap[b]? = some (.cells #[.pointer (some ⟨b, 0, none⟩), v] 53 (0, 0)) := (hgrow.block b hlt (fun e => HD.out.2.2.1 e.symm)).trans HD.out.1; have d0 : w2.cell? ⟨b, 0, none⟩ = some (.pointer (some ⟨b, 0, none⟩)) := (by rw [Lib.cell_of_heap hb2]; rfl); have d1 : w2.cell? ⟨b, 1, none⟩ = some v := (by rw [Lib.cell_of_heap hb2]; rfl); have f1 : w2.frozen? ⟨b, 1, none⟩ = false := Lib.frozen_of_heap hb2 1; have HE := Aside0.mk (show _ ∧ _ ∧ _ from ⟨hown', hgrow, hb2⟩); obtain ⟨ao, n', cap, ev⟩ := ob_slice hown'; subst ev; clear hown' hgrow hb2 c0 c1))
 go_ret2
 obtain ⟨hown', hgrow, hb2⟩ := HE.out; obtain ⟨_, hown, hne, hb1⟩ := HD.out; refine ⟨rfl, ?_, ?_, ?_⟩
 ·exact Lib.BuilderAt.put (T := 53) (e := 5) HB.out hb2 (bs' := bs ++ Lib.strCells s) (by simpa [Lib.strCells_length] using hown') (by decide)
 ·exact (hb1.grown hgrow (by have := hb1.size; omega) (fun k hk => (hown.lt k hk).1)).setCell (p := ⟨b, 1, none⟩) HB.out _
 ·refine ⟨hgrow.os.trans hb1.os, hgrow.tape.trans hb1.tape, hgrow.output.trans hb1.output, by simp only [World.setCell, Array.size_modify]; exact Nat.le_trans hb1.size hgrow.size, fun k hk hkb hty => ?_⟩; refine (Below.heap_setCell _ _ _ _ hkb).trans ((hgrow.block k (Nat.lt_of_lt_of_le hk hb1.size) (fun e => ?_)).trans (HK.out k hkb)); obtain ⟨cells, hc⟩ := own_typed hown k e.symm; exact hty cells ((HK.out k hkb).symm.trans hc)

end

/-! ### strings_Join: function 103 -/
section
open Locg

end

/-! ### impl_listText: function 99 -/
def impl_listText.l0 : Nat → List ByteArray → List Int → Int → Int → Option (ByteArray)
 | 0, _, _, _, _ => none
 | k + 1, x3, x7, x8, x9 => if x9 < x8 then (if 0 ≤ x9 then (if x9 < (x7.length : Int) then ((strconv_Itoa.f (rd x7 x9)).bind fun t241 => (if x3.length < 8796093022208 then (impl_listText.l0 k (x3 ++ [t241]) x7 x8 (wrap64 (x9 + 1))) else (none))) else (none)) else (none)) else ((strings_Join.f x3 (⟨#[32]⟩ : ByteArray)).bind fun t245 => (some t245))
def impl_listText.f (k : Nat) (l0 : List Int) : Option (ByteArray) := impl_listText.l0 k (([] : List ByteArray)) l0 (l0.length : Int) 0
set_option maxHeartbeats 8000000 in
set_option maxRecDepth 100000 in
theorem impl_listText.calls (k : Nat) (A0 : Option Addr) (c0 : Nat) (l0 : List Int) (r : ByteArray) (w : World) (hG : GW w) (hr0 : Kd.C (Kd.int .i64) w A0 l0.length l0) (hc0 : l0.length ≤ c0) (h : impl_listText.f k l0 = some r) :
  Calls Tryz.prog 99 #[.slice A0 l0.length c0] w fun e w' => e = .returned (.string r) ∧ Below w.heap.size w w' := by
 have HG := Aside0.mk hG; clear hG; have HR0 := Aside0.mk hr0; have HC0 := Aside0.mk hc0; clear hr0 hc0; have HB := Aside0.mk (Below.refl w.heap.size w); have H : (impl_listText.l0 k (([] : List ByteArray)) l0 (l0.length : Int) 0) = some r := h; clear h; obtain ⟨y237, hyy⟩ : ∃ y_ : List ByteArray, y_ = (([] : List ByteArray)) := ⟨_, rfl⟩
 replace H : (impl_listText.l0 k y237 l0 (l0.length : Int) 0) = some r := Sqz.auY
 have Ny237 := Aside0.mk hyy; clear hyy; have H' := Aside0.mk H; clear H
 go_enter Tryz.func99, Tryz.ntmps99
 go_wp2_with (((with_reducible refine gate_dst (N := 6) rfl ?_); refine Kd.R_lit Kd.string _ 9 ?hg (N := 6) ?hd (xs := ([] : List ByteArray)) (inner := []) (ok := fun _ => True) (okp := fun _ => True) ?hr ?hp (fun _ hk => hk) trivial (Below.refl _ _) (Nat.le_refl _) (by simp) ?_; (case hd => rfl); (case hg => rfl); (case hr => first | (go_simp; done) | (go_simp; rfl)); (case hp => exact (Reps.none _ _)); intro v238 w2 ho3 hb hg_ hnew_; clear hg_ hnew_; (first | rw [← Ny237.out] at ho3 | (simp only [Int.reduceToNat] at ho3; rw [← Ny237.out] at ho3)); have HO239 := Aside0.mk (Kd.R_lower ho3 (below_size (Sqz.auHB))); replace HB := Aside0.mk (below_step (Sqz.auHB) hb); clear hb ho3))
 go_loopg [3, 9] k (fun kq v3 v9 w' => ∃ (x3_1 : List ByteArray) (x9_1 : Int), v9 = .int .i64 x9_1 ∧ Aside0 (impl_listText.l0 kq x3_1 l0 (l0.length : Int) x9_1 = some r) ∧ Aside0 (kq ≤ k) ∧ Aside0 (Kd.R Kd.string 9 w' w.heap.size (fun _ => True) v3 x3_1) ∧ Aside0 (Below w.heap.size w w'))
 case atStart => exact ⟨(y237), (0), Sqz.auS, H', ⟨Nat.le_refl _⟩, ⟨(Sqz.mvR HO239.out)⟩, ⟨Sqz.auHB⟩⟩
 case round =>
  clear H'
  obtain ⟨x3_1, x9_1, rfl, HA, HK1, HO_3, HB⟩ := hrel; cases gk with
  | zero => exact absurd HA.out (by simp [impl_listText.l0])
  | succ k1 =>
   have H := HA.out; clear HA; simp only [impl_listText.l0] at H
   by_cases c4 : x9_1 < (l0.length : Int)
   ·rw [if_pos c4] at H; have c4b0 := decide_eq_true c4; clear c4
    by_cases c5 : 0 ≤ x9_1
    ·rw [if_pos c5] at H; have c5b0 := decide_eq_true c5; clear c5
     by_cases c6 : x9_1 < (l0.length : Int)
     ·rw [if_pos c6] at H; have c6b0 := decide_eq_true c6; clear c6; obtain ⟨t241, A7, H⟩ := Sqz.be H
      by_cases c8 : x3_1.length < 8796093022208
      ·rw [if_pos c8] at H; have LMc8 := Aside0.mk c8; clear c8; obtain ⟨y242, hyy⟩ : ∃ y_ : List ByteArray, y_ = (x3_1 ++ [t241]) := ⟨_, rfl⟩
       replace H : (impl_listText.l0 k1 y242 l0 (l0.length : Int) (wrap64 (x9_1 + 1))) = some r := Sqz.auY
       have Ny242 := Aside0.mk hyy; clear hyy; have H' := Aside0.mk H; clear H; have p240 : 0 ≤ (x9_1 : Int) := Sqz.od; have q240 : x9_1 < (l0.length : Int) := Sqz.od; obtain ⟨ad240, e240, hx240_0⟩ := Kd.at_int HR0.out x9_1 p240 q240; cases e240; replace hx240_0 := (HB.out.cell (World.block_lt_of_cell? w _ hx240_0)).trans hx240_0; replace p240 := eq_true p240; replace q240 := eq_true q240
       go_wp2_with (first | ((with_reducible refine gate_callee (f := 49) rfl ?_); refine goesL_ (some 15) rfl rfl Tryz.func49 (by kernel_rfl) rfl #[.int .i64 (rd l0 x9_1)] rfl Sqz.auM ?_; (with_reducible refine (strconv_Itoa.calls (rd l0 x9_1) t241 _ ?sideG A7.out).mono ?_); (case sideG => exact GW.below HG.out (by repeat (first | (with_reducible first | exact HB.out | apply below_alloc | apply pw_below_drewN | apply below_drew1) | exact HB.out))); rintro e w9 ⟨rfl, hb⟩; refine ⟨_, rfl, ?_⟩; replace HO_3 := Aside0.mk (Kd.R_below ((Sqz.mvR HO_3.out)) hb); replace HB := Aside0.mk (below_step (Sqz.auHB) hb); (try clear hb)) | ((with_reducible refine gate_builtin (b := .append) (xs := #[.tmp 13, .tmp 16]) rfl ?_); at_builtin; refine Kd.R_append Kd.string (w0 := w) w.heap.size rfl (.tmp 13) (.tmp 16) 54 9 (.string ⟨#[]⟩) 16 rfl Tryz.underlying54 info9 rfl (by decide) (by omega) u3 x3_1 t241 [.string t241] (fun _ => True) (fun _ => False) rfl rfl ?aP (fun _ hk => hk.elim) ?aF ?aO ?aB ?aS ?aL ?_; (case aP => exact rfl); (case aB => exact (Sqz.auHB)); (case aF => exact (fun _ _ => trivial)); (case aO => exact ((Sqz.mvR HO_3.out))); (case aS => exact (below_size (Sqz.auHB))); (case aL => have := LMc8.out; omega); intro v243 w10 ho hb hg hat; rw [← Ny242.out] at ho; replace HB := Aside0.mk (hb); have HO244 := Aside0.mk (ho); clear HO_3; clear ho hb hg hat))
       go_roundg k1
       case measure => have := HK1.out; omega
       case rel => exact ⟨(y242), (wrap64 (x9_1 + 1)), Sqz.auS, H', ⟨by have := HK1.out; omega⟩, ⟨(Sqz.mvR HO244.out)⟩, ⟨Sqz.auHB⟩⟩
      ·rw [if_neg c8] at H; exact absurd H (by simp)
     ·rw [if_neg c6] at H; exact absurd H (by simp)
    ·rw [if_neg c5] at H; exact absurd H (by simp)
   ·rw [if_neg c4] at H; have c4b0 := decide_eq_false c4; clear c4; obtain ⟨t245, A11, H⟩ := Sqz.be H; obtain rfl := Option.some.inj H; obtain ⟨Ao12, co12, eo12⟩ := Kd.R_slice HO_3.out; subst eo12
    go_wp2_with (((with_reducible refine gate_callee (f := 103) rfl ?_); refine goesL_ (some 20) rfl rfl Tryz.func103 (by kernel_rfl) rfl #[.slice Ao12 x3_1.length co12, .string (⟨#[32]⟩ : ByteArray)] rfl Sqz.auM ?_; (with_reducible refine (strings_Join.calls _ _ x3_1 (⟨#[32]⟩ : ByteArray) t245 _ ?side1 ?side2 A11.out).mono ?_); (case side1 => exact Sqz.mvC ((Kd.R_reads' HO_3.out).2.2)); (case side2 => exact (Kd.R_reads' HO_3.out).2.1); rintro e w13 ⟨rfl, hb⟩; refine ⟨_, rfl, ?_⟩; replace HO_3 := Aside0.mk (Kd.R_below ((Sqz.mvR HO_3.out)) hb); replace HB := Aside0.mk (below_step (Sqz.auHB) hb); (try clear hb)))
    go_ret
    exact ⟨Sqz.auR, Sqz.auHB⟩

/-! ### impl_command: function 48 -/
section
open Locg
/-! ### the map of a script's words -/
theorem put_word {w : World} {b n : Nat} {D : DataW Unit} (h : w.ownsMap Tryz.prog 9 (plainElem Tryz.prog 3) b n D) (hn : n < 1000) (s : ByteArray) (v : Int) (hv : (Lit.int .i64 v).wf = true) (hk : keyOf Tryz.prog 9 (.string s) = some (.string s.data.toList)) :
  ∃ w', (Instr.mapUpdate 86 (.map (some b)) (.string s) (.int .i64 v)).run Tryz.prog w = .ok () w' ∧ w'.ownsMap Tryz.prog 9 (plainElem Tryz.prog 3) b (n + 1) (D.put (.string s.data.toList) (.lit (.int .i64 v))) ∧ w.grownBy w' (some b) :=
 h.update (Maps.string_keyed Tryz.underlying9) Tryz.underlying86 (by unfold maxLen; omega) hk (plainElem_int Tryz.underlying3 hv)
def manyD : DataW Unit := ((((((((((((((((((((((DataW.map []).put (.string [116, 105, 109, 101, 115]) (.lit (.int .i64 2)))).put (.string [99, 111, 114, 101, 115]) (.lit (.int .i64 1)))).put (.string [115, 104, 111, 119]) (.lit (.int .i64 1)))).put (.string [100, 105, 115, 99]) (.lit (.int .i64 1)))).put (.string [115, 121, 109, 98, 111, 108]) (.lit (.int .i64 4)))).put (.string [97, 116]) (.lit (.int .i64 2)))).put (.string [98, 97, 100]) (.lit (.int .i64 1)))).put (.string [122, 101, 114, 111]) (.lit (.int .i64 1)))).put (.string [118, 97, 108, 117, 101]) (.lit (.int .i64 2)))).put (.string [112, 108, 97, 110, 101, 115]) (.lit (.int .i64 1)))).put (.string [115, 113, 117, 97, 114, 101, 115]) (.lit (.int .i64 2)))
/-- The worlds through which the map is laid. -/
theorem many_lays (w : World) : ∃ w1 w2 w3 w4 w5 w6 w7 w8 w9 w10 w11 : World, 
  (Instr.mapUpdate 86 (.map (some w.heap.size)) (.string ⟨#[116, 105, 109, 101, 115]⟩) (.int .i64 2)).run Tryz.prog (w.alloc (.map #[] 0)) = .ok () w1 ∧
  (Instr.mapUpdate 86 (.map (some w.heap.size)) (.string ⟨#[99, 111, 114, 101, 115]⟩) (.int .i64 1)).run Tryz.prog (w1) = .ok () w2 ∧
  (Instr.mapUpdate 86 (.map (some w.heap.size)) (.string ⟨#[115, 104, 111, 119]⟩) (.int .i64 1)).run Tryz.prog (w2) = .ok () w3 ∧
  (Instr.mapUpdate 86 (.map (some w.heap.size)) (.string ⟨#[100, 105, 115, 99]⟩) (.int .i64 1)).run Tryz.prog (w3) = .ok () w4 ∧
  (Instr.mapUpdate 86 (.map (some w.heap.size)) (.string ⟨#[115, 121, 109, 98, 111, 108]⟩) (.int .i64 4)).run Tryz.prog (w4) = .ok () w5 ∧
  (Instr.mapUpdate 86 (.map (some w.heap.size)) (.string ⟨#[97, 116]⟩) (.int .i64 2)).run Tryz.prog (w5) = .ok () w6 ∧
  (Instr.mapUpdate 86 (.map (some w.heap.size)) (.string ⟨#[98, 97, 100]⟩) (.int .i64 1)).run Tryz.prog (w6) = .ok () w7 ∧
  (Instr.mapUpdate 86 (.map (some w.heap.size)) (.string ⟨#[122, 101, 114, 111]⟩) (.int .i64 1)).run Tryz.prog (w7) = .ok () w8 ∧
  (Instr.mapUpdate 86 (.map (some w.heap.size)) (.string ⟨#[118, 97, 108, 117, 101]⟩) (.int .i64 2)).run Tryz.prog (w8) = .ok () w9 ∧
  (Instr.mapUpdate 86 (.map (some w.heap.size)) (.string ⟨#[112, 108, 97, 110, 101, 115]⟩) (.int .i64 1)).run Tryz.prog (w9) = .ok () w10 ∧
  (Instr.mapUpdate 86 (.map (some w.heap.size)) (.string ⟨#[115, 113, 117, 97, 114, 101, 115]⟩) (.int .i64 2)).run Tryz.prog (w10) = .ok () w11 ∧
  w11.ownsMap Tryz.prog 9 (plainElem Tryz.prog 3) w.heap.size 11 manyD ∧ Below w.heap.size w w11 := by
 have h0 := World.ownsMap_made w Tryz.prog 9 (plainElem (H := Unit) Tryz.prog 3); have b0 : Below w.heap.size w (w.alloc (.map #[] 0)) := (Below.refl _ w).alloc (Nat.le_refl _) _; obtain ⟨w1, r1, h1, g1⟩ := put_word h0 (by omega) ⟨#[116, 105, 109, 101, 115]⟩ 2 (by decide) (by kernel_rfl); have b1 := b0.grown g1 (by have := b0.size; omega) (fun k hk => by injection hk with hk; omega); obtain ⟨w2, r2, h2, g2⟩ := put_word h1 (by omega) ⟨#[99, 111, 114, 101, 115]⟩ 1 (by decide) (by kernel_rfl); have b2 := b1.grown g2 (by have := b1.size; omega) (fun k hk => by injection hk with hk; omega); obtain ⟨w3, r3, h3, g3⟩ := put_word h2 (by omega) ⟨#[115, 104, 111, 119]⟩ 1 (by decide) (by kernel_rfl); have b3 := b2.grown g3 (by have := b2.size; omega) (fun k hk => by injection hk with hk; omega); obtain ⟨w4, r4, h4, g4⟩ := put_word h3 (by omega) ⟨#[100, 105, 115, 99]⟩ 1 (by decide) (by kernel_rfl); have b4 := b3.grown g4 (by have := b3.size; omega) (fun k hk => by injection hk with hk; omega); obtain ⟨w5, r5, h5, g5⟩ := put_word h4 (by omega) ⟨#[115, 121, 109, 98, 111, 108]⟩ 4 (by decide) (by kernel_rfl); have b5 := b4.grown g5 (by have := b4.size; omega) (fun k hk => by injection hk with hk; omega); obtain ⟨w6, r6, h6, g6⟩ := put_word h5 (by omega) ⟨#[97, 116]⟩ 2 (by decide) (by kernel_rfl); have b6 := b5.grown g6 (by have := b5.size; omega) (fun k hk => by injection hk with hk; omega); obtain ⟨w7, r7, h7, g7⟩ := put_word h6 (by omega) ⟨#[98, 97, 100]⟩ 1 (by decide) (by kernel_rfl); have b7 := b6.grown g7 (by have := b6.size; omega) (fun k hk => by injection hk with hk; omega); obtain ⟨w8, r8, h8, g8⟩ := put_word h7 (by omega) ⟨#[122, 101, 114, 111]⟩ 1 (by decide) (by kernel_rfl); have b8 := b7.grown g8 (by have := b7.size; omega) (fun k hk => by injection hk with hk; omega); obtain ⟨w9, r9, h9, g9⟩ := put_word h8 (by omega) ⟨#[118, 97, 108, 117, 101]⟩ 2 (by decide) (by kernel_rfl); have b9 := b8.grown g9 (by have := b8.size; omega) (fun k hk => by injection hk with hk; omega); obtain ⟨w10, r10, h10, g10⟩ := put_word h9 (by omega) ⟨#[112, 108, 97, 110, 101, 115]⟩ 1 (by decide) (by kernel_rfl); have b10 := b9.grown g10 (by have := b9.size; omega) (fun k hk => by injection hk with hk; omega); obtain ⟨w11, r11, h11, g11⟩ := put_word h10 (by omega) ⟨#[115, 113, 117, 97, 114, 101, 115]⟩ 2 (by decide) (by kernel_rfl); have b11 := b10.grown g11 (by have := b10.size; omega) (fun k hk => by injection hk with hk; omega); exact ⟨w1, w2, w3, w4, w5, w6, w7, w8, w9, w10, w11, r1, r2, r3, r4, r5, r6, r7, r8, r9, r10, r11, h11, b11⟩
theorem look_word {w : World} {b n : Nat} (h : w.ownsMap Tryz.prog 9 (plainElem Tryz.prog 3) b n manyD) (s : ByteArray) (v : Int) (hk : keyOf Tryz.prog 9 (.string s) = some (.string s.data.toList)) (hv : manyD.atKey (.string s.data.toList) (.lit (.int .i64 0)) = .lit (.int .i64 v)) :
  (Instr.lookup 86 (.map (some b)) (.string s) false).run Tryz.prog w = .ok (.int .i64 v) w := by
 obtain ⟨c, hr, hc, _⟩ := h.lookup_int (Maps.string_keyed Tryz.underlying9) Tryz.underlying86 Tryz.underlying3 (Tryz.zeroValue3 w) hk; have e := hv.symm.trans hc; simp only [DataW.lit.injEq, Lit.int.injEq, true_and] at e; rw [hr, e]
/-! ### a script -/
def FormAt (base F : Nat) (form : List Int) (w : World) : Prop := base ≤ F ∧ ∃ v, w.heap[F]? = some (.cells #[v] 27 (0, 0)) ∧ w.ownsRow base 3 1 v form.length (nums .i64 form)
structure KeepF (F : Nat) (w w' : World) : Prop where
 os : w'.os = w.os
 tape : w'.tape = w.tape
 output : w'.output = w.output
 size : w.heap.size ≤ w'.heap.size
 block : ∀ k, k < w.heap.size → k ≠ F → w'.heap[k]? = w.heap[k]?
theorem KeepF.of_below {F : Nat} {w w' : World} (h : Below w.heap.size w w') : KeepF F w w' := ⟨h.os, h.tape, h.output, h.size, fun k hk _ => h.block k hk⟩
theorem FormAt.keep {base F : Nat} {form : List Int} {w w' : World} (h : FormAt base F form w) (hs : ∀ k, k < w.heap.size → (∀ cells, w.heap[k]? ≠ some (.cells cells 5 (0, 0))) → w'.heap[k]? = w.heap[k]?) : FormAt base F form w' := by
 obtain ⟨h0, v, hv, ho⟩ := h; refine ⟨h0, v, (hs F (lt_of_block hv) (fun cells e => by rw [hv] at e; injection e with e; injection e with _ e; revert e; decide)).trans hv, own_move ho (fun k hk => ?_)⟩; obtain ⟨cells, hc⟩ := own_typed ho k hk; exact hs k (lt_of_block hc) (fun cells e => by rw [hc] at e; injection e with e; injection e with _ e; revert e; decide)
theorem FormAt.below {base F : Nat} {form : List Int} {w w' : World} (h : FormAt base F form w) (hb : Below w.heap.size w w') : FormAt base F form w' := h.keep (fun k hk _ => hb.block k hk)
structure ExAt (w0 : World) (F Bd Lr : Nat) (lines : List ByteArray) (form : List Int) (out : List UInt8) (w : World) : Prop where
 bl : Below w0.heap.size w0 w
 fm : FormAt w0.heap.size F form w
 bd : Lib.IsBuilder 53 5 w0.heap.size Bd (Lib.byteCells out) w
 ln : w.heap[Lr]? = some (.cells (lines.map Value.string).toArray 9 (0, 0))
 hF : F ≠ Bd
 hL : w0.heap.size ≤ Lr
theorem bd_keep {B b : Nat} {bs : List Value} {w w' : World} (h : Lib.IsBuilder 53 5 B b bs w) (hs : ∀ k, k < w.heap.size → (∀ cells, w.heap[k]? ≠ some (.cells cells 27 (0, 0))) → w'.heap[k]? = w.heap[k]?) : Lib.IsBuilder 53 5 B b bs w' := by
 have key : ∀ p, Lib.BuilderAt 53 5 B b p bs w → Lib.BuilderAt 53 5 B b p bs w' := by
  rintro p ⟨h1, v, hv, ho, hn⟩; refine ⟨h1, v, (hs b (lt_of_block hv) (fun cells e => by rw [hv] at e; injection e with e; injection e with _ e; revert e; decide)).trans hv, own_move ho (fun k hk => ?_), hn⟩; obtain ⟨cells, hc⟩ := own_typed ho k hk; exact hs k (lt_of_block hc) (fun cells e => by rw [hc] at e; injection e with e; injection e with _ e; revert e; decide)
 rcases h with h | h
 ·exact .inl (key _ h)
 ·exact .inr (key _ h)
theorem ExAt.below {w0 w w' : World} {F Bd Lr : Nat} {lines : List ByteArray} {form : List Int} {out : List UInt8} (h : ExAt w0 F Bd Lr lines form out w) (hb : Below w.heap.size w w') : ExAt w0 F Bd Lr lines form out w' :=
 ⟨h.bl.trans (hb.mono h.bl.size), h.fm.below hb, bd_keep h.bd (fun k hk _ => hb.block k hk), (hb.block Lr (lt_of_block h.ln)).trans h.ln, h.hF, h.hL⟩
/-- A line has turned the form. -/
theorem ExAt.line {w0 w w' : World} {F Bd Lr : Nat} {lines : List ByteArray} {form form' : List Int} {out : List UInt8} (h : ExAt w0 F Bd Lr lines form out w) (hk : KeepF F w w') (hf : FormAt w0.heap.size F form' w') : ExAt w0 F Bd Lr lines form' out w' := by
 have hF0 := h.fm.1; obtain ⟨_, v, hv, _⟩ := h.fm; refine ⟨h.bl.trans ⟨hk.os, hk.tape, hk.output, hk.size, fun k hkk => hk.block k (Nat.lt_of_lt_of_le hkk h.bl.size) (by omega)⟩, hf, bd_keep h.bd (fun k hkk hty => hk.block k hkk (fun e => by subst e; exact hty _ hv)), (hk.block Lr (lt_of_block h.ln) (fun e => ?_)).trans h.ln, h.hF, h.hL⟩; have e1 := h.ln; rw [e, hv] at e1; injection e1 with e1
 injection e1 with _ e1
 revert e1; decide
/-- The builder has been written. -/
theorem ExAt.wrote {w0 w w' : World} {F Bd Lr : Nat} {lines : List ByteArray} {form : List Int} {out : List UInt8} {s : ByteArray} (h : ExAt w0 F Bd Lr lines form out w) (hb : Below w0.heap.size w w') (hk : KeepB Bd w w') (hd : Lib.BuilderAt 53 5 w0.heap.size Bd (.pointer (some ⟨Bd, 0, none⟩)) (Lib.byteCells out ++ Lib.strCells s) w') : ExAt w0 F Bd Lr lines form (out ++ s.data.toList) w' := by
 obtain ⟨h0, v, hv, ho⟩ := h.fm
 have hbd : w.heap[Bd]? ≠ none ∧ ∀ c t, w.heap[Bd]? = some (.cells c t (0, 0)) → t = 53 := by
  rcases h.bd with ⟨_, u, hu, _⟩ | ⟨_, u, hu, _⟩ <;> exact ⟨by rw [hu]; simp, fun c t e => by rw [hu] at e; injection e with e; injection e with _ e; exact e.symm⟩
 have hty : ∀ (k : Nat) (c : Array Value) (t : TypeId), t ≠ 5 → t ≠ 53 → w.heap[k]? = some (Obj.cells c t (0, 0)) → w'.heap[k]? = w.heap[k]? := by
  intro k c t h1 h2 e; refine hk.block k (lt_of_block e) (fun ek => ?_) (fun cells e2 => ?_)
  ·subst ek; exact h2 (hbd.2 c t e)
  ·rw [e] at e2; injection e2 with e2; injection e2 with _ e2; exact h1 e2
 refine ⟨h.bl.trans hb, ⟨h0, v, (hty F _ _ (by decide) (by decide) hv).trans hv, own_move ho (fun k hkk => ?_)⟩, .inr (by rw [Lib.byteCells_append, ← Lib.strCells_eq]; exact hd), (hty Lr _ _ (by decide) (by decide) h.ln).trans h.ln, h.hF, h.hL⟩; obtain ⟨cells, hc⟩ := own_typed ho k hkk; exact hty k _ _ (by decide) (by decide) hc
/-! ### a line of a script: a form -/
/-- A form's cell is stored anew. -/
theorem FormAt.turned {base F : Nat} {form l : List Int} {w : World} {v : Value} (h : FormAt base F form w) (ho : w.ownsRow base 3 1 v l.length (nums .i64 l)) : FormAt base F l (w.setCell ⟨F, 0, none⟩ v) := by
 obtain ⟨h0, u, hu, _⟩ := h; refine ⟨h0, v, ?_, own_move ho (fun k hk => ?_)⟩
 ·rw [blk_set hu 0 v]; rfl
 ·obtain ⟨cells, hc⟩ := own_typed ho k hk; refine Below.heap_setCell _ _ _ _ (fun e => ?_); subst e; rw [hu] at hc; injection hc with hc
  injection hc with _ hc
  revert hc; decide
theorem FormAt.parts {base F : Nat} {form : List Int} {w : World} (h : FormAt base F form w) : ∃ A c, w.heap[F]? = some (.cells #[.slice A form.length c] 27 (0, 0)) ∧ Kd.C (Kd.int .i64) w A form.length form ∧ form.length ≤ c := by
 obtain ⟨_, v, hv, ho⟩ := h; have hR : Kd.R (Kd.int .i64) 3 w base (fun _ => True) v form := Kd.R_of_own (by simpa [encs, nums] using ho) (fun _ _ => trivial); obtain ⟨A, c, rfl⟩ := Kd.R_slice hR; exact ⟨A, c, hv, (Kd.R_reads' hR).2.2, (Kd.R_reads' hR).2.1⟩
theorem KeepF.turned {F : Nat} {w w' : World} {v : Value} (hb : Below w.heap.size w w') : KeepF F w (w'.setCell ⟨F, 0, none⟩ v) := by
 refine ⟨hb.os, hb.tape, hb.output, ?_, fun k hk hne => (Below.heap_setCell _ _ _ _ hne).trans (hb.block k hk)⟩; rw [show (w'.setCell ⟨F, 0, none⟩ v).heap.size = w'.heap.size by simp [World.setCell]]; exact hb.size
theorem become_ok (F : Nat) (A : Option Addr) (n c : Nat) (u : Value) (w : World) (hF : w.heap[F]? = some (.cells #[u] 27 (0, 0))) :
  Calls Tryz.prog 97 #[.pointer (some ⟨F, 0, none⟩), .slice A n c, .bool true] w fun e w' => e = .returned (.string ⟨#[111, 107]⟩) ∧ w' = w.setCell ⟨F, 0, none⟩ (.slice A n c) := by
 have hc := cell_of_one hF; have hz : w.frozen? ⟨F, 0, none⟩ = false := by simp [World.frozen?, hF]
 go_enter Tryz.func97, Tryz.ntmps97
 go_wp2; go_ret
 exact ⟨rfl, rfl⟩
theorem become_no (F : Nat) (A : Option Addr) (n c : Nat) (w : World) :
  Calls Tryz.prog 97 #[.pointer (some ⟨F, 0, none⟩), .slice A n c, .bool false] w fun e w' => e = .returned (.string ⟨#[110, 111]⟩) ∧ w' = w := by
 go_enter Tryz.func97, Tryz.ntmps97
 go_wp2; go_ret
 exact ⟨rfl, rfl⟩
def kForm : ByteArray := ⟨#[102, 111, 114, 109]⟩
/-- The numbers that words tell. -/
def numsOf (k : Nat) : List ByteArray → Option (List Int)
 | [] => some []
 | x :: xs => (impl_numberOf.f k x).bind fun n => (numsOf k xs).bind fun l => some (n :: l)
set_option maxHeartbeats 4000000 in
set_option maxRecDepth 100000 in
theorem cmd_form (k : Nat) (base F : Nat) (A0 : Option Addr) (c0 : Nat) (ws : List ByteArray) (l form : List Int) (b : Bool) (w : World) (hw : Kd.C Kd.string w A0 (kForm :: ws).length (kForm :: ws)) (hc : (kForm :: ws).length ≤ c0) (h1 : 1 ≤ ws.length) (hl : ws.length ≤ 1000000)
  (hF : FormAt base F form w) (hb : base ≤ w.heap.size) (hn : numsOf k ws = some l) (hv : impl_FormValid.f k l = some b) :
  Calls Tryz.prog 48 #[.pointer (some ⟨F, 0, none⟩), .slice A0 (kForm :: ws).length c0] w fun e w' => e = .returned (.string (if b = true then ⟨#[111, 107]⟩ else ⟨#[110, 111]⟩)) ∧ FormAt base F (if b = true then l else form) w' ∧ KeepF F w w' := by
 obtain ⟨ad0, e0, h0⟩ := Kd.at_string hw 0 (by omega) (by simp); cases e0; have H0 : w.cell? ad0 = some (.string ⟨#[102, 111, 114, 109]⟩) := h0; have hlen : (kForm :: ws).length = ws.length + 1 := rfl; have HW := Aside0.mk hw; have HF := Aside0.mk hF; have HN := Aside0.mk hn; have HV := Aside0.mk hv; have HB0 := Aside0.mk hb; have HL := Aside0.mk (And.intro h1 hl); have HC := Aside0.mk hc; obtain ⟨w1, w2, w3, w4, w5, w6, w7, w8, w9, w10, w11, r1, r2, r3, r4, r5, r6, r7, r8, r9, r10, r11, hM, hB⟩ := many_lays w; have hmk : (Instr.makeMap 86 none).run Tryz.prog w = .ok (.map (some w.heap.size)) (w.alloc (.map #[] 0)) := run_makeMap _ w; have K0 : w11.cell? ad0 = some (.string ⟨#[102, 111, 114, 109]⟩) := (hB.cell (World.block_lt_of_cell? w _ H0)).trans H0; have HB := Aside0.mk hB; obtain ⟨i9, hi9, hs9⟩ := Option.map_eq_some_iff.1 (show (Tryz.prog.info? 9).map (fun i => i.size) = some 1 by kernel_rfl)
 have hcut : ∀ W : World, (Instr.slice 54 (.slice (some ad0) (ws.length + 1) c0) (some (.int .i64 1)) none none).run Tryz.prog W = .ok (.slice (some (ad0.add 1)) ws.length (c0 - 1)) W := by
  intro W; have h := cut_from (P := Tryz.prog) 54 9 .i64 Tryz.underlying54 hi9 1 hs9 (some ad0) (ws.length + 1) c0 1 (by omega) (by omega) W; rw [if_neg (show ¬ c0 = (1 : Int).toNat by rw [hlen] at hc; omega)] at h
  simpa using h
 have c1 : decide (1 < ((ws.length + 1 : Nat) : Int)) = true := decide_eq_true (by omega); have c2 : decide ((1 : Int) < (ws.length : Int) + 1) = true := decide_eq_true (by omega); rw [hlen]; clear hi9 hs9 hM hB H0 h0 hw hF hn hv hb h1 hl hc
 go_enter Tryz.func48, Tryz.ntmps48
 go_wp2_with (((with_reducible refine gate_dst (N := 32) rfl ?_); refine Kd.R_lit (Kd.int .i64) _ 3 ?hg (N := 32) ?hd (xs := ([] : List Int)) (inner := []) (ok := fun _ => True) (okp := fun _ => True) ?hr ?hp (fun _ hk => hk) trivial (Below.refl _ _) (Nat.le_refl _) (by simp) ?_; (case hd => rfl); (case hg => rfl); (case hr => first | (go_simp; done) | (go_simp; rfl)); (case hp => exact (Reps.none _ _)); intro v12 w12 ho hb hg_ hnew_; clear hg_ hnew_ K0; have HO := Aside0.mk (Kd.R_lower ho (below_size (Sqz.auHB))); replace HB := Aside0.mk (below_step (Sqz.auHB) hb); clear hb ho))
 have hw0 : wrap64 (((ws.length : Nat)) : Int) = ws.length := w64 (by have := HL.out; omega) (by have := HL.out; omega)
 go_loopg [6, 36] ws.length (fun kq v6 v36 wr => ∃ (acc : List Int) (i : Int) (rest : List Int), v36 = .int .i64 i ∧ Aside0 (i + (kq : Int) = ws.length ∧ 0 ≤ i ∧ acc.length = i.toNat) ∧ Aside0 (numsOf k (ws.drop i.toNat) = some rest ∧ acc ++ rest = l) ∧ Aside0 (Kd.R (Kd.int .i64) 3 wr w.heap.size (fun _ => True) v6 acc) ∧ Aside0 (Below w.heap.size w wr))
 case atStart => exact ⟨[], 0, l, rfl, ⟨by omega, by omega, rfl⟩, ⟨HN.out, rfl⟩, ⟨(Sqz.mvR HO.out)⟩, ⟨Sqz.auHB⟩⟩
 case round =>
  clear HO HB; obtain ⟨acc, i, rest, rfl, HI, HA, HO, HB⟩ := hrel
  by_cases c3 : i < (ws.length : Int)
  ·have c3b := decide_eq_true c3; have hil : i.toNat < ws.length := by have := HI.out; omega
   have ha := HA.out; rw [List.drop_eq_getElem_cons hil] at ha; simp only [numsOf] at ha; obtain ⟨n, hn, ha1⟩ := Option.bind_eq_some_iff.mp ha.1; obtain ⟨rest2, hr2, ha2⟩ := Option.bind_eq_some_iff.mp ha1; obtain rfl := Option.some.inj ha2; have HN1 := Aside0.mk hn; have HR2 := Aside0.mk (And.intro hr2 ha.2); obtain ⟨adx, ex, hx⟩ := Kd.at_string HW.out (i + 1) (by have := HI.out; omega) (by rw [hlen]; omega); cases ex
   have hcell : wr.cell? ⟨ad0.block, ad0.off + 1 + i.toNat, none⟩ = some (.string ws[i.toNat]) := by
    have e1 : (⟨ad0.block, ad0.off + 1 + i.toNat, none⟩ : Addr) = ad0.add (i + 1).toNat := by
     have := HI.out; rw [show (i + 1).toNat = 1 + i.toNat by omega]
     simp [Addr.add, Nat.add_assoc]
    have e2 : rdOf ByteArray.empty (kForm :: ws) (i + 1) = ws[i.toNat] := by
     unfold rdOf
     rw [show (i + 1).toNat = i.toNat + 1 by have := HI.out; omega]
     simp [List.getD_eq_getElem?_getD, hil]
    rw [e1, HB.out.cell (World.block_lt_of_cell? w _ hx), hx, e2]
   have p0 : (0 ≤ i) = True := eq_true HI.out.2.1; have p1 : (i < (ws.length : Int)) = True := eq_true c3; have wi : wrap64 (i + 1) = i + 1 := w64 (by have := HI.out; omega) (by have := HI.out; have := HL.out; omega); have LM := Aside0.mk (show acc.length < 17592186044416 by have := HI.out; have := HL.out; omega); clear ha ha1 hn hr2 hx c3
   go_wp2_with (first | (go_at_call 96; with_reducible refine (impl_numberOf.calls k _ n _ HN1.out).mono ?_; rintro e w' ⟨rfl, ⟨nd, rfl⟩⟩) | ((with_reducible refine gate_builtin (b := .append) (xs := #[.tmp 40, .tmp 43]) rfl ?_); at_builtin; refine Kd.R_append (Kd.int .i64) (w0 := w) w.heap.size rfl (.tmp 40) (.tmp 43) 27 3 (.int .i64 0) 8 rfl Tryz.underlying27 info3 rfl (by decide) (by omega) u6 acc n [.int .i64 n] (fun _ => True) (fun _ => False) rfl rfl ?aP (fun _ hk => hk.elim) ?aF ?aO ?aB ?aS ?aL ?_; (case aP => exact rfl); (case aB => exact (Sqz.auHB)); (case aF => exact (fun _ _ => trivial)); (case aO => exact ((Sqz.mvR HO.out))); (case aS => exact (below_size (Sqz.auHB))); (case aL => have := LM.out; omega); intro v133 w133 ho hb hg hat; have HO2 := Aside0.mk ho; have HB2 := Aside0.mk hb; clear HO HB ho hb hg hat))
   obtain ⟨k1, hk1⟩ : ∃ k1, gk = k1 + 1 := ⟨gk - 1, by have := HI.out; have := of_decide_eq_true c3b; omega⟩
   go_roundg k1
   case measure => omega
   case rel => exact ⟨acc ++ [n], i + 1, rest2, by rw [wi], ⟨by have := HI.out; rw [List.length_append]; simp; omega⟩, ⟨by have := HI.out; rw [show (i + 1).toNat = i.toNat + 1 by omega]; exact HR2.out.1, by have := HR2.out.2; simpa using this⟩, ⟨(Sqz.mvR HO2.out)⟩, HB2⟩
  ·have c3b := decide_eq_false c3; have hi : i.toNat = ws.length := by have := HI.out; omega
   have ha := HA.out; rw [hi, List.drop_length] at ha; simp only [numsOf, Option.some.injEq] at ha; obtain ⟨ha1, ha2⟩ := ha; subst ha1; rw [List.append_nil] at ha2; subst ha2; obtain ⟨Ao, co, eo⟩ := Kd.R_slice HO.out; subst eo; clear c3 hi; cases b
   ·go_wp2_with (first | (go_at_call 59; refine (impl_FormValid.calls k _ _ acc false _ ?s1 ?s2 HV.out).mono ?_; (case s1 => exact Sqz.mvC ((Kd.R_reads' HO.out).2.2)); (case s2 => exact (Kd.R_reads' HO.out).2.1); rintro e w13 ⟨rfl, hb⟩; replace HB := Aside0.mk (below_step (Sqz.auHB) hb); clear hb) | (go_at_call 97; refine (become_no F _ _ _ _).mono ?_; rintro e w14 ⟨rfl, rfl⟩))
    go_ret
    exact ⟨rfl, HF.out.below HB.out, KeepF.of_below HB.out⟩
   ·go_wp2_with (first | (go_at_call 59; refine (impl_FormValid.calls k _ _ acc true _ ?s1 ?s2 HV.out).mono ?_; (case s1 => exact Sqz.mvC ((Kd.R_reads' HO.out).2.2)); (case s2 => exact (Kd.R_reads' HO.out).2.1); rintro e w13 ⟨rfl, hb⟩; have HO3 := Aside0.mk (Kd.R_below ((Sqz.mvR HO.out)) hb); replace HB := Aside0.mk (below_step (Sqz.auHB) hb); clear hb) | (go_at_call 97; refine (become_ok F _ _ _ _ _ (HF.out.below HB.out).2.choose_spec.1).mono ?_; rintro e w14 ⟨rfl, rfl⟩))
    go_ret
    exact ⟨rfl, (HF.out.below HB.out).turned (Kd.own_of_R (Kd.R_lower (Sqz.mvR HO3.out) HB0.out)), KeepF.turned HB.out⟩
/-! ### a line of a script: a value -/
def kValue : ByteArray := ⟨#[118, 97, 108, 117, 101]⟩
def valText (t u : ByteArray) : ByteArray := (t ++ (⟨#[32, 47, 32]⟩ : ByteArray)) ++ u
set_option maxHeartbeats 8000000 in
set_option maxRecDepth 100000 in
theorem cmd_value (k base F : Nat) (A0 : Option Addr) (c0 : Nat) (s : ByteArray) (form : List Int) (n : Int) (l : List Int) (d : Int) (b : Bool) (t u : ByteArray) (w : World) (hG : GW w) (hw : Kd.C Kd.string w A0 ([kValue, s] : List ByteArray).length [kValue, s]) (hc : ([kValue, s] : List ByteArray).length ≤ c0)
  (hF : FormAt base F form w) (hn : impl_numberOf.f k s = some n) (hf : impl_ValueFind.f k form n = some (l, d, b)) (ht : b = true → impl_listText.f k l = some t ∧ strconv_Itoa.f d = some u ∧ t.size ≤ 1000000 ∧ u.size ≤ 1000000) :
  Calls Tryz.prog 48 #[.pointer (some ⟨F, 0, none⟩), .slice A0 ([kValue, s] : List ByteArray).length c0] w fun e w' => e = .returned (.string (if b = true then valText t u else ⟨#[110, 111]⟩)) ∧ Below w.heap.size w w' := by
 obtain ⟨ad0, e0, h0⟩ := Kd.at_string hw 0 (by omega) (by simp); obtain ⟨ad1, e1, h1⟩ := Kd.at_string hw 1 (by omega) (by simp); cases e0; cases e1; have H0 : w.cell? ad0 = some (.string ⟨#[118, 97, 108, 117, 101]⟩) := h0; have H1 : w.cell? ⟨ad0.block, ad0.off + 1, none⟩ = some (.string s) := h1; have HG := Aside0.mk hG; have HF := Aside0.mk hF; have HN := Aside0.mk hn; have HV := Aside0.mk hf; have HT := Aside0.mk ht; obtain ⟨w1, w2, w3, w4, w5, w6, w7, w8, w9, w10, w11, r1, r2, r3, r4, r5, r6, r7, r8, r9, r10, r11, hM, hB⟩ := many_lays w; have hlook := look_word hM ⟨#[118, 97, 108, 117, 101]⟩ 2 (by kernel_rfl) (by kernel_rfl); have hmk : (Instr.makeMap 86 none).run Tryz.prog w = .ok (.map (some w.heap.size)) (w.alloc (.map #[] 0)) := run_makeMap _ w; have K0 : w11.cell? ad0 = some (.string ⟨#[118, 97, 108, 117, 101]⟩) := (hB.cell (World.block_lt_of_cell? w _ H0)).trans H0; have K1 : w11.cell? ⟨ad0.block, ad0.off + 1, none⟩ = some (.string s) := (hB.cell (World.block_lt_of_cell? w _ H1)).trans H1; obtain ⟨Af, cf, hf1, hf2, hf3⟩ := (hF.below hB).parts; have KF : w11.cell? ⟨F, 0, none⟩ = some (.slice Af form.length cf) := cell_of_one hf1; have HC := Aside0.mk (And.intro hf2 hf3); have HB := Aside0.mk hB; clear hM hB H0 h0 H1 h1 hw hG hF hf1 hf2 hf3 hn hf ht; cases b
 ·go_enter Tryz.func48, Tryz.ntmps48
  go_wp2_with fail
  go_region_with (first | (go_at_call 96; with_reducible refine (impl_numberOf.calls k s n _ HN.out).mono ?_; rintro e w' ⟨rfl, ⟨nd, rfl⟩⟩) | (go_at_call 40; refine (impl_ValueFind.calls k _ _ form n l d false _ ?s1 ?s2 HV.out).mono ?_; (case s1 => exact Sqz.mvC HC.out.1); (case s2 => exact HC.out.2); rintro e w13 ⟨v13, rfl, ho, hb⟩; have HO := Aside0.mk (Kd.R_lower ho (below_size (Sqz.auHB))); replace HB := Aside0.mk (below_step (Sqz.auHB) hb); clear hb ho K0 K1 KF; obtain ⟨Ao, co, eo⟩ := Kd.R_slice HO.out; subst eo))
  all_goals
   go_wp2_with fail
   go_ret
   exact ⟨rfl, HB.out⟩
 ·obtain ⟨ht1, ht2, ht3, ht4⟩ := HT.out rfl; have HT1 := Aside0.mk ht1; have HT2 := Aside0.mk ht2; have hs1 : t.size + (⟨#[32, 47, 32]⟩ : ByteArray).size ≤ 9223372036854775807 := by show t.size + 3 ≤ _; omega
  have hs2 : (t ++ (⟨#[32, 47, 32]⟩ : ByteArray)).size + u.size ≤ 9223372036854775807 := by
   rw [ByteArray.size_append]
   show t.size + 3 + u.size ≤ _
   omega
  clear HT ht1 ht2 ht3 ht4
  go_enter Tryz.func48, Tryz.ntmps48
  go_wp2_with fail
  go_region_with (first | (go_at_call 96; with_reducible refine (impl_numberOf.calls k s n _ HN.out).mono ?_; rintro e w' ⟨rfl, ⟨nd, rfl⟩⟩) | (go_at_call 40; refine (impl_ValueFind.calls k _ _ form n l d true _ ?s1 ?s2 HV.out).mono ?_; (case s1 => exact Sqz.mvC HC.out.1); (case s2 => exact HC.out.2); rintro e w13 ⟨v13, rfl, ho, hb⟩; have HO := Aside0.mk (Kd.R_lower ho (below_size (Sqz.auHB))); replace HB := Aside0.mk (below_step (Sqz.auHB) hb); clear hb ho K0 K1 KF; obtain ⟨Ao, co, eo⟩ := Kd.R_slice HO.out; subst eo))
  all_goals
   go_wp2_with (first | (go_at_call 99; refine (impl_listText.calls k _ _ l t _ ?s0 ?s1 ?s2 HT1.out).mono ?_; (case s0 => exact GW.below HG.out (Sqz.auHB)); (case s1 => exact Sqz.mvC ((Kd.R_reads' HO.out).2.2)); (case s2 => exact (Kd.R_reads' HO.out).2.1); rintro e w15 ⟨rfl, hb⟩; replace HB := Aside0.mk (below_step (Sqz.auHB) hb); clear hb) | (go_at_call 49; refine (strconv_Itoa.calls d u _ ?s0 HT2.out).mono ?_; (case s0 => exact GW.below HG.out (Sqz.auHB)); rintro e w14 ⟨rfl, hb⟩; replace HB := Aside0.mk (below_step (Sqz.auHB) hb); clear hb))
   go_ret
   exact ⟨rfl, HB.out⟩
/-- The line 'form': the form and the answer behind it. -/
def lineForm (k : Nat) (form : List Int) (ws : List ByteArray) : Option (List Int × ByteArray) := if 1 ≤ ws.length ∧ ws.length ≤ 1000000 then (numsOf k ws).bind fun l => (impl_FormValid.f k l).bind fun b => some (if b = true then l else form, if b = true then ⟨#[111, 107]⟩ else ⟨#[110, 111]⟩) else none
theorem lineForm.calls (k base F : Nat) (A0 : Option Addr) (c0 : Nat) (form : List Int) (ws : List ByteArray) (r1 : List Int) (r2 : ByteArray) (w : World) (hw : Kd.C Kd.string w A0 (kForm :: ws).length (kForm :: ws)) (hc : (kForm :: ws).length ≤ c0) (hF : FormAt base F form w) (hb : base ≤ w.heap.size) (h : lineForm k form ws = some (r1, r2)) :
  Calls Tryz.prog 48 #[.pointer (some ⟨F, 0, none⟩), .slice A0 (kForm :: ws).length c0] w fun e w' => e = .returned (.string r2) ∧ FormAt base F r1 w' ∧ KeepF F w w' := by
 unfold lineForm at h
 by_cases c : 1 ≤ ws.length ∧ ws.length ≤ 1000000
 ·rw [if_pos c] at h; obtain ⟨l, hn, h⟩ := Option.bind_eq_some_iff.mp h; obtain ⟨b, hv, h⟩ := Option.bind_eq_some_iff.mp h; simp only [Option.some.injEq, Prod.mk.injEq] at h; obtain ⟨rfl, rfl⟩ := h; exact cmd_form k base F A0 c0 ws l form b w hw hc c.1 c.2 hF hb hn hv
 ·rw [if_neg c] at h; cases h
/-! ### a line of a script -/
def lineValue (k : Nat) (form : List Int) (s : ByteArray) : Option (List Int × ByteArray) := (impl_numberOf.f k s).bind fun n => (impl_ValueFind.f k form n).bind fun q => if q.2.2 = true then (impl_listText.f k q.1).bind fun t => (strconv_Itoa.f q.2.1).bind fun u => if t.size ≤ 1000000 ∧ u.size ≤ 1000000 then some (form, valText t u) else none else some (form, ⟨#[110, 111]⟩)
theorem lineValue.calls (k base F : Nat) (A0 : Option Addr) (c0 : Nat) (form : List Int) (s : ByteArray) (r1 : List Int) (r2 : ByteArray) (w : World) (hG : GW w) (hw : Kd.C Kd.string w A0 ([kValue, s] : List ByteArray).length [kValue, s]) (hc : ([kValue, s] : List ByteArray).length ≤ c0) (hF : FormAt base F form w) (h : lineValue k form s = some (r1, r2)) :
  Calls Tryz.prog 48 #[.pointer (some ⟨F, 0, none⟩), .slice A0 ([kValue, s] : List ByteArray).length c0] w fun e w' => e = .returned (.string r2) ∧ FormAt base F r1 w' ∧ KeepF F w w' := by
 unfold lineValue at h
 obtain ⟨n, hn, h⟩ := Option.bind_eq_some_iff.mp h; obtain ⟨⟨l, d, b⟩, hf, h⟩ := Option.bind_eq_some_iff.mp h; cases b
 ·simp only [Bool.false_eq_true, if_false, Option.some.injEq, Prod.mk.injEq] at h; obtain ⟨rfl, rfl⟩ := h; refine (cmd_value k base F A0 c0 s form n l d false ByteArray.empty ByteArray.empty w hG hw hc hF hn hf (fun e => by cases e)).mono ?_; rintro e w' ⟨rfl, hb'⟩; exact ⟨rfl, hF.below hb', KeepF.of_below hb'⟩
 ·simp only [if_true] at h; obtain ⟨t, ht, h⟩ := Option.bind_eq_some_iff.mp h; obtain ⟨u, hu, h⟩ := Option.bind_eq_some_iff.mp h
  by_cases c : t.size ≤ 1000000 ∧ u.size ≤ 1000000
  ·simp only [if_pos c, Option.some.injEq, Prod.mk.injEq] at h; obtain ⟨rfl, rfl⟩ := h; refine (cmd_value k base F A0 c0 s form n l d true t u w hG hw hc hF hn hf (fun _ => ⟨ht, hu, c.1, c.2⟩)).mono ?_; rintro e w' ⟨rfl, hb'⟩; exact ⟨rfl, hF.below hb', KeepF.of_below hb'⟩
  ·simp only [if_neg c] at h; cases h
def impl_command.f (k : Nat) (form : List Int) (ws : List ByteArray) : Option (List Int × ByteArray) :=
 match ws with
 | [] => none
 | w0 :: ws => if w0 = kForm then lineForm k form ws else if w0 = kValue then (match ws with | [s] => lineValue k form s | _ => none) else none
theorem impl_command.calls (k base F : Nat) (A0 : Option Addr) (c0 : Nat) (form : List Int) (ws : List ByteArray) (r1 : List Int) (r2 : ByteArray) (w : World) (hG : GW w) (hw : Kd.C Kd.string w A0 ws.length ws) (hc : ws.length ≤ c0) (hF : FormAt base F form w) (hb : base ≤ w.heap.size) (h : impl_command.f k form ws = some (r1, r2)) :
  Calls Tryz.prog 48 #[.pointer (some ⟨F, 0, none⟩), .slice A0 ws.length c0] w fun e w' => e = .returned (.string r2) ∧ FormAt base F r1 w' ∧ KeepF F w w' := by
 cases ws with
 | nil => cases h
 | cons w0 ws =>
  simp only [impl_command.f] at h
  by_cases c : w0 = kForm
  ·subst c; rw [if_pos rfl] at h; exact lineForm.calls k base F A0 c0 form ws r1 r2 w hw hc hF hb h
  ·rw [if_neg c] at h
   by_cases c2 : w0 = kValue
   ·subst c2; rw [if_pos rfl] at h
    split at h
    ·exact lineValue.calls k base F A0 c0 form _ r1 r2 w hG hw hc hF h
    ·cases h
   ·rw [if_neg c2] at h; cases h

end

/-! ### impl_Execute: function 14 -/
section
open Locg
/-- The lines of a script, one behind the other. -/
def runL (k : Nat) : List ByteArray → List Int → List UInt8 → Option (List Int × List UInt8)
 | [], form, out => some (form, out)
 | l :: ls, form, out => (strings_Split.f l ⟨#[32]⟩).bind fun ws => (impl_command.f k form ws).bind fun r => if r.2.size ≤ 1000000 ∧ out.length ≤ 1000000000 then runL k ls r.1 (out ++ (r.2 ++ (⟨#[10]⟩ : ByteArray)).data.toList) else none
def impl_Execute.f (k : Nat) (a0 : ByteArray) : Option ByteArray := if a0.size > 500 then some ⟨#[116, 111, 111, 32, 108, 111, 110, 103, 10]⟩ else
 (strings_Split.f a0 ⟨#[10]⟩).bind fun lines => (runL k lines.dropLast [1] []).bind fun r => (strconv_Itoa.f (r.1.length : Int)).bind fun t => if t.size ≤ 1000000 ∧ r.2.length ≤ 1000000000 ∧ r.1.length ≤ 1000000 then some ⟨(r.2 ++ (((⟨#[116, 101, 114, 109, 115, 32]⟩ : ByteArray) ++ t) ++ (⟨#[10]⟩ : ByteArray)).data.toList).toArray⟩ else none
theorem runL_some {k : Nat} {l : ByteArray} {ls : List ByteArray} {form : List Int} {out : List UInt8} {x : List Int × List UInt8} (h : runL k (l :: ls) form out = some x) :
  ∃ ws form' r, strings_Split.f l ⟨#[32]⟩ = some ws ∧ impl_command.f k form ws = some (form', r) ∧ (r.size ≤ 1000000 ∧ out.length ≤ 1000000000) ∧ runL k ls form' (out ++ (r ++ (⟨#[10]⟩ : ByteArray)).data.toList) = some x := by
 simp only [runL] at h; obtain ⟨ws, h1, h⟩ := Option.bind_eq_some_iff.mp h; obtain ⟨⟨f', r⟩, h2, h⟩ := Option.bind_eq_some_iff.mp h
 by_cases c : r.size ≤ 1000000 ∧ out.length ≤ 1000000000
 ·rw [if_pos c] at h; exact ⟨ws, f', r, h1, h2, c, h⟩
 ·rw [if_neg c] at h; cases h
theorem ex_split (w : World) (a0 : ByteArray) (lines : List ByteArray) (hG : GW w) (hs : strings_Split.f a0 ⟨#[10]⟩ = some lines) :
  Calls Tryz.prog 46 #[.string a0, .string ⟨#[10]⟩] (((w.alloc (.cells #[.int .i64 1] 3)).alloc (.cells #[.slice (some ⟨w.heap.size, 0, none⟩) 1 1] 27)).alloc (.cells #[.pointer none, .slice none 0 0] 53)) fun e w' =>
   e = .returned (.slice (some ⟨w.heap.size + 1 + 1 + 1, 0, none⟩) lines.length lines.length) ∧ ExAt w (w.heap.size + 1) (w.heap.size + 1 + 1) (w.heap.size + 1 + 1 + 1) lines [1] [] w' := by
 have hb0 : Below w.heap.size w (((w.alloc (.cells #[.int .i64 1] 3)).alloc (.cells #[.slice (some ⟨w.heap.size, 0, none⟩) 1 1] 27)).alloc (.cells #[.pointer none, .slice none 0 0] 53)) :=
  (((Below.refl _ w).alloc (Nat.le_refl _) _).alloc (by simp) _).alloc (by simp <;> omega) _
 unfold strings_Split.f at hs
 by_cases c : a0.size < 4294967281 ∧ 1 ≤ (⟨#[10]⟩ : ByteArray).size
 ·rw [if_pos c] at hs; have e := Option.some.inj hs; have hl := Lib.splitB_all (⟨#[10]⟩ : ByteArray) c.2 0 _ a0 rfl; rw [e] at hl; have hG3 := hG.below hb0; obtain ⟨⟨m, hm⟩, _⟩ := hG3; refine (Tryz.strings_Split a0 ⟨#[10]⟩ m _ c.1 hm c.2).mono ?_; rintro e' w' ⟨rfl, rfl⟩; rw [e]; refine ⟨by rw [← hl]; simp, hb0.alloc (by simp <;> omega) _, ?_, ?_, ?_, by omega, by omega⟩
  ·refine ⟨by omega, .slice (some ⟨w.heap.size, 0, none⟩) 1 1, ?_, ?_⟩
   ·refine (Below.heap_alloc _ _ _ (by simp <;> omega)).trans ((Below.heap_alloc _ _ _ (by simp)).trans ?_)
    simpa using heap_alloc_new (w.alloc (.cells #[.int .i64 1] 3)) (.cells #[.slice (some ⟨w.heap.size, 0, none⟩) 1 1] 27)
   ·have ho := World.ownsRow_lit (base := w.heap.size) (e := 3) (size := 1) w #[.int .i64 1] 1 (Nat.le_refl _) (by decide) rfl; refine own_move (w := w.alloc (.cells #[.int .i64 1] 3)) (by simpa [nums] using ho) (fun k hk => ?_); simp only [Value.ownBlock, Option.some.injEq] at hk; subst hk; exact (Below.heap_alloc _ _ _ (by simp <;> omega)).trans ((Below.heap_alloc _ _ _ (by simp <;> omega)).trans (Below.heap_alloc _ _ _ (by simp)))
  ·refine .inl ⟨by omega, .slice none 0 0, ?_, own_nil _ _ _ _, by simp [Value.ownBlock]⟩; refine (Below.heap_alloc _ _ _ (by simp)).trans ?_
   simpa using heap_alloc_new ((w.alloc (.cells #[.int .i64 1] 3)).alloc (.cells #[.slice (some ⟨w.heap.size, 0, none⟩) 1 1] 27)) (.cells #[.pointer none, .slice none 0 0] 53)
  ·simpa using heap_alloc_new (((w.alloc (.cells #[.int .i64 1] 3)).alloc (.cells #[.slice (some ⟨w.heap.size, 0, none⟩) 1 1] 27)).alloc (.cells #[.pointer none, .slice none 0 0] 53)) (.cells (lines.map Value.string).toArray 9)
 ·rw [if_neg c] at hs; cases hs
theorem ex_len {out : List UInt8} {s : ByteArray} (h : s.size ≤ 1000000 ∧ out.length ≤ 1000000000) : (Lib.byteCells out).length + (s ++ (⟨#[10]⟩ : ByteArray)).size ≤ 140737488355328 := by
 rw [Lib.byteCells_length, ByteArray.size_append]; have e : (⟨#[10]⟩ : ByteArray).size = 1 := rfl
 omega
theorem ex_len2 {out : List UInt8} {t : ByteArray} {n : Nat} (h : t.size ≤ 1000000 ∧ out.length ≤ 1000000000 ∧ n ≤ 1000000) : (Lib.byteCells out).length + (((⟨#[116, 101, 114, 109, 115, 32]⟩ : ByteArray) ++ t) ++ (⟨#[10]⟩ : ByteArray)).size ≤ 140737488355328 := by
 rw [Lib.byteCells_length, ByteArray.size_append, ByteArray.size_append]; have e : (⟨#[10]⟩ : ByteArray).size = 1 := rfl; have e2 : (⟨#[116, 101, 114, 109, 115, 32]⟩ : ByteArray).size = 6 := rfl
 omega
set_option maxHeartbeats 16000000 in
set_option maxRecDepth 100000 in
theorem impl_Execute.calls (k : Nat) (a0 : ByteArray) (r : ByteArray) (w : World) (hG : GW w) (h : impl_Execute.f k a0 = some r) :
  Calls Tryz.prog 14 #[.string a0] w fun e w' => e = .returned (.string r) ∧ Below w.heap.size w w' := by
 unfold impl_Execute.f at h
 by_cases c : a0.size > 500
 ·rw [if_pos c] at h; obtain rfl := Option.some.inj h; have c1 : decide (500 < (a0.size : Int)) = true := decide_eq_true (by omega); clear h c
  go_enter Tryz.func14, Tryz.ntmps14
  go_wp2_with fail
  go_ret
  exact ⟨rfl, Below.refl _ _⟩
 ·rw [if_neg c] at h; obtain ⟨lines, hs, h⟩ := Option.bind_eq_some_iff.mp h; obtain ⟨⟨form', out'⟩, hl, h⟩ := Option.bind_eq_some_iff.mp h; obtain ⟨t, ht, h⟩ := Option.bind_eq_some_iff.mp h; have c1 : decide (500 < (a0.size : Int)) = false := decide_eq_false (by omega)
  have hbd : t.size ≤ 1000000 ∧ out'.length ≤ 1000000000 ∧ form'.length ≤ 1000000 := by
   by_cases c9 : t.size ≤ 1000000 ∧ out'.length ≤ 1000000000 ∧ form'.length ≤ 1000000
   ·exact c9
   ·simp only [if_neg c9] at h; cases h
  simp only [if_pos hbd] at h; obtain rfl := Option.some.inj h; have HBD := Aside0.mk hbd; clear hbd
  obtain ⟨N, hN⟩ : ∃ N, lines.length = N + 1 := by
   unfold strings_Split.f at hs
   by_cases c2 : a0.size < 4294967281 ∧ 1 ≤ (⟨#[10]⟩ : ByteArray).size
   ·rw [if_pos c2] at hs; have e := Option.some.inj hs; exact ⟨_, by rw [← e]; exact Lib.splitB_all _ (by decide) 0 _ a0 rfl⟩
   ·rw [if_neg c2] at hs; cases hs
  have hNb : N < 4294967296 := by
   unfold strings_Split.f at hs
   by_cases c2 : a0.size < 4294967281 ∧ 1 ≤ (⟨#[10]⟩ : ByteArray).size
   ·rw [if_pos c2] at hs; have e := Option.some.inj hs; have e2 := Lib.splitB_all (⟨#[10]⟩ : ByteArray) (by decide) 0 _ a0 rfl; rw [e, hN] at e2; have := Lib.countB_le (⟨#[10]⟩ : ByteArray) (by decide) a0.size a0 (Nat.le_refl _)
    omega
   ·rw [if_neg c2] at hs; cases hs
  obtain ⟨i9, hi9, _⟩ := Option.map_eq_some_iff.1 (show (Tryz.prog.info? 9).map (fun i => i.size) = some 1 by kernel_rfl); have hcut := cut_to (P := Tryz.prog) 54 9 .i64 Tryz.underlying54 hi9 (some ⟨w.heap.size + 1 + 1 + 1, 0, none⟩) (N + 1) (N + 1) (N : Int) (by omega) (by omega) (Nat.le_refl _); rw [Int.toNat_natCast] at hcut; clear hi9; have hw1 : wrap64 (((N + 1 : Nat) : Int) - 1) = N := by rw [w64 (by omega) (by omega)]; omega
  have hw2 : wrap64 ((N : Nat) : Int) = N := w64 (by omega) (by omega); have HNb := Aside0.mk hNb; have HG := Aside0.mk hG; have HL := Aside0.mk hl; have HT := Aside0.mk ht; have HS := Aside0.mk hs; have HN := Aside0.mk hN; clear hG hl ht h hs c hN hNb
  go_enter Tryz.func14, Tryz.ntmps14
  go_wp2_with (go_at_call 46; refine (ex_split w a0 lines HG.out HS.out).mono ?_; rintro e w4 ⟨rfl, he4⟩; rw [HN.out]; have HE := Aside0.mk he4; clear he4)
  simp only [hw2]
  go_loopg [20] N (fun kq v20 wr => ∃ (i : Int) (form : List Int) (out : List UInt8), v20 = .int .i64 i ∧ Aside0 (i + (kq : Int) = N ∧ 0 ≤ i) ∧ Aside0 (ExAt w (w.heap.size + 1) (w.heap.size + 1 + 1) (w.heap.size + 1 + 1 + 1) lines form out wr) ∧ Aside0 (runL k (lines.dropLast.drop i.toNat) form out = some (form', out')))
  case atStart => exact ⟨0, [1], [], rfl, ⟨by omega, by omega⟩, HE, ⟨HL.out⟩⟩
  case round =>
   clear HE HL; obtain ⟨i, form, out, rfl, HI, HE, HL⟩ := hrel
   by_cases c2 : i < (N : Int)
   ·have c2b := decide_eq_true c2; have hil : i.toNat < lines.length := by have := HN.out; have := HI.out.2; omega
    obtain ⟨l, hl0⟩ : ∃ l, lines[i.toNat]? = some l := ⟨_, List.getElem?_eq_getElem hil⟩
    have hdl : lines.dropLast.drop i.toNat = l :: lines.dropLast.drop (i.toNat + 1) := by
     have hi2 : i.toNat < lines.dropLast.length := by rw [List.length_dropLast]; have := HN.out; have := HI.out.2; omega
     rw [List.drop_eq_getElem_cons hi2]
     congr 1
     rw [List.getElem_dropLast]; have := List.getElem?_eq_getElem hil; rw [hl0] at this; exact (Option.some.inj this).symm
    have hL := HL.out; rw [hdl] at hL; obtain ⟨ws, f2, s2, hs2, hc2, hb2, hr2⟩ := runL_some hL
    have hcell : wr.cell? ⟨w.heap.size + 1 + 1 + 1, i.toNat, none⟩ = some (.string l) := by
     rw [Lib.cell_of_heap HE.out.ln]
     simp [hl0]
    have p0 : (0 ≤ i) = True := eq_true HI.out.2; have p1 : (i < (N : Int)) = True := eq_true c2; have wi : wrap64 (i + 1) = i + 1 := w64 (by have := HI.out.2; omega) (by have := HNb.out; omega); have HS2 := Aside0.mk hs2; have HC2 := Aside0.mk hc2; have HB2 := Aside0.mk hb2; have HR2 := Aside0.mk hr2; have HH := Aside0.mk (lt_of_block HE.out.ln); clear hL hdl hil hl0 HL hs2 hc2 hb2 hr2 c2
    go_wp2_with (first | (go_at_call 46; refine (strings_Split.calls l ⟨#[32]⟩ ws _ (GW.below HG.out HE.out.bl) HS2.out).mono ?_; rintro e w5 ⟨v5, rfl, ho5, hb5⟩; have HE5 := Aside0.mk (HE.out.below hb5); have HO5 := Aside0.mk ho5; clear ho5 hb5; obtain ⟨A5, k5, e5⟩ := Kd.R_slice HO5.out; subst e5) | (go_at_call 48; refine (impl_command.calls k w.heap.size (w.heap.size + 1) _ _ form ws f2 s2 _ (GW.below HG.out HE5.out.bl) ((Kd.R_reads' HO5.out).2.2) ((Kd.R_reads' HO5.out).2.1) HE5.out.fm HE5.out.bl.size HC2.out).mono ?_; rintro e w6 ⟨rfl, hf6, hk6⟩; have HE6 := Aside0.mk (HE5.out.line hk6 hf6); have hsz : s2.size + (⟨#[10]⟩ : ByteArray).size ≤ 9223372036854775807 := (by have := HB2.out.1; show s2.size + 1 ≤ _; omega); clear hf6 hk6) | (go_at_call 47; refine (bld_write w.heap.size (w.heap.size + 1 + 1) _ (s2 ++ (⟨#[10]⟩ : ByteArray)) _ HE6.out.bd (ex_len HB2.out) HE6.out.bl.size).mono ?_; rintro e w7 ⟨rfl, hd7, hb7, hk7⟩; have HE7 := Aside0.mk (HE6.out.wrote hb7 hk7 hd7); clear hd7 hb7 hk7))
    obtain ⟨k1, hk1⟩ : ∃ k1, gk = k1 + 1 := ⟨gk - 1, by have := HI.out.1; have := of_decide_eq_true c2b; omega⟩
    go_roundg k1
    case measure => omega
    case rel => exact ⟨i + 1, f2, _, by rw [wi], ⟨by have := HI.out.1; have := HI.out.2; omega⟩, HE7, ⟨by have := HR2.out; have e : (i + 1).toNat = i.toNat + 1 := (by have := HI.out.2; omega); rw [e]; exact this⟩⟩
   ·have c2b := decide_eq_false c2; have hi : i.toNat = N := by have := HI.out.1; have := HI.out.2; omega
    have hL := HL.out; rw [hi, List.drop_of_length_le (by rw [List.length_dropLast]; have := HN.out; omega)] at hL; simp only [runL, Option.some.injEq, Prod.mk.injEq] at hL; obtain ⟨rfl, rfl⟩ := hL; obtain ⟨_, v, hv, ho⟩ := HE.out.fm; obtain ⟨A, c, rfl⟩ := own_slice ho; have cF := cell_of_one hv; have hs1 : (⟨#[116, 101, 114, 109, 115, 32]⟩ : ByteArray).size + t.size ≤ 9223372036854775807 := by have := HBD.out.1; show 6 + t.size ≤ _; omega
    have hs2 : ((⟨#[116, 101, 114, 109, 115, 32]⟩ : ByteArray) ++ t).size + (⟨#[10]⟩ : ByteArray).size ≤ 9223372036854775807 := by
     have := HBD.out.1; rw [ByteArray.size_append]
     show 6 + t.size + 1 ≤ _
     omega
    clear HL c2 hv ho hi
    go_wp2_with (first | (go_at_call 49; refine (strconv_Itoa.calls _ t _ (GW.below HG.out HE.out.bl) HT.out).mono ?_; rintro e w8 ⟨rfl, hb8⟩; have HE8 := Aside0.mk (HE.out.below hb8); clear hb8 cF) | (go_at_call 47; refine (bld_write w.heap.size (w.heap.size + 1 + 1) _ _ _ HE8.out.bd (ex_len2 HBD.out) HE8.out.bl.size).mono ?_; rintro e w9 ⟨rfl, hd9, hb9, hk9⟩; have HE9 := Aside0.mk (HE8.out.wrote hb9 hk9 hd9); clear hd9 hb9 hk9) | (go_at_call 50; refine (Tryz.Builder_String_any w.heap.size (w.heap.size + 1 + 1) _ _ HE9.out.bd HE9.out.bl.size).mono ?_; rintro e w10 ⟨rfl, hb10⟩; have HB10 := Aside0.mk (HE9.out.bl.trans hb10); clear hb10))
    go_ret
    exact ⟨rfl, HB10.out⟩

end

end Go.Proofs.YtacfcoilmdhgnaaGreatDoor.PFnExecuteValue
