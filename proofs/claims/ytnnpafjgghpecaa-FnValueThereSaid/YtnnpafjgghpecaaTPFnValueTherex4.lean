/- A function's Lean twin and its walk, written by a program of this session. -/
import Derived.Test.YtnnpafjgghpecaaTPFnValueTherex0
import Derived.Test.YtnnpafjgghpecaaTPFnValueTherex3
namespace Go.Proofs.Ytnnpafjgghpecaa.PFnValueThere
open Go.RowKit Go.Proofs.YtnnpafjgghpecaaW.PrintWords Go.Proofs.YtnnpafjgghpecaaW.PrintLast Go.Proofs.YtnnpafjgghpecaaW.PrintMore
attribute [local go_sem] max2_int min2_int max_two min_two max_three min_three max_four min_four   -- for this text's walks alone
set_option linter.unusedVariables false
set_option linter.unusedSimpArgs false

/-! ### impl_sharedPrime: function 80 -/
section
open Locg
/-! ### the first prime that two of three terms share -/
def shAt (l0 : List Int) (k : Nat) (p q : Int) (next : Option (Int × Int × Int)) : Option (Int × Int × Int) :=
 (impl_gcd.f k [rd l0 p, rd l0 q]).bind fun d => if d > 1 then ((impl_primesOf.f k d).bind fun ps => if 0 < ps.length then some (p, q, rd ps 0) else none) else next
def shF (l0 : List Int) (k : Nat) : Nat → Option (Int × Int × Int)
 | 0 => shAt l0 k 0 1 (shAt l0 k 0 2 (shAt l0 k 1 2 (some (0, 0, 0))))
 | 1 => shAt l0 k 0 2 (shAt l0 k 1 2 (some (0, 0, 0)))
 | 2 => shAt l0 k 1 2 (some (0, 0, 0))
 | _ => some (0, 0, 0)
def impl_sharedPrime.f (k : Nat) (l0 : List Int) : Option (Int × Int × Int) := if 3 ≤ l0.length then shF l0 k 0 else none
theorem sh_pre {α : Type} {d : Kd α} {e n c m : Nat} {w : World} {base : Nat} {ok : Nat → Prop} {A : Option Addr} {xs ys : List α} (h : d.R e w base ok (.slice A n c) xs) (hy : ys = xs.take m) : d.R e w base ok (.slice A ys.length c) ys := by
 subst hy
 rcases Nat.le_total m xs.length with hm | hm
 ·have := Kd.R_take (m := m) h hm; rw [show (xs.take m).length = m by rw [List.length_take]; omega]; exact this
 ·rw [List.take_of_length_le hm]; have e := (Kd.R_reads' h).1; subst e; exact h
theorem sh_two {w : World} {b : Nat} {x y : Int} (h : w.heap[b]? = some (.cells #[.int .i64 x, .int .i64 y] 3 (0, 0))) : (Kd.int .i64).C w (some ⟨b, 0, none⟩) [x, y].length [x, y] := by
 refine ⟨rfl, by simp, fun _ => ⟨_, rfl, fun j p hj => ⟨[.int .i64 p], rfl, rfl, fun i u hu => ?_⟩⟩⟩
 match i, hu with
 | 0, hu =>
  simp at hu
  subst hu
  match j, hj with
  | 0, hj => simp at hj; subst hj; exact blk_cell h 0
  | 1, hj => simp at hj; subst hj; exact blk_cell h 1
theorem sh_two' {w : World} {c : Obj} {x y : Int} : (Kd.int .i64).C ((w.alloc c).alloc (.cells #[.int .i64 x, .int .i64 y] 3 (0, 0))).drew (some ⟨w.heap.size + 1, 0, none⟩) [x, y].length [x, y] := by
 refine Kd.C_drew (sh_two ?_); have := heap_alloc_new (w.alloc c) (.cells #[.int .i64 x, .int .i64 y] 3 (0, 0)); have e : (w.alloc c).heap.size = w.heap.size + 1 := by simp
 rw [e] at this; exact this
theorem sh_kept {wr w' : World} {c : Obj} {b : Nat} {o : Obj} (h : wr.heap[b]? = some o) (hb : Below (wr.alloc c).heap.size (wr.alloc c) w') : w'.heap[b]? = some o := by
 have hl := lt_of_block h; have e : (wr.alloc c).heap.size = wr.heap.size + 1 := by simp
 rw [hb.block b (by omega), ((Below.refl wr.heap.size wr).alloc (Nat.le_refl _) c).block b hl]; exact h
theorem sh_ret3 {fn : Func} {t u v : Tmp} (h : fn.results = #[.tmp t, .tmp u, .tmp v]) (tmps : Array Value) (P : Program) (w : World) :
  (results fn tmps).run P w = .ok (.tuple #[tmps.getD t undef, tmps.getD u undef, tmps.getD v undef]) w := by
 simp [results, h]
theorem sh_lt {w : World} {a : Addr} {v : Value} (h : w.cell? a = some v) : a.block < w.heap.size := by
 by_cases ha : a.block < w.heap.size
 ·exact ha
 ·have : w.heap[a.block]? = none := Array.getElem?_eq_none (by omega)
  simp [World.cell?, this] at h
theorem sh_keep {wr w' : World} {t : Nat} {p q x y : Value} {a b : Addr} (h : wr.cell? a = some x) (h' : wr.cell? b = some y) (hb : Below (wr.alloc (.cells #[p, q] t (0, 0))).heap.size (wr.alloc (.cells #[p, q] t (0, 0))) w') :
  w'.cell? ⟨wr.heap.size, 0, none⟩ = some p ∧ w'.cell? ⟨wr.heap.size, 1, none⟩ = some q ∧ w'.cell? a = some x ∧ w'.cell? b = some y ∧ Below (wr.alloc (.cells #[p, q] t (0, 0))).heap.size (wr.alloc (.cells #[p, q] t (0, 0))) w' := by
 have ha := sh_lt h; have hb' := sh_lt h'; have e : (wr.alloc (.cells #[p, q] t (0, 0))).heap.size = wr.heap.size + 1 := by simp
 have hn := blk_cell (heap_alloc_new wr (.cells #[p, q] t (0, 0))); refine ⟨?_, ?_, ?_, ?_, hb⟩
 ·rw [hb.cell (by rw [e]; exact Nat.lt_succ_self _)]; exact hn 0
 ·rw [hb.cell (by rw [e]; exact Nat.lt_succ_self _)]; exact hn 1
 ·rw [hb.cell (by omega)]; exact ((Below.refl wr.heap.size wr).alloc (Nat.le_refl _) _ |>.cell ha).trans h
 ·rw [hb.cell (by omega)]; exact ((Below.refl wr.heap.size wr).alloc (Nat.le_refl _) _ |>.cell hb').trans h'
set_option maxHeartbeats 4000000 in
set_option maxRecDepth 100000 in
theorem impl_sharedPrime.calls (k : Nat) (A0 : Option Addr) (c0 : Nat) (l0 : List Int) (r1 r2 r3 : Int) (w : World) (hr0 : Kd.C (Kd.int .i64) w A0 l0.length l0) (hc0 : l0.length ≤ c0) (h : impl_sharedPrime.f k l0 = some (r1, r2, r3)) :
  Calls Try.prog 80 #[.slice A0 l0.length c0] w fun e w' => e = .returned (.tuple #[.int .i64 r1, .int .i64 r2, .int .i64 r3]) ∧ Below w.heap.size w w' := by
 unfold impl_sharedPrime.f at h
 by_cases hl : 3 ≤ l0.length
 ·rw [if_pos hl] at h; have HR0 := Aside0.mk hr0; have HC0 := Aside0.mk hc0; have HH := Aside0.mk h; have HL := Aside0.mk hl; clear hr0 hc0 h hl
  go_enter Try.func80, Try.ntmps80
  go_wp2_with fail
  go_loopw [13] (fun v13 wr => ∃ i : Nat, v13 = .int .i64 i ∧ i ≤ 3 ∧ Aside0 (shF l0 k i = some (r1, r2, r3)) ∧ Aside0 (wr.heap[w.heap.size]? = some (.cells #[.int .i64 0, .int .i64 1, .int .i64 0, .int .i64 2, .int .i64 1, .int .i64 2] 76 (0, 0))) ∧ Aside0 (Below w.heap.size w wr)) (fun v13 _ => 3 - (intOf v13).toNat)
  case atStart => exact ⟨0, rfl, by omega, HH, ⟨by simpa using heap_alloc_new w _⟩, ⟨below_alloc (Below.refl _ _) _⟩⟩
  case round =>
   clear HH; obtain ⟨i, rfl, hi, HF, HG, HB⟩ := hrel; have hcases : i = 0 ∨ i = 1 ∨ i = 2 ∨ i = 3 := by omega
   rcases hcases with rfl | rfl | rfl | rfl
   ·unfold shF shAt at HF
    obtain ⟨d, hd, hd2⟩ := Option.bind_eq_some_iff.mp HF.out; have HD := Aside0.mk hd; have HD2 := Aside0.mk hd2; clear HF hd hd2; have cl0 := blk_cell HG.out 0; have cl1 := blk_cell HG.out 1
    simp at cl0 cl1
    have HC := Kd.C_below HR0.out HB.out; have hl := HL.out; obtain ⟨ad, rfl, ht0⟩ := Kd.at_int HC 0 (by omega) (by omega); obtain ⟨ad', e_, ht1⟩ := Kd.at_int HC 1 (by omega) (by omega); cases e_; have hs0 : wr.cell? ad = some (.int .i64 (rd l0 0)) := ht0; have hs1 : wr.cell? ⟨ad.block, ad.off + 1, none⟩ = some (.int .i64 (rd l0 1)) := ht1; clear ht0 ht1; have b0 : 0 < l0.length := by omega
    have b1 : (1 : Int) < (l0.length : Int) := by omega
    go_wp2_with fail
    have hlt := lt_of_block HG.out
    go_region_held3 (fun w' => w'.cell? ⟨wr.heap.size, 0, none⟩ = some (.int .i64 0) ∧ w'.cell? ⟨wr.heap.size, 1, none⟩ = some (.int .i64 1) ∧ w'.cell? ad = some (.int .i64 (rd l0 0)) ∧ w'.cell? ⟨ad.block, ad.off + 1, none⟩ = some (.int .i64 (rd l0 1)) ∧ Below (wr.alloc (.cells #[.int .i64 0, .int .i64 1] 76 (0, 0))).heap.size (wr.alloc (.cells #[.int .i64 0, .int .i64 1] 76 (0, 0))) w')
     ((refine sh_keep hs0 hs1 ?_; go_split_ands; first | assumption | exact below_drew (Below.refl _ _) | exact below_drew (below_alloc (Below.refl _ _) _) | (refine below_step (below_drew (below_alloc (Below.refl _ _) _)) ?_; assumption) | (refine below_drew ?_; assumption) | (refine below_alloc ?_ _; assumption) | (refine below_step ?_ ?_ <;> assumption)))
     (first | (go_at_call 61; refine (impl_gcd.calls k _ _ [rd l0 0, rd l0 1] d _ ?s1 ?s2 HD.out).mono ?_; (case s1 => exact sh_two'); (case s2 => simp); rintro e w1 ⟨rfl, hb⟩; have hb2 := below_step (below_drew (below_alloc (Below.refl _ _) _)) hb; clear hb; dsimp only))
    go_split_ands
    rename_i g0 g1 g2 g3 g4
    by_cases hd : d > 1
    ·have hd2 := HD2.out; rw [if_pos hd] at hd2; obtain ⟨ps, hp1, hp2⟩ := Option.bind_eq_some_iff.mp hd2
     by_cases hp : 0 < ps.length
     ·rw [if_pos hp] at hp2; simp only [Option.some.injEq, Prod.mk.injEq] at hp2; obtain ⟨rfl, rfl, rfl⟩ := hp2; have HP := Aside0.mk hp1; clear hd2 hp1 HD2 HD
      go_wp2_with fail
      go_region_with ((go_at_call 41; refine (impl_primesOf.calls k d ps _ HP.out).mono ?_; rintro e w2 ⟨v, rfl, ho, hb⟩; have hb3 := below_step (below_drew g4) hb; have z0 := (sh_keep hs0 hs1 hb3).1; have z1 := (sh_keep hs0 hs1 hb3).2.1; have hz := below_step (below_alloc HB.out _) hb3; obtain ⟨Ao, co, rfl⟩ := Kd.R_slice ho; obtain ⟨ao, rfl, hps⟩ := Kd.at_int (Kd.R_reads' ho).2.2 0 (by omega) (by omega); have hps0 : w2.cell? ao = some (.int .i64 (rd ps 0)) := hps; clear hps ho hb; dsimp only))
      all_goals (go_wp2_with fail; (try simp only [Exit.inBlock, Exit.then]); refine bodyPost_ret (sh_ret3 rfl _ _ _) rfl ?_; exact ⟨rfl, hz⟩)
     ·rw [if_neg hp] at hp2; cases hp2
    ·have hd2 := HD2.out; rw [if_neg hd] at hd2
     go_wp2_with fail
     exact ⟨⟨0+1, rfl, by omega, ⟨hd2⟩, ⟨sh_kept HG.out g4⟩, ⟨below_step (below_alloc HB.out _) g4⟩⟩, by simp [intOf]⟩
   ·unfold shF shAt at HF
    obtain ⟨d, hd, hd2⟩ := Option.bind_eq_some_iff.mp HF.out; have HD := Aside0.mk hd; have HD2 := Aside0.mk hd2; clear HF hd hd2; have cl0 := blk_cell HG.out 2; have cl1 := blk_cell HG.out 3
    simp at cl0 cl1
    have HC := Kd.C_below HR0.out HB.out; have hl := HL.out; obtain ⟨ad, rfl, ht0⟩ := Kd.at_int HC 0 (by omega) (by omega); obtain ⟨ad', e_, ht1⟩ := Kd.at_int HC 2 (by omega) (by omega); cases e_; have hs0 : wr.cell? ad = some (.int .i64 (rd l0 0)) := ht0; have hs1 : wr.cell? ⟨ad.block, ad.off + 2, none⟩ = some (.int .i64 (rd l0 2)) := ht1; clear ht0 ht1; have b0 : 0 < l0.length := by omega
    have b1 : (2 : Int) < (l0.length : Int) := by omega
    go_wp2_with fail
    have hlt := lt_of_block HG.out
    go_region_held3 (fun w' => w'.cell? ⟨wr.heap.size, 0, none⟩ = some (.int .i64 0) ∧ w'.cell? ⟨wr.heap.size, 1, none⟩ = some (.int .i64 2) ∧ w'.cell? ad = some (.int .i64 (rd l0 0)) ∧ w'.cell? ⟨ad.block, ad.off + 2, none⟩ = some (.int .i64 (rd l0 2)) ∧ Below (wr.alloc (.cells #[.int .i64 0, .int .i64 2] 76 (0, 0))).heap.size (wr.alloc (.cells #[.int .i64 0, .int .i64 2] 76 (0, 0))) w')
     ((refine sh_keep hs0 hs1 ?_; go_split_ands; first | assumption | exact below_drew (Below.refl _ _) | exact below_drew (below_alloc (Below.refl _ _) _) | (refine below_step (below_drew (below_alloc (Below.refl _ _) _)) ?_; assumption) | (refine below_drew ?_; assumption) | (refine below_alloc ?_ _; assumption) | (refine below_step ?_ ?_ <;> assumption)))
     (first | (go_at_call 61; refine (impl_gcd.calls k _ _ [rd l0 0, rd l0 2] d _ ?s1 ?s2 HD.out).mono ?_; (case s1 => exact sh_two'); (case s2 => simp); rintro e w1 ⟨rfl, hb⟩; have hb2 := below_step (below_drew (below_alloc (Below.refl _ _) _)) hb; clear hb; dsimp only))
    go_split_ands
    rename_i g0 g1 g2 g3 g4
    by_cases hd : d > 1
    ·have hd2 := HD2.out; rw [if_pos hd] at hd2; obtain ⟨ps, hp1, hp2⟩ := Option.bind_eq_some_iff.mp hd2
     by_cases hp : 0 < ps.length
     ·rw [if_pos hp] at hp2; simp only [Option.some.injEq, Prod.mk.injEq] at hp2; obtain ⟨rfl, rfl, rfl⟩ := hp2; have HP := Aside0.mk hp1; clear hd2 hp1 HD2 HD
      go_wp2_with fail
      go_region_with ((go_at_call 41; refine (impl_primesOf.calls k d ps _ HP.out).mono ?_; rintro e w2 ⟨v, rfl, ho, hb⟩; have hb3 := below_step (below_drew g4) hb; have z0 := (sh_keep hs0 hs1 hb3).1; have z1 := (sh_keep hs0 hs1 hb3).2.1; have hz := below_step (below_alloc HB.out _) hb3; obtain ⟨Ao, co, rfl⟩ := Kd.R_slice ho; obtain ⟨ao, rfl, hps⟩ := Kd.at_int (Kd.R_reads' ho).2.2 0 (by omega) (by omega); have hps0 : w2.cell? ao = some (.int .i64 (rd ps 0)) := hps; clear hps ho hb; dsimp only))
      all_goals (go_wp2_with fail; (try simp only [Exit.inBlock, Exit.then]); refine bodyPost_ret (sh_ret3 rfl _ _ _) rfl ?_; exact ⟨rfl, hz⟩)
     ·rw [if_neg hp] at hp2; cases hp2
    ·have hd2 := HD2.out; rw [if_neg hd] at hd2
     go_wp2_with fail
     exact ⟨⟨1+1, rfl, by omega, ⟨hd2⟩, ⟨sh_kept HG.out g4⟩, ⟨below_step (below_alloc HB.out _) g4⟩⟩, by simp [intOf]⟩
   ·unfold shF shAt at HF
    obtain ⟨d, hd, hd2⟩ := Option.bind_eq_some_iff.mp HF.out; have HD := Aside0.mk hd; have HD2 := Aside0.mk hd2; clear HF hd hd2; have cl0 := blk_cell HG.out 4; have cl1 := blk_cell HG.out 5
    simp at cl0 cl1
    have HC := Kd.C_below HR0.out HB.out; have hl := HL.out; obtain ⟨ad, rfl, ht0⟩ := Kd.at_int HC 1 (by omega) (by omega); obtain ⟨ad', e_, ht1⟩ := Kd.at_int HC 2 (by omega) (by omega); cases e_; have hs0 : wr.cell? ⟨ad.block, ad.off + 1, none⟩ = some (.int .i64 (rd l0 1)) := ht0; have hs1 : wr.cell? ⟨ad.block, ad.off + 2, none⟩ = some (.int .i64 (rd l0 2)) := ht1; clear ht0 ht1; have b0 : (1 : Int) < (l0.length : Int) := by omega
    have b1 : (2 : Int) < (l0.length : Int) := by omega
    go_wp2_with fail
    have hlt := lt_of_block HG.out
    go_region_held3 (fun w' => w'.cell? ⟨wr.heap.size, 0, none⟩ = some (.int .i64 1) ∧ w'.cell? ⟨wr.heap.size, 1, none⟩ = some (.int .i64 2) ∧ w'.cell? ⟨ad.block, ad.off + 1, none⟩ = some (.int .i64 (rd l0 1)) ∧ w'.cell? ⟨ad.block, ad.off + 2, none⟩ = some (.int .i64 (rd l0 2)) ∧ Below (wr.alloc (.cells #[.int .i64 1, .int .i64 2] 76 (0, 0))).heap.size (wr.alloc (.cells #[.int .i64 1, .int .i64 2] 76 (0, 0))) w')
     ((refine sh_keep hs0 hs1 ?_; go_split_ands; first | assumption | exact below_drew (Below.refl _ _) | exact below_drew (below_alloc (Below.refl _ _) _) | (refine below_step (below_drew (below_alloc (Below.refl _ _) _)) ?_; assumption) | (refine below_drew ?_; assumption) | (refine below_alloc ?_ _; assumption) | (refine below_step ?_ ?_ <;> assumption)))
     (first | (go_at_call 61; refine (impl_gcd.calls k _ _ [rd l0 1, rd l0 2] d _ ?s1 ?s2 HD.out).mono ?_; (case s1 => exact sh_two'); (case s2 => simp); rintro e w1 ⟨rfl, hb⟩; have hb2 := below_step (below_drew (below_alloc (Below.refl _ _) _)) hb; clear hb; dsimp only))
    go_split_ands
    rename_i g0 g1 g2 g3 g4
    by_cases hd : d > 1
    ·have hd2 := HD2.out; rw [if_pos hd] at hd2; obtain ⟨ps, hp1, hp2⟩ := Option.bind_eq_some_iff.mp hd2
     by_cases hp : 0 < ps.length
     ·rw [if_pos hp] at hp2; simp only [Option.some.injEq, Prod.mk.injEq] at hp2; obtain ⟨rfl, rfl, rfl⟩ := hp2; have HP := Aside0.mk hp1; clear hd2 hp1 HD2 HD
      go_wp2_with fail
      go_region_with ((go_at_call 41; refine (impl_primesOf.calls k d ps _ HP.out).mono ?_; rintro e w2 ⟨v, rfl, ho, hb⟩; have hb3 := below_step (below_drew g4) hb; have z0 := (sh_keep hs0 hs1 hb3).1; have z1 := (sh_keep hs0 hs1 hb3).2.1; have hz := below_step (below_alloc HB.out _) hb3; obtain ⟨Ao, co, rfl⟩ := Kd.R_slice ho; obtain ⟨ao, rfl, hps⟩ := Kd.at_int (Kd.R_reads' ho).2.2 0 (by omega) (by omega); have hps0 : w2.cell? ao = some (.int .i64 (rd ps 0)) := hps; clear hps ho hb; dsimp only))
      all_goals (go_wp2_with fail; (try simp only [Exit.inBlock, Exit.then]); refine bodyPost_ret (sh_ret3 rfl _ _ _) rfl ?_; exact ⟨rfl, hz⟩)
     ·rw [if_neg hp] at hp2; cases hp2
    ·have hd2 := HD2.out; rw [if_neg hd] at hd2
     go_wp2_with fail
     exact ⟨⟨2+1, rfl, by omega, ⟨hd2⟩, ⟨sh_kept HG.out g4⟩, ⟨below_step (below_alloc HB.out _) g4⟩⟩, by simp [intOf]⟩
   ·have hf := HF.out; simp only [shF, Option.some.injEq, Prod.mk.injEq] at hf; obtain ⟨rfl, rfl, rfl⟩ := hf
    go_wp2_with fail
    (try simp only [Exit.inBlock, Exit.then]); refine bodyPost_ret (sh_ret3 rfl _ _ _) rfl ?_; exact ⟨rfl, HB.out⟩
 ·rw [if_neg hl] at h; cases h

end

/-! ### impl_ZeroNormal: function 53 -/
mutual
def impl_ZeroNormal.j0 : Nat → List Int → Bool → Option (List Int × List Int × Bool)
 | 0, _, _ => none
 | k + 1, x0, x21 => if x21 = true then (some (([] : List Int), ([] : List Int), false)) else ((slices_Clone_int_int.f x0).bind fun t219 => (impl_ZeroNormal.l0 k t219 (([1, 1, 1] : List Int)) x0 (x0.length : Int) 0))
def impl_ZeroNormal.l0 : Nat → List Int → List Int → List Int → Int → Int → Option (List Int × List Int × Bool)
 | 0, _, _, _, _, _ => none
 | k + 1, x5, x6, x25, x26, x27 => if x27 < x26 then (if 0 ≤ x27 then (if x27 < (x25.length : Int) then ((impl_coreOf.f k (rd x25 x27)).bind fun bt226 => (if x27 < (x5.length : Int) then (if 0 ≤ (Int.tmod (wrap64 (x27 + 1)) 3) then (if (Int.tmod (wrap64 (x27 + 1)) 3) < (x6.length : Int) then ((some (x6.set ((Int.tmod (wrap64 (x27 + 1)) 3) : Int).toNat (wrap64 ((rd x6 (Int.tmod (wrap64 (x27 + 1)) 3)) * bt226.2)) : List Int)).bind fun y230 => (if 0 ≤ (Int.tmod (wrap64 (x27 + 2)) 3) then (if (Int.tmod (wrap64 (x27 + 2)) 3) < (x6.length : Int) then (impl_ZeroNormal.l0 k (x5.set (x27 : Int).toNat bt226.1) (y230.set ((Int.tmod (wrap64 (x27 + 2)) 3) : Int).toNat (wrap64 ((rd y230 (Int.tmod (wrap64 (x27 + 2)) 3)) * bt226.2))) x25 x26 (wrap64 (x27 + 1))) else (none)) else (none))) else (none)) else (none)) else (none))) else (none)) else (none)) else (impl_ZeroNormal.l1 k x5 x6)
def impl_ZeroNormal.l1 : Nat → List Int → List Int → Option (List Int × List Int × Bool)
 | 0, _, _ => none
 | k + 1, x5, x6 => (impl_sharedPrime.f k x5).bind fun bt233 => (if bt233.2.2 = 0 then (some (x5, x6, true)) else (if 0 ≤ bt233.1 then (if bt233.1 < (x5.length : Int) then ((some (x5.set (bt233.1 : Int).toNat (wrap64 (Int.tdiv (rd x5 bt233.1) bt233.2.2)) : List Int)).bind fun y237 => (if 0 ≤ bt233.2.1 then (if bt233.2.1 < (x5.length : Int) then ((some (y237.set (bt233.2.1 : Int).toNat (wrap64 (Int.tdiv (rd y237 bt233.2.1) bt233.2.2)) : List Int)).bind fun y239 => (if 0 ≤ (wrap64 ((wrap64 (3 - bt233.1)) - bt233.2.1)) then (if (wrap64 ((wrap64 (3 - bt233.1)) - bt233.2.1)) < (x5.length : Int) then (if (Int.tmod (rd y239 (wrap64 ((wrap64 (3 - bt233.1)) - bt233.2.1))) bt233.2.2) = 0 then (impl_ZeroNormal.l1 k (y239.set ((wrap64 ((wrap64 (3 - bt233.1)) - bt233.2.1)) : Int).toNat (wrap64 (Int.tdiv (rd y239 (wrap64 ((wrap64 (3 - bt233.1)) - bt233.2.1))) bt233.2.2))) x6) else (if (wrap64 ((wrap64 (3 - bt233.1)) - bt233.2.1)) < (x6.length : Int) then (impl_ZeroNormal.l1 k (y239.set ((wrap64 ((wrap64 (3 - bt233.1)) - bt233.2.1)) : Int).toNat (wrap64 ((rd y239 (wrap64 ((wrap64 (3 - bt233.1)) - bt233.2.1))) * bt233.2.2))) (x6.set ((wrap64 ((wrap64 (3 - bt233.1)) - bt233.2.1)) : Int).toNat (wrap64 ((rd x6 (wrap64 ((wrap64 (3 - bt233.1)) - bt233.2.1))) * bt233.2.2)))) else (none))) else (none)) else (none))) else (none)) else (none))) else (none)) else (none)))
end
def impl_ZeroNormal.f (k : Nat) (l0 : List Int) : Option (List Int × List Int × Bool) := (impl_FormValid.f k l0).bind fun t218 => (if t218 = true then (impl_ZeroNormal.j0 k l0 ((l0.length : Int) != 3)) else (impl_ZeroNormal.j0 k l0 true))
set_option maxHeartbeats 8000000 in
set_option maxRecDepth 100000 in
theorem impl_ZeroNormal.calls (k : Nat) (A0 : Option Addr) (c0 : Nat) (l0 : List Int) (r1 : List Int) (r2 : List Int) (r3 : Bool) (w : World) (hr0 : Kd.C (Kd.int .i64) w A0 l0.length l0) (hc0 : l0.length ≤ c0) (h : impl_ZeroNormal.f k l0 = some (r1, r2, r3)) :
  Calls Try.prog 53 #[.slice A0 l0.length c0] w fun e w' => ∃ v0_ v1_ : Value, e = .returned (.tuple #[v0_, v1_, .bool r3]) ∧ Kd.R (Kd.int .i64) 3 w' w.heap.size (fun k_ => some k_ ≠ (v1_ : Value).ownBlock) v0_ r1 ∧ Kd.R (Kd.int .i64) 3 w' w.heap.size (fun k_ => some k_ ≠ (v0_ : Value).ownBlock) v1_ r2 ∧ Below w.heap.size w w' := by
 have HR0 := Aside0.mk hr0; have HC0 := Aside0.mk hc0; clear hr0 hc0; have HB := Aside0.mk (Below.refl w.heap.size w); have H : ((impl_FormValid.f k l0).bind fun t218 => (if t218 = true then (impl_ZeroNormal.j0 k l0 ((l0.length : Int) != 3)) else (impl_ZeroNormal.j0 k l0 true))) = some (r1, r2, r3) := h; clear h; have HC2 := Aside0.mk H; clear H
 go_enter Try.func53, Try.ntmps53
 go_upto_region 1 with (fail)
 go_cut [21] (fun v21 wc => ∃ (kq : Nat) (x21_1 : Bool), v21 = .bool x21_1 ∧ Aside0 (impl_ZeroNormal.j0 kq l0 x21_1 = some (r1, r2, r3)) ∧ Aside0 (kq ≤ k) ∧ Aside0 (Below w.heap.size w wc))
 case first =>
  have H := HC2.out; clear HC2; obtain ⟨t218, A3, H⟩ := Sqz.be H
  by_cases c4 : t218 = true
  ·subst c4; have H1 : (impl_ZeroNormal.j0 k l0 ((l0.length : Int) != 3)) = some (r1, r2, r3) := by rw [if_pos rfl] at H; exact H
   clear H; have H := H1; clear H1; have H' := Aside0.mk H; clear H
   go_wp2_with (((with_reducible refine gate_callee (f := 44) rfl ?_); refine goesL_ (some 15) rfl rfl Try.func44 (by kernel_rfl) rfl #[.slice A0 l0.length c0] rfl Sqz.auM ?_; (with_reducible refine (impl_FormValid.calls k _ _ l0 true _ ?side1 ?side2 A3.out).mono ?_); (case side1 => exact Sqz.mvC ((Kd.C_below HR0.out HB.out))); (case side2 => exact HC0.out); rintro e w5 ⟨rfl, hb⟩; refine ⟨_, rfl, ?_⟩; replace HB := Aside0.mk (below_step (Sqz.auHB) hb); (try clear hb)))
   go_meet
   case rel => exact ⟨_, (((l0.length : Int) != 3)), Sqz.auS, H', ⟨Sqz.auN⟩, ⟨Sqz.auHB⟩⟩
  ·replace c4 := Bool.eq_false_iff.mpr c4; subst c4; have H1 : (impl_ZeroNormal.j0 k l0 true) = some (r1, r2, r3) := by rw [if_neg (show ¬ (false = true) by decide)] at H; exact H
   clear H; have H := H1; clear H1; have H' := Aside0.mk H; clear H
   go_wp2_with (((with_reducible refine gate_callee (f := 44) rfl ?_); refine goesL_ (some 15) rfl rfl Try.func44 (by kernel_rfl) rfl #[.slice A0 l0.length c0] rfl Sqz.auM ?_; (with_reducible refine (impl_FormValid.calls k _ _ l0 false _ ?side1 ?side2 A3.out).mono ?_); (case side1 => exact Sqz.mvC ((Kd.C_below HR0.out HB.out))); (case side2 => exact HC0.out); rintro e w6 ⟨rfl, hb⟩; refine ⟨_, rfl, ?_⟩; replace HB := Aside0.mk (below_step (Sqz.auHB) hb); (try clear hb)))
   go_meet
   case rel => exact ⟨_, (true), Sqz.auS, H', ⟨Sqz.auN⟩, ⟨Sqz.auHB⟩⟩
 case rest =>
  clear HC2
  obtain ⟨kq, x21_1, rfl, HA, HJ1, HB⟩ := hcut; cases kq with
  | zero => exact absurd HA.out (by simp [impl_ZeroNormal.j0])
  | succ kj1 =>
   have H := HA.out; clear HA; simp only [impl_ZeroNormal.j0] at H
   by_cases c7 : x21_1 = true
   ·subst c7; have H1 : (some (([] : List Int), ([] : List Int), false)) = some (r1, r2, r3) := by rw [if_pos rfl] at H; exact H
    clear H; have H := H1; clear H1; simp only [Option.some.injEq, Prod.mk.injEq] at H; obtain ⟨rfl, rfl, rfl⟩ := H; go_wp2
    go_ret3
    exact ⟨_, _, Sqz.auR, by first | exact Kd.R_nil _ _ _ _ _ | exact Kd.N_nil _ _ _ _ _ | exact Kd.V_nil _ _ _ _ _ | exact Kd.Q_nil _ _ _ _ _ | exact Kd.S_nil _ _ _ _ _, by first | exact Kd.R_nil _ _ _ _ _ | exact Kd.N_nil _ _ _ _ _ | exact Kd.V_nil _ _ _ _ _ | exact Kd.Q_nil _ _ _ _ _ | exact Kd.S_nil _ _ _ _ _, Sqz.auHB⟩
   ·replace c7 := Bool.eq_false_iff.mpr c7; subst c7; have H1 : ((slices_Clone_int_int.f l0).bind fun t219 => (impl_ZeroNormal.l0 kj1 t219 (([1, 1, 1] : List Int)) l0 (l0.length : Int) 0)) = some (r1, r2, r3) := by rw [if_neg (show ¬ (false = true) by decide)] at H; exact H
    clear H; have H := H1; clear H1; obtain ⟨t219, A8, H⟩ := Sqz.be H; obtain ⟨y222, hyy⟩ : ∃ y_ : List Int, y_ = (([1, 1, 1] : List Int)) := ⟨_, rfl⟩
    replace H : (impl_ZeroNormal.l0 kj1 t219 y222 l0 (l0.length : Int) 0) = some (r1, r2, r3) := Sqz.auY
    have Ny222 := Aside0.mk hyy; clear hyy; have H' := Aside0.mk H; clear H
    go_wp2_with (first | ((with_reducible refine gate_callee (f := 57) rfl ?_); refine goesL_ (some 23) rfl rfl Try.func57 (by kernel_rfl) rfl #[.slice A0 l0.length c0] rfl Sqz.auM ?_; (with_reducible refine (slices_Clone_int_int.calls _ _ l0 t219 _ ?side1 ?side2 A8.out).mono ?_); (case side1 => exact Sqz.mvC ((Kd.C_below HR0.out HB.out))); (case side2 => exact HC0.out); rintro e w9 ⟨v220, rfl, ho0, hb⟩; refine ⟨_, rfl, ?_⟩; have HO221 := Aside0.mk (Kd.R_lower ho0 (below_size (Sqz.auHB))); replace HB := Aside0.mk (below_step (Sqz.auHB) hb); (try clear hb); (try clear ho0)) | ((with_reducible refine gate_dst (N := 24) rfl ?_); (try (refine gate_guard (by rfl) ?_; dsimp only)); refine Kd.R_lit (Kd.int .i64) _ 3 ?hg (N := 24) ?hd (xs := ([1, 1, 1] : List Int)) (inner := [.int .i64 1, .int .i64 1, .int .i64 1]) (ok := fun _ => True) (okp := fun _ => True) ?hr ?hp (fun _ hk => hk) trivial (Below.refl _ _) (Nat.le_refl _) (by simp) ?_; (case hd => rfl); (case hg => rfl); (case hr => first | (go_simp; done) | (go_simp; rfl)); (case hp => exact (Reps.one (show Kd.M (Kd.int .i64) _ _ _ 1 [.int .i64 1] from rfl) (Reps.one (show Kd.M (Kd.int .i64) _ _ _ 1 [.int .i64 1] from rfl) (Reps.one (show Kd.M (Kd.int .i64) _ _ _ 1 [.int .i64 1] from rfl) (Reps.none _ _))))); intro v223 w10 ho11 hb hg_ hnew_; clear hg_ hnew_; (first | rw [← Ny222.out] at ho11 | (simp only [Int.reduceToNat] at ho11; rw [← Ny222.out] at ho11)); have HO224 := Aside0.mk (Kd.R_lower (Kd.R_new' ho11 (Kd.R_lt ((Sqz.mvR HO221.out)))) (below_size (Sqz.auHB))); replace HO221 := Aside0.mk (Kd.R_elder' ((Sqz.mvR HO221.out)) (Kd.R_base ho11) hb); replace HB := Aside0.mk (below_step (Sqz.auHB) hb); clear hb ho11))
    go_loopg [27] kj1 (fun kq v27 w' => ∃ (x5_2 : List Int) (x6_2 : List Int) (x27_2 : Int), v27 = .int .i64 x27_2 ∧ Aside0 (impl_ZeroNormal.l0 kq x5_2 x6_2 l0 (l0.length : Int) x27_2 = some (r1, r2, r3)) ∧ Aside0 (kq ≤ kj1) ∧ Aside0 (Kd.R (Kd.int .i64) 3 w' w.heap.size (fun k_ => some k_ ≠ (v223 : Value).ownBlock) v220 x5_2) ∧ Aside0 (Kd.R (Kd.int .i64) 3 w' w.heap.size (fun k_ => some k_ ≠ (v220 : Value).ownBlock) v223 x6_2) ∧ Aside0 (Below w.heap.size w w'))
    case atStart => exact ⟨(t219), (y222), (0), Sqz.auS, H', ⟨Nat.le_refl _⟩, ⟨(Sqz.mvR (Kd.R_mono HO221.out (fun _ hk => hk.2)))⟩, ⟨(Sqz.mvR (Kd.R_mono HO224.out (fun _ hk => hk.2)))⟩, ⟨Sqz.auHB⟩⟩
    case round =>
     clear H'
     obtain ⟨x5_2, x6_2, x27_2, rfl, HA, HK2, HO_5, HO_6, HB⟩ := hrel; cases gk with
     | zero => exact absurd HA.out (by simp [impl_ZeroNormal.l0])
     | succ k2 =>
      have H := HA.out; clear HA; simp only [impl_ZeroNormal.l0] at H
      by_cases c12 : x27_2 < (l0.length : Int)
      ·rw [if_pos c12] at H; have c12b0 := decide_eq_true c12; clear c12
       by_cases c13 : 0 ≤ x27_2
       ·rw [if_pos c13] at H; have c13b0 := decide_eq_true c13; clear c13
        by_cases c14 : x27_2 < (l0.length : Int)
        ·rw [if_pos c14] at H; have c14b0 := decide_eq_true c14; clear c14; replace H := Option.bind_eq_some_iff.mp H; obtain ⟨⟨t226, t227⟩, A150, H⟩ := H; replace H : (if x27_2 < (x5_2.length : Int) then (if 0 ≤ (Int.tmod (wrap64 (x27_2 + 1)) 3) then (if (Int.tmod (wrap64 (x27_2 + 1)) 3) < (x6_2.length : Int) then ((some (x6_2.set ((Int.tmod (wrap64 (x27_2 + 1)) 3) : Int).toNat (wrap64 ((rd x6_2 (Int.tmod (wrap64 (x27_2 + 1)) 3)) * t227)) : List Int)).bind fun y230 => (if 0 ≤ (Int.tmod (wrap64 (x27_2 + 2)) 3) then (if (Int.tmod (wrap64 (x27_2 + 2)) 3) < (x6_2.length : Int) then (impl_ZeroNormal.l0 k2 (x5_2.set (x27_2 : Int).toNat t226) (y230.set ((Int.tmod (wrap64 (x27_2 + 2)) 3) : Int).toNat (wrap64 ((rd y230 (Int.tmod (wrap64 (x27_2 + 2)) 3)) * t227))) l0 (l0.length : Int) (wrap64 (x27_2 + 1))) else (none)) else (none))) else (none)) else (none)) else (none)) = some (r1, r2, r3) := H; have A15 := Aside0.mk A150; clear A150
         by_cases c16 : x27_2 < (x5_2.length : Int)
         ·rw [if_pos c16] at H; have c16b0 := decide_eq_true c16; clear c16; obtain ⟨y228, hyy⟩ : ∃ y_ : List Int, y_ = (x5_2.set (x27_2 : Int).toNat t226) := ⟨_, rfl⟩
          replace H : (if 0 ≤ (Int.tmod (wrap64 (x27_2 + 1)) 3) then (if (Int.tmod (wrap64 (x27_2 + 1)) 3) < (x6_2.length : Int) then ((some (x6_2.set ((Int.tmod (wrap64 (x27_2 + 1)) 3) : Int).toNat (wrap64 ((rd x6_2 (Int.tmod (wrap64 (x27_2 + 1)) 3)) * t227)) : List Int)).bind fun y230 => (if 0 ≤ (Int.tmod (wrap64 (x27_2 + 2)) 3) then (if (Int.tmod (wrap64 (x27_2 + 2)) 3) < (x6_2.length : Int) then (impl_ZeroNormal.l0 k2 y228 (y230.set ((Int.tmod (wrap64 (x27_2 + 2)) 3) : Int).toNat (wrap64 ((rd y230 (Int.tmod (wrap64 (x27_2 + 2)) 3)) * t227))) l0 (l0.length : Int) (wrap64 (x27_2 + 1))) else (none)) else (none))) else (none)) else (none)) = some (r1, r2, r3) := Sqz.auY
          have Ny228 := Aside0.mk hyy; clear hyy; obtain ⟨ji18, hji18⟩ : ∃ j_ : Int, (Int.tmod (wrap64 (x27_2 + 1)) 3) = j_ := ⟨_, rfl⟩
          replace H : (if 0 ≤ (ji18) then (if (ji18) < (x6_2.length : Int) then ((some (x6_2.set ((ji18) : Int).toNat (wrap64 ((rd x6_2 (ji18)) * t227)) : List Int)).bind fun y230 => (if 0 ≤ (Int.tmod (wrap64 (x27_2 + 2)) 3) then (if (Int.tmod (wrap64 (x27_2 + 2)) 3) < (x6_2.length : Int) then (impl_ZeroNormal.l0 k2 y228 (y230.set ((Int.tmod (wrap64 (x27_2 + 2)) 3) : Int).toNat (wrap64 ((rd y230 (Int.tmod (wrap64 (x27_2 + 2)) 3)) * t227))) l0 (l0.length : Int) (wrap64 (x27_2 + 1))) else (none)) else (none))) else (none)) else (none)) = some (r1, r2, r3) := by first | (rw [hji18] at H; exact H) | (simp only [hji18] at H ⊢; exact H)
          (try rw [hji18] at A15)
          by_cases c19 : 0 ≤ (ji18)
          ·rw [if_pos c19] at H; have c19b0 := decide_eq_true c19; clear c19
           by_cases c20 : (ji18) < (x6_2.length : Int)
           ·rw [if_pos c20] at H; have c20b0 := decide_eq_true c20; clear c20; obtain ⟨y230, hyy⟩ : ∃ y_ : List Int, y_ = (x6_2.set ((ji18) : Int).toNat (wrap64 ((rd x6_2 (ji18)) * t227))) := ⟨_, rfl⟩
            replace H : (if 0 ≤ (Int.tmod (wrap64 (x27_2 + 2)) 3) then (if (Int.tmod (wrap64 (x27_2 + 2)) 3) < (x6_2.length : Int) then (impl_ZeroNormal.l0 k2 y228 (y230.set ((Int.tmod (wrap64 (x27_2 + 2)) 3) : Int).toNat (wrap64 ((rd y230 (Int.tmod (wrap64 (x27_2 + 2)) 3)) * t227))) l0 (l0.length : Int) (wrap64 (x27_2 + 1))) else (none)) else (none)) = some (r1, r2, r3) := Sqz.auY
            have Ny230 := Aside0.mk hyy; clear hyy; obtain ⟨ji22, hji22⟩ : ∃ j_ : Int, (Int.tmod (wrap64 (x27_2 + 2)) 3) = j_ := ⟨_, rfl⟩
            replace H : (if 0 ≤ (ji22) then (if (ji22) < (x6_2.length : Int) then (impl_ZeroNormal.l0 k2 y228 (y230.set ((ji22) : Int).toNat (wrap64 ((rd y230 (ji22)) * t227))) l0 (l0.length : Int) (wrap64 (x27_2 + 1))) else (none)) else (none)) = some (r1, r2, r3) := by first | (rw [hji22] at H; exact H) | (simp only [hji22] at H ⊢; exact H)
            (try rw [hji22] at A15)
            by_cases c23 : 0 ≤ (ji22)
            ·rw [if_pos c23] at H; have c23b0 := decide_eq_true c23; clear c23
             by_cases c24 : (ji22) < (x6_2.length : Int)
             ·rw [if_pos c24] at H; have c24b0 := decide_eq_true c24; clear c24; obtain ⟨y232, hyy⟩ : ∃ y_ : List Int, y_ = (y230.set ((ji22) : Int).toNat (wrap64 ((rd y230 (ji22)) * t227))) := ⟨_, rfl⟩
              replace H : (impl_ZeroNormal.l0 k2 y228 y232 l0 (l0.length : Int) (wrap64 (x27_2 + 1))) = some (r1, r2, r3) := Sqz.auY
              have Ny232 := Aside0.mk hyy; clear hyy; have H' := Aside0.mk H; clear H; have p225 : 0 ≤ (x27_2 : Int) := Sqz.od; have q225 : x27_2 < (l0.length : Int) := Sqz.od; obtain ⟨ad225, e225, hx225_0⟩ := Kd.at_int HR0.out x27_2 p225 q225; cases e225; replace hx225_0 := (HB.out.cell (World.block_lt_of_cell? w _ hx225_0)).trans hx225_0; replace p225 := eq_true p225; replace q225 := eq_true q225
              go_wp2_with (first | ((with_reducible refine gate_callee (f := 51) rfl ?_); refine goesL_ (some 36) rfl rfl Try.func51 (by kernel_rfl) rfl #[.int .i64 (rd l0 x27_2)] rfl Sqz.auM ?_; (with_reducible refine (impl_coreOf.calls k2 (rd l0 x27_2) t226 t227 _ A15.out).mono ?_); rintro e w26 ⟨rfl, hb⟩; refine ⟨_, rfl, ?_⟩; replace HO_5 := Aside0.mk (Kd.R_below ((Sqz.mvR HO_5.out)) hb); replace HO_6 := Aside0.mk (Kd.R_below ((Sqz.mvR HO_6.out)) hb); replace HB := Aside0.mk (below_step (Sqz.auHB) hb); (try clear hb); have p17 : 0 ≤ (x27_2 : Int) := Sqz.od; have q17 : (x27_2 : Int) < ((x5_2.length : Int) : Int) := Sqz.od; obtain ⟨go17, co17, eo17, gb17, gl17, cl17, HG17⟩ := Kd.R_form HO_5.out (by omega); (first | cases eo17 | (injection eo17 with ea_ en_ ec_; (first | subst ea_ | (injection ea_ with ea_; subst ea_)); subst ec_; clear en_)); have GB17 := Aside0.mk gb17; have GG17 := Aside0.mk HG17; clear gb17 gl17 HG17; obtain ⟨hx17_0, hf17_0⟩ := Kd.R_celln 0 HO_5.out (x27_2 : Int) p17 q17; replace p17 := eq_true p17; replace q17 := eq_true q17; obtain ⟨hy27_, hz27_⟩ := Kd.R_celln 0 HO_5.out (x27_2 : Int) (Sqz.od) (Sqz.od); have HP27 := Kd.R_putg HO_5.out (x27_2 : Int) t226) | ((with_reducible refine gate_store (t := 3) (p := 39) rfl ?_); refine store_event (t := 3) (p := 39) (v := ?vo_w28) (w1 := (w26.setCell ⟨go17, (x27_2 : Int).toNat, none⟩ (.int .i64 t226))) ?hg ?ho ?hn ?hr ?_; (case ho => rfl); (case hg => rfl); (case hn => rfl); (case hr => first | (go_simp; done) | (go_simp; rfl)); intro w28 hw; have hg : w26.grownBy w28 (some go17) := (by rw [hw]; exact HP27.2); have hp_ : Kd.R (Kd.int .i64) 3 w28 w.heap.size (fun k_ => some k_ ≠ (v223 : Value).ownBlock) (.slice (some ⟨go17, 0, none⟩) x5_2.length co17) y228 := (by rw [hw, Ny228.out]; exact HP27.1); clear HP27; replace HO_5 := Aside0.mk (hp_); replace HO_6 := Aside0.mk (Kd.R_after (v := (.slice (some ⟨go17, 0, none⟩) x5_2.length co17)) (v1 := (.slice (some ⟨go17, 0, none⟩) x5_2.length co17)) (ok := (fun _ => True)) ((Sqz.mvR (Kd.R_mono HO_6.out (fun _ hk => ⟨trivial, hk⟩)))) hg (.inl rfl)); replace HB := Aside0.mk ((by rw [hw]; exact below_set (HB.out) GB17.out : Below w.heap.size w w28)); clear hg hw hp_; obtain ⟨Ao29, co29, eo29⟩ := Kd.R_slice HO_6.out; subst eo29; have p229 : 0 ≤ ((ji18) : Int) := Sqz.od; have q229 : (ji18) < (x6_2.length : Int) := Sqz.od; obtain ⟨ad229, e229, hx229_0⟩ := Kd.at_int (Kd.R_reads' HO_6.out).2.2 (ji18) p229 q229; cases e229; replace p229 := eq_true p229; replace q229 := eq_true q229; have p21 : 0 ≤ ((ji18) : Int) := Sqz.od; have q21 : ((ji18) : Int) < ((x6_2.length : Int) : Int) := Sqz.od; obtain ⟨go21, co21, eo21, gb21, gl21, cl21, HG21⟩ := Kd.R_form HO_6.out (by omega); (first | cases eo21 | (injection eo21 with ea_ en_ ec_; (first | subst ea_ | (injection ea_ with ea_; subst ea_)); subst ec_; clear en_)); have GB21 := Aside0.mk gb21; have GG21 := Aside0.mk HG21; clear gb21 gl21 HG21; (first | simp only [add_plain] at hx229_0 | skip); obtain ⟨hx21_0, hf21_0⟩ := Kd.R_celln 0 HO_6.out ((ji18) : Int) p21 q21; replace p21 := eq_true p21; replace q21 := eq_true q21; have n_ := Aside0.mk (Kd.R_mono (ok' := (fun k_ => some k_ ≠ (.slice (some ⟨go17, 0, none⟩) x5_2.length co17 : Value).ownBlock)) HO_6.out (fun k_ hk => hk.2)); clear HO_6; have HO_6 := n_; clear n_; obtain ⟨hy30_, hz30_⟩ := Kd.R_celln 0 HO_6.out ((ji18) : Int) (Sqz.od) (Sqz.od); have HP30 := Kd.R_putg HO_6.out ((ji18) : Int) (wrap64 ((rd x6_2 (ji18)) * t227))) | ((with_reducible refine gate_store (t := 3) (p := 48) rfl ?_); refine store_event (t := 3) (p := 48) (v := ?vo_w31) (w1 := (w28.setCell ⟨go21, ((ji18) : Int).toNat, none⟩ (.int .i64 (wrap64 ((rd x6_2 (ji18)) * t227))))) ?hg ?ho ?hn ?hr ?_; (case ho => rfl); (case hg => rfl); (case hn => rfl); (case hr => first | (go_simp; done) | (go_simp; rfl)); intro w31 hw; have hg : w28.grownBy w31 (some go21) := (by rw [hw]; exact HP30.2); have hp_ : Kd.R (Kd.int .i64) 3 w31 w.heap.size (fun k_ => some k_ ≠ (.slice (some ⟨go17, 0, none⟩) x5_2.length co17 : Value).ownBlock) (.slice (some ⟨go21, 0, none⟩) x6_2.length co29) y230 := (by rw [hw, Ny230.out]; exact HP30.1); clear HP30; replace HO_5 := Aside0.mk (Kd.R_after (v := (.slice (some ⟨go21, 0, none⟩) x6_2.length co29)) (v1 := (.slice (some ⟨go21, 0, none⟩) x6_2.length co29)) (ok := (fun _ => True)) ((Sqz.mvR (Kd.R_mono HO_5.out (fun _ hk => ⟨trivial, hk⟩)))) hg (.inl rfl)); replace HO_6 := Aside0.mk (hp_); replace HB := Aside0.mk ((by rw [hw]; exact below_set (HB.out) GB21.out : Below w.heap.size w w31)); clear hg hw hp_; have p231 : 0 ≤ ((ji22) : Int) := Sqz.od; have q231 : (ji22) < (y230.length : Int) := (by have h_ : ((ji22) : Int) < ((x6_2.length : Int) : Int) := Sqz.od; first | (have e_ := (Kd.R_reads' HO_6.out).1; omega) | simpa only [Ny230.out, List.length_set] using h_); have ql231 : (((ji22) : Int) < ((x6_2.length : Int) : Int)) = True := eq_true (Sqz.od); obtain ⟨ad231, e231, hx231_0⟩ := Kd.at_int (Kd.R_reads' HO_6.out).2.2 (ji22) p231 q231; obtain rfl : (⟨go21, 0, none⟩ : Addr) = ad231 := (by injection e231); (first | simp only [add_plain] at hx231_0 | simp only [add_at] at hx231_0 | simp only [Addr.add, Nat.zero_add] at hx231_0 | skip); replace p231 := eq_true p231; replace q231 := eq_true q231; have p25 : 0 ≤ ((ji22) : Int) := Sqz.od; have q25 : ((ji22) : Int) < ((x6_2.length : Int) : Int) := Sqz.od; obtain ⟨hx25_0, hf25_0⟩ := Kd.R_celln 0 HO_6.out ((ji22) : Int) p25 q25; replace p25 := eq_true p25; replace q25 := eq_true q25; obtain ⟨hy32_, hz32_⟩ := Kd.R_celln 0 HO_6.out ((ji22) : Int) (Sqz.od) (Sqz.od); have HP32 := Kd.R_putg HO_6.out ((ji22) : Int) (wrap64 ((rd y230 (ji22)) * t227))) | ((with_reducible refine gate_store (t := 3) (p := 57) rfl ?_); refine store_event (t := 3) (p := 57) (v := ?vo_w33) (w1 := (w31.setCell ⟨go21, ((ji22) : Int).toNat, none⟩ (.int .i64 (wrap64 ((rd y230 (ji22)) * t227))))) ?hg ?ho ?hn ?hr ?_; (case ho => rfl); (case hg => rfl); (case hn => rfl); (case hr => first | (go_simp; done) | (go_simp; rfl)); intro w33 hw; have hg : w31.grownBy w33 (some go21) := (by rw [hw]; exact HP32.2); have hp_ : Kd.R (Kd.int .i64) 3 w33 w.heap.size (fun k_ => some k_ ≠ (.slice (some ⟨go17, 0, none⟩) x5_2.length co17 : Value).ownBlock) (.slice (some ⟨go21, 0, none⟩) x6_2.length co29) y232 := (by rw [hw, Ny232.out]; exact HP32.1); clear HP32; replace HO_5 := Aside0.mk (Kd.R_after (v := (.slice (some ⟨go21, 0, none⟩) x6_2.length co29)) (v1 := (.slice (some ⟨go21, 0, none⟩) x6_2.length co29)) (ok := (fun _ => True)) ((Sqz.mvR HO_5.out)) hg (.inl rfl)); replace HO_6 := Aside0.mk (hp_); replace HB := Aside0.mk ((by rw [hw]; exact below_set (HB.out) GB21.out : Below w.heap.size w w33)); clear hg hw hp_))
              go_roundg k2
              case measure => have := HJ1.out; have := HK2.out; omega
              case rel => exact ⟨(y228), (y232), (wrap64 (x27_2 + 1)), Sqz.auS, H', ⟨by have := HJ1.out; have := HK2.out; omega⟩, ⟨(Sqz.mvR (Kd.R_mono HO_5.out (fun _ hk => hk.2)))⟩, ⟨(Sqz.mvR HO_6.out)⟩, ⟨Sqz.auHB⟩⟩
             ·rw [if_neg c24] at H; exact absurd H (by simp)
            ·rw [if_neg c23] at H; exact absurd H (by simp)
           ·rw [if_neg c20] at H; exact absurd H (by simp)
          ·rw [if_neg c19] at H; exact absurd H (by simp)
         ·rw [if_neg c16] at H; exact absurd H (by simp)
        ·rw [if_neg c14] at H; exact absurd H (by simp)
       ·rw [if_neg c13] at H; exact absurd H (by simp)
      ·rw [if_neg c12] at H; have c12b0 := decide_eq_false c12; clear c12; have H' := Aside0.mk H; clear H; go_wp2
       go_loopg [] k2 (fun kq w' => ∃ (x5_3 : List Int) (x6_3 : List Int), Aside0 (impl_ZeroNormal.l1 kq x5_3 x6_3 = some (r1, r2, r3)) ∧ Aside0 (kq ≤ k2) ∧ Aside0 (Kd.R (Kd.int .i64) 3 w' w.heap.size (fun k_ => some k_ ≠ (v223 : Value).ownBlock) v220 x5_3) ∧ Aside0 (Kd.R (Kd.int .i64) 3 w' w.heap.size (fun k_ => some k_ ≠ (v220 : Value).ownBlock) v223 x6_3) ∧ Aside0 (Below w.heap.size w w'))
       case atStart => exact ⟨(x5_2), (x6_2), H', ⟨Nat.le_refl _⟩, ⟨(Sqz.mvR HO_5.out)⟩, ⟨(Sqz.mvR HO_6.out)⟩, ⟨Sqz.auHB⟩⟩
       case round =>
        clear H'
        try clear c12b0
        obtain ⟨x5_3, x6_3, HA, HK3, HO_5, HO_6, HB⟩ := hrel; cases gk with
        | zero => exact absurd HA.out (by simp [impl_ZeroNormal.l1])
        | succ k3 =>
         have H := HA.out; clear HA; simp only [impl_ZeroNormal.l1] at H; replace H := Option.bind_eq_some_iff.mp H; obtain ⟨⟨t233, t234, t235⟩, A340, H⟩ := H; replace H : (if t235 = 0 then (some (x5_3, x6_3, true)) else (if 0 ≤ t233 then (if t233 < (x5_3.length : Int) then ((some (x5_3.set (t233 : Int).toNat (wrap64 (Int.tdiv (rd x5_3 t233) t235)) : List Int)).bind fun y237 => (if 0 ≤ t234 then (if t234 < (x5_3.length : Int) then ((some (y237.set (t234 : Int).toNat (wrap64 (Int.tdiv (rd y237 t234) t235)) : List Int)).bind fun y239 => (if 0 ≤ (wrap64 ((wrap64 (3 - t233)) - t234)) then (if (wrap64 ((wrap64 (3 - t233)) - t234)) < (x5_3.length : Int) then (if (Int.tmod (rd y239 (wrap64 ((wrap64 (3 - t233)) - t234))) t235) = 0 then (impl_ZeroNormal.l1 k3 (y239.set ((wrap64 ((wrap64 (3 - t233)) - t234)) : Int).toNat (wrap64 (Int.tdiv (rd y239 (wrap64 ((wrap64 (3 - t233)) - t234))) t235))) x6_3) else (if (wrap64 ((wrap64 (3 - t233)) - t234)) < (x6_3.length : Int) then (impl_ZeroNormal.l1 k3 (y239.set ((wrap64 ((wrap64 (3 - t233)) - t234)) : Int).toNat (wrap64 ((rd y239 (wrap64 ((wrap64 (3 - t233)) - t234))) * t235))) (x6_3.set ((wrap64 ((wrap64 (3 - t233)) - t234)) : Int).toNat (wrap64 ((rd x6_3 (wrap64 ((wrap64 (3 - t233)) - t234))) * t235)))) else (none))) else (none)) else (none))) else (none)) else (none))) else (none)) else (none))) = some (r1, r2, r3) := H; have A34 := Aside0.mk A340; clear A340
         by_cases c35 : t235 = 0
         ·rw [if_pos c35] at H; have c35b0 := beq_iff_eq.mpr c35; clear c35; simp only [Option.some.injEq, Prod.mk.injEq] at H; obtain ⟨rfl, rfl, rfl⟩ := H; obtain ⟨Ao36, co36, eo36⟩ := Kd.R_slice HO_5.out; subst eo36
          go_wp2_with (((with_reducible refine gate_callee (f := 80) rfl ?_); refine goesL_ (some 61) rfl rfl Try.func80 (by kernel_rfl) rfl #[.slice Ao36 x5_3.length co36] rfl Sqz.auM ?_; (with_reducible refine (impl_sharedPrime.calls k3 _ _ x5_3 t233 t234 t235 _ ?side1 ?side2 A34.out).mono ?_); (case side1 => exact Sqz.mvC ((Kd.R_reads' HO_5.out).2.2)); (case side2 => exact (Kd.R_reads' HO_5.out).2.1); rintro e w37 ⟨rfl, hb⟩; refine ⟨_, rfl, ?_⟩; replace HO_5 := Aside0.mk (Kd.R_below ((Sqz.mvR HO_5.out)) hb); replace HO_6 := Aside0.mk (Kd.R_below ((Sqz.mvR HO_6.out)) hb); replace HB := Aside0.mk (below_step (Sqz.auHB) hb); (try clear hb)))
          go_ret3
          exact ⟨_, _, Sqz.auR, (Sqz.mvR HO_5.out), (Sqz.mvR HO_6.out), Sqz.auHB⟩
         ·rw [if_neg c35] at H; have c35b0 := beq_eq_false_iff_ne.mpr c35
          by_cases c38 : 0 ≤ t233
          ·rw [if_pos c38] at H; have c38b0 := decide_eq_true c38; clear c38
           by_cases c39 : t233 < (x5_3.length : Int)
           ·rw [if_pos c39] at H; have c39b0 := decide_eq_true c39; clear c39; obtain ⟨y237, hyy⟩ : ∃ y_ : List Int, y_ = (x5_3.set (t233 : Int).toNat (wrap64 (Int.tdiv (rd x5_3 t233) t235))) := ⟨_, rfl⟩
            replace H : (if 0 ≤ t234 then (if t234 < (x5_3.length : Int) then ((some (y237.set (t234 : Int).toNat (wrap64 (Int.tdiv (rd y237 t234) t235)) : List Int)).bind fun y239 => (if 0 ≤ (wrap64 ((wrap64 (3 - t233)) - t234)) then (if (wrap64 ((wrap64 (3 - t233)) - t234)) < (x5_3.length : Int) then (if (Int.tmod (rd y239 (wrap64 ((wrap64 (3 - t233)) - t234))) t235) = 0 then (impl_ZeroNormal.l1 k3 (y239.set ((wrap64 ((wrap64 (3 - t233)) - t234)) : Int).toNat (wrap64 (Int.tdiv (rd y239 (wrap64 ((wrap64 (3 - t233)) - t234))) t235))) x6_3) else (if (wrap64 ((wrap64 (3 - t233)) - t234)) < (x6_3.length : Int) then (impl_ZeroNormal.l1 k3 (y239.set ((wrap64 ((wrap64 (3 - t233)) - t234)) : Int).toNat (wrap64 ((rd y239 (wrap64 ((wrap64 (3 - t233)) - t234))) * t235))) (x6_3.set ((wrap64 ((wrap64 (3 - t233)) - t234)) : Int).toNat (wrap64 ((rd x6_3 (wrap64 ((wrap64 (3 - t233)) - t234))) * t235)))) else (none))) else (none)) else (none))) else (none)) else (none)) = some (r1, r2, r3) := Sqz.auY
            have Ny237 := Aside0.mk hyy; clear hyy
            by_cases c41 : 0 ≤ t234
            ·rw [if_pos c41] at H; have c41b0 := decide_eq_true c41; clear c41
             by_cases c42 : t234 < (x5_3.length : Int)
             ·rw [if_pos c42] at H; have c42b0 := decide_eq_true c42; clear c42; obtain ⟨y239, hyy⟩ : ∃ y_ : List Int, y_ = (y237.set (t234 : Int).toNat (wrap64 (Int.tdiv (rd y237 t234) t235))) := ⟨_, rfl⟩
              replace H : (if 0 ≤ (wrap64 ((wrap64 (3 - t233)) - t234)) then (if (wrap64 ((wrap64 (3 - t233)) - t234)) < (x5_3.length : Int) then (if (Int.tmod (rd y239 (wrap64 ((wrap64 (3 - t233)) - t234))) t235) = 0 then (impl_ZeroNormal.l1 k3 (y239.set ((wrap64 ((wrap64 (3 - t233)) - t234)) : Int).toNat (wrap64 (Int.tdiv (rd y239 (wrap64 ((wrap64 (3 - t233)) - t234))) t235))) x6_3) else (if (wrap64 ((wrap64 (3 - t233)) - t234)) < (x6_3.length : Int) then (impl_ZeroNormal.l1 k3 (y239.set ((wrap64 ((wrap64 (3 - t233)) - t234)) : Int).toNat (wrap64 ((rd y239 (wrap64 ((wrap64 (3 - t233)) - t234))) * t235))) (x6_3.set ((wrap64 ((wrap64 (3 - t233)) - t234)) : Int).toNat (wrap64 ((rd x6_3 (wrap64 ((wrap64 (3 - t233)) - t234))) * t235)))) else (none))) else (none)) else (none)) = some (r1, r2, r3) := Sqz.auY
              have Ny239 := Aside0.mk hyy; clear hyy; obtain ⟨ji44, hji44⟩ : ∃ j_ : Int, (wrap64 ((wrap64 (3 - t233)) - t234)) = j_ := ⟨_, rfl⟩
              replace H : (if 0 ≤ (ji44) then (if (ji44) < (x5_3.length : Int) then (if (Int.tmod (rd y239 (ji44)) t235) = 0 then (impl_ZeroNormal.l1 k3 (y239.set ((ji44) : Int).toNat (wrap64 (Int.tdiv (rd y239 (ji44)) t235))) x6_3) else (if (ji44) < (x6_3.length : Int) then (impl_ZeroNormal.l1 k3 (y239.set ((ji44) : Int).toNat (wrap64 ((rd y239 (ji44)) * t235))) (x6_3.set ((ji44) : Int).toNat (wrap64 ((rd x6_3 (ji44)) * t235)))) else (none))) else (none)) else (none)) = some (r1, r2, r3) := by first | (rw [hji44] at H; exact H) | (simp only [hji44] at H ⊢; exact H)
              (try rw [hji44] at A34); have hji44w : (IntKind.i64.wrap ((wrap64 (3 - t233)) - t234)) = ji44 := (i64_w _).trans hji44
              by_cases c45 : 0 ≤ (ji44)
              ·rw [if_pos c45] at H; have c45b0 := decide_eq_true c45; clear c45
               by_cases c46 : (ji44) < (x5_3.length : Int)
               ·rw [if_pos c46] at H; have c46b0 := decide_eq_true c46; clear c46
                by_cases c47 : (Int.tmod (rd y239 (ji44)) t235) = 0
                ·rw [if_pos c47] at H; have c47b0 := beq_iff_eq.mpr c47; clear c47; obtain ⟨y242, hyy⟩ : ∃ y_ : List Int, y_ = (y239.set ((ji44) : Int).toNat (wrap64 (Int.tdiv (rd y239 (ji44)) t235))) := ⟨_, rfl⟩
                 replace H : (impl_ZeroNormal.l1 k3 y242 x6_3) = some (r1, r2, r3) := Sqz.auY
                 have Ny242 := Aside0.mk hyy; clear hyy; have H' := Aside0.mk H; clear H; obtain ⟨Ao49, co49, eo49⟩ := Kd.R_slice HO_5.out; subst eo49
                 go_wp2_with (first | ((with_reducible refine gate_callee (f := 80) rfl ?_); refine goesL_ (some 61) rfl rfl Try.func80 (by kernel_rfl) rfl #[.slice Ao49 x5_3.length co49] rfl Sqz.auM ?_; (with_reducible refine (impl_sharedPrime.calls k3 _ _ x5_3 t233 t234 t235 _ ?side1 ?side2 A34.out).mono ?_); (case side1 => exact Sqz.mvC ((Kd.R_reads' HO_5.out).2.2)); (case side2 => exact (Kd.R_reads' HO_5.out).2.1); rintro e w50 ⟨rfl, hb⟩; refine ⟨_, rfl, ?_⟩; replace HO_5 := Aside0.mk (Kd.R_below ((Sqz.mvR HO_5.out)) hb); replace HO_6 := Aside0.mk (Kd.R_below ((Sqz.mvR HO_6.out)) hb); replace HB := Aside0.mk (below_step (Sqz.auHB) hb); (try clear hb); have p236 : 0 ≤ (t233 : Int) := Sqz.od; have q236 : t233 < (x5_3.length : Int) := Sqz.od; obtain ⟨ad236, e236, hx236_0⟩ := Kd.at_int (Kd.R_reads' HO_5.out).2.2 t233 p236 q236; cases e236; replace p236 := eq_true p236; replace q236 := eq_true q236; have p40 : 0 ≤ (t233 : Int) := Sqz.od; have q40 : (t233 : Int) < ((x5_3.length : Int) : Int) := Sqz.od; obtain ⟨go40, co40, eo40, gb40, gl40, cl40, HG40⟩ := Kd.R_form HO_5.out (by omega); (first | cases eo40 | (injection eo40 with ea_ en_ ec_; (first | subst ea_ | (injection ea_ with ea_; subst ea_)); subst ec_; clear en_)); have GB40 := Aside0.mk gb40; have GG40 := Aside0.mk HG40; clear gb40 gl40 HG40; (first | simp only [add_plain] at hx236_0 | skip); obtain ⟨hx40_0, hf40_0⟩ := Kd.R_celln 0 HO_5.out (t233 : Int) p40 q40; replace p40 := eq_true p40; replace q40 := eq_true q40; obtain ⟨hy51_, hz51_⟩ := Kd.R_celln 0 HO_5.out (t233 : Int) (Sqz.od) (Sqz.od); have HP51 := Kd.R_putg HO_5.out (t233 : Int) (wrap64 (Int.tdiv (rd x5_3 t233) t235))) | ((with_reducible refine gate_store (t := 3) (p := 79) rfl ?_); refine store_event (t := 3) (p := 79) (v := ?vo_w52) (w1 := (w50.setCell ⟨go40, (t233 : Int).toNat, none⟩ (.int .i64 (wrap64 (Int.tdiv (rd x5_3 t233) t235))))) ?hg ?ho ?hn ?hr ?_; (case ho => rfl); (case hg => rfl); (case hn => rfl); (case hr => first | (go_simp; done) | (go_simp; rfl)); intro w52 hw; have hg : w50.grownBy w52 (some go40) := (by rw [hw]; exact HP51.2); have hp_ : Kd.R (Kd.int .i64) 3 w52 w.heap.size (fun k_ => some k_ ≠ (v223 : Value).ownBlock) (.slice (some ⟨go40, 0, none⟩) x5_3.length co49) y237 := (by rw [hw, Ny237.out]; exact HP51.1); clear HP51; replace HO_5 := Aside0.mk (hp_); replace HO_6 := Aside0.mk (Kd.R_after (v := (.slice (some ⟨go40, 0, none⟩) x5_3.length co49)) (v1 := (.slice (some ⟨go40, 0, none⟩) x5_3.length co49)) (ok := (fun _ => True)) ((Sqz.mvR (Kd.R_mono HO_6.out (fun _ hk => ⟨trivial, hk⟩)))) hg (.inl rfl)); replace HB := Aside0.mk ((by rw [hw]; exact below_set (HB.out) GB40.out : Below w.heap.size w w52)); clear hg hw hp_; have p238 : 0 ≤ (t234 : Int) := Sqz.od; have q238 : t234 < (y237.length : Int) := (by have h_ : (t234 : Int) < ((x5_3.length : Int) : Int) := Sqz.od; first | (have e_ := (Kd.R_reads' HO_5.out).1; omega) | simpa only [Ny237.out, List.length_set] using h_); have ql238 : ((t234 : Int) < ((x5_3.length : Int) : Int)) = True := eq_true (Sqz.od); obtain ⟨ad238, e238, hx238_0⟩ := Kd.at_int (Kd.R_reads' HO_5.out).2.2 t234 p238 q238; obtain rfl : (⟨go40, 0, none⟩ : Addr) = ad238 := (by injection e238); (first | simp only [add_plain] at hx238_0 | simp only [add_at] at hx238_0 | simp only [Addr.add, Nat.zero_add] at hx238_0 | skip); replace p238 := eq_true p238; replace q238 := eq_true q238; have p43 : 0 ≤ (t234 : Int) := Sqz.od; have q43 : (t234 : Int) < ((x5_3.length : Int) : Int) := Sqz.od; obtain ⟨hx43_0, hf43_0⟩ := Kd.R_celln 0 HO_5.out (t234 : Int) p43 q43; replace p43 := eq_true p43; replace q43 := eq_true q43; obtain ⟨hy53_, hz53_⟩ := Kd.R_celln 0 HO_5.out (t234 : Int) (Sqz.od) (Sqz.od); have HP53 := Kd.R_putg HO_5.out (t234 : Int) (wrap64 (Int.tdiv (rd y237 t234) t235))) | ((with_reducible refine gate_store (t := 3) (p := 86) rfl ?_); refine store_event (t := 3) (p := 86) (v := ?vo_w54) (w1 := (w52.setCell ⟨go40, (t234 : Int).toNat, none⟩ (.int .i64 (wrap64 (Int.tdiv (rd y237 t234) t235))))) ?hg ?ho ?hn ?hr ?_; (case ho => rfl); (case hg => rfl); (case hn => rfl); (case hr => first | (go_simp; done) | (go_simp; rfl)); intro w54 hw; have hg : w52.grownBy w54 (some go40) := (by rw [hw]; exact HP53.2); have hp_ : Kd.R (Kd.int .i64) 3 w54 w.heap.size (fun k_ => some k_ ≠ (v223 : Value).ownBlock) (.slice (some ⟨go40, 0, none⟩) x5_3.length co49) y239 := (by rw [hw, Ny239.out]; exact HP53.1); clear HP53; replace HO_5 := Aside0.mk (hp_); replace HO_6 := Aside0.mk (Kd.R_after (v := (.slice (some ⟨go40, 0, none⟩) x5_3.length co49)) (v1 := (.slice (some ⟨go40, 0, none⟩) x5_3.length co49)) (ok := (fun _ => True)) ((Sqz.mvR HO_6.out)) hg (.inl rfl)); replace HB := Aside0.mk ((by rw [hw]; exact below_set (HB.out) GB40.out : Below w.heap.size w w54)); clear hg hw hp_; have p240 : 0 ≤ ((ji44) : Int) := Sqz.od; have q240 : (ji44) < (y239.length : Int) := (by have h_ : ((ji44) : Int) < ((x5_3.length : Int) : Int) := Sqz.od; first | (have e_ := (Kd.R_reads' HO_5.out).1; omega) | simpa only [Ny237.out, Ny239.out, List.length_set] using h_); have ql240 : (((ji44) : Int) < ((x5_3.length : Int) : Int)) = True := eq_true (Sqz.od); obtain ⟨ad240, e240, hx240_0⟩ := Kd.at_int (Kd.R_reads' HO_5.out).2.2 (ji44) p240 q240; obtain rfl : (⟨go40, 0, none⟩ : Addr) = ad240 := (by injection e240); (first | simp only [add_plain] at hx240_0 | simp only [add_at] at hx240_0 | simp only [Addr.add, Nat.zero_add] at hx240_0 | skip); replace p240 := eq_true p240; replace q240 := eq_true q240; have p241 : 0 ≤ ((ji44) : Int) := Sqz.od; have q241 : (ji44) < (y239.length : Int) := (by have h_ : ((ji44) : Int) < ((x5_3.length : Int) : Int) := Sqz.od; first | (have e_ := (Kd.R_reads' HO_5.out).1; omega) | simpa only [Ny237.out, Ny239.out, List.length_set] using h_); have ql241 : (((ji44) : Int) < ((x5_3.length : Int) : Int)) = True := eq_true (Sqz.od); obtain ⟨ad241, e241, hx241_0⟩ := Kd.at_int (Kd.R_reads' HO_5.out).2.2 (ji44) p241 q241; obtain rfl : (⟨go40, 0, none⟩ : Addr) = ad241 := (by injection e241); (first | simp only [add_plain] at hx241_0 | simp only [add_at] at hx241_0 | simp only [Addr.add, Nat.zero_add] at hx241_0 | skip); replace p241 := eq_true p241; replace q241 := eq_true q241; have p48 : 0 ≤ ((ji44) : Int) := Sqz.od; have q48 : ((ji44) : Int) < ((x5_3.length : Int) : Int) := Sqz.od; obtain ⟨hx48_0, hf48_0⟩ := Kd.R_celln 0 HO_5.out ((ji44) : Int) p48 q48; replace p48 := eq_true p48; replace q48 := eq_true q48; obtain ⟨hy55_, hz55_⟩ := Kd.R_celln 0 HO_5.out ((ji44) : Int) (Sqz.od) (Sqz.od); have HP55 := Kd.R_putg HO_5.out ((ji44) : Int) (wrap64 (Int.tdiv (rd y239 (ji44)) t235))) | ((with_reducible refine gate_store (t := 3) (p := 100) rfl ?_); refine store_event (t := 3) (p := 100) (v := ?vo_w56) (w1 := (w54.setCell ⟨go40, ((ji44) : Int).toNat, none⟩ (.int .i64 (wrap64 (Int.tdiv (rd y239 (ji44)) t235))))) ?hg ?ho ?hn ?hr ?_; (case ho => rfl); (case hg => rfl); (case hn => rfl); (case hr => first | (go_simp; done) | (go_simp; rfl)); intro w56 hw; have hg : w54.grownBy w56 (some go40) := (by rw [hw]; exact HP55.2); have hp_ : Kd.R (Kd.int .i64) 3 w56 w.heap.size (fun k_ => some k_ ≠ (v223 : Value).ownBlock) (.slice (some ⟨go40, 0, none⟩) x5_3.length co49) y242 := (by rw [hw, Ny242.out]; exact HP55.1); clear HP55; replace HO_5 := Aside0.mk (hp_); replace HO_6 := Aside0.mk (Kd.R_after (v := (.slice (some ⟨go40, 0, none⟩) x5_3.length co49)) (v1 := (.slice (some ⟨go40, 0, none⟩) x5_3.length co49)) (ok := (fun _ => True)) ((Sqz.mvR HO_6.out)) hg (.inl rfl)); replace HB := Aside0.mk ((by rw [hw]; exact below_set (HB.out) GB40.out : Below w.heap.size w w56)); clear hg hw hp_))
                 go_roundg k3
                 case measure => have := HJ1.out; have := HK2.out; have := HK3.out; omega
                 case rel => exact ⟨(y242), (x6_3), H', ⟨by have := HJ1.out; have := HK2.out; have := HK3.out; omega⟩, ⟨(Sqz.mvR HO_5.out)⟩, ⟨(Sqz.mvR (Kd.R_mono HO_6.out (fun _ hk => hk.2)))⟩, ⟨Sqz.auHB⟩⟩
                ·rw [if_neg c47] at H; have c47b0 := beq_eq_false_iff_ne.mpr c47; obtain ⟨y244, hyy⟩ : ∃ y_ : List Int, y_ = (y239.set ((ji44) : Int).toNat (wrap64 ((rd y239 (ji44)) * t235))) := ⟨_, rfl⟩
                 replace H : (if (ji44) < (x6_3.length : Int) then (impl_ZeroNormal.l1 k3 y244 (x6_3.set ((ji44) : Int).toNat (wrap64 ((rd x6_3 (ji44)) * t235)))) else (none)) = some (r1, r2, r3) := Sqz.auY
                 have Ny244 := Aside0.mk hyy; clear hyy
                 by_cases c58 : (ji44) < (x6_3.length : Int)
                 ·rw [if_pos c58] at H; have c58b0 := decide_eq_true c58; clear c58; obtain ⟨y246, hyy⟩ : ∃ y_ : List Int, y_ = (x6_3.set ((ji44) : Int).toNat (wrap64 ((rd x6_3 (ji44)) * t235))) := ⟨_, rfl⟩
                  replace H : (impl_ZeroNormal.l1 k3 y244 y246) = some (r1, r2, r3) := Sqz.auY
                  have Ny246 := Aside0.mk hyy; clear hyy; have H' := Aside0.mk H; clear H; obtain ⟨Ao60, co60, eo60⟩ := Kd.R_slice HO_5.out; subst eo60
                  go_wp2_with (first | ((with_reducible refine gate_callee (f := 80) rfl ?_); refine goesL_ (some 61) rfl rfl Try.func80 (by kernel_rfl) rfl #[.slice Ao60 x5_3.length co60] rfl Sqz.auM ?_; (with_reducible refine (impl_sharedPrime.calls k3 _ _ x5_3 t233 t234 t235 _ ?side1 ?side2 A34.out).mono ?_); (case side1 => exact Sqz.mvC ((Kd.R_reads' HO_5.out).2.2)); (case side2 => exact (Kd.R_reads' HO_5.out).2.1); rintro e w61 ⟨rfl, hb⟩; refine ⟨_, rfl, ?_⟩; replace HO_5 := Aside0.mk (Kd.R_below ((Sqz.mvR HO_5.out)) hb); replace HO_6 := Aside0.mk (Kd.R_below ((Sqz.mvR HO_6.out)) hb); replace HB := Aside0.mk (below_step (Sqz.auHB) hb); (try clear hb); have p236 : 0 ≤ (t233 : Int) := Sqz.od; have q236 : t233 < (x5_3.length : Int) := Sqz.od; obtain ⟨ad236, e236, hx236_0⟩ := Kd.at_int (Kd.R_reads' HO_5.out).2.2 t233 p236 q236; cases e236; replace p236 := eq_true p236; replace q236 := eq_true q236; have p40 : 0 ≤ (t233 : Int) := Sqz.od; have q40 : (t233 : Int) < ((x5_3.length : Int) : Int) := Sqz.od; obtain ⟨go40, co40, eo40, gb40, gl40, cl40, HG40⟩ := Kd.R_form HO_5.out (by omega); (first | cases eo40 | (injection eo40 with ea_ en_ ec_; (first | subst ea_ | (injection ea_ with ea_; subst ea_)); subst ec_; clear en_)); have GB40 := Aside0.mk gb40; have GG40 := Aside0.mk HG40; clear gb40 gl40 HG40; (first | simp only [add_plain] at hx236_0 | skip); obtain ⟨hx40_0, hf40_0⟩ := Kd.R_celln 0 HO_5.out (t233 : Int) p40 q40; replace p40 := eq_true p40; replace q40 := eq_true q40; obtain ⟨hy62_, hz62_⟩ := Kd.R_celln 0 HO_5.out (t233 : Int) (Sqz.od) (Sqz.od); have HP62 := Kd.R_putg HO_5.out (t233 : Int) (wrap64 (Int.tdiv (rd x5_3 t233) t235))) | ((with_reducible refine gate_store (t := 3) (p := 79) rfl ?_); refine store_event (t := 3) (p := 79) (v := ?vo_w63) (w1 := (w61.setCell ⟨go40, (t233 : Int).toNat, none⟩ (.int .i64 (wrap64 (Int.tdiv (rd x5_3 t233) t235))))) ?hg ?ho ?hn ?hr ?_; (case ho => rfl); (case hg => rfl); (case hn => rfl); (case hr => first | (go_simp; done) | (go_simp; rfl)); intro w63 hw; have hg : w61.grownBy w63 (some go40) := (by rw [hw]; exact HP62.2); have hp_ : Kd.R (Kd.int .i64) 3 w63 w.heap.size (fun k_ => some k_ ≠ (v223 : Value).ownBlock) (.slice (some ⟨go40, 0, none⟩) x5_3.length co60) y237 := (by rw [hw, Ny237.out]; exact HP62.1); clear HP62; replace HO_5 := Aside0.mk (hp_); replace HO_6 := Aside0.mk (Kd.R_after (v := (.slice (some ⟨go40, 0, none⟩) x5_3.length co60)) (v1 := (.slice (some ⟨go40, 0, none⟩) x5_3.length co60)) (ok := (fun _ => True)) ((Sqz.mvR (Kd.R_mono HO_6.out (fun _ hk => ⟨trivial, hk⟩)))) hg (.inl rfl)); replace HB := Aside0.mk ((by rw [hw]; exact below_set (HB.out) GB40.out : Below w.heap.size w w63)); clear hg hw hp_; have p238 : 0 ≤ (t234 : Int) := Sqz.od; have q238 : t234 < (y237.length : Int) := (by have h_ : (t234 : Int) < ((x5_3.length : Int) : Int) := Sqz.od; first | (have e_ := (Kd.R_reads' HO_5.out).1; omega) | simpa only [Ny237.out, List.length_set] using h_); have ql238 : ((t234 : Int) < ((x5_3.length : Int) : Int)) = True := eq_true (Sqz.od); obtain ⟨ad238, e238, hx238_0⟩ := Kd.at_int (Kd.R_reads' HO_5.out).2.2 t234 p238 q238; obtain rfl : (⟨go40, 0, none⟩ : Addr) = ad238 := (by injection e238); (first | simp only [add_plain] at hx238_0 | simp only [add_at] at hx238_0 | simp only [Addr.add, Nat.zero_add] at hx238_0 | skip); replace p238 := eq_true p238; replace q238 := eq_true q238; have p43 : 0 ≤ (t234 : Int) := Sqz.od; have q43 : (t234 : Int) < ((x5_3.length : Int) : Int) := Sqz.od; obtain ⟨hx43_0, hf43_0⟩ := Kd.R_celln 0 HO_5.out (t234 : Int) p43 q43; replace p43 := eq_true p43; replace q43 := eq_true q43; obtain ⟨hy64_, hz64_⟩ := Kd.R_celln 0 HO_5.out (t234 : Int) (Sqz.od) (Sqz.od); have HP64 := Kd.R_putg HO_5.out (t234 : Int) (wrap64 (Int.tdiv (rd y237 t234) t235))) | ((with_reducible refine gate_store (t := 3) (p := 86) rfl ?_); refine store_event (t := 3) (p := 86) (v := ?vo_w65) (w1 := (w63.setCell ⟨go40, (t234 : Int).toNat, none⟩ (.int .i64 (wrap64 (Int.tdiv (rd y237 t234) t235))))) ?hg ?ho ?hn ?hr ?_; (case ho => rfl); (case hg => rfl); (case hn => rfl); (case hr => first | (go_simp; done) | (go_simp; rfl)); intro w65 hw; have hg : w63.grownBy w65 (some go40) := (by rw [hw]; exact HP64.2); have hp_ : Kd.R (Kd.int .i64) 3 w65 w.heap.size (fun k_ => some k_ ≠ (v223 : Value).ownBlock) (.slice (some ⟨go40, 0, none⟩) x5_3.length co60) y239 := (by rw [hw, Ny239.out]; exact HP64.1); clear HP64; replace HO_5 := Aside0.mk (hp_); replace HO_6 := Aside0.mk (Kd.R_after (v := (.slice (some ⟨go40, 0, none⟩) x5_3.length co60)) (v1 := (.slice (some ⟨go40, 0, none⟩) x5_3.length co60)) (ok := (fun _ => True)) ((Sqz.mvR HO_6.out)) hg (.inl rfl)); replace HB := Aside0.mk ((by rw [hw]; exact below_set (HB.out) GB40.out : Below w.heap.size w w65)); clear hg hw hp_; have p240 : 0 ≤ ((ji44) : Int) := Sqz.od; have q240 : (ji44) < (y239.length : Int) := (by have h_ : ((ji44) : Int) < ((x5_3.length : Int) : Int) := Sqz.od; first | (have e_ := (Kd.R_reads' HO_5.out).1; omega) | simpa only [Ny237.out, Ny239.out, List.length_set] using h_); have ql240 : (((ji44) : Int) < ((x5_3.length : Int) : Int)) = True := eq_true (Sqz.od); obtain ⟨ad240, e240, hx240_0⟩ := Kd.at_int (Kd.R_reads' HO_5.out).2.2 (ji44) p240 q240; obtain rfl : (⟨go40, 0, none⟩ : Addr) = ad240 := (by injection e240); (first | simp only [add_plain] at hx240_0 | simp only [add_at] at hx240_0 | simp only [Addr.add, Nat.zero_add] at hx240_0 | skip); replace p240 := eq_true p240; replace q240 := eq_true q240; have p243 : 0 ≤ ((ji44) : Int) := Sqz.od; have q243 : (ji44) < (y239.length : Int) := (by have h_ : ((ji44) : Int) < ((x5_3.length : Int) : Int) := Sqz.od; first | (have e_ := (Kd.R_reads' HO_5.out).1; omega) | simpa only [Ny237.out, Ny239.out, List.length_set] using h_); have ql243 : (((ji44) : Int) < ((x5_3.length : Int) : Int)) = True := eq_true (Sqz.od); obtain ⟨ad243, e243, hx243_0⟩ := Kd.at_int (Kd.R_reads' HO_5.out).2.2 (ji44) p243 q243; obtain rfl : (⟨go40, 0, none⟩ : Addr) = ad243 := (by injection e243); (first | simp only [add_plain] at hx243_0 | simp only [add_at] at hx243_0 | simp only [Addr.add, Nat.zero_add] at hx243_0 | skip); replace p243 := eq_true p243; replace q243 := eq_true q243; have p57 : 0 ≤ ((ji44) : Int) := Sqz.od; have q57 : ((ji44) : Int) < ((x5_3.length : Int) : Int) := Sqz.od; obtain ⟨hx57_0, hf57_0⟩ := Kd.R_celln 0 HO_5.out ((ji44) : Int) p57 q57; replace p57 := eq_true p57; replace q57 := eq_true q57; obtain ⟨hy66_, hz66_⟩ := Kd.R_celln 0 HO_5.out ((ji44) : Int) (Sqz.od) (Sqz.od); have HP66 := Kd.R_putg HO_5.out ((ji44) : Int) (wrap64 ((rd y239 (ji44)) * t235))) | ((with_reducible refine gate_store (t := 3) (p := 107) rfl ?_); refine store_event (t := 3) (p := 107) (v := ?vo_w67) (w1 := (w65.setCell ⟨go40, ((ji44) : Int).toNat, none⟩ (.int .i64 (wrap64 ((rd y239 (ji44)) * t235))))) ?hg ?ho ?hn ?hr ?_; (case ho => rfl); (case hg => rfl); (case hn => rfl); (case hr => first | (go_simp; done) | (go_simp; rfl)); intro w67 hw; have hg : w65.grownBy w67 (some go40) := (by rw [hw]; exact HP66.2); have hp_ : Kd.R (Kd.int .i64) 3 w67 w.heap.size (fun k_ => some k_ ≠ (v223 : Value).ownBlock) (.slice (some ⟨go40, 0, none⟩) x5_3.length co60) y244 := (by rw [hw, Ny244.out]; exact HP66.1); clear HP66; replace HO_5 := Aside0.mk (hp_); replace HO_6 := Aside0.mk (Kd.R_after (v := (.slice (some ⟨go40, 0, none⟩) x5_3.length co60)) (v1 := (.slice (some ⟨go40, 0, none⟩) x5_3.length co60)) (ok := (fun _ => True)) ((Sqz.mvR HO_6.out)) hg (.inl rfl)); replace HB := Aside0.mk ((by rw [hw]; exact below_set (HB.out) GB40.out : Below w.heap.size w w67)); clear hg hw hp_; obtain ⟨Ao68, co68, eo68⟩ := Kd.R_slice HO_6.out; subst eo68; have p245 : 0 ≤ ((ji44) : Int) := Sqz.od; have q245 : (ji44) < (x6_3.length : Int) := Sqz.od; obtain ⟨ad245, e245, hx245_0⟩ := Kd.at_int (Kd.R_reads' HO_6.out).2.2 (ji44) p245 q245; cases e245; replace p245 := eq_true p245; replace q245 := eq_true q245; have p59 : 0 ≤ ((ji44) : Int) := Sqz.od; have q59 : ((ji44) : Int) < ((x6_3.length : Int) : Int) := Sqz.od; obtain ⟨go59, co59, eo59, gb59, gl59, cl59, HG59⟩ := Kd.R_form HO_6.out (by omega); (first | cases eo59 | (injection eo59 with ea_ en_ ec_; (first | subst ea_ | (injection ea_ with ea_; subst ea_)); subst ec_; clear en_)); have GB59 := Aside0.mk gb59; have GG59 := Aside0.mk HG59; clear gb59 gl59 HG59; (first | simp only [add_plain] at hx245_0 | skip); obtain ⟨hx59_0, hf59_0⟩ := Kd.R_celln 0 HO_6.out ((ji44) : Int) p59 q59; replace p59 := eq_true p59; replace q59 := eq_true q59; have n_ := Aside0.mk (Kd.R_mono (ok' := (fun k_ => some k_ ≠ (.slice (some ⟨go40, 0, none⟩) x5_3.length co60 : Value).ownBlock)) HO_6.out (fun k_ hk => hk.2)); clear HO_6; have HO_6 := n_; clear n_; obtain ⟨hy69_, hz69_⟩ := Kd.R_celln 0 HO_6.out ((ji44) : Int) (Sqz.od) (Sqz.od); have HP69 := Kd.R_putg HO_6.out ((ji44) : Int) (wrap64 ((rd x6_3 (ji44)) * t235))) | ((with_reducible refine gate_store (t := 3) (p := 114) rfl ?_); refine store_event (t := 3) (p := 114) (v := ?vo_w70) (w1 := (w67.setCell ⟨go59, ((ji44) : Int).toNat, none⟩ (.int .i64 (wrap64 ((rd x6_3 (ji44)) * t235))))) ?hg ?ho ?hn ?hr ?_; (case ho => rfl); (case hg => rfl); (case hn => rfl); (case hr => first | (go_simp; done) | (go_simp; rfl)); intro w70 hw; have hg : w67.grownBy w70 (some go59) := (by rw [hw]; exact HP69.2); have hp_ : Kd.R (Kd.int .i64) 3 w70 w.heap.size (fun k_ => some k_ ≠ (.slice (some ⟨go40, 0, none⟩) x5_3.length co60 : Value).ownBlock) (.slice (some ⟨go59, 0, none⟩) x6_3.length co68) y246 := (by rw [hw, Ny246.out]; exact HP69.1); clear HP69; replace HO_5 := Aside0.mk (Kd.R_after (v := (.slice (some ⟨go59, 0, none⟩) x6_3.length co68)) (v1 := (.slice (some ⟨go59, 0, none⟩) x6_3.length co68)) (ok := (fun _ => True)) ((Sqz.mvR (Kd.R_mono HO_5.out (fun _ hk => ⟨trivial, hk⟩)))) hg (.inl rfl)); replace HO_6 := Aside0.mk (hp_); replace HB := Aside0.mk ((by rw [hw]; exact below_set (HB.out) GB59.out : Below w.heap.size w w70)); clear hg hw hp_))
                  go_roundg k3
                  case measure => have := HJ1.out; have := HK2.out; have := HK3.out; omega
                  case rel => exact ⟨(y244), (y246), H', ⟨by have := HJ1.out; have := HK2.out; have := HK3.out; omega⟩, ⟨(Sqz.mvR (Kd.R_mono HO_5.out (fun _ hk => hk.2)))⟩, ⟨(Sqz.mvR HO_6.out)⟩, ⟨Sqz.auHB⟩⟩
                 ·rw [if_neg c58] at H; exact absurd H (by simp)
               ·rw [if_neg c46] at H; exact absurd H (by simp)
              ·rw [if_neg c45] at H; exact absurd H (by simp)
             ·rw [if_neg c42] at H; exact absurd H (by simp)
            ·rw [if_neg c41] at H; exact absurd H (by simp)
           ·rw [if_neg c39] at H; exact absurd H (by simp)
          ·rw [if_neg c38] at H; exact absurd H (by simp)

/-! ### impl_squareRoot: function 70 -/
def impl_squareRoot.l0 : Nat → Int → Int → Int → Option (Int × Bool)
 | 0, _, _, _ => none
 | k + 1, x0, x4, x5 => if x5 > 0 then (if (wrap64 ((wrap64 (x4 + x5)) * (wrap64 (x4 + x5)))) ≤ x0 then (impl_squareRoot.l0 k x0 (wrap64 (x4 + x5)) (wrap64 (Int.tdiv x5 2))) else (impl_squareRoot.l0 k x0 x4 (wrap64 (Int.tdiv x5 2)))) else (some (x4, ((wrap64 (x4 * x4)) == x0)))
def impl_squareRoot.f (k : Nat) (a0 : Int) : Option (Int × Bool) := if a0 < 0 then (some (0, false)) else (impl_squareRoot.l0 k a0 0 1073741824)
set_option maxHeartbeats 8000000 in
set_option maxRecDepth 100000 in
theorem impl_squareRoot.calls (k : Nat) (a0 : Int) (r1 : Int) (r2 : Bool) (w : World) (h : impl_squareRoot.f k a0 = some (r1, r2)) :
  Calls Try.prog 70 #[.int .i64 a0] w fun e w' => e = .returned (.tuple #[.int .i64 r1, .bool r2]) ∧ Drawn0 w w' := by
 have H : (if a0 < 0 then (some (0, false)) else (impl_squareRoot.l0 k a0 0 1073741824)) = some (r1, r2) := h; clear h
 by_cases c2 : a0 < 0
 ·rw [if_pos c2] at H; have c2b0 := decide_eq_true c2; clear c2; simp only [Option.some.injEq, Prod.mk.injEq] at H; obtain ⟨rfl, rfl⟩ := H
  go_enter Try.func70, Try.ntmps70
  go_wp2; go_ret2
  exact ⟨Sqz.auS, by repeat (first | exact Drawn0.refl _ | apply Drawn0.step)⟩
 ·rw [if_neg c2] at H; have c2b0 := decide_eq_false c2; clear c2; have H' := Aside0.mk H; clear H
  go_enter Try.func70, Try.ntmps70
  go_wp2
  go_loopg [4, 5] k (fun kq v4 v5 w' => ∃ (x4_1 : Int) (x5_1 : Int), v4 = .int .i64 x4_1 ∧ v5 = .int .i64 x5_1 ∧ Aside0 (impl_squareRoot.l0 kq a0 x4_1 x5_1 = some (r1, r2)) ∧ Aside0 (kq ≤ k) ∧ Drawn0 w w')
  case atStart => exact ⟨(0), (1073741824), Sqz.auS, Sqz.auS, H', ⟨Nat.le_refl _⟩, by repeat (first | exact Drawn0.refl _ | apply Drawn0.step)⟩
  case round =>
   clear H'
   try clear c2b0
   obtain ⟨x4_1, x5_1, rfl, rfl, HA, HK1, ⟨m1, rfl⟩⟩ := hrel; cases gk with
   | zero => exact absurd HA.out (by simp [impl_squareRoot.l0])
   | succ k1 =>
    have H := HA.out; clear HA; simp only [impl_squareRoot.l0] at H
    by_cases c3 : x5_1 > 0
    ·rw [if_pos c3] at H; have c3b0 : decide (0 < x5_1) = true := decide_eq_true c3; clear c3
     by_cases c4 : (wrap64 ((wrap64 (x4_1 + x5_1)) * (wrap64 (x4_1 + x5_1)))) ≤ a0
     ·rw [if_pos c4] at H; have c4b0 := decide_eq_true c4; clear c4; have H' := Aside0.mk H; clear H; go_wp2
      go_roundg k1
      case measure => have := HK1.out; omega
      case rel => exact ⟨(wrap64 (x4_1 + x5_1)), (wrap64 (Int.tdiv x5_1 2)), Sqz.auS, Sqz.auS, H', ⟨by have := HK1.out; omega⟩, by repeat (first | exact Drawn0.refl _ | apply Drawn0.step)⟩
     ·rw [if_neg c4] at H; have c4b0 := decide_eq_false c4; clear c4; have H' := Aside0.mk H; clear H; go_wp2
      go_roundg k1
      case measure => have := HK1.out; omega
      case rel => exact ⟨(x4_1), (wrap64 (Int.tdiv x5_1 2)), Sqz.auS, Sqz.auS, H', ⟨by have := HK1.out; omega⟩, by repeat (first | exact Drawn0.refl _ | apply Drawn0.step)⟩
    ·rw [if_neg c3] at H; have c3b0 : decide (0 < x5_1) = false := decide_eq_false c3; clear c3; simp only [Option.some.injEq, Prod.mk.injEq] at H; obtain ⟨rfl, rfl⟩ := H; go_wp2; go_ret2
     exact ⟨Sqz.auS, by repeat (first | exact Drawn0.refl _ | apply Drawn0.step)⟩

/-! ### impl_product: function 75 -/
def impl_product.l0 : Nat → Int → List Int → Int → Int → Option (Int)
 | 0, _, _, _, _ => none
 | k + 1, x3, x6, x7, x8 => if x8 < x7 then (if 0 ≤ x8 then (if x8 < (x6.length : Int) then (impl_product.l0 k (wrap64 (x3 * (rd x6 x8))) x6 x7 (wrap64 (x8 + 1))) else (none)) else (none)) else (some x3)
def impl_product.f (k : Nat) (l0 : List Int) : Option (Int) := impl_product.l0 k 1 l0 (l0.length : Int) 0
set_option maxHeartbeats 8000000 in
set_option maxRecDepth 100000 in
theorem impl_product.calls (k : Nat) (A0 : Option Addr) (c0 : Nat) (l0 : List Int) (r : Int) (w : World) (hr0 : Kd.C (Kd.int .i64) w A0 l0.length l0) (hc0 : l0.length ≤ c0) (h : impl_product.f k l0 = some r) :
  Calls Try.prog 75 #[.slice A0 l0.length c0] w fun e w' => e = .returned (.int .i64 r) ∧ Drawn0 w w' := by
 have HR0 := Aside0.mk hr0; have HC0 := Aside0.mk hc0; clear hr0 hc0; have H : (impl_product.l0 k 1 l0 (l0.length : Int) 0) = some r := h; clear h; have H' := Aside0.mk H; clear H
 go_enter Try.func75, Try.ntmps75
 go_wp2
 go_loopg [3, 8] k (fun kq v3 v8 w' => ∃ (x3_1 : Int) (x8_1 : Int), v3 = .int .i64 x3_1 ∧ v8 = .int .i64 x8_1 ∧ Aside0 (impl_product.l0 kq x3_1 l0 (l0.length : Int) x8_1 = some r) ∧ Aside0 (kq ≤ k) ∧ Drawn0 w w')
 case atStart => exact ⟨(1), (0), Sqz.auS, Sqz.auS, H', ⟨Nat.le_refl _⟩, by repeat (first | exact Drawn0.refl _ | apply Drawn0.step)⟩
 case round =>
  clear H'; obtain ⟨x3_1, x8_1, rfl, rfl, HA, HK1, ⟨m1, rfl⟩⟩ := hrel; cases gk with
  | zero => exact absurd HA.out (by simp [impl_product.l0])
  | succ k1 =>
   have H := HA.out; clear HA; simp only [impl_product.l0] at H
   by_cases c2 : x8_1 < (l0.length : Int)
   ·rw [if_pos c2] at H; have c2b0 := decide_eq_true c2; clear c2
    by_cases c3 : 0 ≤ x8_1
    ·rw [if_pos c3] at H; have c3b0 := decide_eq_true c3; clear c3
     by_cases c4 : x8_1 < (l0.length : Int)
     ·rw [if_pos c4] at H; have c4b0 := decide_eq_true c4; clear c4; have H' := Aside0.mk H; clear H; have p247 : 0 ≤ (x8_1 : Int) := Sqz.od; have q247 : x8_1 < (l0.length : Int) := Sqz.od; obtain ⟨ad247, e247, hx247_0⟩ := Kd.at_int HR0.out x8_1 p247 q247; cases e247; replace p247 := eq_true p247; replace q247 := eq_true q247; go_wp2
      go_roundg k1
      case measure => have := HK1.out; omega
      case rel => exact ⟨(wrap64 (x3_1 * (rd l0 x8_1))), (wrap64 (x8_1 + 1)), Sqz.auS, Sqz.auS, H', ⟨by have := HK1.out; omega⟩, by repeat (first | exact Drawn0.refl _ | apply Drawn0.step)⟩
     ·rw [if_neg c4] at H; exact absurd H (by simp)
    ·rw [if_neg c3] at H; exact absurd H (by simp)
   ·rw [if_neg c2] at H; have c2b0 := decide_eq_false c2; clear c2; obtain rfl := Option.some.inj H; go_wp2; go_ret
    exact ⟨Sqz.auS, by repeat (first | exact Drawn0.refl _ | apply Drawn0.step)⟩

end Go.Proofs.Ytnnpafjgghpecaa.PFnValueThere
