/- A function's Lean twin and its walk, written by a program of this session. -/
import Derived.Test.YtnnpafjgghpecaaPFnTwoFindx0
namespace Go.Proofs.Ytnnpafjgghpecaa.PFnTwoFind
open Go.RowKit Go.Proofs.YtnnpafjgghpecaaW.PrintWords Go.Proofs.YtnnpafjgghpecaaW.PrintLast Go.Proofs.YtnnpafjgghpecaaW.PrintMore
attribute [local go_sem] max2_int min2_int max_two min_two max_three min_three max_four min_four   -- for this text's walks alone
set_option linter.unusedVariables false
set_option linter.unusedSimpArgs false

/-- A state of type 66 at block g of W; what its slices lead to came in by w0. -/
def IsS66 (w0 W : World) (g : Nat) (f0 : List Int) (f1 : Int) : Prop := ∃ A0 c0, W.heap[g]? = some (.cells #[.slice A0 f0.length c0, .int .i64 f1] 66 (0, 0)) ∧ w0.heap.size ≤ g ∧ Kd.C (Kd.int .u8) w0 A0 f0.length f0
theorem IsS66.grown {w0 W : World} {g : Nat} {f0 : List Int} {f1 : Int} {W1 : World} {row : Option Nat} (h : IsS66 w0 W g f0 f1) (hw : W.grownBy W1 row) (hne : some g ≠ row) : IsS66 w0 W1 g f0 f1 := by
  obtain ⟨A0, c0, hb, hg, hr0⟩ := h
  exact ⟨A0, c0, blk_grown hb hw hne, hg, hr0⟩
theorem IsS66.own_neN {w0 W : World} {g : Nat} {f0 : List Int} {f1 : Int} {α : Type} {d : Kd α} {e : Nat} {base : Nat} {ok : Nat → Prop} {v : Value} {xs : List α} (h : IsS66 w0 W g f0 f1) (ho : Kd.N d e W base ok v xs) (ht : e ≠ 66) : some g ≠ v.ownBlock := by
  obtain ⟨A0, c0, hb, hg, hr0⟩ := h
  exact Kd.N_ne ho hb ht
theorem IsS66.fresh {w0 W : World} {g : Nat} {f0 : List Int} {f1 : Int} (h : IsS66 w0 W g f0 f1) : ∀ k, W.heap.size ≤ k → k ≠ g := by
  obtain ⟨A0, c0, hb, hg, hr0⟩ := h
  exact Kd.freshB hb
theorem IsS66.kept {w0 W : World} {g : Nat} {f0 : List Int} {f1 : Int} {W1 : World} {S : Nat → Prop} (h : IsS66 w0 W g f0 f1) (hk : Kept W W1 S) (hne : ¬ S g) : IsS66 w0 W1 g f0 f1 := by
  obtain ⟨A0, c0, hb, hg, hr0⟩ := h
  exact ⟨A0, c0, blk_kept hb hk hne, hg, hr0⟩
theorem IsS66.below {w0 W : World} {g : Nat} {f0 : List Int} {f1 : Int} {W1 : World} (h : IsS66 w0 W g f0 f1) (hw : Below W.heap.size W W1) : IsS66 w0 W1 g f0 f1 := h.grown (grown_of_below hw none) (by simp)
theorem IsS66.alloc {w0 W : World} {g : Nat} {f0 : List Int} {f1 : Int} (h : IsS66 w0 W g f0 f1) (o : Obj) : IsS66 w0 (W.alloc o) g f0 f1 := h.below (below_alloc (Below.refl _ _) o)
theorem IsS66.drewN {w0 W : World} {g : Nat} {f0 : List Int} {f1 : Int} (h : IsS66 w0 W g f0 f1) (m : Nat) : IsS66 w0 (W.drewN m) g f0 f1 := h
theorem IsS66.drew {w0 W : World} {g : Nat} {f0 : List Int} {f1 : Int} (h : IsS66 w0 W g f0 f1) : IsS66 w0 W.drew g f0 f1 := h
theorem IsS66.at_ {w0 W : World} {g : Nat} {f0 : List Int} {f1 : Int} {w' : World} {m : Nat} (hq : W.drewN m = w') (h : IsS66 w0 W g f0 f1) : IsS66 w0 w' g f0 f1 := by subst hq; exact IsS66.drewN h m
theorem IsS66.apart {w0 W : World} {g : Nat} {f0 : List Int} {f1 : Int} {α : Type} {d : Kd α} {e : Nat} {base : Nat} {ok : Nat → Prop} {v : Value} {xs : List α} (h : IsS66 w0 W g f0 f1) (ho : d.R e W base ok v xs) (ht : ∀ q, q ∈ e :: d.E → q ≠ 66) : d.R e W base (fun k => ok k ∧ k ≠ g) v xs := by
  obtain ⟨A0, c0, hb, hg, hr0⟩ := h
  exact Kd.R_types ho hb ht
theorem IsS66.own_ne {w0 W : World} {g : Nat} {f0 : List Int} {f1 : Int} {α : Type} {d : Kd α} {e : Nat} {base : Nat} {ok : Nat → Prop} {v : Value} {xs : List α} (h : IsS66 w0 W g f0 f1) (ho : d.R e W base ok v xs) (ht : e ≠ 66) : some g ≠ v.ownBlock := by
  obtain ⟨A0, c0, hb, hg, hr0⟩ := h
  exact Kd.R_ne ho hb ht
theorem IsS66.apartQ {w0 W : World} {g : Nat} {f0 : List Int} {f1 : Int} {α : Type} {d : Kd α} {e : Nat} {base : Nat} {ok : Nat → Prop} {v : Value} {xs : List α} (h : IsS66 w0 W g f0 f1) (ho : d.Q e W base ok v xs) (ht : ∀ q, q ∈ e :: d.E → q ≠ 66) : d.Q e W base (fun k => ok k ∧ k ≠ g) v xs := by
  obtain ⟨A0, c0, hb, hg, hr0⟩ := h
  exact Kd.Q_types ho hb ht
theorem IsS66.own_neQ {w0 W : World} {g : Nat} {f0 : List Int} {f1 : Int} {α : Type} {d : Kd α} {e : Nat} {base : Nat} {ok : Nat → Prop} {v : Value} {xs : List α} (h : IsS66 w0 W g f0 f1) (ho : d.Q e W base ok v xs) (ht : e ≠ 66) : some g ≠ v.ownBlock := by
  obtain ⟨A0, c0, hb, hg, hr0⟩ := h
  exact Kd.Q_ne ho hb ht
theorem IsS66.apartS {w0 W : World} {g : Nat} {f0 : List Int} {f1 : Int} {α : Type} {d : Kd α} {e : Nat} {base : Nat} {ok : Nat → Prop} {v : Value} {xs : List α} (h : IsS66 w0 W g f0 f1) (ho : d.S e W base ok v xs) (ht : ∀ q, q ∈ e :: d.E → q ≠ 66) : d.S e W base (fun k => ok k ∧ k ≠ g) v xs := by
  obtain ⟨A0, c0, hb, hg, hr0⟩ := h
  exact Kd.S_types ho hb ht
theorem IsS66.own_neS {w0 W : World} {g : Nat} {f0 : List Int} {f1 : Int} {α : Type} {d : Kd α} {e : Nat} {base : Nat} {ok : Nat → Prop} {v : Value} {xs : List α} (h : IsS66 w0 W g f0 f1) (ho : d.S e W base ok v xs) (ht : e ≠ 66) : some g ≠ v.ownBlock := by
  obtain ⟨A0, c0, hb, hg, hr0⟩ := h
  exact Kd.S_ne ho hb ht
theorem IsS66.lt {w0 W : World} {g : Nat} {f0 : List Int} {f1 : Int} (h : IsS66 w0 W g f0 f1) : g < W.heap.size := by
  obtain ⟨A0, c0, hb, hg, hr0⟩ := h
  exact blk_lt hb
theorem IsS66.ge {w0 W : World} {g : Nat} {f0 : List Int} {f1 : Int} (h : IsS66 w0 W g f0 f1) : w0.heap.size ≤ g := by
  obtain ⟨A0, c0, hb, hg, hr0⟩ := h
  exact hg
theorem IsS66.ne_blk {w0 W : World} {g : Nat} {f0 : List Int} {f1 : Int} {a : Nat} {cs : Array Value} {t : TypeId} {fr : Nat × Nat} (h : IsS66 w0 W g f0 f1) (hb2 : W.heap[a]? = some (.cells cs t fr)) (ht : t ≠ 66) : g ≠ a := by
  obtain ⟨A0, c0, hb, hg, hr0⟩ := h
  rintro rfl
  rw [hb] at hb2
  injection hb2 with hb2
  injection hb2 with _ ht2
  exact ht ht2.symm
theorem IsS66.far {w0 W : World} {g : Nat} {f0 : List Int} {f1 : Int} {p : Addr} (h : IsS66 w0 W g f0 f1) (hne : g ≠ p.block) (u : Value) : IsS66 w0 (W.setCell p u) g f0 f1 := by
  obtain ⟨A0, c0, hb, hg, hr0⟩ := h
  exact ⟨A0, c0, blk_far hb hne u, hg, hr0⟩
theorem cellS66_0 {W : World} {g : Nat} {A0 : Option Addr} {c0 : Nat} {f0 : List Int} {f1 : Int} (h : W.heap[g]? = some (.cells #[.slice A0 f0.length c0, .int .i64 f1] 66 (0, 0))) : W.cell? ⟨g, 0, none⟩ = some (.slice A0 f0.length c0) := (blk_cell h 0).trans rfl
theorem cellS66_1 {W : World} {g : Nat} {A0 : Option Addr} {c0 : Nat} {f0 : List Int} {f1 : Int} (h : W.heap[g]? = some (.cells #[.slice A0 f0.length c0, .int .i64 f1] 66 (0, 0))) : W.cell? ⟨g, 1, none⟩ = some (.int .i64 f1) := (blk_cell h 1).trans rfl
theorem IsS66.set_1 {w0 W : World} {g : Nat} {f0 : List Int} {f1 : Int} (h : IsS66 w0 W g f0 f1) (x : Int) : IsS66 w0 (W.setCell ⟨g, 1, none⟩ (.int .i64 x)) g f0 x := by
  obtain ⟨A0, c0, hb, hg, hr0⟩ := h
  exact ⟨A0, c0, by simpa using blk_set hb 1 (.int .i64 x), hg, hr0⟩
theorem IsS66.new (w0 W : World) (A0 : Option Addr) (c0 : Nat) (f0 : List Int) (f1 : Int) (hB : Below w0.heap.size w0 W) (hr0 : Kd.C (Kd.int .u8) w0 A0 f0.length f0) : IsS66 w0 (W.alloc (.cells #[.slice A0 f0.length c0, .int .i64 f1] 66)) W.heap.size f0 f1 := ⟨A0, c0, by simpa using heap_alloc_new W _, hB.size, hr0⟩

/-! ### spec_l6Rd_pick: function 40 -/
def spec_l6Rd_pick.j0 : Nat → Int → Bool → List Int → Int → Option (Int × Int)
  | 0, _, _, _, _ => none
  | k + 1, x1, x24, x1000, x1001 => if x24 = true then (some (0, x1001)) else (if (wrap64 (x1001 - 1)) < (x1000.length : Int) then (if 0 ≤ (wrap64 (x1001 - 1)) then (if x1 = 0 then (none) else (some (Int.tmod (wrap64 (rd x1000 (wrap64 (x1001 - 1)))) x1, x1001))) else (none)) else (if (x1000.length : Int) = 0 then (none) else (if 0 ≤ (Int.tmod (wrap64 (x1001 - 1)) (x1000.length : Int)) then (if (Int.tmod (wrap64 (x1001 - 1)) (x1000.length : Int)) < (x1000.length : Int) then (if 0 ≤ (Int.tmod (wrap64 ((wrap64 ((wrap64 (x1001 - 1)) * 7)) + 3)) (x1000.length : Int)) then (if (Int.tmod (wrap64 ((wrap64 ((wrap64 (x1001 - 1)) * 7)) + 3)) (x1000.length : Int)) < (x1000.length : Int) then (if x1 = 0 then (none) else (some (Int.tmod (Go.bits .xor .i64 (wrap64 ((wrap64 ((wrap64 ((wrap64 ((wrap64 (rd x1000 (Int.tmod (wrap64 (x1001 - 1)) (x1000.length : Int)))) * 131)) + (wrap64 ((wrap64 (rd x1000 (Int.tmod (wrap64 ((wrap64 ((wrap64 (x1001 - 1)) * 7)) + 3)) (x1000.length : Int)))) * 1117)))) + (wrap64 ((wrap64 (x1001 - 1)) * 29)))) + (wrap64 ((wrap64 (Int.tdiv (wrap64 (x1001 - 1)) (x1000.length : Int))) * 53)))) (wrap64 (Int.tdiv (wrap64 ((wrap64 ((wrap64 ((wrap64 ((wrap64 (rd x1000 (Int.tmod (wrap64 (x1001 - 1)) (x1000.length : Int)))) * 131)) + (wrap64 ((wrap64 (rd x1000 (Int.tmod (wrap64 ((wrap64 ((wrap64 (x1001 - 1)) * 7)) + 3)) (x1000.length : Int)))) * 1117)))) + (wrap64 ((wrap64 (x1001 - 1)) * 29)))) + (wrap64 ((wrap64 (Int.tdiv (wrap64 (x1001 - 1)) (x1000.length : Int))) * 53)))) 64))) x1, x1001))) else (none)) else (none)) else (none)) else (none))))
def spec_l6Rd_pick.f (k : Nat) (s0_0 : List Int) (s0_1 : Int) (a1 : Int) : Option (Int × Int) := if a1 < 1 then (spec_l6Rd_pick.j0 k a1 true s0_0 (wrap64 (s0_1 + 1))) else (spec_l6Rd_pick.j0 k a1 ((s0_0.length : Int) == 0) s0_0 (wrap64 (s0_1 + 1)))
set_option maxHeartbeats 8000000 in
set_option maxRecDepth 100000 in
theorem spec_l6Rd_pick.calls (k : Nat) (g : Nat) (s0_0 : List Int) (s0_1 : Int) (a1 : Int) (r1 : Int) (r2 : Int) (w0 w : World) (hI : IsS66 w0 w g s0_0 s0_1) (hB : Below w0.heap.size w0 w) (h : spec_l6Rd_pick.f k s0_0 s0_1 a1 = some (r1, r2)) :
    Calls Try.prog 40 #[.pointer (some ⟨g, 0, none⟩), .int .i64 a1] w fun e w' => e = .returned (.int .i64 r1) ∧ IsS66 w0 w' g s0_0 r2 ∧ Below w0.heap.size w0 w' ∧ KeepBut w w' g none := by
  have HI0 := Aside0.mk hI
  have HK := Aside0.mk (KeepBut.refl w g none)
  have HL := Aside0.mk hB.size
  clear hI
  have HW0 := Aside0.mk hB.size
  have HB := Aside0.mk hB
  clear hB
  have H : (if a1 < 1 then (spec_l6Rd_pick.j0 k a1 true s0_0 (wrap64 (s0_1 + 1))) else (spec_l6Rd_pick.j0 k a1 ((s0_0.length : Int) == 0) s0_0 (wrap64 (s0_1 + 1)))) = some (r1, r2) := h
  clear h
  have HC3 := Aside0.mk H
  clear H
  obtain ⟨ASz4_0, cSz4_0, HGz4, hgz4, HSz4_0⟩ := HI0.out
  have hcz4_0 := cellS66_0 HGz4
  have hcz4_1 := cellS66_1 HGz4
  have hfz4_1 := blk_frozen HGz4 1
  clear HGz4 hgz4
  go_enter Try.func40, Try.ntmps40
  go_upto_region 2 with (fail)
  repeat (go_quiet (fail); go_upto_region 2 with (fail))
  go_cut [24] (fun v24 wc => ∃ (kq : Nat) (x24_2 : Bool), v24 = .bool x24_2 ∧ Aside0 (spec_l6Rd_pick.j0 kq a1 x24_2 s0_0 (wrap64 (s0_1 + 1)) = some (r1, r2)) ∧ Aside0 (kq ≤ k) ∧ Aside0 (IsS66 w0 wc g s0_0 (wrap64 (s0_1 + 1))) ∧ Aside0 (KeepBut w wc g none) ∧ Aside0 (Below w0.heap.size w0 wc))
  case first =>
    have H := HC3.out
    clear HC3
    by_cases c5 : a1 < 1
    · rw [if_pos c5] at H
      have c5b0 : decide (a1 < 1) = true := decide_eq_true c5
      clear c5
      (first | rw [c5b0] | (simp only [i64_w, i32_w]; rw [c5b0]) | skip)
      have H' := Aside0.mk H
      clear H
      go_wp2
      repeat (go_quiet (fail); try go_wp2)
      go_meet
      case rel => exact ⟨_, (true), (by first | rfl | (simp; done) | (simp [*]; done)), H', ⟨by first | omega | exact Nat.le_refl _⟩, ⟨by repeat (first | (with_reducible first | exact HI0.out | apply IsS66.alloc | apply IsS66.drewN | apply IsS66.drew | apply IsS66.set_1) | exact HI0.out)⟩, ⟨by repeat (first | (with_reducible first | exact HK.out | apply KeepBut.set_ | apply keep_drewN | apply keep_drew | apply keep_alloc) | exact HK.out)⟩, ⟨by repeat (first | (with_reducible first | exact HB.out | apply below_alloc | apply pw_below_drewN | apply below_drew1 | refine below_set ?_ (IsS66.ge HI0.out)) | exact HB.out)⟩⟩
    · rw [if_neg c5] at H
      have c5b0 : decide (a1 < 1) = false := decide_eq_false c5
      clear c5
      (first | rw [c5b0] | (simp only [i64_w, i32_w]; rw [c5b0]) | skip)
      have H' := Aside0.mk H
      clear H
      obtain ⟨ASz6_0, cSz6_0, HGz6, hgz6, HSz6_0⟩ := HI0.out
      have hcz6_0 := cellS66_0 HGz6
      have hcz6_1 := cellS66_1 HGz6
      have hfz6_1 := blk_frozen HGz6 1
      clear HGz6 hgz6
      go_wp2
      repeat (go_quiet (fail); try go_wp2)
      go_meet
      case rel => exact ⟨_, (((s0_0.length : Int) == 0)), (by first | rfl | (simp; done) | (simp [*]; done)), H', ⟨by first | omega | exact Nat.le_refl _⟩, ⟨by repeat (first | (with_reducible first | exact HI0.out | apply IsS66.alloc | apply IsS66.drewN | apply IsS66.drew | apply IsS66.set_1) | exact HI0.out)⟩, ⟨by repeat (first | (with_reducible first | exact HK.out | apply KeepBut.set_ | apply keep_drewN | apply keep_drew | apply keep_alloc) | exact HK.out)⟩, ⟨by repeat (first | (with_reducible first | exact HB.out | apply below_alloc | apply pw_below_drewN | apply below_drew1 | refine below_set ?_ (IsS66.ge HI0.out)) | exact HB.out)⟩⟩
  case rest =>
    clear HC3
    try clear p2
    try clear c4
    try clear c5
    try clear c5b0
    try clear p6
    try clear hcz4_0
    try clear hcz4_1
    try clear hcz6_0
    try clear hcz6_1
    try clear hfz4_1
    try clear hfz6_1
    obtain ⟨kq, x24_2, rfl, HA, HJ2, HI0, HK, HB⟩ := hcut
    cases kq with
    | zero => exact absurd HA.out (by simp [spec_l6Rd_pick.j0])
    | succ kj2 =>
      have H := HA.out
      clear HA
      simp only [spec_l6Rd_pick.j0] at H
      by_cases c7 : x24_2 = true
      · subst c7
        have H1 : (some (0, (wrap64 (s0_1 + 1)))) = some (r1, r2) := by rw [if_pos rfl] at H; exact H
        clear H
        have H := H1
        clear H1
        simp only [Option.some.injEq, Prod.mk.injEq] at H
        obtain ⟨rfl, rfl⟩ := H
        go_wp2
        repeat (go_quiet (fail); try go_wp2)
        go_ret
        exact ⟨by first | rfl | (simp [errW_none, errW_some] <;> rfl) | (simp [*, errW_none, errW_some] <;> rfl), by repeat (first | (with_reducible first | exact HI0.out | apply IsS66.alloc | apply IsS66.drewN | apply IsS66.drew | apply IsS66.set_1) | exact HI0.out), by repeat (first | (with_reducible first | exact HB.out | apply below_alloc | apply pw_below_drewN | apply below_drew1 | refine below_set ?_ (IsS66.ge HI0.out)) | exact HB.out), by repeat (first | (with_reducible first | exact HK.out | apply KeepBut.set_ | apply keep_drewN | apply keep_drew | apply keep_alloc) | exact HK.out)⟩
      · replace c7 := Bool.eq_false_iff.mpr c7
        subst c7
        have H1 : (if (wrap64 ((wrap64 (s0_1 + 1)) - 1)) < (s0_0.length : Int) then (if 0 ≤ (wrap64 ((wrap64 (s0_1 + 1)) - 1)) then (if a1 = 0 then (none) else (some (Int.tmod (wrap64 (rd s0_0 (wrap64 ((wrap64 (s0_1 + 1)) - 1)))) a1, (wrap64 (s0_1 + 1))))) else (none)) else (if (s0_0.length : Int) = 0 then (none) else (if 0 ≤ (Int.tmod (wrap64 ((wrap64 (s0_1 + 1)) - 1)) (s0_0.length : Int)) then (if (Int.tmod (wrap64 ((wrap64 (s0_1 + 1)) - 1)) (s0_0.length : Int)) < (s0_0.length : Int) then (if 0 ≤ (Int.tmod (wrap64 ((wrap64 ((wrap64 ((wrap64 (s0_1 + 1)) - 1)) * 7)) + 3)) (s0_0.length : Int)) then (if (Int.tmod (wrap64 ((wrap64 ((wrap64 ((wrap64 (s0_1 + 1)) - 1)) * 7)) + 3)) (s0_0.length : Int)) < (s0_0.length : Int) then (if a1 = 0 then (none) else (some (Int.tmod (Go.bits .xor .i64 (wrap64 ((wrap64 ((wrap64 ((wrap64 ((wrap64 (rd s0_0 (Int.tmod (wrap64 ((wrap64 (s0_1 + 1)) - 1)) (s0_0.length : Int)))) * 131)) + (wrap64 ((wrap64 (rd s0_0 (Int.tmod (wrap64 ((wrap64 ((wrap64 ((wrap64 (s0_1 + 1)) - 1)) * 7)) + 3)) (s0_0.length : Int)))) * 1117)))) + (wrap64 ((wrap64 ((wrap64 (s0_1 + 1)) - 1)) * 29)))) + (wrap64 ((wrap64 (Int.tdiv (wrap64 ((wrap64 (s0_1 + 1)) - 1)) (s0_0.length : Int))) * 53)))) (wrap64 (Int.tdiv (wrap64 ((wrap64 ((wrap64 ((wrap64 ((wrap64 (rd s0_0 (Int.tmod (wrap64 ((wrap64 (s0_1 + 1)) - 1)) (s0_0.length : Int)))) * 131)) + (wrap64 ((wrap64 (rd s0_0 (Int.tmod (wrap64 ((wrap64 ((wrap64 ((wrap64 (s0_1 + 1)) - 1)) * 7)) + 3)) (s0_0.length : Int)))) * 1117)))) + (wrap64 ((wrap64 ((wrap64 (s0_1 + 1)) - 1)) * 29)))) + (wrap64 ((wrap64 (Int.tdiv (wrap64 ((wrap64 (s0_1 + 1)) - 1)) (s0_0.length : Int))) * 53)))) 64))) a1, (wrap64 (s0_1 + 1))))) else (none)) else (none)) else (none)) else (none)))) = some (r1, r2) := by rw [if_neg (show ¬ (false = true) by decide)] at H; exact H
        clear H
        have H := H1
        clear H1
        by_cases c8 : (wrap64 ((wrap64 (s0_1 + 1)) - 1)) < (s0_0.length : Int)
        · rw [if_pos c8] at H
          have c8b0 : decide ((wrap64 ((wrap64 (s0_1 + 1)) - 1)) < (s0_0.length : Int)) = true := decide_eq_true c8
          clear c8
          obtain ⟨ji9, hji9⟩ : ∃ j_ : Int, (wrap64 ((wrap64 (s0_1 + 1)) - 1)) = j_ := ⟨_, rfl⟩
          replace H : (if 0 ≤ (ji9) then (if a1 = 0 then (none) else (some (Int.tmod (wrap64 (rd s0_0 (ji9))) a1, (wrap64 (s0_1 + 1))))) else (none)) = some (r1, r2) := by first | (rw [hji9] at H; exact H) | (simp only [hji9] at H ⊢; exact H)
          (try rw [hji9] at c8b0)
          have hji9w : (IntKind.i64.wrap ((wrap64 (s0_1 + 1)) - 1)) = ji9 := (i64_w _).trans hji9
          by_cases c10 : 0 ≤ (ji9)
          · rw [if_pos c10] at H
            have c10b0 : decide (0 ≤ (ji9)) = true := decide_eq_true c10
            clear c10
            by_cases c11 : a1 = 0
            · rw [if_pos c11] at H
              exact absurd H (by simp)
            · rw [if_neg c11] at H
              have c11b0 : (a1 == 0) = false := beq_eq_false_iff_ne.mpr c11
              have c11b1 : (a1 != 0) = true := bne_iff_ne.mpr c11
              simp only [Option.some.injEq, Prod.mk.injEq] at H
              obtain ⟨rfl, rfl⟩ := H
              obtain ⟨ASz12_0, cSz12_0, HGz12, hgz12, HSz12_0⟩ := HI0.out
              have hcz12_0 := cellS66_0 HGz12
              have hcz12_1 := cellS66_1 HGz12
              have hfz12_1 := blk_frozen HGz12 1
              clear HGz12 hgz12
              have p101 : 0 ≤ ((ji9) : Int) := of_decide_eq_true (by first | (with_reducible assumption) | assumption)
              have q101 : (ji9) < (s0_0.length : Int) := of_decide_eq_true (by first | (with_reducible assumption) | assumption)
              obtain ⟨ad101, e101, hx101_0⟩ := Kd.at_int HSz12_0 (ji9) p101 q101
              cases e101
              replace hx101_0 := pw_cell_below HB.out hx101_0
              replace p101 := eq_true p101
              replace q101 := eq_true q101
              go_wp2
              repeat (go_quiet (fail); try go_wp2)
              go_ret
              exact ⟨by first | rfl | (simp [errW_none, errW_some] <;> rfl) | (simp only [← hji9]; first | rfl | (simp [errW_none, errW_some] <;> rfl)) | (simp [*, errW_none, errW_some] <;> rfl), by repeat (first | (with_reducible first | exact HI0.out | apply IsS66.alloc | apply IsS66.drewN | apply IsS66.drew | apply IsS66.set_1) | exact HI0.out), by repeat (first | (with_reducible first | exact HB.out | apply below_alloc | apply pw_below_drewN | apply below_drew1 | refine below_set ?_ (IsS66.ge HI0.out)) | exact HB.out), by repeat (first | (with_reducible first | exact HK.out | apply KeepBut.set_ | apply keep_drewN | apply keep_drew | apply keep_alloc) | exact HK.out)⟩
          · rw [if_neg c10] at H
            exact absurd H (by simp)
        · rw [if_neg c8] at H
          have c8b0 : decide ((wrap64 ((wrap64 (s0_1 + 1)) - 1)) < (s0_0.length : Int)) = false := decide_eq_false c8
          clear c8
          by_cases c13 : (s0_0.length : Int) = 0
          · rw [if_pos c13] at H
            exact absurd H (by simp)
          · rw [if_neg c13] at H
            have c13b0 : ((s0_0.length : Int) == 0) = false := beq_eq_false_iff_ne.mpr c13
            have c13b1 : ((s0_0.length : Int) != 0) = true := bne_iff_ne.mpr c13
            have c13b2 : ¬ (s0_0 = []) := fun h_ => c13 (by rw [h_]; rfl)
            obtain ⟨ji14, hji14⟩ : ∃ j_ : Int, (Int.tmod (wrap64 ((wrap64 (s0_1 + 1)) - 1)) (s0_0.length : Int)) = j_ := ⟨_, rfl⟩
            replace H : (if 0 ≤ (ji14) then (if (ji14) < (s0_0.length : Int) then (if 0 ≤ (Int.tmod (wrap64 ((wrap64 ((wrap64 ((wrap64 (s0_1 + 1)) - 1)) * 7)) + 3)) (s0_0.length : Int)) then (if (Int.tmod (wrap64 ((wrap64 ((wrap64 ((wrap64 (s0_1 + 1)) - 1)) * 7)) + 3)) (s0_0.length : Int)) < (s0_0.length : Int) then (if a1 = 0 then (none) else (some (Int.tmod (Go.bits .xor .i64 (wrap64 ((wrap64 ((wrap64 ((wrap64 ((wrap64 (rd s0_0 (ji14))) * 131)) + (wrap64 ((wrap64 (rd s0_0 (Int.tmod (wrap64 ((wrap64 ((wrap64 ((wrap64 (s0_1 + 1)) - 1)) * 7)) + 3)) (s0_0.length : Int)))) * 1117)))) + (wrap64 ((wrap64 ((wrap64 (s0_1 + 1)) - 1)) * 29)))) + (wrap64 ((wrap64 (Int.tdiv (wrap64 ((wrap64 (s0_1 + 1)) - 1)) (s0_0.length : Int))) * 53)))) (wrap64 (Int.tdiv (wrap64 ((wrap64 ((wrap64 ((wrap64 ((wrap64 (rd s0_0 (ji14))) * 131)) + (wrap64 ((wrap64 (rd s0_0 (Int.tmod (wrap64 ((wrap64 ((wrap64 ((wrap64 (s0_1 + 1)) - 1)) * 7)) + 3)) (s0_0.length : Int)))) * 1117)))) + (wrap64 ((wrap64 ((wrap64 (s0_1 + 1)) - 1)) * 29)))) + (wrap64 ((wrap64 (Int.tdiv (wrap64 ((wrap64 (s0_1 + 1)) - 1)) (s0_0.length : Int))) * 53)))) 64))) a1, (wrap64 (s0_1 + 1))))) else (none)) else (none)) else (none)) else (none)) = some (r1, r2) := by first | (rw [hji14] at H; exact H) | (simp only [hji14] at H ⊢; exact H)
            by_cases c15 : 0 ≤ (ji14)
            · rw [if_pos c15] at H
              have c15b0 : decide (0 ≤ (ji14)) = true := decide_eq_true c15
              clear c15
              by_cases c16 : (ji14) < (s0_0.length : Int)
              · rw [if_pos c16] at H
                have c16b0 : decide ((ji14) < (s0_0.length : Int)) = true := decide_eq_true c16
                clear c16
                obtain ⟨ji17, hji17⟩ : ∃ j_ : Int, (Int.tmod (wrap64 ((wrap64 ((wrap64 ((wrap64 (s0_1 + 1)) - 1)) * 7)) + 3)) (s0_0.length : Int)) = j_ := ⟨_, rfl⟩
                replace H : (if 0 ≤ (ji17) then (if (ji17) < (s0_0.length : Int) then (if a1 = 0 then (none) else (some (Int.tmod (Go.bits .xor .i64 (wrap64 ((wrap64 ((wrap64 ((wrap64 ((wrap64 (rd s0_0 (ji14))) * 131)) + (wrap64 ((wrap64 (rd s0_0 (ji17))) * 1117)))) + (wrap64 ((wrap64 ((wrap64 (s0_1 + 1)) - 1)) * 29)))) + (wrap64 ((wrap64 (Int.tdiv (wrap64 ((wrap64 (s0_1 + 1)) - 1)) (s0_0.length : Int))) * 53)))) (wrap64 (Int.tdiv (wrap64 ((wrap64 ((wrap64 ((wrap64 ((wrap64 (rd s0_0 (ji14))) * 131)) + (wrap64 ((wrap64 (rd s0_0 (ji17))) * 1117)))) + (wrap64 ((wrap64 ((wrap64 (s0_1 + 1)) - 1)) * 29)))) + (wrap64 ((wrap64 (Int.tdiv (wrap64 ((wrap64 (s0_1 + 1)) - 1)) (s0_0.length : Int))) * 53)))) 64))) a1, (wrap64 (s0_1 + 1))))) else (none)) else (none)) = some (r1, r2) := by first | (rw [hji17] at H; exact H) | (simp only [hji17] at H ⊢; exact H)
                by_cases c18 : 0 ≤ (ji17)
                · rw [if_pos c18] at H
                  have c18b0 : decide (0 ≤ (ji17)) = true := decide_eq_true c18
                  clear c18
                  by_cases c19 : (ji17) < (s0_0.length : Int)
                  · rw [if_pos c19] at H
                    have c19b0 : decide ((ji17) < (s0_0.length : Int)) = true := decide_eq_true c19
                    clear c19
                    by_cases c20 : a1 = 0
                    · rw [if_pos c20] at H
                      exact absurd H (by simp)
                    · rw [if_neg c20] at H
                      have c20b0 : (a1 == 0) = false := beq_eq_false_iff_ne.mpr c20
                      have c20b1 : (a1 != 0) = true := bne_iff_ne.mpr c20
                      simp only [Option.some.injEq, Prod.mk.injEq] at H
                      obtain ⟨rfl, rfl⟩ := H
                      obtain ⟨ASz21_0, cSz21_0, HGz21, hgz21, HSz21_0⟩ := HI0.out
                      have hcz21_0 := cellS66_0 HGz21
                      have hcz21_1 := cellS66_1 HGz21
                      have hfz21_1 := blk_frozen HGz21 1
                      clear HGz21 hgz21
                      have p102 : 0 ≤ ((ji14) : Int) := of_decide_eq_true (by first | (with_reducible assumption) | assumption)
                      have q102 : (ji14) < (s0_0.length : Int) := of_decide_eq_true (by first | (with_reducible assumption) | assumption)
                      obtain ⟨ad102, e102, hx102_0⟩ := Kd.at_int HSz21_0 (ji14) p102 q102
                      cases e102
                      replace hx102_0 := pw_cell_below HB.out hx102_0
                      replace p102 := eq_true p102
                      replace q102 := eq_true q102
                      have p103 : 0 ≤ ((ji17) : Int) := of_decide_eq_true (by first | (with_reducible assumption) | assumption)
                      have q103 : (ji17) < (s0_0.length : Int) := of_decide_eq_true (by first | (with_reducible assumption) | assumption)
                      obtain ⟨ad103, e103, hx103_0⟩ := Kd.at_int HSz21_0 (ji17) p103 q103
                      obtain rfl : ad102 = ad103 := (by injection e103)
                      replace hx103_0 := pw_cell_below HB.out hx103_0
                      replace p103 := eq_true p103
                      replace q103 := eq_true q103
                      go_wp2
                      repeat (go_quiet (fail); try go_wp2)
                      go_ret
                      exact ⟨by first | rfl | (simp [errW_none, errW_some] <;> rfl) | (simp only [← hji14, ← hji17]; first | rfl | (simp [errW_none, errW_some] <;> rfl)) | (simp [*, errW_none, errW_some] <;> rfl), by repeat (first | (with_reducible first | exact HI0.out | apply IsS66.alloc | apply IsS66.drewN | apply IsS66.drew | apply IsS66.set_1) | exact HI0.out), by repeat (first | (with_reducible first | exact HB.out | apply below_alloc | apply pw_below_drewN | apply below_drew1 | refine below_set ?_ (IsS66.ge HI0.out)) | exact HB.out), by repeat (first | (with_reducible first | exact HK.out | apply KeepBut.set_ | apply keep_drewN | apply keep_drew | apply keep_alloc) | exact HK.out)⟩
                  · rw [if_neg c19] at H
                    exact absurd H (by simp)
                · rw [if_neg c18] at H
                  exact absurd H (by simp)
              · rw [if_neg c16] at H
                exact absurd H (by simp)
            · rw [if_neg c15] at H
              exact absurd H (by simp)

/-! ### spec_l92Sum: function 38 -/
def spec_l92Sum.f (k : Nat) (s0_0 : List Int) (s0_1 : Int) : Option (Int × Int) := (spec_l6Rd_pick.f k s0_0 s0_1 20).bind fun bt104 => (if bt104.1 = 0 then ((some (([(-1), 0, 2000, 2001] : List Int) : List Int)).bind fun y106 => ((spec_l6Rd_pick.f k s0_0 bt104.2 4).bind fun bt109 => (if 0 ≤ bt109.1 then (if bt109.1 < (y106.length : Int) then (some (rd y106 bt109.1, bt109.2)) else (none)) else (none)))) else ((spec_l6Rd_pick.f k s0_0 bt104.2 100).bind fun bt112 => ((spec_l6Rd_pick.f k s0_0 bt112.2 6).bind fun bt114 => ((spec_l6Rd_pick.f k s0_0 bt114.2 80).bind fun bt116 => (some (wrap64 (bt112.1 + (wrap64 (bt114.1 * bt116.1))), bt116.2))))))
set_option maxHeartbeats 8000000 in
set_option maxRecDepth 100000 in
theorem spec_l92Sum.calls (k : Nat) (g : Nat) (s0_0 : List Int) (s0_1 : Int) (r1 : Int) (r2 : Int) (w0 w : World) (hI : IsS66 w0 w g s0_0 s0_1) (hB : Below w0.heap.size w0 w) (h : spec_l92Sum.f k s0_0 s0_1 = some (r1, r2)) :
    Calls Try.prog 38 #[.pointer (some ⟨g, 0, none⟩)] w fun e w' => e = .returned (.int .i64 r1) ∧ IsS66 w0 w' g s0_0 r2 ∧ Below w0.heap.size w0 w' ∧ KeepBut w w' g none := by
  have HI0 := Aside0.mk hI
  have HK := Aside0.mk (KeepBut.refl w g none)
  have HL := Aside0.mk hB.size
  clear hI
  have HW0 := Aside0.mk hB.size
  have HB := Aside0.mk hB
  clear hB
  have H : ((spec_l6Rd_pick.f k s0_0 s0_1 20).bind fun bt104 => (if bt104.1 = 0 then ((some (([(-1), 0, 2000, 2001] : List Int) : List Int)).bind fun y106 => ((spec_l6Rd_pick.f k s0_0 bt104.2 4).bind fun bt109 => (if 0 ≤ bt109.1 then (if bt109.1 < (y106.length : Int) then (some (rd y106 bt109.1, bt109.2)) else (none)) else (none)))) else ((spec_l6Rd_pick.f k s0_0 bt104.2 100).bind fun bt112 => ((spec_l6Rd_pick.f k s0_0 bt112.2 6).bind fun bt114 => ((spec_l6Rd_pick.f k s0_0 bt114.2 80).bind fun bt116 => (some (wrap64 (bt112.1 + (wrap64 (bt114.1 * bt116.1))), bt116.2))))))) = some (r1, r2) := h
  clear h
  replace H := Option.bind_eq_some_iff.mp H
  obtain ⟨⟨t104, t105⟩, A20, H⟩ := H
  replace H : (if t104 = 0 then ((some (([(-1), 0, 2000, 2001] : List Int) : List Int)).bind fun y106 => ((spec_l6Rd_pick.f k s0_0 t105 4).bind fun bt109 => (if 0 ≤ bt109.1 then (if bt109.1 < (y106.length : Int) then (some (rd y106 bt109.1, bt109.2)) else (none)) else (none)))) else ((spec_l6Rd_pick.f k s0_0 t105 100).bind fun bt112 => ((spec_l6Rd_pick.f k s0_0 bt112.2 6).bind fun bt114 => ((spec_l6Rd_pick.f k s0_0 bt114.2 80).bind fun bt116 => (some (wrap64 (bt112.1 + (wrap64 (bt114.1 * bt116.1))), bt116.2)))))) = some (r1, r2) := H
  have A2 := Aside0.mk A20
  clear A20
  by_cases c3 : t104 = 0
  · rw [if_pos c3] at H
    have c3b0 : (t104 == 0) = true := beq_iff_eq.mpr c3
    have c3b1 : (t104 != 0) = false := bne_eq_false_iff_eq.mpr c3
    clear c3
    obtain ⟨y106, hy106⟩ : ∃ y_ : List Int, y_ = (([(-1), 0, 2000, 2001] : List Int)) := ⟨_, rfl⟩
    replace H : ((spec_l6Rd_pick.f k s0_0 t105 4).bind fun bt109 => (if 0 ≤ bt109.1 then (if bt109.1 < (y106.length : Int) then (some (rd y106 bt109.1, bt109.2)) else (none)) else (none))) = some (r1, r2) := by first | (rw [hy106]; with_reducible exact H) | (have H2_ := (Option.bind_some _ _).symm.trans H; rw [hy106]; with_reducible exact H2_) | (have H2_ := (Option.bind_some _ _).symm.trans H; with_reducible exact H2_) | with_reducible exact H | (rw [hy106]; exact H) | exact H
    have Ny106 := Aside0.mk hy106
    clear hy106
    replace H := Option.bind_eq_some_iff.mp H
    obtain ⟨⟨t109, t110⟩, A40, H⟩ := H
    replace H : (if 0 ≤ t109 then (if t109 < (y106.length : Int) then (some (rd y106 t109, t110)) else (none)) else (none)) = some (r1, r2) := H
    have A4 := Aside0.mk A40
    clear A40
    by_cases c5 : 0 ≤ t109
    · rw [if_pos c5] at H
      have c5b0 : decide (0 ≤ t109) = true := decide_eq_true c5
      clear c5
      by_cases c6 : t109 < (y106.length : Int)
      · rw [if_pos c6] at H
        have c6b0 : decide (t109 < (y106.length : Int)) = true := decide_eq_true c6
        clear c6
        simp only [Option.some.injEq, Prod.mk.injEq] at H
        obtain ⟨rfl, rfl⟩ := H
        go_enter Try.func38, Try.ntmps38
        go_wp2_with (first | ((with_reducible refine gate_callee (f := 40) rfl ?_); refine goesL_ (some 4) rfl rfl Try.func40 (by kernel_rfl) rfl #[.pointer (some ⟨g, 0, none⟩), .int .i64 20] rfl (by (try simp only [List.map_toArray, List.map_cons, List.map_nil]); first | done | rfl | (simp only [List.length_drop, List.length_take]; rfl)) ?_; (with_reducible refine (spec_l6Rd_pick.calls k g s0_0 s0_1 20 t104 t105 w0 _ ?side1 ?side2 A2.out).mono ?_); (case side1 => repeat (first | (with_reducible first | exact HI0.out | apply IsS66.alloc | apply IsS66.drewN | apply IsS66.drew | apply IsS66.set_1) | exact HI0.out)); (case side2 => repeat (first | (with_reducible first | exact HB.out | apply below_alloc | apply pw_below_drewN | apply below_drew1 | refine below_set ?_ (IsS66.ge HI0.out)) | exact HB.out)); rintro e w7 ⟨rfl, hi, hb, hk⟩; refine ⟨_, rfl, ?_⟩; have n0_ := Aside0.mk (KeepBut.trans (by repeat (first | (with_reducible first | exact HK.out | apply KeepBut.set_ | apply keep_drewN | apply keep_drew | apply keep_alloc) | exact HK.out)) hk (.inl rfl)); have n1_ := Aside0.mk (hb); have n2_ := Aside0.mk (hi); clear HK; clear HB; clear HI0; have HK := n0_; have HB := n1_; have HI0 := n2_; clear n0_ n1_ n2_; (try clear hb); (try clear hb2); (try clear hk); (try clear hi)) | ((with_reducible refine gate_dst (N := 6) rfl ?_); refine Kd.R_lit (Kd.int .i64) _ 3 ?hg (N := 6) ?hd (xs := ([(-1), 0, 2000, 2001] : List Int)) (inner := [.int .i64 (-1), .int .i64 0, .int .i64 2000, .int .i64 2001]) (ok := fun _ => True) (okp := fun _ => True) ?hr ?hp (fun _ hk => hk) trivial (Below.refl _ _) (Nat.le_refl _) (by simp) ?_; (case hd => rfl); (case hg => rfl); (case hr => first | (go_simp; done) | (go_simp; rfl)); (case hp => exact (Reps.one (show Kd.M (Kd.int .i64) _ _ _ (-1) [.int .i64 (-1)] from rfl) (Reps.one (show Kd.M (Kd.int .i64) _ _ _ 0 [.int .i64 0] from rfl) (Reps.one (show Kd.M (Kd.int .i64) _ _ _ 2000 [.int .i64 2000] from rfl) (Reps.one (show Kd.M (Kd.int .i64) _ _ _ 2001 [.int .i64 2001] from rfl) (Reps.none _ _)))))); intro v107 w8 ho9 hb hg_ hnew_; clear hg_ hnew_; (first | rw [← Ny106.out] at ho9 | (simp only [Int.reduceToNat] at ho9; rw [← Ny106.out] at ho9)); have n0_ := Aside0.mk (Kd.R_lower ho9 (keep_size (w := w) (g := g) (row := none) (by repeat (first | (with_reducible first | exact HK.out | apply KeepBut.set_ | apply keep_drewN | apply keep_drew | apply keep_alloc) | exact HK.out)))); have n1_ := Aside0.mk (IsS66.below (by repeat (first | (with_reducible first | exact HI0.out | apply IsS66.alloc | apply IsS66.drewN | apply IsS66.drew | apply IsS66.set_1) | exact HI0.out)) hb); have n2_ := Aside0.mk (KeepBut.trans (by repeat (first | (with_reducible first | exact HK.out | apply KeepBut.set_ | apply keep_drewN | apply keep_drew | apply keep_alloc) | exact HK.out)) (KeepBut.of_below hb g none) (.inl rfl)); have n3_ := Aside0.mk (below_step (by repeat (first | (with_reducible first | exact HB.out | apply below_alloc | apply pw_below_drewN | apply below_drew1 | refine below_set ?_ (IsS66.ge HI0.out)) | exact HB.out)) hb); clear HI0; clear HK; clear HB; have HO108 := n0_; have HI0 := n1_; have HK := n2_; have HB := n3_; clear n0_ n1_ n2_ n3_; clear hb ho9) | ((with_reducible refine gate_callee (f := 40) rfl ?_); refine goesL_ (some 8) rfl rfl Try.func40 (by kernel_rfl) rfl #[.pointer (some ⟨g, 0, none⟩), .int .i64 4] rfl (by (try simp only [List.map_toArray, List.map_cons, List.map_nil]); first | done | rfl | (simp only [List.length_drop, List.length_take]; rfl)) ?_; (with_reducible refine (spec_l6Rd_pick.calls k g s0_0 t105 4 t109 t110 w0 _ ?side1 ?side2 A4.out).mono ?_); (case side1 => repeat (first | (with_reducible first | exact HI0.out | apply IsS66.alloc | apply IsS66.drewN | apply IsS66.drew | apply IsS66.set_1) | exact HI0.out)); (case side2 => repeat (first | (with_reducible first | exact HB.out | apply below_alloc | apply pw_below_drewN | apply below_drew1 | refine below_set ?_ (IsS66.ge HI0.out)) | exact HB.out)); rintro e w10 ⟨rfl, hi, hb, hk⟩; refine ⟨_, rfl, ?_⟩; have n0_ := Aside0.mk (Kd.R_mono (Kd.R_keep (IsS66.apart (show IsS66 w0 _ g s0_0 t105 from by repeat (first | (with_reducible first | exact HI0.out | apply IsS66.alloc | apply IsS66.drewN | apply IsS66.drew | apply IsS66.set_1) | exact HI0.out)) (by (with_reducible repeat (first | apply Kd.R_alloc | apply Kd.R_drewN | apply Kd.R_drew)); exact HO108.out) (by decide)) hk (fun _ h => h.2)) (fun _ h => h.1)); have n1_ := Aside0.mk (KeepBut.trans (by repeat (first | (with_reducible first | exact HK.out | apply KeepBut.set_ | apply keep_drewN | apply keep_drew | apply keep_alloc) | exact HK.out)) hk (.inl rfl)); have n2_ := Aside0.mk (hb); have n3_ := Aside0.mk (hi); clear HO108; clear HK; clear HB; clear HI0; have HO108 := n0_; have HK := n1_; have HB := n2_; have HI0 := n3_; clear n0_ n1_ n2_ n3_; (try clear hb); (try clear hb2); (try clear hk); (try clear hi); obtain ⟨Ao11, co11, eo11⟩ := Kd.R_slice HO108.out; subst eo11; have p111 : 0 ≤ (t109 : Int) := of_decide_eq_true (by first | (with_reducible assumption) | assumption); have q111 : t109 < (y106.length : Int) := of_decide_eq_true (by first | (with_reducible assumption) | assumption); obtain ⟨ad111, e111, hx111_0⟩ := Kd.at_int (Kd.R_reads' HO108.out).2.2 t109 p111 q111; cases e111; replace p111 := eq_true p111; replace q111 := eq_true q111))
        go_ret
        exact ⟨by first | rfl | (simp [errW_none, errW_some] <;> rfl) | (simp [*, errW_none, errW_some] <;> rfl), by repeat (first | (with_reducible first | exact HI0.out | apply IsS66.alloc | apply IsS66.drewN | apply IsS66.drew | apply IsS66.set_1) | exact HI0.out), by repeat (first | (with_reducible first | exact HB.out | apply below_alloc | apply pw_below_drewN | apply below_drew1 | refine below_set ?_ (IsS66.ge HI0.out)) | exact HB.out), by repeat (first | (with_reducible first | exact HK.out | apply KeepBut.set_ | apply keep_drewN | apply keep_drew | apply keep_alloc) | exact HK.out)⟩
      · rw [if_neg c6] at H
        exact absurd H (by simp)
    · rw [if_neg c5] at H
      exact absurd H (by simp)
  · rw [if_neg c3] at H
    have c3b0 : (t104 == 0) = false := beq_eq_false_iff_ne.mpr c3
    have c3b1 : (t104 != 0) = true := bne_iff_ne.mpr c3
    replace H := Option.bind_eq_some_iff.mp H
    obtain ⟨⟨t112, t113⟩, A120, H⟩ := H
    replace H : ((spec_l6Rd_pick.f k s0_0 t113 6).bind fun bt114 => ((spec_l6Rd_pick.f k s0_0 bt114.2 80).bind fun bt116 => (some (wrap64 (t112 + (wrap64 (bt114.1 * bt116.1))), bt116.2)))) = some (r1, r2) := H
    have A12 := Aside0.mk A120
    clear A120
    replace H := Option.bind_eq_some_iff.mp H
    obtain ⟨⟨t114, t115⟩, A130, H⟩ := H
    replace H : ((spec_l6Rd_pick.f k s0_0 t115 80).bind fun bt116 => (some (wrap64 (t112 + (wrap64 (t114 * bt116.1))), bt116.2))) = some (r1, r2) := H
    have A13 := Aside0.mk A130
    clear A130
    replace H := Option.bind_eq_some_iff.mp H
    obtain ⟨⟨t116, t117⟩, A140, H⟩ := H
    replace H : (some (wrap64 (t112 + (wrap64 (t114 * t116))), t117)) = some (r1, r2) := H
    have A14 := Aside0.mk A140
    clear A140
    simp only [Option.some.injEq, Prod.mk.injEq] at H
    obtain ⟨rfl, rfl⟩ := H
    go_enter Try.func38, Try.ntmps38
    go_wp2_with (first | ((with_reducible refine gate_callee (f := 40) rfl ?_); refine goesL_ (some 4) rfl rfl Try.func40 (by kernel_rfl) rfl #[.pointer (some ⟨g, 0, none⟩), .int .i64 20] rfl (by (try simp only [List.map_toArray, List.map_cons, List.map_nil]); first | done | rfl | (simp only [List.length_drop, List.length_take]; rfl)) ?_; (with_reducible refine (spec_l6Rd_pick.calls k g s0_0 s0_1 20 t104 t105 w0 _ ?side1 ?side2 A2.out).mono ?_); (case side1 => repeat (first | (with_reducible first | exact HI0.out | apply IsS66.alloc | apply IsS66.drewN | apply IsS66.drew | apply IsS66.set_1) | exact HI0.out)); (case side2 => repeat (first | (with_reducible first | exact HB.out | apply below_alloc | apply pw_below_drewN | apply below_drew1 | refine below_set ?_ (IsS66.ge HI0.out)) | exact HB.out)); rintro e w15 ⟨rfl, hi, hb, hk⟩; refine ⟨_, rfl, ?_⟩; have n0_ := Aside0.mk (KeepBut.trans (by repeat (first | (with_reducible first | exact HK.out | apply KeepBut.set_ | apply keep_drewN | apply keep_drew | apply keep_alloc) | exact HK.out)) hk (.inl rfl)); have n1_ := Aside0.mk (hb); have n2_ := Aside0.mk (hi); clear HK; clear HB; clear HI0; have HK := n0_; have HB := n1_; have HI0 := n2_; clear n0_ n1_ n2_; (try clear hb); (try clear hb2); (try clear hk); (try clear hi)) | ((with_reducible refine gate_callee (f := 40) rfl ?_); refine goesL_ (some 12) rfl rfl Try.func40 (by kernel_rfl) rfl #[.pointer (some ⟨g, 0, none⟩), .int .i64 100] rfl (by (try simp only [List.map_toArray, List.map_cons, List.map_nil]); first | done | rfl | (simp only [List.length_drop, List.length_take]; rfl)) ?_; (with_reducible refine (spec_l6Rd_pick.calls k g s0_0 t105 100 t112 t113 w0 _ ?side1 ?side2 A12.out).mono ?_); (case side1 => repeat (first | (with_reducible first | exact HI0.out | apply IsS66.alloc | apply IsS66.drewN | apply IsS66.drew | apply IsS66.set_1) | exact HI0.out)); (case side2 => repeat (first | (with_reducible first | exact HB.out | apply below_alloc | apply pw_below_drewN | apply below_drew1 | refine below_set ?_ (IsS66.ge HI0.out)) | exact HB.out)); rintro e w16 ⟨rfl, hi, hb, hk⟩; refine ⟨_, rfl, ?_⟩; have n0_ := Aside0.mk (KeepBut.trans (by repeat (first | (with_reducible first | exact HK.out | apply KeepBut.set_ | apply keep_drewN | apply keep_drew | apply keep_alloc) | exact HK.out)) hk (.inl rfl)); have n1_ := Aside0.mk (hb); have n2_ := Aside0.mk (hi); clear HK; clear HB; clear HI0; have HK := n0_; have HB := n1_; have HI0 := n2_; clear n0_ n1_ n2_; (try clear hb); (try clear hb2); (try clear hk); (try clear hi)) | ((with_reducible refine gate_callee (f := 40) rfl ?_); refine goesL_ (some 14) rfl rfl Try.func40 (by kernel_rfl) rfl #[.pointer (some ⟨g, 0, none⟩), .int .i64 6] rfl (by (try simp only [List.map_toArray, List.map_cons, List.map_nil]); first | done | rfl | (simp only [List.length_drop, List.length_take]; rfl)) ?_; (with_reducible refine (spec_l6Rd_pick.calls k g s0_0 t113 6 t114 t115 w0 _ ?side1 ?side2 A13.out).mono ?_); (case side1 => repeat (first | (with_reducible first | exact HI0.out | apply IsS66.alloc | apply IsS66.drewN | apply IsS66.drew | apply IsS66.set_1) | exact HI0.out)); (case side2 => repeat (first | (with_reducible first | exact HB.out | apply below_alloc | apply pw_below_drewN | apply below_drew1 | refine below_set ?_ (IsS66.ge HI0.out)) | exact HB.out)); rintro e w17 ⟨rfl, hi, hb, hk⟩; refine ⟨_, rfl, ?_⟩; have n0_ := Aside0.mk (KeepBut.trans (by repeat (first | (with_reducible first | exact HK.out | apply KeepBut.set_ | apply keep_drewN | apply keep_drew | apply keep_alloc) | exact HK.out)) hk (.inl rfl)); have n1_ := Aside0.mk (hb); have n2_ := Aside0.mk (hi); clear HK; clear HB; clear HI0; have HK := n0_; have HB := n1_; have HI0 := n2_; clear n0_ n1_ n2_; (try clear hb); (try clear hb2); (try clear hk); (try clear hi)) | ((with_reducible refine gate_callee (f := 40) rfl ?_); refine goesL_ (some 16) rfl rfl Try.func40 (by kernel_rfl) rfl #[.pointer (some ⟨g, 0, none⟩), .int .i64 80] rfl (by (try simp only [List.map_toArray, List.map_cons, List.map_nil]); first | done | rfl | (simp only [List.length_drop, List.length_take]; rfl)) ?_; (with_reducible refine (spec_l6Rd_pick.calls k g s0_0 t115 80 t116 t117 w0 _ ?side1 ?side2 A14.out).mono ?_); (case side1 => repeat (first | (with_reducible first | exact HI0.out | apply IsS66.alloc | apply IsS66.drewN | apply IsS66.drew | apply IsS66.set_1) | exact HI0.out)); (case side2 => repeat (first | (with_reducible first | exact HB.out | apply below_alloc | apply pw_below_drewN | apply below_drew1 | refine below_set ?_ (IsS66.ge HI0.out)) | exact HB.out)); rintro e w18 ⟨rfl, hi, hb, hk⟩; refine ⟨_, rfl, ?_⟩; have n0_ := Aside0.mk (KeepBut.trans (by repeat (first | (with_reducible first | exact HK.out | apply KeepBut.set_ | apply keep_drewN | apply keep_drew | apply keep_alloc) | exact HK.out)) hk (.inl rfl)); have n1_ := Aside0.mk (hb); have n2_ := Aside0.mk (hi); clear HK; clear HB; clear HI0; have HK := n0_; have HB := n1_; have HI0 := n2_; clear n0_ n1_ n2_; (try clear hb); (try clear hb2); (try clear hk); (try clear hi)))
    go_ret
    exact ⟨by first | rfl | (simp [errW_none, errW_some] <;> rfl) | (simp [*, errW_none, errW_some] <;> rfl), by repeat (first | (with_reducible first | exact HI0.out | apply IsS66.alloc | apply IsS66.drewN | apply IsS66.drew | apply IsS66.set_1) | exact HI0.out), by repeat (first | (with_reducible first | exact HB.out | apply below_alloc | apply pw_below_drewN | apply below_drew1 | refine below_set ?_ (IsS66.ge HI0.out)) | exact HB.out), by repeat (first | (with_reducible first | exact HK.out | apply KeepBut.set_ | apply keep_drewN | apply keep_drew | apply keep_alloc) | exact HK.out)⟩

/-! ### spec_l6Open: function 39 -/
def spec_l6Open.f (l0 : List Int) : Option (List Int × Int) := if (l0.length : Int) > 2000 then (if 2000 ≤ (l0.length : Int) then (some (l0.take 2000, 0)) else (none)) else (some (l0, 0))
set_option maxHeartbeats 8000000 in
set_option maxRecDepth 100000 in
theorem spec_l6Open.calls (A0 : Option Addr) (c0 : Nat) (l0 : List Int) (r1 : List Int) (r2 : Int) (w0 w : World) (hB : Below w0.heap.size w0 w) (hr0 : Kd.C (Kd.int .u8) w0 A0 l0.length l0) (hc0 : l0.length ≤ c0) (h : spec_l6Open.f l0 = some (r1, r2)) :
    Calls Try.prog 39 #[.slice A0 l0.length c0] w fun e w' => ∃ g_ : Nat, e = .returned (.pointer (some ⟨g_, 0, none⟩)) ∧ IsS66 w0 w' g_ r1 r2 ∧ Below w0.heap.size w0 w' ∧ Below w.heap.size w w' := by
  have hu66 := Try.underlying66
  have HR0 := Aside0.mk hr0
  have HC0 := Aside0.mk hc0
  clear hr0 hc0
  have HBW := Aside0.mk (Below.refl w.heap.size w)
  have HW0 := Aside0.mk hB.size
  have HB := Aside0.mk hB
  clear hB
  have H : (if (l0.length : Int) > 2000 then (if 2000 ≤ (l0.length : Int) then (some (l0.take 2000, 0)) else (none)) else (some (l0, 0))) = some (r1, r2) := h
  clear h
  by_cases c2 : (l0.length : Int) > 2000
  · rw [if_pos c2] at H
    have c2b0 : decide (2000 < (l0.length : Int)) = true := decide_eq_true c2
    have c2b1 : decide (2000 < l0.length) = true := decide_eq_true (by omega)
    clear c2
    by_cases c3 : 2000 ≤ (l0.length : Int)
    · rw [if_pos c3] at H
      have c3b0 := eq_true c3
      have c3b1 : decide (2000 ≤ (l0.length : Int)) = true := decide_eq_true c3
      clear c3
      simp only [Option.some.injEq, Prod.mk.injEq] at H
      obtain ⟨rfl, rfl⟩ := H
      obtain ⟨i04, hi04, _, hsz4, _⟩ := info_parts info5
      obtain ⟨hcut4, hA4, hC4⟩ := print_take_of (P := Try.prog) (Value.int .u8) 0 28 5 .i64 Try.underlying28 hi04 hsz4 A0 c0 l0 2000 (by omega) (of_decide_eq_true (by first | (with_reducible assumption) | assumption)) HC0.out
      have HR118 := Aside0.mk (Kd.C_of_reads (h1 := fun _ => rfl) (hA4 _ (Kd.reads_of_C HR0.out)))
      have HC118 := Aside0.mk hC4
      clear hA4 hC4 hi04 hsz4
      go_enter Try.func39, Try.ntmps39
      go_wp2_with (first | ((with_reducible refine gate_dst (N := 10) rfl ?_); refine box_event ?hg (N := 10) ?hd (cs := #[.slice A0 (l0.take 2000).length c0, .int .i64 0]) (t := 66) ?hr ?_; (case hd => rfl); (case hg => rfl); (case hr => first | (go_simp; done) | (go_simp; rfl)); intro gb119 hg w5 hbox hb; have n0_ := Aside0.mk (below_step HBW.out hb); have n1_ := Aside0.mk (below_step (by repeat (first | (with_reducible first | exact HB.out | apply below_alloc | apply pw_below_drewN | apply below_drew1) | exact HB.out)) hb); have n2_ := Aside0.mk (hbox); have n3_ := Aside0.mk ((by rw [hg]; exact (below_size (by repeat (first | (with_reducible first | exact HBW.out | apply below_alloc | apply pw_below_drewN | apply below_drew1) | exact HBW.out))) : w.heap.size ≤ gb119)); have n4_ := Aside0.mk ((Nat.le_trans HW0.out (by rw [hg]; exact (below_size (by repeat (first | (with_reducible first | exact HBW.out | apply below_alloc | apply pw_below_drewN | apply below_drew1) | exact HBW.out))) : w.heap.size ≤ gb119) : w0.heap.size ≤ gb119)); clear HBW; clear HB; have HBW := n0_; have HB := n1_; have BK119 := n2_; have GW119 := n3_; have GE119 := n4_; clear n0_ n1_ n2_ n3_ n4_; clear hb hbox hg))
      go_ret
      exact ⟨_, rfl, (show IsS66 w0 _ gb119 (l0.take 2000) 0 from ⟨_, _, by (with_reducible repeat (first | refine blk_drewN ?_ _ | refine blk_drew ?_ | refine blk_alloc ?_ _)); exact BK119.out, GE119.out, HR118.out⟩), by repeat (first | (with_reducible first | exact HB.out | apply below_alloc | apply pw_below_drewN | apply below_drew1 | refine below_set ?_ GE119.out) | exact HB.out), by repeat (first | (with_reducible first | exact HBW.out | apply below_alloc | apply pw_below_drewN | apply below_drew1 | refine below_set ?_ GW119.out) | exact HBW.out)⟩
    · rw [if_neg c3] at H
      exact absurd H (by simp)
  · rw [if_neg c2] at H
    have c2b0 : decide (2000 < (l0.length : Int)) = false := decide_eq_false c2
    have c2b1 : decide (2000 < l0.length) = false := decide_eq_false (by omega)
    clear c2
    simp only [Option.some.injEq, Prod.mk.injEq] at H
    obtain ⟨rfl, rfl⟩ := H
    go_enter Try.func39, Try.ntmps39
    go_wp2_with (first | ((with_reducible refine gate_dst (N := 10) rfl ?_); refine box_event ?hg (N := 10) ?hd (cs := #[.slice A0 l0.length c0, .int .i64 0]) (t := 66) ?hr ?_; (case hd => rfl); (case hg => rfl); (case hr => first | (go_simp; done) | (go_simp; rfl)); intro gb120 hg w6 hbox hb; have n0_ := Aside0.mk (below_step HBW.out hb); have n1_ := Aside0.mk (below_step (by repeat (first | (with_reducible first | exact HB.out | apply below_alloc | apply pw_below_drewN | apply below_drew1) | exact HB.out)) hb); have n2_ := Aside0.mk (hbox); have n3_ := Aside0.mk ((by rw [hg]; exact (below_size (by repeat (first | (with_reducible first | exact HBW.out | apply below_alloc | apply pw_below_drewN | apply below_drew1) | exact HBW.out))) : w.heap.size ≤ gb120)); have n4_ := Aside0.mk ((Nat.le_trans HW0.out (by rw [hg]; exact (below_size (by repeat (first | (with_reducible first | exact HBW.out | apply below_alloc | apply pw_below_drewN | apply below_drew1) | exact HBW.out))) : w.heap.size ≤ gb120) : w0.heap.size ≤ gb120)); clear HBW; clear HB; have HBW := n0_; have HB := n1_; have BK120 := n2_; have GW120 := n3_; have GE120 := n4_; clear n0_ n1_ n2_ n3_ n4_; clear hb hbox hg))
    go_ret
    exact ⟨_, rfl, (show IsS66 w0 _ gb120 l0 0 from ⟨_, _, by (with_reducible repeat (first | refine blk_drewN ?_ _ | refine blk_drew ?_ | refine blk_alloc ?_ _)); exact BK120.out, GE120.out, HR0.out⟩), by repeat (first | (with_reducible first | exact HB.out | apply below_alloc | apply pw_below_drewN | apply below_drew1 | refine below_set ?_ GE120.out) | exact HB.out), by repeat (first | (with_reducible first | exact HBW.out | apply below_alloc | apply pw_below_drewN | apply below_drew1 | refine below_set ?_ GW120.out) | exact HBW.out)⟩

/-! ### spec_DrawTwoFind: function 22 -/
def spec_DrawTwoFind.f (k : Nat) (l0 : List Int) : Option (Int) := (spec_l6Open.f l0).bind fun bt121 => ((spec_l6Rd_pick.f k bt121.1 bt121.2 2).bind fun bt124 => (if bt124.1 = 0 then ((spec_l6Rd_pick.f k bt121.1 bt124.2 20).bind fun bt126 => ((spec_l6Rd_pick.f k bt121.1 bt126.2 20).bind fun bt128 => (some (wrap64 ((wrap64 (bt126.1 * bt126.1)) + (wrap64 (bt128.1 * bt128.1))))))) else ((spec_l92Sum.f k bt121.1 bt124.2).bind fun bt130 => (some bt130.1))))
set_option maxHeartbeats 8000000 in
set_option maxRecDepth 100000 in
theorem spec_DrawTwoFind.calls (k : Nat) (A0 : Option Addr) (c0 : Nat) (l0 : List Int) (r : Int) (w : World) (hr0 : Kd.C (Kd.int .u8) w A0 l0.length l0) (hc0 : l0.length ≤ c0) (h : spec_DrawTwoFind.f k l0 = some r) :
    Calls Try.prog 22 #[.slice A0 l0.length c0] w fun e w' => e = .returned (.int .i64 r) ∧ Below w.heap.size w w' := by
  have HR0 := Aside0.mk hr0
  have HC0 := Aside0.mk hc0
  clear hr0 hc0
  have HB := Aside0.mk (Below.refl w.heap.size w)
  have H : ((spec_l6Open.f l0).bind fun bt121 => ((spec_l6Rd_pick.f k bt121.1 bt121.2 2).bind fun bt124 => (if bt124.1 = 0 then ((spec_l6Rd_pick.f k bt121.1 bt124.2 20).bind fun bt126 => ((spec_l6Rd_pick.f k bt121.1 bt126.2 20).bind fun bt128 => (some (wrap64 ((wrap64 (bt126.1 * bt126.1)) + (wrap64 (bt128.1 * bt128.1))))))) else ((spec_l92Sum.f k bt121.1 bt124.2).bind fun bt130 => (some bt130.1))))) = some r := h
  clear h
  replace H := Option.bind_eq_some_iff.mp H
  obtain ⟨⟨t121, t122⟩, A20, H⟩ := H
  replace H : ((spec_l6Rd_pick.f k t121 t122 2).bind fun bt124 => (if bt124.1 = 0 then ((spec_l6Rd_pick.f k t121 bt124.2 20).bind fun bt126 => ((spec_l6Rd_pick.f k t121 bt126.2 20).bind fun bt128 => (some (wrap64 ((wrap64 (bt126.1 * bt126.1)) + (wrap64 (bt128.1 * bt128.1))))))) else ((spec_l92Sum.f k t121 bt124.2).bind fun bt130 => (some bt130.1)))) = some r := H
  have A2 := Aside0.mk A20
  clear A20
  replace H := Option.bind_eq_some_iff.mp H
  obtain ⟨⟨t124, t125⟩, A30, H⟩ := H
  replace H : (if t124 = 0 then ((spec_l6Rd_pick.f k t121 t125 20).bind fun bt126 => ((spec_l6Rd_pick.f k t121 bt126.2 20).bind fun bt128 => (some (wrap64 ((wrap64 (bt126.1 * bt126.1)) + (wrap64 (bt128.1 * bt128.1))))))) else ((spec_l92Sum.f k t121 t125).bind fun bt130 => (some bt130.1))) = some r := H
  have A3 := Aside0.mk A30
  clear A30
  by_cases c4 : t124 = 0
  · rw [if_pos c4] at H
    have c4b0 : (t124 == 0) = true := beq_iff_eq.mpr c4
    have c4b1 : (t124 != 0) = false := bne_eq_false_iff_eq.mpr c4
    clear c4
    replace H := Option.bind_eq_some_iff.mp H
    obtain ⟨⟨t126, t127⟩, A50, H⟩ := H
    replace H : ((spec_l6Rd_pick.f k t121 t127 20).bind fun bt128 => (some (wrap64 ((wrap64 (t126 * t126)) + (wrap64 (bt128.1 * bt128.1)))))) = some r := H
    have A5 := Aside0.mk A50
    clear A50
    replace H := Option.bind_eq_some_iff.mp H
    obtain ⟨⟨t128, t129⟩, A60, H⟩ := H
    replace H : (some (wrap64 ((wrap64 (t126 * t126)) + (wrap64 (t128 * t128))))) = some r := H
    have A6 := Aside0.mk A60
    clear A60
    obtain rfl := Option.some.inj H
    go_enter Try.func22, Try.ntmps22
    go_wp2_with (first | ((with_reducible refine gate_callee (f := 39) rfl ?_); refine goesL_ (some 7) rfl rfl Try.func39 (by kernel_rfl) rfl #[.slice A0 l0.length c0] rfl (by (try simp only [List.map_toArray, List.map_cons, List.map_nil]); first | done | rfl | (simp only [List.length_drop, List.length_take]; rfl)) ?_; (with_reducible refine (spec_l6Open.calls _ _ l0 t121 t122 w _ ?side1 ?side2 ?side3 A2.out).mono ?_); (case side1 => repeat (first | (with_reducible first | exact HB.out | apply below_alloc | apply pw_below_drewN | apply below_drew1) | exact HB.out)); (case side2 => exact HR0.out); (case side3 => exact HC0.out); rintro e w7 ⟨g123, rfl, hi, hb, hb2⟩; refine ⟨_, rfl, ?_⟩; have n0_ := Aside0.mk (hb); have n1_ := Aside0.mk (hi); clear HB; have HB := n0_; have HI123 := n1_; clear n0_ n1_; (try clear hb); (try clear hb2); (try clear hk); (try clear hi)) | ((with_reducible refine gate_callee (f := 40) rfl ?_); refine goesL_ (some 9) rfl rfl Try.func40 (by kernel_rfl) rfl #[.pointer (some ⟨g123, 0, none⟩), .int .i64 2] rfl (by (try simp only [List.map_toArray, List.map_cons, List.map_nil]); first | done | rfl | (simp only [List.length_drop, List.length_take]; rfl)) ?_; (with_reducible refine (spec_l6Rd_pick.calls k g123 t121 t122 2 t124 t125 w _ ?side1 ?side2 A3.out).mono ?_); (case side1 => repeat (first | (with_reducible first | exact HI123.out | apply IsS66.alloc | apply IsS66.drewN | apply IsS66.drew | apply IsS66.set_1) | exact HI123.out)); (case side2 => repeat (first | (with_reducible first | exact HB.out | apply below_alloc | apply pw_below_drewN | apply below_drew1 | refine below_set ?_ (IsS66.ge HI123.out)) | exact HB.out)); rintro e w8 ⟨rfl, hi, hb, hk⟩; refine ⟨_, rfl, ?_⟩; have n0_ := Aside0.mk (hb); have n1_ := Aside0.mk (hi); clear HB; clear HI123; have HB := n0_; have HI123 := n1_; clear n0_ n1_; (try clear hb); (try clear hb2); (try clear hk); (try clear hi)) | ((with_reducible refine gate_callee (f := 40) rfl ?_); refine goesL_ (some 12) rfl rfl Try.func40 (by kernel_rfl) rfl #[.pointer (some ⟨g123, 0, none⟩), .int .i64 20] rfl (by (try simp only [List.map_toArray, List.map_cons, List.map_nil]); first | done | rfl | (simp only [List.length_drop, List.length_take]; rfl)) ?_; (with_reducible refine (spec_l6Rd_pick.calls k g123 t121 t125 20 t126 t127 w _ ?side1 ?side2 A5.out).mono ?_); (case side1 => repeat (first | (with_reducible first | exact HI123.out | apply IsS66.alloc | apply IsS66.drewN | apply IsS66.drew | apply IsS66.set_1) | exact HI123.out)); (case side2 => repeat (first | (with_reducible first | exact HB.out | apply below_alloc | apply pw_below_drewN | apply below_drew1 | refine below_set ?_ (IsS66.ge HI123.out)) | exact HB.out)); rintro e w9 ⟨rfl, hi, hb, hk⟩; refine ⟨_, rfl, ?_⟩; have n0_ := Aside0.mk (hb); have n1_ := Aside0.mk (hi); clear HB; clear HI123; have HB := n0_; have HI123 := n1_; clear n0_ n1_; (try clear hb); (try clear hb2); (try clear hk); (try clear hi)) | ((with_reducible refine gate_callee (f := 40) rfl ?_); refine goesL_ (some 14) rfl rfl Try.func40 (by kernel_rfl) rfl #[.pointer (some ⟨g123, 0, none⟩), .int .i64 20] rfl (by (try simp only [List.map_toArray, List.map_cons, List.map_nil]); first | done | rfl | (simp only [List.length_drop, List.length_take]; rfl)) ?_; (with_reducible refine (spec_l6Rd_pick.calls k g123 t121 t127 20 t128 t129 w _ ?side1 ?side2 A6.out).mono ?_); (case side1 => repeat (first | (with_reducible first | exact HI123.out | apply IsS66.alloc | apply IsS66.drewN | apply IsS66.drew | apply IsS66.set_1) | exact HI123.out)); (case side2 => repeat (first | (with_reducible first | exact HB.out | apply below_alloc | apply pw_below_drewN | apply below_drew1 | refine below_set ?_ (IsS66.ge HI123.out)) | exact HB.out)); rintro e w10 ⟨rfl, hi, hb, hk⟩; refine ⟨_, rfl, ?_⟩; have n0_ := Aside0.mk (hb); have n1_ := Aside0.mk (hi); clear HB; clear HI123; have HB := n0_; have HI123 := n1_; clear n0_ n1_; (try clear hb); (try clear hb2); (try clear hk); (try clear hi)))
    go_ret
    exact ⟨by first | rfl | (simp [errW_none, errW_some] <;> rfl) | (simp [*, errW_none, errW_some] <;> rfl), by repeat (first | (with_reducible first | exact HB.out | apply below_alloc | apply pw_below_drewN | apply below_drew1 | refine below_set ?_ (IsS66.ge HI123.out)) | exact HB.out)⟩
  · rw [if_neg c4] at H
    have c4b0 : (t124 == 0) = false := beq_eq_false_iff_ne.mpr c4
    have c4b1 : (t124 != 0) = true := bne_iff_ne.mpr c4
    replace H := Option.bind_eq_some_iff.mp H
    obtain ⟨⟨t130, t131⟩, A110, H⟩ := H
    replace H : (some t130) = some r := H
    have A11 := Aside0.mk A110
    clear A110
    obtain rfl := Option.some.inj H
    go_enter Try.func22, Try.ntmps22
    go_wp2_with (first | ((with_reducible refine gate_callee (f := 39) rfl ?_); refine goesL_ (some 7) rfl rfl Try.func39 (by kernel_rfl) rfl #[.slice A0 l0.length c0] rfl (by (try simp only [List.map_toArray, List.map_cons, List.map_nil]); first | done | rfl | (simp only [List.length_drop, List.length_take]; rfl)) ?_; (with_reducible refine (spec_l6Open.calls _ _ l0 t121 t122 w _ ?side1 ?side2 ?side3 A2.out).mono ?_); (case side1 => repeat (first | (with_reducible first | exact HB.out | apply below_alloc | apply pw_below_drewN | apply below_drew1) | exact HB.out)); (case side2 => exact HR0.out); (case side3 => exact HC0.out); rintro e w12 ⟨g123, rfl, hi, hb, hb2⟩; refine ⟨_, rfl, ?_⟩; have n0_ := Aside0.mk (hb); have n1_ := Aside0.mk (hi); clear HB; have HB := n0_; have HI123 := n1_; clear n0_ n1_; (try clear hb); (try clear hb2); (try clear hk); (try clear hi)) | ((with_reducible refine gate_callee (f := 40) rfl ?_); refine goesL_ (some 9) rfl rfl Try.func40 (by kernel_rfl) rfl #[.pointer (some ⟨g123, 0, none⟩), .int .i64 2] rfl (by (try simp only [List.map_toArray, List.map_cons, List.map_nil]); first | done | rfl | (simp only [List.length_drop, List.length_take]; rfl)) ?_; (with_reducible refine (spec_l6Rd_pick.calls k g123 t121 t122 2 t124 t125 w _ ?side1 ?side2 A3.out).mono ?_); (case side1 => repeat (first | (with_reducible first | exact HI123.out | apply IsS66.alloc | apply IsS66.drewN | apply IsS66.drew | apply IsS66.set_1) | exact HI123.out)); (case side2 => repeat (first | (with_reducible first | exact HB.out | apply below_alloc | apply pw_below_drewN | apply below_drew1 | refine below_set ?_ (IsS66.ge HI123.out)) | exact HB.out)); rintro e w13 ⟨rfl, hi, hb, hk⟩; refine ⟨_, rfl, ?_⟩; have n0_ := Aside0.mk (hb); have n1_ := Aside0.mk (hi); clear HB; clear HI123; have HB := n0_; have HI123 := n1_; clear n0_ n1_; (try clear hb); (try clear hb2); (try clear hk); (try clear hi)) | ((with_reducible refine gate_callee (f := 38) rfl ?_); refine goesL_ (some 23) rfl rfl Try.func38 (by kernel_rfl) rfl #[.pointer (some ⟨g123, 0, none⟩)] rfl (by (try simp only [List.map_toArray, List.map_cons, List.map_nil]); first | done | rfl | (simp only [List.length_drop, List.length_take]; rfl)) ?_; (with_reducible refine (spec_l92Sum.calls k g123 t121 t125 t130 t131 w _ ?side1 ?side2 A11.out).mono ?_); (case side1 => repeat (first | (with_reducible first | exact HI123.out | apply IsS66.alloc | apply IsS66.drewN | apply IsS66.drew | apply IsS66.set_1) | exact HI123.out)); (case side2 => repeat (first | (with_reducible first | exact HB.out | apply below_alloc | apply pw_below_drewN | apply below_drew1 | refine below_set ?_ (IsS66.ge HI123.out)) | exact HB.out)); rintro e w14 ⟨rfl, hi, hb, hk⟩; refine ⟨_, rfl, ?_⟩; have n0_ := Aside0.mk (hb); have n1_ := Aside0.mk (hi); clear HB; clear HI123; have HB := n0_; have HI123 := n1_; clear n0_ n1_; (try clear hb); (try clear hb2); (try clear hk); (try clear hi)))
    go_ret
    exact ⟨by first | rfl | (simp [errW_none, errW_some] <;> rfl) | (simp [*, errW_none, errW_some] <;> rfl), by repeat (first | (with_reducible first | exact HB.out | apply below_alloc | apply pw_below_drewN | apply below_drew1 | refine below_set ?_ (IsS66.ge HI123.out)) | exact HB.out)⟩

/-! ### impl_squareRoot: function 70 -/
def impl_squareRoot.l0 : Nat → Int → Int → Int → Option (Int × Bool)
  | 0, _, _, _ => none
  | k + 1, x0, x4, x5 => if x5 > 0 then (if (wrap64 ((wrap64 (x4 + x5)) * (wrap64 (x4 + x5)))) ≤ x0 then (impl_squareRoot.l0 k x0 (wrap64 (x4 + x5)) (wrap64 (Int.tdiv x5 2))) else (impl_squareRoot.l0 k x0 x4 (wrap64 (Int.tdiv x5 2)))) else (some (x4, ((wrap64 (x4 * x4)) == x0)))
def impl_squareRoot.f (k : Nat) (a0 : Int) : Option (Int × Bool) := if a0 < 0 then (some (0, false)) else (impl_squareRoot.l0 k a0 0 1073741824)
set_option maxHeartbeats 8000000 in
set_option maxRecDepth 100000 in
theorem impl_squareRoot.calls (k : Nat) (a0 : Int) (r1 : Int) (r2 : Bool) (w : World) (h : impl_squareRoot.f k a0 = some (r1, r2)) :
    Calls Try.prog 70 #[.int .i64 a0] w fun e w' => e = .returned (.tuple #[.int .i64 r1, .bool r2]) ∧ Drawn0 w w' := by
  have H : (if a0 < 0 then (some (0, false)) else (impl_squareRoot.l0 k a0 0 1073741824)) = some (r1, r2) := h
  clear h
  by_cases c2 : a0 < 0
  · rw [if_pos c2] at H
    have c2b0 : decide (a0 < 0) = true := decide_eq_true c2
    clear c2
    simp only [Option.some.injEq, Prod.mk.injEq] at H
    obtain ⟨rfl, rfl⟩ := H
    go_enter Try.func70, Try.ntmps70
    go_wp2
    go_ret2
    exact ⟨by first | rfl | (simp; done) | (simp [*]; done), by repeat (first | exact Drawn0.refl _ | apply Drawn0.step)⟩
  · rw [if_neg c2] at H
    have c2b0 : decide (a0 < 0) = false := decide_eq_false c2
    clear c2
    have H' := Aside0.mk H
    clear H
    go_enter Try.func70, Try.ntmps70
    go_wp2
    go_loopg [4, 5] k (fun kq v4 v5 w' => ∃ (x4_1 : Int) (x5_1 : Int), v4 = .int .i64 x4_1 ∧ v5 = .int .i64 x5_1 ∧ Aside0 (impl_squareRoot.l0 kq a0 x4_1 x5_1 = some (r1, r2)) ∧ Aside0 (kq ≤ k) ∧ Drawn0 w w')
    case atStart => exact ⟨(0), (1073741824), (by first | rfl | (simp; done) | (simp [*]; done)), (by first | rfl | (simp; done) | (simp [*]; done)), H', ⟨Nat.le_refl _⟩, by repeat (first | exact Drawn0.refl _ | apply Drawn0.step)⟩
    case round =>
      clear H'
      try clear c2
      try clear c2b0
      try clear p2
      obtain ⟨x4_1, x5_1, rfl, rfl, HA, HK1, ⟨m1, rfl⟩⟩ := hrel
      cases gk with
      | zero => exact absurd HA.out (by simp [impl_squareRoot.l0])
      | succ k1 =>
        have H := HA.out
        clear HA
        simp only [impl_squareRoot.l0] at H
        by_cases c3 : x5_1 > 0
        · rw [if_pos c3] at H
          have c3b0 : decide (0 < x5_1) = true := decide_eq_true c3
          clear c3
          by_cases c4 : (wrap64 ((wrap64 (x4_1 + x5_1)) * (wrap64 (x4_1 + x5_1)))) ≤ a0
          · rw [if_pos c4] at H
            have c4b0 : decide ((wrap64 ((wrap64 (x4_1 + x5_1)) * (wrap64 (x4_1 + x5_1)))) ≤ a0) = true := decide_eq_true c4
            clear c4
            have H' := Aside0.mk H
            clear H
            go_wp2
            go_roundg k1
            case measure => have := HK1.out; omega
            case rel => exact ⟨(wrap64 (x4_1 + x5_1)), (wrap64 (Int.tdiv x5_1 2)), (by first | rfl | (simp; done) | (simp [*]; done)), (by first | rfl | (simp; done) | (simp [*]; done)), H', ⟨by have := HK1.out; omega⟩, by repeat (first | exact Drawn0.refl _ | apply Drawn0.step)⟩
          · rw [if_neg c4] at H
            have c4b0 : decide ((wrap64 ((wrap64 (x4_1 + x5_1)) * (wrap64 (x4_1 + x5_1)))) ≤ a0) = false := decide_eq_false c4
            clear c4
            have H' := Aside0.mk H
            clear H
            go_wp2
            go_roundg k1
            case measure => have := HK1.out; omega
            case rel => exact ⟨(x4_1), (wrap64 (Int.tdiv x5_1 2)), (by first | rfl | (simp; done) | (simp [*]; done)), (by first | rfl | (simp; done) | (simp [*]; done)), H', ⟨by have := HK1.out; omega⟩, by repeat (first | exact Drawn0.refl _ | apply Drawn0.step)⟩
        · rw [if_neg c3] at H
          have c3b0 : decide (0 < x5_1) = false := decide_eq_false c3
          clear c3
          simp only [Option.some.injEq, Prod.mk.injEq] at H
          obtain ⟨rfl, rfl⟩ := H
          go_wp2
          go_ret2
          exact ⟨by first | rfl | (simp; done) | (simp [*]; done), by repeat (first | exact Drawn0.refl _ | apply Drawn0.step)⟩

/-! ### impl_squaresOf: function 37 -/
section
open Locg
theorem squareRoot_l (n : Int) (h0 : 0 ≤ n) (hn : n < 4611686018427387904) : ∀ (d : Nat) (x bit : Int) (k : Nat), 0 ≤ x → x * x ≤ n → n < (x + 2 * bit) * (x + 2 * bit) → x + 2 * bit ≤ 2147483648 → bit = 2 ^ d → d + 1 < k →
    impl_squareRoot.l0 k n x bit = some (isq n, isq n * isq n == n) := by
  intro d
  have stop : ∀ (x : Int) (k : Nat), 0 ≤ x → x * x ≤ n → n < (x + 1) * (x + 1) → 0 < k → impl_squareRoot.l0 k n x 0 = some (isq n, isq n * isq n == n) := by
    intro x k hx hl hg hk
    obtain ⟨k, rfl⟩ : ∃ m, k = m + 1 := ⟨k - 1, by omega⟩
    simp only [impl_squareRoot.l0]
    have hb : x < 2147483648 := by
      rcases Int.lt_or_le x 2147483648 with h | h
      · exact h
      · have := sq_le (by omega) h; omega
    have hm : wrap64 (x * x) = x * x := w64' (sq_nonneg x) (by omega)
    rw [if_neg (by omega), hm, isq_unique hx hl hg]
  induction d with
  | zero =>
    intro x bit k hx hl hg hB hb hk
    obtain ⟨k, rfl⟩ : ∃ m, k = m + 1 := ⟨k - 1, by omega⟩
    obtain rfl : bit = 1 := by simpa using hb
    simp only [impl_squareRoot.l0]
    have hs := sq_le (a := x + 1) (b := 2147483648) (by omega) (by omega)
    rw [if_pos (by omega), w64 (x := x + 1) (by omega) (by omega), w64' (x := (x + 1) * (x + 1)) (sq_nonneg _) (by omega)]
    have e : wrap64 (Int.tdiv 1 2) = 0 := by decide +kernel
    rw [e]
    by_cases c : (x + 1) * (x + 1) ≤ n
    · rw [if_pos c]
      exact stop _ _ (by omega) c (by rw [show x + 1 + 1 = x + 2 * 1 from by omega]; exact hg) (by omega)
    · rw [if_neg c]
      exact stop _ _ hx hl (by omega) (by omega)
  | succ d ih =>
    intro x bit k hx hl hg hB hb hk
    obtain ⟨k, rfl⟩ : ∃ m, k = m + 1 := ⟨k - 1, by omega⟩
    have hp : (0 : Int) < 2 ^ d := Int.pow_pos (by omega)
    obtain ⟨c2, hc2⟩ : ∃ c2 : Int, c2 = 2 ^ d := ⟨_, rfl⟩
    have hb2 : bit = 2 * c2 := by rw [hb, Int.pow_succ, hc2]; omega
    subst hb2
    simp only [impl_squareRoot.l0]
    have hs := sq_le (a := x + 2 * c2) (b := 2147483648) (by omega) (by omega)
    have e : wrap64 (Int.tdiv (2 * c2) 2) = c2 := by rw [tdiv2 (by omega), w64 (by omega) (by omega)]; omega
    rw [if_pos (by omega), w64 (x := x + 2 * c2) (by omega) (by omega), w64' (x := (x + 2 * c2) * (x + 2 * c2)) (sq_nonneg _) (by omega), e]
    by_cases c : (x + 2 * c2) * (x + 2 * c2) ≤ n
    · rw [if_pos c]
      exact ih _ _ _ (by omega) c (by rw [show x + 2 * c2 + 2 * c2 = x + 2 * (2 * c2) from by omega]; exact hg) (by omega) hc2 (by omega)
    · rw [if_neg c]
      exact ih _ _ _ hx hl (by omega) (by omega) hc2 (by omega)
theorem squareRoot (n : Int) (h0 : 0 ≤ n) (hn : n < 4611686018427387904) (k : Nat) (hk : 31 < k) : impl_squareRoot.f k n = some (isq n, isq n * isq n == n) := by
  unfold impl_squareRoot.f
  rw [if_neg (by omega)]
  exact squareRoot_l n h0 hn 30 0 1073741824 k (by omega) (by omega) (by omega) (by omega) (by decide) (by omega)
/-! ### the first squares with a sum: the closure and its maker -/
theorem sqInfo : (Try.prog.info? 3).map (fun i => (i.zero, i.size, i.bytes)) = some (some (.int .i64 0), 1, 8) := by kernel_rfl
def SqInv (Bm Bl Bt : Nat) (many : Int) (xs : List Int) (w : World) : Prop :=
  ∃ v, w.heap[Bl]? = some (.cells #[v] 22 (0, 0)) ∧ w.heap[Bm]? = some (.cells #[.int .i64 many] 3 (0, 0)) ∧
    w.heap[Bt]? = some (.cells #[.func (.func 69) #[] #[.pointer (some ⟨Bl, 0, none⟩), .pointer (some ⟨Bm, 0, none⟩), .pointer (some ⟨Bt, 0, none⟩)]] 42 (0, 0)) ∧
    w.ownsRow (Bm + 1) 3 1 v xs.length (nums .i64 xs)
theorem SqInv.drewN {Bm Bl Bt : Nat} {many : Int} {xs : List Int} {w : World} (h : SqInv Bm Bl Bt many xs w) (n : Nat) : SqInv Bm Bl Bt many xs (w.drewN n) := h
theorem sq_apart {w : World} {b : Nat} {v : Value} {xs : List Value} {g t : Nat} {cells : Array Value} (hown : w.ownsRow b 3 1 v xs.length xs) (hg : w.heap[g]? = some (.cells cells t (0, 0))) (ht : t ≠ 3) : v.ownBlock ≠ some g := by
  intro e
  obtain ⟨cells', hc⟩ := own_typed hown g e
  rw [hc] at hg
  injection hg with hg
  injection hg with _ hg
  exact ht hg.symm
theorem sq_push {Bm Bl Bt : Nat} {many : Int} {xs : List Int} {y : Int} {W w1 : World} {v v1 : Value} (hv : W.heap[Bl]? = some (.cells #[v] 22 (0, 0))) (hmn : W.heap[Bm]? = some (.cells #[.int .i64 many] 3 (0, 0)))
    (ht : W.heap[Bt]? = some (.cells #[.func (.func 69) #[] #[.pointer (some ⟨Bl, 0, none⟩), .pointer (some ⟨Bm, 0, none⟩), .pointer (some ⟨Bt, 0, none⟩)]] 42 (0, 0)))
    (hown : W.ownsRow (Bm + 1) 3 1 v xs.length (nums .i64 xs)) (hown1 : w1.ownsRow (Bm + 1) 3 1 v1 (xs ++ [y]).length (nums .i64 (xs ++ [y]))) (hg : W.grownBy w1 v.ownBlock) :
    SqInv Bm Bl Bt many (xs ++ [y]) (w1.setCell ⟨Bl, 0, none⟩ v1) := by
  have hl : xs.length = (nums .i64 xs).length := (nums_length _ _).symm
  have hl1 : (xs ++ [y]).length = (nums .i64 (xs ++ [y])).length := (nums_length _ _).symm
  have nl := sq_apart (by rw [← hl]; exact hown) hv (by decide)
  have nt := sq_apart (by rw [← hl]; exact hown) ht (by decide)
  have nm : v.ownBlock ≠ some Bm := fun e => by have := own_base hown Bm e; omega
  have hv' := (hg.block Bl (lt_of_block hv) (fun e => nl e.symm)).trans hv
  have hm' := (hg.block Bm (lt_of_block hmn) (fun e => nm e.symm)).trans hmn
  have ht' := (hg.block Bt (lt_of_block ht) (fun e => nt e.symm)).trans ht
  have n1 := sq_apart (by rw [← hl1]; exact hown1) hv' (by decide)
  have dm : Bm ≠ Bl := fun e => by subst e; rw [hv] at hmn; simp at hmn
  have dt : Bt ≠ Bl := fun e => by subst e; rw [hv] at ht; simp at ht
  refine ⟨v1, one_setCell hv', (Below.heap_setCell _ _ _ _ dm).trans hm', (Below.heap_setCell _ _ _ _ dt).trans ht', own_move hown1 (fun k hk => Below.heap_setCell _ _ _ _ (fun e => n1 (by rw [hk, e])))⟩
theorem sq_drop {Bm Bl Bt : Nat} {many : Int} {xs : List Int} {y : Int} {W : World} {g c : Nat} (h : SqInv Bm Bl Bt many (xs ++ [y]) W) (hv : W.heap[Bl]? = some (.cells #[.slice (some ⟨g, 0, none⟩) (xs ++ [y]).length c] 22 (0, 0))) :
    SqInv Bm Bl Bt many xs (W.setCell ⟨Bl, 0, none⟩ (.slice (some ⟨g, 0, none⟩) xs.length c)) := by
  obtain ⟨v, hv0, hmn, ht, hown⟩ := h
  obtain rfl : v = .slice (some ⟨g, 0, none⟩) (xs ++ [y]).length c := by rw [hv] at hv0; simpa using hv0.symm
  have hl1 : (xs ++ [y]).length = (nums .i64 (xs ++ [y])).length := (nums_length _ _).symm
  have n1 := sq_apart (by rw [← hl1]; exact hown) hv (by decide)
  have dm : Bm ≠ Bl := fun e => by subst e; rw [hv] at hmn; simp at hmn
  have dt : Bt ≠ Bl := fun e => by subst e; rw [hv] at ht; simp at ht
  have hgl : g ≠ Bl := fun e => n1 (by rw [e]; rfl)
  refine ⟨_, one_setCell hv, (Below.heap_setCell _ _ _ _ dm).trans hmn, (Below.heap_setCell _ _ _ _ dt).trans ht, ?_⟩
  rcases hown.2 with ⟨h', _⟩ | ⟨g', cap', cur, h', hb, hh, hnc, hcp, hcs, htake⟩
  · cases h'
  · simp only [Value.slice.injEq, Option.some.injEq, Addr.mk.injEq, and_true, true_and] at h'
    obtain ⟨rfl, rfl⟩ := h'
    refine ⟨by simp [nums], .inr ⟨g, c, cur, rfl, hb, (Below.heap_setCell _ _ _ _ hgl).trans hh, by simp at hnc; omega, hcp, hcs, ?_⟩⟩
    have := congrArg (List.take xs.length) htake
    rw [List.take_take] at this
    simpa [nums] using this
theorem sq_same {Bm Bl : Nat} {xs : List Int} {W w1 : World} {v : Value} (hv : W.heap[Bl]? = some (.cells #[v] 22 (0, 0))) (hown : W.ownsRow (Bm + 1) 3 1 v xs.length (nums .i64 xs)) (hg : W.grownBy w1 v.ownBlock) :
    w1.cell? ⟨Bl, 0, none⟩ = some v ∧ w1.frozen? ⟨Bl, 0, none⟩ = false := by
  have hl : xs.length = (nums .i64 xs).length := (nums_length _ _).symm
  have nl := sq_apart (by rw [← hl]; exact hown) hv (by decide)
  have hv' := (hg.block Bl (lt_of_block hv) (fun e => nl e.symm)).trans hv
  exact ⟨cell_of_one hv', free_of_one hv'⟩
theorem sq_root (n : Int) (h0 : 0 ≤ n) (hn : n ≤ 5000) : ∃ r, 0 ≤ r ∧ r ≤ 71 ∧ isq n = r ∧ impl_squareRoot.f 32 n = some (r, decide (r * r = n)) := by
  refine ⟨isq n, isq_nonneg n, ?_, rfl, ?_⟩
  · have := isq_bound (b := 71) h0 (by omega) (by omega); omega
  · rw [squareRoot n h0 (by omega) 32 (by omega)]
    rfl
theorem sq_hide {p : Prop} (h : p) : Hid p := Lib.hid h
set_option maxHeartbeats 1600000 in
set_option maxRecDepth 100000 in
theorem sq_base (Bm Bl Bt : Nat) (many low left : Int) (xs : List Int) (w : World) (h : SqInv Bm Bl Bt many xs w) (hm : (xs.length : Int) + 1 = many) (hM : many ≤ 4) (h0 : 0 ≤ low) (hL : low ≤ 5000) (hl0 : 0 ≤ left) (hl : left ≤ 5000) (hlt : Bm < Bl) (hlt2 : Bm < Bt) :
    Calls Try.prog 69 #[.int .i64 low, .int .i64 left, .pointer (some ⟨Bl, 0, none⟩), .pointer (some ⟨Bm, 0, none⟩), .pointer (some ⟨Bt, 0, none⟩)] w fun e w' =>
      e = .returned (.bool (sqs 0 low left).isSome) ∧ SqInv Bm Bl Bt many (xs ++ (sqs 0 low left).getD []) w' ∧ Below Bm w w' := by
  have hi := h
  obtain ⟨v, hv, hmn, ht, hown⟩ := h
  obtain ⟨A, c, rfl⟩ := own_slice hown
  have cL := cell_of_one hv
  have fL := free_of_one hv
  have cM := cell_of_one hmn
  have e1 : (((xs.length : Nat) : Int) == many - 1) = true := by rw [beq_iff_eq]; omega
  obtain ⟨r, hr0, hr1, hr, hsq⟩ := sq_root left hl0 hl
  simp only [sqs, hr]
  have HI := sq_hide hi
  have HV := sq_hide hv
  have HM := sq_hide hmn
  have HT := sq_hide ht
  have HO := sq_hide hown
  have hxl : xs.length ≤ 3 := by omega
  have hM1 : 1 ≤ many := by omega
  have hB : Bm < w.heap.size := lt_of_block hmn
  clear hi hv hmn ht hown hr hm
  by_cases c1 : r * r = left
  · rw [decide_eq_true c1] at hsq
    have HS := sq_hide hsq
    clear hsq
    by_cases c2 : low ≤ r
    · have c2b : decide (low ≤ r) = true := decide_eq_true c2
      rw [if_pos ⟨c1, c2⟩]
      clear c1
      go_enter Try.func69, Try.ntmps69
      go_wp2_with (first | (go_at_call 70; refine (impl_squareRoot.calls 32 left r true _ HS.out).mono ?_; rintro e w' ⟨rfl, ⟨n, rfl⟩⟩) | (at_builtin; go_loud (refine print_append_num (w0 := w) (Bm + 1) rfl (.tmp 27) (.tmp 29) 22 3 .i64 8 rfl Try.underlying22 sqInfo (by decide) (.slice A xs.length c) xs r rfl rfl HO.out (pw_below_drewN (Below.refl _ _) _) (by simp; omega) (by omega) ?_; intro v1 w1 hown1 hB1 hg1 hat1; clear hat1; obtain ⟨A1, k1, rfl⟩ := own_slice hown1; have HV1 := sq_hide (sq_push (hg := hg1) (hv := by exact HV.out) (hmn := by exact HM.out) (ht := by exact HT.out) (hown := by exact HO.out) (hown1 := hown1)); obtain ⟨cL1, fL1⟩ := sq_same (hg := hg1) (hv := by exact HV.out) (hown := by exact HO.out); clear hown1 hg1)))
      go_ret
      exact ⟨rfl, by simpa using HV1.out, (hB1.setCell (show Bm + 1 ≤ Bl by omega) _).mono (by omega)⟩
    · have c2b : decide (low ≤ r) = false := decide_eq_false c2
      rw [if_neg (fun h => c2 h.2)]
      clear c1
      go_enter Try.func69, Try.ntmps69
      go_wp2_with (first | (go_at_call 70; refine (impl_squareRoot.calls 32 left r true _ HS.out).mono ?_; rintro e w' ⟨rfl, ⟨n, rfl⟩⟩) | fail)
      go_ret
      exact ⟨rfl, by simpa using HI.out.drewN n, pw_below_drewN (Below.refl _ _) _⟩
  · rw [decide_eq_false c1] at hsq
    rw [if_neg (fun h => c1 h.1)]
    have HS := sq_hide hsq
    clear hsq c1
    go_enter Try.func69, Try.ntmps69
    go_wp2_with (first | (go_at_call 70; refine (impl_squareRoot.calls 32 left r false _ HS.out).mono ?_; rintro e w' ⟨rfl, ⟨n, rfl⟩⟩) | fail)
    go_ret
    exact ⟨rfl, by simpa using HI.out.drewN n, pw_below_drewN (Below.refl _ _) _⟩
def SqSays (Bm Bl Bt : Nat) (many : Int) (m : Nat) : Prop := ∀ (low left : Int) (xs : List Int) (w : World), SqInv Bm Bl Bt many xs w → (xs.length : Int) + m + 1 = many → 0 ≤ low → low ≤ 5000 → 0 ≤ left → left ≤ 5000 →
    Calls Try.prog 69 #[.int .i64 low, .int .i64 left, .pointer (some ⟨Bl, 0, none⟩), .pointer (some ⟨Bm, 0, none⟩), .pointer (some ⟨Bt, 0, none⟩)] w fun e w' =>
      e = .returned (.bool (sqs m low left).isSome) ∧ SqInv Bm Bl Bt many (xs ++ (sqs m low left).getD []) w' ∧ Below Bm w w'
def SqYes (Bm Bl Bt : Nat) (many x left : Int) (xs res : List Int) : Prop := ∀ w : World, SqInv Bm Bl Bt many (xs ++ [x]) w →
    Calls Try.prog 69 #[.int .i64 x, .int .i64 (left - x * x), .pointer (some ⟨Bl, 0, none⟩), .pointer (some ⟨Bm, 0, none⟩), .pointer (some ⟨Bt, 0, none⟩)] w fun e w' =>
      e = .returned (.bool true) ∧ SqInv Bm Bl Bt many (xs ++ x :: res) w' ∧ Below Bm w w'
def SqNo (Bm Bl Bt : Nat) (many x left : Int) (xs : List Int) : Prop := ∀ w : World, SqInv Bm Bl Bt many (xs ++ [x]) w →
    Calls Try.prog 69 #[.int .i64 x, .int .i64 (left - x * x), .pointer (some ⟨Bl, 0, none⟩), .pointer (some ⟨Bm, 0, none⟩), .pointer (some ⟨Bt, 0, none⟩)] w fun e w' =>
      e = .returned (.bool false) ∧ (∃ g c, w'.heap[Bl]? = some (.cells #[.slice (some ⟨g, 0, none⟩) (xs.length + 1) c] 22 (0, 0)) ∧ xs.length + 1 ≤ c ∧ c ≤ 9223372036854775807 ∧ SqInv Bm Bl Bt many (xs ++ [x]) w') ∧ Below Bm w w'
theorem sq_yes {Bm Bl Bt : Nat} {many : Int} {m : Nat} (IH : SqSays Bm Bl Bt many m) {x left : Int} {xs res : List Int} (hm : (xs.length : Int) + (m + 1) + 1 = many) (h0 : 0 ≤ x) (h1 : x ≤ 5000) (h2 : x * x ≤ left) (h3 : left ≤ 5000) (hs : sqs m x (left - x * x) = some res) : SqYes Bm Bl Bt many x left xs res := by
  intro w hw
  have := IH x (left - x * x) (xs ++ [x]) w hw (by simp; omega) h0 h1 (by omega) (by have := sq_nonneg x; omega)
  rw [hs] at this
  simpa using this
theorem sq_no {Bm Bl Bt : Nat} {many : Int} {m : Nat} (IH : SqSays Bm Bl Bt many m) {x left : Int} {xs : List Int} (hm : (xs.length : Int) + (m + 1) + 1 = many) (h0 : 0 ≤ x) (h1 : x ≤ 5000) (h2 : x * x ≤ left) (h3 : left ≤ 5000) (hs : sqs m x (left - x * x) = none) : SqNo Bm Bl Bt many x left xs := by
  intro w hw
  have := IH x (left - x * x) (xs ++ [x]) w hw (by simp; omega) h0 h1 (by omega) (by have := sq_nonneg x; omega)
  rw [hs] at this
  refine this.mono ?_
  rintro e w' ⟨he, hi, hb⟩
  simp only [Option.getD_none, List.append_nil] at hi
  refine ⟨by simpa using he, ?_, hb⟩
  have hi0 := hi
  obtain ⟨v, hv, _, _, hown⟩ := hi
  obtain ⟨g, c, rfl, _⟩ := hown.form (by simp)
  refine ⟨g, c, by simpa using hv, ?_, ?_, hi0⟩
  · rcases hown.2 with ⟨h', _⟩ | ⟨g', cap', cur, h', _, _, hn, hc, _⟩
    · cases h'
    · simp only [Value.slice.injEq, true_and] at h'; obtain ⟨_, rfl⟩ := h'; simpa using hn
  · rcases hown.2 with ⟨h', _⟩ | ⟨g', cap', cur, h', _, _, hn, hc, _⟩
    · cases h'
    · simp only [Value.slice.injEq, true_and] at h'; obtain ⟨_, rfl⟩ := h'; simpa [maxLen] using hc
theorem sq_cellT {Bm Bt : Nat} {xs : List Int} {W w1 : World} {v u : Value} (ht : W.heap[Bt]? = some (.cells #[u] 42 (0, 0))) (hown : W.ownsRow (Bm + 1) 3 1 v xs.length (nums .i64 xs)) (hg : W.grownBy w1 v.ownBlock) :
    w1.cell? ⟨Bt, 0, none⟩ = some u := by
  have hl : xs.length = (nums .i64 xs).length := (nums_length _ _).symm
  have nl := sq_apart (by rw [← hl]; exact hown) ht (by decide)
  exact cell_of_one ((hg.block Bt (lt_of_block ht) (fun e => nl e.symm)).trans ht)
set_option maxHeartbeats 4000000 in
set_option maxRecDepth 100000 in
theorem sq_step (Bm Bl Bt : Nat) (many : Int) (hM : many ≤ 4) (hlt : Bm < Bl) (hlt2 : Bm < Bt) (m : Nat) (IH : SqSays Bm Bl Bt many m) : SqSays Bm Bl Bt many (m + 1) := by
  intro low left xs w h hm h0 hL hl0 hl
  have hi := h
  obtain ⟨v, hv, hmn, ht, hown⟩ := h
  obtain ⟨A, c, rfl⟩ := own_slice hown
  have cL := cell_of_one hv
  have fL := free_of_one hv
  have cM := cell_of_one hmn
  have e1 : (((xs.length : Nat) : Int) == many - 1) = false := by rw [beq_eq_false_iff_ne]; omega
  have hxl : xs.length ≤ 3 := by omega
  have hM1 : 1 ≤ many := by omega
  have HI := sq_hide hi
  have HX0 : Hid (¬ Bt = Bl) := sq_hide (fun e => by subst e; rw [hv] at ht; simp at ht)
  have HE := sq_hide hm
  have HIH := sq_hide IH
  clear hi hv hmn ht hown hm IH
  go_enter Try.func69, Try.ntmps69
  go_wp2
  clear cL fL cM
  go_loopw [10] (fun x wr => ∃ xi : Int, x = .int .i64 xi ∧ low ≤ xi ∧ Hid (xi ≤ left + 1 ∨ xi = low) ∧ Hid (SqInv Bm Bl Bt many xs wr) ∧ Hid (sqs (m + 1) low left = sqFrom (fun x => sqs m x (left - x * x)) (m + 2) left (left + 2 - xi).toNat xi) ∧ Below Bm w wr) (fun x _ => (left + 2 - intOf x).toNat)
  case atStart => exact ⟨low, rfl, Int.le_refl _, sq_hide (.inr rfl), HI, sq_hide rfl, Below.refl _ _⟩
  case round =>
    obtain ⟨xi, rfl, hlx, HX, HW, HF, hB⟩ := hrel
    have hw := HW.out
    obtain ⟨v, hv, hmn, ht, hown⟩ := hw
    obtain ⟨A, c, rfl⟩ := own_slice hown
    have cL := cell_of_one hv
    have fL := free_of_one hv
    have cM := cell_of_one hmn
    have hx5 : xi ≤ 5001 := by rcases HX.out with h | h <;> omega
    have hs := sq_nonneg xi
    have hS := sq_le (show 0 ≤ xi by omega) hx5
    have em : many - (xs.length : Int) = m + 2 := by have := HE.out; omega
    have hmm : (m : Int) + 2 ≤ 4 := by have := HE.out; omega
    have hp0 : 0 ≤ xi * xi * (m + 2) := Int.mul_nonneg hs (by omega)
    have hp1 : xi * xi * (m + 2) ≤ 25010001 * 4 := mul_le2 hs (by omega) (by omega) hmm
    have w1 : wrap64 (xi * xi) = xi * xi := w64 (by omega) (by omega)
    have w2 : wrap64 (many - (xs.length : Int)) = m + 2 := by rw [em]; exact w64 (by omega) (by omega)
    have w3 : wrap64 (xi * xi * (m + 2)) = xi * xi * (m + 2) := w64 (by omega) (by omega)
    have HV := sq_hide hv
    have HM := sq_hide hmn
    have HT := sq_hide ht
    have HO := sq_hide hown
    have HBB : Hid (Bm + 1 ≤ wr.heap.size) := sq_hide (lt_of_block hmn)
    have H88 : Hid ((xs.length + 1) * 8 ≤ 140737488355328) := sq_hide (by omega)
    clear hv hmn ht hown hS hp0 hp1
    by_cases c1 : xi * xi * (m + 2) ≤ left
    · have hbd := sq_bound (c := (m : Int) + 2) (by omega) (by omega) c1
      have c1b : decide (xi * xi * ((m : Int) + 2) ≤ left) = true := decide_eq_true c1
      have C1 := sq_hide c1
      clear c1
      have w4 : wrap64 (left - xi * xi) = left - xi * xi := w64 (by omega) (by omega)
      cases hcase : sqs m xi (left - xi * xi) with
      | some res =>
        have HY := sq_hide (sq_yes HIH.out (xs := xs) (many := many) (x := xi) (left := left) (res := res) HE.out (by omega) (by omega) hbd.1 (by omega) hcase)
        have hfin : sqs (m + 1) low left = some (xi :: res) := by rw [HF.out]; exact sqFrom_hit (by omega) (by omega) C1.out hcase
        have HN := sq_hide hfin
        have hne : ¬ Bt = Bl := HX0.out
        have hne2 : ¬ Bl = Bt := fun h => hne h.symm
        have hxe : xi ≤ left := hbd.2
        clear hcase hfin hbd
        go_wp2_with (first | (at_builtin; refine print_append_num (w0 := wr) (Bm + 1) rfl (.tmp 50) (.tmp 52) 22 3 .i64 8 rfl Try.underlying22 sqInfo (by decide) (.slice A xs.length c) xs xi rfl rfl HO.out (Below.refl _ _) HBB.out H88.out ?_; intro v1 w1 hown1 hB1 hg1 hat1; clear hat1; obtain ⟨A1, k1, rfl⟩ := own_slice hown1; have HV1 := sq_hide (sq_push (hg := hg1) (hv := by exact HV.out) (hmn := by exact HM.out) (ht := by exact HT.out) (hown := by exact HO.out) (hown1 := hown1)); obtain ⟨cL1, fL1⟩ := sq_same (hg := hg1) (hv := by exact HV.out) (hown := by exact HO.out); have cT1 := sq_cellT (u := .func (.func 69) #[] #[.pointer (some ⟨Bl, 0, none⟩), .pointer (some ⟨Bm, 0, none⟩), .pointer (some ⟨Bt, 0, none⟩)]) (xs := xs) (W := wr) (v := .slice A xs.length c) HT.out HO.out hg1; clear hown1 hg1 cL fL) | (go_at_call 69; refine (HY.out _ (by simpa using HV1.out)).mono ?_; rintro e w2 ⟨rfl, hI2, hB2⟩; have HI2 := sq_hide hI2; clear hI2))
        go_ret
        rw [HN.out]
        exact ⟨rfl, by simpa using HI2.out, hB.trans (((hB1.setCell (show Bm + 1 ≤ Bl by omega) _).mono (by omega)).trans (by simpa using hB2))⟩
      | none =>
        have HY := sq_hide (sq_no HIH.out (xs := xs) (many := many) (x := xi) (left := left) HE.out (by omega) (by omega) hbd.1 (by omega) hcase)
        have hfin := (HF.out).trans (sqFrom_next (by omega) (by omega) C1.out hcase)
        have HN := sq_hide hfin
        have hne : ¬ Bt = Bl := HX0.out
        have hne2 : ¬ Bl = Bt := fun h => hne h.symm
        have hxe : xi ≤ left := hbd.2
        clear hcase hfin hbd
        go_wp2_with (first | (at_builtin; refine print_append_num (w0 := wr) (Bm + 1) rfl (.tmp 50) (.tmp 52) 22 3 .i64 8 rfl Try.underlying22 sqInfo (by decide) (.slice A xs.length c) xs xi rfl rfl HO.out (Below.refl _ _) HBB.out H88.out ?_; intro v1 w1 hown1 hB1 hg1 hat1; clear hat1; obtain ⟨A1, k1, rfl⟩ := own_slice hown1; have HV1 := sq_hide (sq_push (hg := hg1) (hv := by exact HV.out) (hmn := by exact HM.out) (ht := by exact HT.out) (hown := by exact HO.out) (hown1 := hown1)); obtain ⟨cL1, fL1⟩ := sq_same (hg := hg1) (hv := by exact HV.out) (hown := by exact HO.out); have cT1 := sq_cellT (u := .func (.func 69) #[] #[.pointer (some ⟨Bl, 0, none⟩), .pointer (some ⟨Bm, 0, none⟩), .pointer (some ⟨Bt, 0, none⟩)]) (xs := xs) (W := wr) (v := .slice A xs.length c) HT.out HO.out hg1; clear hown1 hg1 cL fL) | (go_at_call 69; refine (HY.out _ (by simpa using HV1.out)).mono ?_; rintro e w2 ⟨rfl, ⟨g2, k2, hv2, hk2, hk3, hI2⟩, hB2⟩; have cL2 := cell_of_one hv2; have fL2 := free_of_one hv2; have HI2 := sq_hide hI2; have HV2 := sq_hide hv2; clear hI2 hv2))
        go_roundw
        case rel => exact ⟨xi + 1, by go_num, by omega, sq_hide (.inl (by omega)), sq_hide (by have := sq_drop (y := xi) HI2.out (by simpa using HV2.out); simpa using this), HN, (hB.trans (((hB1.setCell (show Bm + 1 ≤ Bl by omega) _).mono (by omega)).trans (by simpa using hB2))).setCell (show Bm ≤ Bl by omega) _⟩
        case measure => simp [intOf]; omega
    · have c1b : decide (xi * xi * ((m : Int) + 2) ≤ left) = false := decide_eq_false c1
      have hfin : sqs (m + 1) low left = none := by rw [HF.out]; exact sqFrom_stop _ c1
      have HN := sq_hide hfin
      clear c1 hfin
      go_wp2
      go_ret
      rw [HN.out]
      exact ⟨rfl, by simpa using HW.out, hB⟩
theorem sq_all (Bm Bl Bt : Nat) (many : Int) (hM : many ≤ 4) (hlt : Bm < Bl) (hlt2 : Bm < Bt) : ∀ m, SqSays Bm Bl Bt many m
  | 0 => fun low left xs w h hm h0 hL hl0 hl => sq_base Bm Bl Bt many low left xs w h (by simpa using hm) hM h0 hL hl0 hl hlt hlt2
  | m + 1 => sq_step Bm Bl Bt many hM hlt hlt2 m (sq_all Bm Bl Bt many hM hlt hlt2 m)
theorem sq_start (w : World) (a1 : Int) : SqInv w.heap.size (w.heap.size + 1 + 1) (w.heap.size + 1 + 1 + 1) a1 []
    ((((w.alloc (.cells #[.int .i64 a1] 3)).alloc (.cells #[] 3)).alloc (.cells #[.slice (some ⟨w.heap.size + 1, 0, none⟩) 0 0] 22)).alloc
      (.cells #[.func (.func 69) #[] #[.pointer (some ⟨w.heap.size + 1 + 1, 0, none⟩), .pointer (some ⟨w.heap.size, 0, none⟩), .pointer (some ⟨w.heap.size + 1 + 1 + 1, 0, none⟩)]] 42)) := by
  refine ⟨.slice (some ⟨w.heap.size + 1, 0, none⟩) 0 0, ?_, ?_, ?_, by simp [nums], .inr ⟨w.heap.size + 1, 0, #[], rfl, Nat.le_refl _, ?_, Nat.le_refl _, by simp [maxLen], by simp, by simp [nums]⟩⟩
  · refine (Below.heap_alloc _ _ _ (by simp)).trans ?_
    simpa using heap_alloc_new ((w.alloc (.cells #[.int .i64 a1] 3)).alloc (.cells #[] 3)) (.cells #[.slice (some ⟨w.heap.size + 1, 0, none⟩) 0 0] 22)
  · refine (Below.heap_alloc _ _ _ (by simp <;> omega)).trans ((Below.heap_alloc _ _ _ (by simp <;> omega)).trans ((Below.heap_alloc _ _ _ (by simp)).trans ?_))
    exact heap_alloc_new w _
  · simpa using heap_alloc_new (((w.alloc (.cells #[.int .i64 a1] 3)).alloc (.cells #[] 3)).alloc (.cells #[.slice (some ⟨w.heap.size + 1, 0, none⟩) 0 0] 22)) (.cells #[.func (.func 69) #[] #[.pointer (some ⟨w.heap.size + 1 + 1, 0, none⟩), .pointer (some ⟨w.heap.size, 0, none⟩), .pointer (some ⟨w.heap.size + 1 + 1 + 1, 0, none⟩)]] 42)
  · refine (Below.heap_alloc _ _ _ (by simp <;> omega)).trans ((Below.heap_alloc _ _ _ (by simp)).trans ?_)
    simpa using heap_alloc_new (w.alloc (.cells #[.int .i64 a1] 3)) (.cells #[] 3)
/-- squaresOf, as it is asked here: of 1 to 4 squares. -/
def impl_squaresOf.f (a0 : Int) (a1 : Int) : Option (List Int × Bool) :=
  if 1 ≤ a1 ∧ a1 ≤ 4 then (if a0 < 0 ∨ a0 > 2000 then some ([], false) else match sqs (a1 - 1).toNat 0 a0 with | some r => some (r, true) | none => some ([], false)) else none
set_option maxHeartbeats 4000000 in
set_option maxRecDepth 100000 in
theorem impl_squaresOf.calls (a0 : Int) (a1 : Int) (r1 : List Int) (r2 : Bool) (w : World) (h : impl_squaresOf.f a0 a1 = some (r1, r2)) :
    Calls Try.prog 37 #[.int .i64 a0, .int .i64 a1] w fun e w' => ∃ v0_ : Value, e = .returned (.tuple #[v0_, .bool r2]) ∧ Kd.R (Kd.int .i64) 3 w' w.heap.size (fun _ => True) v0_ r1 ∧ Below w.heap.size w w' := by
  unfold impl_squaresOf.f at h
  by_cases hm : 1 ≤ a1 ∧ a1 ≤ 4
  · rw [if_pos hm] at h
    obtain ⟨hm1, hm4⟩ := hm
    by_cases hlo : a0 < 0
    · rw [if_pos (.inl hlo)] at h
      have h1 : decide (a0 < 0) = true := decide_eq_true hlo
      simp only [Option.some.injEq, Prod.mk.injEq] at h
      obtain ⟨rfl, rfl⟩ := h
      clear hlo
      go_enter Try.func37, Try.ntmps37
      go_wp2
      go_ret2
      exact ⟨_, rfl, Kd.R_nil _ _ _ _ _, (Below.refl _ _).alloc (Nat.le_refl _) _⟩
    · by_cases hhi : a0 > 2000
      · rw [if_pos (.inr hhi)] at h
        have h1 : decide (a0 < 0) = false := decide_eq_false hlo
        have h2 : decide (2000 < a0) = true := decide_eq_true hhi
        simp only [Option.some.injEq, Prod.mk.injEq] at h
        obtain ⟨rfl, rfl⟩ := h
        clear hlo hhi
        go_enter Try.func37, Try.ntmps37
        go_wp2
        go_ret2
        exact ⟨_, rfl, Kd.R_nil _ _ _ _ _, (Below.refl _ _).alloc (Nat.le_refl _) _⟩
      · rw [if_neg (by omega)] at h
        have h1 : decide (a0 < 0) = false := decide_eq_false hlo
        have h2 : decide (2000 < a0) = false := decide_eq_false hhi
        have hs := sq_all w.heap.size (w.heap.size + 1 + 1) (w.heap.size + 1 + 1 + 1) a1 hm4 (by omega) (by omega) (a1 - 1).toNat 0 a0 [] _ (sq_start w a1) (by simp <;> omega) (by omega) (by omega) (by omega) (by omega)
        simp only [List.nil_append] at hs
        clear hlo hhi hm1 hm4
        cases hq : sqs (a1 - 1).toNat 0 a0 with
        | none =>
          rw [hq] at hs h
          simp only [Option.some.injEq, Prod.mk.injEq] at h
          obtain ⟨rfl, rfl⟩ := h
          simp only [Option.isSome_none] at hs
          have HS := sq_hide hs
          clear hs hq
          go_enter Try.func37, Try.ntmps37
          go_wp2_with (go_at_call 69; refine HS.out.mono ?_; rintro e w2 ⟨rfl, hI2, hB2⟩; clear hI2)
          go_ret2
          exact ⟨_, rfl, Kd.R_nil _ _ _ _ _, (((((Below.refl _ w).alloc (Nat.le_refl _) _).alloc (by simp) _).alloc (by simp <;> omega) _).alloc (by simp <;> omega) _).trans (by simpa using hB2)⟩
        | some r =>
          rw [hq] at hs h
          simp only [Option.some.injEq, Prod.mk.injEq] at h
          obtain ⟨rfl, rfl⟩ := h
          simp only [Option.isSome_some, Option.getD_some] at hs
          have HS := sq_hide hs
          clear hs hq
          go_enter Try.func37, Try.ntmps37
          go_wp2_with (go_at_call 69; refine HS.out.mono ?_; rintro e w2 ⟨rfl, ⟨v2, hv2, _, _, hown2⟩, hB2⟩; obtain ⟨A2, k2, rfl⟩ := own_slice hown2; have cL2 := cell_of_one hv2; clear hv2)
          go_ret2
          exact ⟨_, rfl, Kd.R_of_own (own_weaken hown2 (Nat.le_succ _)) (fun _ _ => trivial), (((((Below.refl _ w).alloc (Nat.le_refl _) _).alloc (by simp) _).alloc (by simp <;> omega) _).alloc (by simp <;> omega) _).trans (by simpa using hB2)⟩
  · rw [if_neg hm] at h; cases h

end

end Go.Proofs.Ytnnpafjgghpecaa.PFnTwoFind
