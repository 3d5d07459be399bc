/- Side goals that recur in the walks: theorems whose last premise is found by a tactic. -/
import Derived.Test.YtacfcoilmdhgnaaGreatDoorYWMore
import Derived.Test.YtacfcoilmdhgnaaGreatDoorYWTab
import Derived.Tactics
import Derived.KernelRfl
set_option linter.unusedVariables false
set_option linter.unusedSimpArgs false
namespace Zs
open Go Go.RowKit Go.Proofs.YtacfcoilmdhgnaaGreatDoorW.PrintWords Go.Proofs.YtacfcoilmdhgnaaGreatDoorW.PrintLast Go.Proofs.YtacfcoilmdhgnaaGreatDoorW.PrintMore
theorem mvR {α:Type} {d:Kd α} {e:Nat} {w w1:World} {base:Nat} {ok:Nat→Prop} {v:Value} {xs:List α} (h:d.R e w base ok v xs)
  (hb:Below w.heap.size w w1:=by repeat (first|exact Below.refl _ _|(with_reducible apply Ah)|(with_reducible apply Ag)|(with_reducible apply Al))):d.R e w1 base ok v xs:=Kd.Fe h hb
theorem mvC {α:Type} {d:Kd α} {w w1:World} {A:Option Addr} {n:Nat} {xs:List α} (h:d.C w A n xs)
  (hb:Below w.heap.size w w1:=by repeat (first|exact Below.refl _ _|(with_reducible apply Ah)|(with_reducible apply Ag)|(with_reducible apply Al))):d.C w1 A n xs:=Kd.BF h hb
theorem auHB {p:Prop} (h:p:=by repeat (first|(with_reducible first|exact HB.out|apply Ah|apply Ag|apply Al)|exact HB.out)):p:=h
theorem auM {p:Prop} (h:p:=by (try simp only [List.map_toArray,List.map_cons,List.map_nil]);first|done|rfl|(simp only [List.length_drop,List.length_take];rfl)):p:=h
theorem auS {p:Prop} (h:p:=by first|rfl|(simp;done)|(simp [*];done)):p:=h
theorem auN {p:Prop} (h:p:=by first|omega|exact Nat.le_refl _):p:=h
theorem auR {p:Prop} (h:p:=by first|rfl|(simp [Cv,Cw]<;>rfl)|(simp [*,Cv,Cw]<;>rfl)):p:=h
section
variable {P:Program} {md:Region.Mode} {ops:Array Oper} {Q:Exit→Act→World→Prop} {S:World→Prop} {ds:List Nat}
theorem pu {oi:Oper} {v:Value} {fuel:Nat} {l:Array Bool} {a:Act} {w:World} {a':Act} (i:Nat) (N:Option Tmp)
  (h:Bg P md ops Q S ds fuel (l.setIfInBounds i true) a' w)
  (hi:ops[i]? = some oi:=by rfl) (hN:oi.dst=N:=by rfl) (hc:anyB md ops l (l.setIfInBounds i true) i=true:=by exact any_of HT_.out (by kernel_rfl))
  (hQ : ∀c a w,Q (.panic c) (a.put oi.dst v) w→Q (.panic c) a w:=by exact fun _ _ _ h=>h)
  (hy:Yields P ops oi v a:=by (refine Or.inl ⟨by rfl,?_⟩;intro w';go_simp;with_reducible rfl))
  (ha:a.put N v=a':=by (simp only [Act.put,List.setIfInBounds_toArray,List.set_cons_zero,List.set_cons_succ,IG,M7];rfl)):Bg P md ops Q S ds (fuel+1) l a w :=
 pure_ _ hi hN hc hQ hy ha h
end
theorem od {p:Prop} [Decidable p] (h:decide p=true:=by first|(with_reducible assumption)|assumption):p:=of_decide_eq_true h
theorem be {α β:Type} {o:Option α} {f:α→Option β} {r:β} (h:o.bind f=some r) : ∃t,Aa (o=some t)∧f t=some r:=by
 obtain ⟨t,h1,h2⟩:=Option.bind_eq_some_iff.mp h
 exact ⟨t,⟨h1⟩,h2⟩
theorem auY {p:Prop} (h:p:=by first|(rw [hyy];with_reducible exact H)|(have H2_:=(Option.bind_some _ _).symm.trans H;rw [hyy];with_reducible exact H2_)|(have H2_:=(Option.bind_some _ _).symm.trans H;with_reducible exact H2_)|with_reducible exact H|(rw [hyy];exact H)|exact H):p:=h
section
variable {P:Program} {md:Region.Mode} {ops:Array Oper} {Q:Exit→Act→World→Prop} {S:World→Prop} {ds:List Nat}
theorem ta1 {oi:Oper} {v:Value} {fuel:Nat} {l:Array Bool} {a:Act} {w:World} {a':Act} (i:Nat) (N:Option Tmp)
  (h:Bg P md ops Q S ds fuel (l.setIfInBounds i true) a' w)
  (hi:ops[i]? = some oi:=by rfl) (hN:oi.dst=N:=by rfl) (hc:JS md ops ds l (l.setIfInBounds i true) i=true:=by exact Hw HT_.out HW_.out (by kernel_rfl))
  (hQ : ∀c a w,Q (.panic c) (a.put oi.dst v) w→Q (.panic c) a w:=by exact fun _ _ _ h=>h)
  (hy:YieldsIf P ops S oi v a:=by (refine Or.inl ⟨by rfl,?_⟩;intro w' s0;go_simp;with_reducible rfl)) (hS:S w:=by exact hHeld)
  (ha:a.put N v=a':=by (simp only [Act.put,List.setIfInBounds_toArray,List.set_cons_zero,List.set_cons_succ,IG,M7];rfl)):Bg P md ops Q S ds (fuel+1) l a w :=
 Lp _ hi hN hc hQ hy hS ha h
theorem ta2 {oi:Oper} {v:Value} {fuel:Nat} {l:Array Bool} {a:Act} {w:World} {a':Act} (i:Nat) (N:Option Tmp)
  (h:Bg P md ops Q S ds fuel (l.setIfInBounds i true) a' w)
  (hi:ops[i]? = some oi:=by rfl) (hN:oi.dst=N:=by rfl) (hc:JS md ops ds l (l.setIfInBounds i true) i=true:=by exact Hw HT_.out HW_.out (by kernel_rfl))
  (hQ : ∀c a w,Q (.panic c) (a.put oi.dst v) w→Q (.panic c) a w:=by exact fun _ _ _ h=>h)
  (hy:YieldsIf P ops S oi v a:=by (refine Or.inl ⟨by rfl,?_⟩;rintro w' ⟨s0,s1⟩;go_simp;with_reducible rfl)) (hS:S w:=by exact hHeld)
  (ha:a.put N v=a':=by (simp only [Act.put,List.setIfInBounds_toArray,List.set_cons_zero,List.set_cons_succ,IG,M7];rfl)):Bg P md ops Q S ds (fuel+1) l a w :=
 Lp _ hi hN hc hQ hy hS ha h
theorem ta4 {oi:Oper} {v:Value} {fuel:Nat} {l:Array Bool} {a:Act} {w:World} {a':Act} (i:Nat) (N:Option Tmp)
  (h:Bg P md ops Q S ds fuel (l.setIfInBounds i true) a' w)
  (hi:ops[i]? = some oi:=by rfl) (hN:oi.dst=N:=by rfl) (hc:JS md ops ds l (l.setIfInBounds i true) i=true:=by exact Hw HT_.out HW_.out (by kernel_rfl))
  (hQ : ∀c a w,Q (.panic c) (a.put oi.dst v) w→Q (.panic c) a w:=by exact fun _ _ _ h=>h)
  (hy:YieldsIf P ops S oi v a:=by (refine Or.inl ⟨by rfl,?_⟩;rintro w' ⟨s0,s1,s2,s3⟩;go_simp;with_reducible rfl)) (hS:S w:=by exact hHeld)
  (ha:a.put N v=a':=by (simp only [Act.put,List.setIfInBounds_toArray,List.set_cons_zero,List.set_cons_succ,IG,M7];rfl)):Bg P md ops Q S ds (fuel+1) l a w :=
 Lp _ hi hN hc hQ hy hS ha h
theorem ta6 {oi:Oper} {v:Value} {fuel:Nat} {l:Array Bool} {a:Act} {w:World} {a':Act} (i:Nat) (N:Option Tmp)
  (h:Bg P md ops Q S ds fuel (l.setIfInBounds i true) a' w)
  (hi:ops[i]? = some oi:=by rfl) (hN:oi.dst=N:=by rfl) (hc:JS md ops ds l (l.setIfInBounds i true) i=true:=by exact Hw HT_.out HW_.out (by kernel_rfl))
  (hQ : ∀c a w,Q (.panic c) (a.put oi.dst v) w→Q (.panic c) a w:=by exact fun _ _ _ h=>h)
  (hy:YieldsIf P ops S oi v a:=by (refine Or.inl ⟨by rfl,?_⟩;rintro w' ⟨s0,s1,s2,s3,s4,s5⟩;go_simp;with_reducible rfl)) (hS:S w:=by exact hHeld)
  (ha:a.put N v=a':=by (simp only [Act.put,List.setIfInBounds_toArray,List.set_cons_zero,List.set_cons_succ,IG,M7];rfl)):Bg P md ops Q S ds (fuel+1) l a w :=
 Lp _ hi hN hc hQ hy hS ha h
end
end Zs
