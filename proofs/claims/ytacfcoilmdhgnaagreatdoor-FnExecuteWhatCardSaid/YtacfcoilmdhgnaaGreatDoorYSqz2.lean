/- Longer idioms of the walks: theorems whose last premises are found by a tactic. -/
import Derived.Test.YtacfcoilmdhgnaaGreatDoorYSqz
import Derived.Test.YtacfcoilmdhgnaaGreatDoorYWLast
import Derived.Test.YtacfcoilmdhgnaaGreatDoorYWRepsOne
set_option linter.unusedVariables false
set_option linter.unusedSimpArgs false
namespace Zq
open Go Go.RowKit Go.Proofs.YtacfcoilmdhgnaaGreatDoorW.PrintWords Go.Proofs.YtacfcoilmdhgnaaGreatDoorW.PrintLast Go.Proofs.YtacfcoilmdhgnaaGreatDoorW.PrintMore
theorem ip {c:Prop} [Decidable c] {α:Type} {a:Option α} {r:α} (h:(if c then a else none)=some r):c∧a=some r:=by
 by_cases k:c
 ·rw [if_pos k] at h;exact ⟨k,h⟩
 ·rw [if_neg k] at h;cases h
theorem ii {c:Prop} [Decidable c] {α:Type} {a b:Option α} {r:α} (h:(if c then a else b)=some r):(c∧a=some r)∨(¬c∧b=some r):=by
 by_cases k:c
 ·rw [if_pos k] at h;exact .inl ⟨k,h⟩
 ·rw [if_neg k] at h;exact .inr ⟨k,h⟩
theorem ib {c:Bool} {α:Type} {a b:Option α} {r:α} (h:(if c=true then a else b)=some r):(c=true∧a=some r)∨(c=false∧b=some r):=by
 cases c
 ·exact .inr ⟨rfl,h⟩
 ·exact .inl ⟨rfl,h⟩
def bitsOf (T:List (List Nat×List Nat)):List Nat:=(List.range T.length).foldl (fun B d=>B++[match T[d]? with|some r=>upM B d r.1|none=>0]) []
section
variable {P:Program} {md:Region.Mode} {ops:Array Oper} {Q:Exit→Act→World→Prop} {S:World→Prop} {ds:List Nat}
theorem nm {fuel:Nat} {l:Array Bool} {a a':Act} {v:Value} {w:World} (N:Option Tmp) (h:Bg P md ops Q S ds fuel l a' w)
  (ha:a.put N v=a':=by (simp only [Act.put,List.setIfInBounds_toArray,List.set_cons_zero,List.set_cons_succ,IG,M7];rfl)):Bg P md ops Q S ds fuel l (a.put N v) w:=NS ha h
theorem o1 {oi:Oper} {fuel:Nat} {l:Array Bool} {a:Act} {w:World} (i:Nat) (N:Option Tmp)
  (h : ∀K:Act→World→Prop,Shut (∀a' w',S w'→(S w'→Bg P md ops Q S ds fuel (l.setIfInBounds i true) a' w')→K a' w')→if Region.wanted oi (yielded ops a.tmps)=true then Oper.wp P oi a w K Q else K (a.put N undef) w)
  (hi:ops[i]? = some oi:=by rfl) (hN:oi.dst=N:=by rfl) (hc:IA md ops l (l.setIfInBounds i true) i=true:=by exact one_of HT_.out (by kernel_rfl)) (hd:i∉ds:=by decide):Bg P md ops Q S ds (fuel+1) l a w :=
 one_ _ hi hN hc hd h
theorem dn {l:Array Bool} {a:Act} {w:World} {n:Nat} (h:Q .normal a w) (hr:(Region.ready md ops l==[])=true:=by exact done_of HT_.out (by kernel_rfl)):Bg P md ops Q S ds n l a w:=done_ hr h
theorem gc {rest:List Oper} {oi:Oper} {a:Act} {w:World} {Rr:Ending→World→Prop} {f:FuncId} {fn:Func} {as:Array Operand} {ts:Array TypeId} {args:Array Value} (N:Option Tmp) (hf:P.funcs[f]? = some fn) (hc:Calls P f args w Rr)
  (k : ∀e w',Rr e w'→∃v,e = .returned v∧wpList P ops Q rest (a.put N v) w')
  (hop:oi.op = .call {callee := .value (.func f),args:=as,argTypes:=ts}:=by rfl) (hd:oi.dst=N:=by rfl) (hg:oi.guard=none:=by rfl) (hname:(fn.name == "runtime.NumGoroutine")=false:=by kernel_rfl) (hb:fn.body.isSome=true:=by rfl)
  (hargs:as.map a.eval=args:=by (try simp only [List.map_toArray,List.map_cons,List.map_nil]);first|done|rfl|(simp only [List.length_drop,List.length_take];rfl)):wpList P ops Q (oi::rest) a w :=
 Kg N hd hg hf hname hb args hop hargs (hc.mono k)
end
theorem st {w W w2:World} (hb:Below W.heap.size W w2) (h:Below w.heap.size w W:=by repeat (first|(with_reducible first|exact HB.out|apply Ah|apply Ag|apply Al)|exact HB.out)):Aa (Below w.heap.size w w2):=⟨Bj h hb⟩
section
variable {α β:Type} {d:Kd α} {d2:Kd β} {e e2:Nat} {W0 W w1:World} {base:Nat} {ok ok2:Nat→Prop} {u v:Value} {xs:List α} {ys:List β}
theorem lw {w:World} (ho:d.R e w1 W.heap.size ok v xs) (h:Below w.heap.size w W:=by repeat (first|(with_reducible first|exact HB.out|apply Ah|apply Ag|apply Al)|exact HB.out)):Aa (d.R e w1 w.heap.size ok v xs):=⟨Kd.Bp ho (Ay h)⟩
theorem el (hu:d.R e W0 base ok u xs) (ho:d2.R e2 w1 W.heap.size ok2 v ys) (hb:Below W.heap.size W w1)
  (hm:Below W0.heap.size W0 W:=by repeat (first|exact Below.refl _ _|(with_reducible apply Ah)|(with_reducible apply Ag)|(with_reducible apply Al))):Aa (d.R e w1 base (fun k=>ok k∧some k≠v.ownBlock) u xs):=⟨Kd.Jw (Kd.Fe hu hm) (Kd.Mv ho) hb⟩
theorem rb (hu:d.R e W0 base ok u xs) (hb:Below W.heap.size W w1)
  (hm:Below W0.heap.size W0 W:=by repeat (first|exact Below.refl _ _|(with_reducible apply Ah)|(with_reducible apply Ag)|(with_reducible apply Al))):Aa (d.R e w1 base ok u xs):=⟨Kd.Fe (Kd.Fe hu hm) hb⟩
theorem lt (hu:d.R e W0 base ok u xs) (hm:Below W0.heap.size W0 W:=by repeat (first|exact Below.refl _ _|(with_reducible apply Ah)|(with_reducible apply Ag)|(with_reducible apply Al))) : ∀k,u.ownBlock=some k→k<W.heap.size:=Kd.R_lt (Kd.Fe hu hm)
end
section
variable {P:Program} {ops:Array Oper} {Q:Exit→Act→World→Prop}
theorem gp {rest:List Oper} {oi:Oper} {a:Act} {w:World} {v:Value} {f:FuncId} {fn:Func} {as:Array Operand} {ts:Array TypeId} {args:Array Value} (hf:P.funcs[f]? = some fn) (hc:Calls P f args w fun e w'=>e = .returned v∧Bo w w')
  (k : ∀nd,wpList P ops Q rest (a.put oi.dst v) (w.drewN nd))
  (hop:oi.op = .call {callee := .value (.func f),args:=as,argTypes:=ts}:=by rfl) (hg:oi.guard=none:=by rfl) (hname:(fn.name == "runtime.NumGoroutine")=false:=by kernel_rfl) (hb:fn.body.isSome=true:=by rfl)
  (hargs:as.map a.eval=args:=by (try simp only [List.map_toArray,List.map_cons,List.map_nil]);first|done|rfl|(simp only [List.length_drop,List.length_take];rfl)):wpList P ops Q (oi::rest) a w :=
 Kg oi.dst rfl hg hf hname hb args hop hargs (hc.mono (by rintro e w1 ⟨rfl,⟨nd,rfl⟩⟩;exact ⟨_,rfl,k nd⟩))
theorem gb {rest:List Oper} {oi:Oper} {a:Act} {w:World} {v:Value} {f:FuncId} {fn:Func} {as:Array Operand} {ts:Array TypeId} {args:Array Value} (hf:P.funcs[f]? = some fn) (hc:Calls P f args w fun e w'=>e = .returned v∧Below w.heap.size w w')
  (k : ∀w',Below w.heap.size w w'→wpList P ops Q rest (a.put oi.dst v) w')
  (hop:oi.op = .call {callee := .value (.func f),args:=as,argTypes:=ts}:=by rfl) (hg:oi.guard=none:=by rfl) (hname:(fn.name == "runtime.NumGoroutine")=false:=by kernel_rfl) (hb:fn.body.isSome=true:=by rfl)
  (hargs:as.map a.eval=args:=by (try simp only [List.map_toArray,List.map_cons,List.map_nil]);first|done|rfl|(simp only [List.length_drop,List.length_take];rfl)):wpList P ops Q (oi::rest) a w :=
 Kg oi.dst rfl hg hf hname hb args hop hargs (hc.mono (by rintro e w' ⟨rfl,hb'⟩;exact ⟨_,rfl,k w' hb'⟩))
theorem ap {rest:List Oper} {o:Oper} {a:Act} {W w:World} (s x:Operand) (t:TypeId) (ht:P.underlying t=some (.slice 3)) (hinfo:(P.info? 3).map (fun i=>(i.zero,i.size,i.bytes))=some (some (.int .i64 0),(Kd.int .i64).sz,8))
  (v:Value) (xs:List Int) (p:Int) (ok:Nat→Prop) (hfresh : ∀k,W.heap.size≤k→ok k) (HO:(Kd.int .i64).R 3 W w.heap.size ok v xs) (LM:xs.length<17592186044416)
  (h : ∀v1 w1,(Kd.int .i64).R 3 w1 w.heap.size ok v1 (xs++[p])→Below w.heap.size w w1→W.grownBy w1 v.ownBlock→(v1.ownBlock=v.ownBlock∨∃b,v1.ownBlock=some b∧W.heap.size≤b)→wpList P ops Q rest (a.put o.dst v1) w1)
  (hgd:o.guard=none:=by rfl) (ho:o.op = .call {callee := .builtin .append,args:=#[s,x],argTypes:=#[t,t]}:=by rfl) (hs:a.eval s=v:=by rfl) (hx:a.eval x = .slice (some ⟨W.heap.size,0,none⟩) 1 1:=by rfl)
  (HB:Below w.heap.size w W:=by repeat (first|(with_reducible first|exact HB.out|apply Ah|apply Ag|apply Al)|exact HB.out)):wpList P ops Q (o::rest) a (W.alloc (.cells #[.int .i64 p] 3)) :=
 Kd.Ea (Kd.int .i64) (w0:=w) w.heap.size hgd s x t 3 (.int .i64 0) 8 ho ht hinfo rfl (by decide) (by omega) v xs p [.int .i64 p] ok (fun _=>False) hs hx rfl (fun _ hk=>hk.elim) hfresh HO HB (Ay HB) (by omega) h
theorem Ke {W:World} {base:Nat} {ok:Nat→Prop} : ∀xs:List Int,Reps ((Kd.int .i64).M W base ok) 1 xs (xs.map (Value.int .i64))
 | []=>Reps.none _ _
 | x::xs=>Reps.one (show Kd.M (Kd.int .i64) _ _ _ x [.int .i64 x] from rfl) (Ke xs)
theorem li {rest:List Oper} {o:Oper} {a:Act} {W:World} {N:Tmp} (xs:List Int)
  (h : ∀v1 w1,(Kd.int .i64).R 3 w1 W.heap.size (fun _=>True) v1 xs→Below W.heap.size W w1→wpList P ops Q rest (a.put o.dst v1) w1)
  (hd:o.dst=some N:=by rfl) (hg:o.guard=none:=by rfl)
  (hr:(execOp a.eval o).run P W = .ok (.value (.slice (some ⟨W.heap.size,0,none⟩) xs.length xs.length)) (W.alloc (.cells (xs.map (Value.int .i64)).toArray 3)):=by first|(go_simp;done)|(go_simp;rfl)) (hl:xs.length≤9223372036854775807:=by simp):wpList P ops Q (o::rest) a W :=
 Kd.I2 (Kd.int .i64) _ 3 hg hd (okp:=fun _=>True) hr (Ke xs) (fun _ hk=>hk) trivial (Below.refl _ _) (Nat.le_refl _) hl (fun v1 w1 h1 h2 _ _=>h v1 w1 h1 h2)
end
theorem dd {p:Prop} (h:p:=by first|exact ⟨rfl,_,World.drewN_drewN _ _ _⟩|exact ⟨rfl,_,Eq.trans (World.drewN_drewN _ _ _) (congrArg (World.drewN _) (Nat.add_assoc _ _ _))⟩):p:=h
theorem dr {p:Prop} (h:p:=by repeat (first|exact Bo.refl _|apply Bo.step)):p:=h
theorem ce {w w':World} {ad:Addr} {v:Value} (hb:Below w.heap.size w w') (h:w.cell? ad=some v):w'.cell? ad=some v:=(hb.cell (World.block_lt_of_cell? w _ h)).trans h
theorem at_ {k:IntKind} {w:World} {A:Option Addr} {n:Nat} {xs:List Int} (h:(Kd.int k).C w A n xs) (i:Int) (h0:0≤i:=by first|exact of_decide_eq_true (by first|(with_reducible assumption)|assumption)|omega)
  (h1:i<n:=by first|exact of_decide_eq_true (by first|(with_reducible assumption)|assumption)|omega) : ∃ad,A=some ad∧w.cell? (ad.add i.toNat)=some (.int k (rd xs i))∧(0≤i)=True∧(i<(n:Int))=True:=by
 obtain ⟨ad,e,hx⟩:=Kd.E8 h i h0 h1
 exact ⟨ad,e,hx,eq_true h0,eq_true h1⟩
theorem jd {c:Prop} [Decidable c] {α:Type} {a b:Option α} {r:α} (h:(if c then a else b)=some r):(decide c=true∧a=some r)∨(decide c=false∧b=some r):=by
 rcases ii h with ⟨k,h⟩|⟨k,h⟩
 ·exact .inl ⟨decide_eq_true k,h⟩
 ·exact .inr ⟨decide_eq_false k,h⟩
theorem jg {x y:Int} {α:Type} {a b:Option α} {r:α} (h:(if x>y then a else b)=some r):(decide (y<x)=true∧a=some r)∨(decide (y<x)=false∧b=some r):=jd h
theorem jh {x y:Int} {α:Type} {a b:Option α} {r:α} (h:(if x≥y then a else b)=some r):(decide (y≤x)=true∧a=some r)∨(decide (y≤x)=false∧b=some r):=jd h
theorem je {β:Type} [BEq β] [LawfulBEq β] {x y:β} [Decidable (x=y)] {α:Type} {a b:Option α} {r:α} (h:(if x=y then a else b)=some r):((x==y)=true∧a=some r)∨((x==y)=false∧b=some r):=by
 rcases ii h with ⟨k,h⟩|⟨k,h⟩
 ·exact .inl ⟨beq_iff_eq.mpr k,h⟩
 ·exact .inr ⟨beq_eq_false_iff_ne.mpr k,h⟩
theorem jn {β:Type} [BEq β] [LawfulBEq β] {x y:β} [Decidable (x=y)] {α:Type} {a b:Option α} {r:α} (h:(if x=y then a else b)=some r):((x==y)=true∧a=some r)∨(¬x=y∧(x==y)=false∧b=some r):=by
 rcases ii h with ⟨k,h⟩|⟨k,h⟩
 ·exact .inl ⟨beq_iff_eq.mpr k,h⟩
 ·exact .inr ⟨k,beq_eq_false_iff_ne.mpr k,h⟩
theorem pd {c:Prop} [Decidable c] {α:Type} {a:Option α} {r:α} (h:(if c then a else none)=some r):decide c=true∧a=some r:=⟨decide_eq_true (ip h).1,(ip h).2⟩
theorem pg {x y:Int} {α:Type} {a:Option α} {r:α} (h:(if x>y then a else none)=some r):decide (y<x)=true∧a=some r:=pd h
theorem pe {β:Type} [BEq β] [LawfulBEq β] {x y:β} [Decidable (x=y)] {α:Type} {a:Option α} {r:α} (h:(if x=y then a else none)=some r):(x==y)=true∧a=some r:=⟨beq_iff_eq.mpr (ip h).1,(ip h).2⟩
theorem th {α:Type} {a b:Option α} {r:α} (h:(if true=true then a else b)=some r):a=some r:=h
theorem fh {α:Type} {a b:Option α} {r:α} (h:(if false=true then a else b)=some r):b=some r:=h
theorem pi {α β:Type} {a c:α} {b d:β} (h:some (a,b)=some (c,d)):a=c∧b=d:=by
 injection h with h;injection h with h1 h2;exact ⟨h1,h2⟩
theorem bp {α β γ:Type} {o:Option (α×β)} {f:α×β→Option γ} {r:γ} (h:o.bind f=some r) : ∃a b,Aa (o=some (a,b))∧f (a,b)=some r:=by
 obtain ⟨⟨a,b⟩,h1,h2⟩:=Option.bind_eq_some_iff.mp h
 exact ⟨a,b,⟨h1⟩,h2⟩
theorem bs {α γ:Type} {a:α} {f:α→Option γ} {r:γ} (h:(some a).bind f=some r) : ∃y,Aa (y=a)∧f y=some r:=⟨a,⟨rfl⟩,h⟩
theorem a0 {k:IntKind} {w:World} {A:Option Addr} {n:Nat} {xs:List Int} (h:(Kd.int k).C w A n xs)
  (q:(0:Int)<n:=by first|exact of_decide_eq_true (by first|(with_reducible assumption)|assumption)|omega) : ∃ad,A=some ad∧w.cell? ad=some (.int k (rd xs 0))∧((0:Int)≤0)=True∧((0:Int)<(n:Int))=True∧(0<n)=True:=by
 obtain ⟨ad,e,hx⟩:=Kd.E8 h 0 (by omega) q
 rw [show ((0:Int)).toNat=0 from rfl,Addr.add_zero'] at hx
 exact ⟨ad,e,hx,eq_true (by omega),eq_true q,eq_true (by omega)⟩
theorem an {k:IntKind} {w:World} {A:Option Addr} {n:Nat} {xs:List Int} (h:(Kd.int k).C w A n xs) (j:Int) (m:Nat)
  (p:0≤j:=by omega) (q:j<n:=by first|exact of_decide_eq_true (by first|(with_reducible assumption)|assumption)|omega) (e:j.toNat=m:=by rfl) (z:m≠0:=by decide) :
  ∃ad:Addr,A=some ad∧w.cell? ⟨ad.block,ad.off+m,none⟩=some (.int k (rd xs j))∧(0≤j)=True∧(j<(n:Int))=True:=by
 obtain ⟨ad,e1,hx⟩:=Kd.E8 h j p q
 rw [e,Addr.add,if_neg z] at hx
 exact ⟨ad,e1,hx,eq_true p,eq_true q⟩
theorem s0 {w:World} {A:Option Addr} {n:Nat} {xs:List ByteArray} (h:Kd.string.C w A n xs) (q:(0:Int)<n:=by exact Zs.od) :
  ∃ad,A=some ad∧w.cell? ad=some (.string (rdOf ByteArray.empty xs 0))∧((0:Int)≤0)=True∧((0:Int)<(n:Int))=True∧(0<n)=True:=by
 obtain ⟨ad,e,hx⟩:=Kd.Cr h 0 (by omega) q
 rw [show ((0:Int)).toNat=0 from rfl,Addr.add_zero'] at hx
 exact ⟨ad,e,hx,eq_true (by omega),eq_true q,eq_true (by omega)⟩
theorem sn {w:World} {A:Option Addr} {n:Nat} {xs:List ByteArray} (h:Kd.string.C w A n xs) (j:Int) (m:Nat) (p:0≤j:=by omega) (q:j<n:=by exact Zs.od) (e:j.toNat=m:=by rfl) (z:m≠0:=by decide) :
  ∃ad:Addr,A=some ad∧w.cell? ⟨ad.block,ad.off+m,none⟩=some (.string (rdOf ByteArray.empty xs j))∧(0≤j)=True∧(j<(n:Int))=True:=by
 obtain ⟨ad,e1,hx⟩:=Kd.Cr h j p q
 rw [e,Addr.add,if_neg z] at hx
 exact ⟨ad,e1,hx,eq_true p,eq_true q⟩
theorem pl {k:IntKind} {w:World} {b n:Nat} {xs:List Int} (h:(Kd.int k).C w (some ⟨b,0,none⟩) n xs) (i:Int) (p:0≤i) (q:i<n):w.cell? ⟨b,i.toNat,none⟩=some (.int k (rd xs i)):=by
 obtain ⟨ad,e,hx⟩:=Kd.E8 h i p q
 injection e with e;subst e
 rw [Addr.add] at hx;split at hx
 ·next z=>rw [z];exact hx
 ·simpa using hx
theorem iI {p:Prop} (h:p:=by repeat (first|(with_reducible first|exact HI0.out|apply AH.alloc|apply AH.drewN|apply AH.drew|apply AH.GZ)|exact HI0.out)):p:=h
theorem iK {p:Prop} (h:p:=by repeat (first|(with_reducible first|exact HK.out|apply AA.set_|apply MY|apply GD|apply M5)|exact HK.out)):p:=h
theorem iJ {p:Prop} (h:p:=by repeat (first|(with_reducible first|exact HK.out|apply Kept.alloc|apply Kept.drewN|apply Kept.drew)|exact HK.out)):p:=h
theorem iB {p:Prop} (h:p:=by repeat (first|(with_reducible first|exact HB.out|apply Ah|apply Ag|apply Al|refine AE ?_ (AH.ge HI0.out))|exact HB.out)):p:=h
theorem nl {p:Prop} (h:p:=by first|exact Kd.KY _ _ _ _ _|exact Kd.N_nil _ _ _ _ _|exact Kd.V_nil _ _ _ _ _|exact Kd.Q_nil _ _ _ _ _|exact Kd.S_nil _ _ _ _ _):p:=h
theorem tk {p:Prop} (h:p:=by intro _ hk;first|exact hk.2|exact trivial):p:=h
end Zq
