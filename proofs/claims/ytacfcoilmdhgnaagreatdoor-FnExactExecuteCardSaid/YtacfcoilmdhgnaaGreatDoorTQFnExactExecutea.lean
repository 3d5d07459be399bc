/- What a script writes, on both sides: what the program's Execute returns is what the reference's returns. -/
import Derived.Test.YtacfcoilmdhgnaaGreatDoorTQFnExactExecutea0
set_option linter.unusedVariables false
set_option linter.unusedSimpArgs false
namespace Go.Proofs.YtacfcoilmdhgnaaGreatDoor.QFnExactExecute
open Go.RowKit Go.Proofs.YtacfcoilmdhgnaaGreatDoor.PFnExactExecute Go.Proofs.YtacfcoilmdhgnaaGreatDoorW.PrintWords Go.Proofs.YtacfcoilmdhgnaaGreatDoorW.PrintLast Go.Proofs.YtacfcoilmdhgnaaGreatDoorW.PrintMore Locg
theorem KI {a b c:Int} (h:SB a b c) : ∀(n:Nat) (x:Int),0≤x→x+n=200→Ev (fun k=>Aw.l0 k a b c x) (resS (sX a b c n x)):=by
  have hbc:=h.hbc
  have start:Bf.f (wrap64 (b*c))=some (absI (b*c)):=by
    rw [w64 (x:=b*c) (by omega) (by omega)];simp only [Bf.f];rw [FC hbc]
  intro n
  induction n with
  | zero =>
    intro x hx hn
    simp only [sX]
    obtain rfl:x=200:=by omega
    refine Ev.step (f:=fun _=>some ([],false)) (fun k=>?_) (Ev.now _)
    simp only [Aw.l0]
    rw [start,Option.bind_some,w64 (x:=(200:Int)*200) (by omega) (by omega),if_neg (by unfold absI;omega)]
  | succ n ih =>
    intro x hx hn
    simp only [sX]
    have hxx:x*x≤200*200:=Dr hx (by omega) hx (by omega)
    have hx0:=sq_nonneg x
    by_cases c0:x*x≤absI (b*c)
    · rw [if_pos c0]
      have:=KW h hx (show x≤200 by omega) (ih (x+1) (by omega) (by omega)) 200 0 (by omega) (by omega)
      refine Ev.step (f:=fun k=>Aw.l1 k a b c x 0) (fun k=>?_) ?_
      · simp only [Aw.l0]
        rw [start,Option.bind_some,w64 (x:=x*x) (by omega) (by omega),if_pos c0]
      · cases hh:sY a b c x 200 0 with
        | some v=>rw [hh] at this;exact this
        | none=>rw [hh] at this;exact this
    · rw [if_neg c0]
      refine Ev.step (f:=fun _=>some ([],false)) (fun k=>?_) (Ev.now _)
      simp only [Aw.l0]
      rw [start,Option.bind_some,w64 (x:=x*x) (by omega) (by omega),if_neg c0]
theorem IW {a b c:Int} (h:SN a b c):Ev (fun k=>Aw.f k [a,b,c]) (resS (zs a b c)):=by
  refine Cc (g:=fun k=>Aw.l0 k a b c 0) (fun k=>?_) (KI h.bd.1 200 0 (by omega) (by omega))
  unfold Aw.f
  rw [if_pos (by simp),if_pos (by simp),if_pos (by simp)]
  rfl
theorem nrm_sn {A B C:Int} {M:Nat} {s:T6} (h:Nrm A B C M s) (hM:M≤27000):SN s.1.1 s.1.2.1 s.1.2.2:=by
  obtain ⟨l,n,g1,g2,g3⟩:=h
  exact ⟨n.sa,n.sb,n.sc,by have:=n.bd.2.2.1;omega,g1,g2,g3⟩
theorem sm3 {a b c:Int} (ha:Sm a) (hb:Sm b) (hc:Sm c) : ∀x∈[a,b,c],Sm x:=by intro x hx;simp at hx;rcases hx with rfl|rfl|rfl<;>assumption
theorem ok3 {a b c:Int} (ha:Sm a) (hb:Sm b) (hc:Sm c):BE [a,b,c]=true:=BO.2 ⟨sm3 ha hb hc,by simp,by simp⟩
theorem implG_l {x y z u v w:Int} (h : ∀t∈[u*x,v*y,w*z],t.natAbs≤40000) (hn : ∃t∈[u*x,v*y,w*z],t≠0) :
    Ev (fun k=>AF.l0 k [x,y,z] [u,v,w] 3 0) (Dv [u*x,v*y,w*z],true):=by
  have h1:=h (u*x) (by simp)
  have h2:=h (v*y) (by simp)
  have h3:=h (w*z) (by simp)
  have w1:wrap64 (0+1)=1:=by decide +kernel
  have w2:wrap64 (1+1)=2:=by decide +kernel
  have w3:wrap64 (2+1)=3:=by decide +kernel
  refine Ev.step (f:=fun k=>AF.l0 k [x,y,z] [u*x,v,w] 3 1) (fun k=>?_) ?_
  · simp only [AF.l0]
    rw [if_pos (by omega),if_pos (by omega),if_pos (by simp),if_pos (by simp),rd0,rd0,st0,w64 (x:=u*x) (by omega) (by omega),w1]
  refine Ev.step (f:=fun k=>AF.l0 k [x,y,z] [u*x,v*y,w] 3 2) (fun k=>?_) ?_
  · simp only [AF.l0]
    rw [if_pos (by omega),if_pos (by omega),if_pos (by simp),if_pos (by simp),rd1,rd1,st1,w64 (x:=v*y) (by omega) (by omega),w2]
  refine Ev.step (f:=fun k=>AF.l0 k [x,y,z] [u*x,v*y,w*z] 3 3) (fun k=>?_) ?_
  · simp only [AF.l0]
    rw [if_pos (by omega),if_pos (by omega),if_pos (by simp),if_pos (by simp),rd2,rd2,st2,w64 (x:=w*z) (by omega) (by omega),w3]
  apply Ev.step
  · intro k
    simp only [AF.l0]
    rw [if_neg (by omega)]
  exact (G5 hn (fun t ht=>by have:=h t ht;omega) (by simp)).bind (Ev.now _)
theorem Ka (z4:Nat→List Int→Option (List Int×Bool)) {a b c:Int} (ha:Sm a) (hb:Sm b) (hc:Sm c):Ev (fun k=>AF.f z4 k [a,b,c]) (resS (z3 a b c)):=by
  unfold AF.f
  have hM:=LF ha hb hc
  have hN:=KT ha.1 hb.1 hc.1 (by omega)
  refine (BI (xs:=[a,b,c]) (fun x hx=>by have:=(sm3 ha hb hc x hx).2;omega) (by simp)).bind ?_
  rw [ok3 ha hb hc]
  refine Cc (fun k=>by rw [if_pos rfl,if_neg (by simp),if_pos (by simp)]) ?_
  refine (I2 ha hb hc).bind ?_
  have hS:=IY (nrm_sn hN hM)
  obtain ⟨l,n1,_⟩:=hN
  unfold z3
  generalize nrm3 a b c=s at *
  obtain ⟨⟨a',b',c'⟩,x,y,z⟩:=s
  simp only [outN3] at n1 hS ⊢
  refine hS.bind ?_
  cases hz:zs a' b' c' with
  | none=>exact Cc (g:=fun _=>some ([],false)) (fun k=>if_neg (by simp [resS])) (Ev.now _)
  | some t =>
    obtain ⟨u,v,w,rfl,_⟩:=zs_is hz
    obtain ⟨hne,hq,hsm⟩:=NP n1 hM hz
    exact Cc (fun k=>if_pos rfl) (implG_l hsm hne)
theorem t4_w {a b x y:Int} (ha:Sm a) (hb:Sm b) (hx:0≤x) (hx3:x≤3) (hy:0≤y) (hy3:y≤3):wrap64 (wrap64 (wrap64 (a*x)*x)+wrap64 (wrap64 (b*y)*y))=t4 a b x y:=by
  have h1:=ha.2
  have h2:=hb.2
  have e1:=EC (a:=a) (x:=x) (A:=30) (X:=3) (by omega) (by omega)
  have e2:=EC (a:=a*x) (x:=x) (A:=90) (X:=3) (by omega) (by omega)
  have e3:=EC (a:=b) (x:=y) (A:=30) (X:=3) (by omega) (by omega)
  have e4:=EC (a:=b*y) (x:=y) (A:=90) (X:=3) (by omega) (by omega)
  unfold t4
  rw [w64 (x:=a*x) (by omega) (by omega),w64 (x:=a*x*x) (by omega) (by omega),w64 (x:=b*y) (by omega) (by omega),w64 (x:=b*y*y) (by omega) (by omega),w64 (by omega) (by omega)]
theorem LL {x y p q r h:Int} (hx:0≤x) (hx3:x≤3) (hy:0≤y) (hy3:y≤3) (hp:p.natAbs≤40000) (hq:q.natAbs≤40000) (hr:r.natAbs≤40000) (hh:h.natAbs≤540) :
    wrap64 (x*r)=x*r∧wrap64 (y*r)=y*r∧wrap64 (h*p)=h*p∧wrap64 (h*q)=h*q∧∀t∈[x*r,y*r,h*p,h*q],t.natAbs≤4000000000000000000:=by
  have e1:=EC (a:=x) (x:=r) (A:=3) (X:=40000) (by omega) (by omega)
  have e2:=EC (a:=y) (x:=r) (A:=3) (X:=40000) (by omega) (by omega)
  have e3:=EC (a:=h) (x:=p) (A:=540) (X:=40000) (by omega) (by omega)
  have e4:=EC (a:=h) (x:=q) (A:=540) (X:=40000) (by omega) (by omega)
  refine ⟨w64 (by omega) (by omega),w64 (by omega) (by omega),w64 (by omega) (by omega),w64 (by omega) (by omega),?_⟩
  intro t ht
  simp only [List.mem_cons,List.not_mem_nil,or_false] at ht
  rcases ht with rfl|rfl|rfl|rfl<;>omega
theorem z4_ne {x y p q r h:Int} (h0 : ¬(x=0∧y=0)) (hh:h≠0) (hn : ∃t∈[p,q,r],t≠0) : ∃t∈[x*r,y*r,h*p,h*q],t≠0:=by
  by_cases hr:r=0
  · by_cases hp:p=0
    · refine ⟨h*q,by simp,Int.mul_ne_zero hh (fun e=>?_)⟩
      obtain ⟨t,ht,h1⟩:=hn
      simp [hr,hp,e] at ht;exact h1 ht
    · exact ⟨h*p,by simp,Int.mul_ne_zero hh hp⟩
  · by_cases hx0:x=0
    · exact ⟨y*r,by simp,Int.mul_ne_zero (fun e=>h0 ⟨hx0,e⟩) hr⟩
    · exact ⟨x*r,by simp,Int.mul_ne_zero hx0 hr⟩
theorem J8 {x y:Int} (h0 : ¬(x=0∧y=0)) : ∃t∈[x,y,0,0],t≠0:=by
  by_cases hx:x=0
  · exact ⟨y,by simp,fun e=>h0 ⟨hx,e⟩⟩
  · exact ⟨x,by simp,hx⟩
theorem IE {t:Int} (h0:t≠0) (h:t.natAbs≤540):(Bi t).1≠0∧(Bi t).1.natAbs≤540∧1≤(Bi t).2∧(Bi t).2.natAbs≤540:=by
  have h1:=DL h0 (by omega)
  have h2:=Hd h1
  refine ⟨h1.2.2.1,by omega,h1.2.1,?_⟩
  have:=Nat.le_mul_of_pos_right (Bi t).2.natAbs (show 0<(Bi t).2.natAbs by have:=h1.2.1;omega)
  omega
theorem Nc {a b c d x:Int} (ha:Sm a) (hb:Sm b) (hc:Sm c) (hd:Sm d) (hx:0≤x) (hx3:x≤3) {w:List Int×Bool} (hw:Ev (fun k=>Ag.l0 k a b c d (x+1)) w) : ∀(n:Nat) (y:Int),0≤y→y+n=4→
    Ev (fun k=>Ag.l1 k a b c d x y) (orS w (z4y a b c d x n y)):=by
  intro n
  induction n with
  | zero =>
    intro y hy hn
    simp only [z4y]
    refine Ev.step (fun k=>?_) hw
    simp only [Ag.l1]
    rw [if_neg (by omega),w64 (x:=x+1) (by omega) (by omega)]
  | succ n ih =>
    intro y hy hn
    have hy3:y≤3:=by omega
    simp only [z4y]
    have next:=ih (y+1) (by omega) (by omega)
    by_cases c0:x=0∧y=0
    · have e:z4c a b c d x y=none:=by unfold z4c;rw [if_pos c0]
      rw [e]
      refine Ev.step (f:=fun k=>Ag.j2 k a b c d x y true) (fun k=>?_) ?_
      · simp only [Ag.l1]
        have:(y==0)=true:=by simp [c0.2]
        rw [if_pos hy3,if_pos c0.1,this]
      refine Ev.step (fun k=>?_) next
      simp only [Ag.j2]
      rw [if_pos trivial,w64 (x:=y+1) (by omega) (by omega)]
    · refine Ev.step (f:=fun k=>Ag.j2 k a b c d x y false) (fun k=>?_) ?_
      · simp only [Ag.l1]
        rw [if_pos hy3]
        by_cases x0:x=0
        · have:(y==0)=false:=by simpa using fun e=>c0 ⟨x0,e⟩
          rw [if_pos x0,this]
        · rw [if_neg x0]
      have hT:=t4_bd ha hb hx hx3 hy hy3
      have hw4:=t4_w ha hb hx hx3 hy hy3
      apply Ev.step
      · intro k
        simp only [Ag.j2]
        rw [if_neg (by simp),hw4,w64 (x:=y+1) (by omega) (by omega)]
      by_cases c1:t4 a b x y=0
      · have e:z4c a b c d x y=some (Dv [x,y,0,0]):=by unfold z4c;rw [if_neg c0,if_pos c1]
        rw [e]
        refine Cc (fun k=>if_pos c1) ?_
        exact (G5 (J8 c0) (by intro t ht;simp at ht;omega) (by simp)).bind (Ev.now _)
      · refine Cc (fun k=>if_neg c1) ?_
        obtain ⟨k1,k2,k3,k4⟩:=IE c1 hT
        refine (Ds c1 (by omega)).bind ?_
        by_cases c2:30<absI (Bi (t4 a b x y)).1
        · have e:z4c a b c d x y=none:=by unfold z4c;rw [if_neg c0,if_neg c1,if_pos c2]
          rw [e]
          have hf:BE [c,d,(Bi (t4 a b x y)).1]=false:=by
            rw [Bool.eq_false_iff]
            intro h
            have:=(BO.1 h).1 (Bi (t4 a b x y)).1 (by simp)
            unfold absI at c2;have:=this.2;omega
          have hv:Ev (fun k=>C6.f k [c,d,(Bi (t4 a b x y)).1]) ([],false):=by
            unfold C6.f AF.f
            refine (BI (xs:=[c,d,(Bi (t4 a b x y)).1]) (fun t ht=>?_) (by simp)).bind ?_
            · have:=hc.2
              have:=hd.2
              simp only [List.mem_cons,List.not_mem_nil,or_false] at ht
              rcases ht with rfl|rfl|rfl<;>omega
            · rw [hf];exact Cc (fun k=>if_neg (by simp)) (Ev.now _)
          refine hv.bind ?_
          exact Cc (fun k=>if_neg (by simp)) next
        · have hs:Sm (Bi (t4 a b x y)).1:=⟨k1,by unfold absI at c2;omega⟩
          have hv:Ev (fun k=>C6.f k [c,d,(Bi (t4 a b x y)).1]) (resS (z3 c d (Bi (t4 a b x y)).1)):=Ka _ hc hd hs
          refine hv.bind ?_
          cases hz:z3 c d (Bi (t4 a b x y)).1 with
          | none =>
            have e:z4c a b c d x y=none:=by unfold z4c;rw [if_neg c0,if_neg c1,if_neg c2,hz]
            rw [e]
            exact Cc (fun k=>if_neg (by simp [resS])) next
          | some t =>
            obtain ⟨⟨p,q,r,rfl⟩,z0⟩:=I6 hc hd hs hz
            have e:z4c a b c d x y=some (Dv [x*r,y*r,(Bi (t4 a b x y)).2*p,(Bi (t4 a b x y)).2*q]):=by unfold z4c;rw [if_neg c0,if_neg c1,if_neg c2,hz]
            rw [e]
            obtain ⟨m1,m2,m3,m4,m5⟩:=LL hx hx3 hy hy3 (z0.2.2.2 p (by simp)) (z0.2.2.2 q (by simp)) (z0.2.2.2 r (by simp)) k4
            refine Cc (g:=fun k=>(AU.f k [x*r,y*r,(Bi (t4 a b x y)).2*p,(Bi (t4 a b x y)).2*q]).bind fun t=>some (t,true)) (fun k=>?_) ((G5 (z4_ne c0 (show (Bi (t4 a b x y)).2≠0 by omega) z0.2.2.1) m5 (by simp)).bind (Ev.now _))
            rw [show resS (some [p,q,r])=([p,q,r],true) from rfl,if_pos rfl,if_pos (by simp),if_pos (by simp),if_pos (by simp),rd0,rd1,rd2,m1,m2,m3,m4]
theorem Og {a b c d:Int} (ha:Sm a) (hb:Sm b) (hc:Sm c) (hd:Sm d) : ∀(n:Nat) (x:Int),0≤x→x+n=4→Ev (fun k=>Ag.l0 k a b c d x) (resS (z4x a b c d n x)):=by
  intro n
  induction n with
  | zero =>
    intro x hx hn
    simp only [z4x]
    refine Ev.step (f:=fun _=>some ([],false)) (fun k=>?_) (Ev.now _)
    simp only [Ag.l0]
    rw [if_neg (by omega)]
  | succ n ih =>
    intro x hx hn
    simp only [z4x]
    have:=Nc ha hb hc hd hx (by omega) (ih (x+1) (by omega) (by omega)) 4 0 (by omega) (by omega)
    refine Ev.step (f:=fun k=>Ag.l1 k a b c d x 0) (fun k=>?_) ?_
    · simp only [Ag.l0]
      rw [if_pos (by omega)]
    · cases hh:z4y a b c d x 4 0 with
      | some v=>rw [hh] at this;exact this
      | none=>rw [hh] at this;exact this
theorem KN {a b c d:Int} (ha:Sm a) (hb:Sm b) (hc:Sm c) (hd:Sm d):Ev (fun k=>Ag.f k [a,b,c,d]) (resS (z4 a b c d)):=by
  refine Cc (fun k=>?_) (Og ha hb hc hd 4 0 (by omega) (by omega))
  unfold Ag.f
  rw [if_pos (by simp),if_pos (by simp),if_pos (by simp),if_pos (by simp)]
  rfl
theorem two_bd {a b:Int} (ha:Sm a) (hb:Sm b):(∃t∈[(Bi b).2,(Bi a).2],t≠0)∧∀t∈[(Bi b).2,(Bi a).2],t.natAbs≤4000000000000000000:=by
  have h1:=EG ha
  have h2:=EG hb
  exact ⟨⟨(Bi b).2,by simp,by omega⟩,by intro t ht;simp at ht;omega⟩
theorem F5 {f:List Int} (hx : ∀x∈f,x.natAbs≤1000000) (hl:f.length≤100):Ev (fun k=>Bx.f k f) (resS (zF f)):=by
  by_cases c:BE f=true
  · have h:=BO.1 c
    have c':=c
    match f,h,c,hx with
    | [a],h,c,hx =>
      have e:zF [a]=none:=by unfold zF;rw [if_pos c]
      rw [e]
      unfold Bx.f AF.f
      refine (BI hx (by simp)).bind ?_
      rw [c]
      exact Cc (g:=fun _=>some ([],false)) (fun k=>by rw [if_pos rfl,if_neg (by simp),if_neg (by simp),if_neg (by simp)]) (Ev.now _)
    | [a,b],h,c,hx =>
      have ha:=h.1 a (by simp)
      have hb:=h.1 b (by simp)
      unfold Bx.f AF.f
      refine (BI hx (by simp)).bind ?_
      rw [c]
      refine Cc (fun k=>by rw [if_pos rfl,if_pos (by simp),if_pos (by simp)]) ?_
      refine (Ds ha.1 (by have:=ha.2;omega)).bind ?_
      refine Cc (fun k=>if_pos (by simp)) ?_
      refine (Ds hb.1 (by have:=hb.2;omega)).bind ?_
      have k2:=EG hb
      rw [w64 (x := -(Bi b).1) (by omega) (by omega)]
      obtain ⟨t1,t2⟩:=two_bd ha hb
      by_cases c1:(Bi a).1+(Bi b).1=0
      · have e:zF [a,b]=some (Dv [(Bi b).2,(Bi a).2]):=by unfold zF;rw [if_pos c];exact if_pos c1
        rw [e]
        exact Cc (fun k=>if_pos (show (Bi a).1 = -(Bi b).1 by omega)) ((G5 t1 t2 (by simp)).bind (Ev.now _))
      · have e:zF [a,b]=none:=by unfold zF;rw [if_pos c];exact if_neg c1
        rw [e]
        exact Cc (fun k=>if_neg (show ¬(Bi a).1 = -(Bi b).1 by omega)) (Ev.now _)
    | [a,b,d],h,c,hx =>
      have e:zF [a,b,d]=z3 a b d:=by unfold zF;rw [if_pos c]
      rw [e]
      exact Ka _ (h.1 a (by simp)) (h.1 b (by simp)) (h.1 d (by simp))
    | [a,b,d,g],h,c,hx =>
      have e:zF [a,b,d,g]=z4 a b d g:=by unfold zF;rw [if_pos c]
      rw [e]
      unfold Bx.f AF.f
      refine (BI hx (by simp)).bind ?_
      rw [c]
      refine Cc (fun k=>by rw [if_pos rfl,if_neg (by simp),if_neg (by simp),if_pos (by simp)]) ?_
      exact (KN (h.1 a (by simp)) (h.1 b (by simp)) (h.1 d (by simp)) (h.1 g (by simp))).bind (Ev.now _)
    | [],h,c,hx=>simp at h
    | _::_::_::_::_::_,h,c,hx=>simp at h
  · have e:zF f=none:=by unfold zF;rw [if_neg c]
    rw [e]
    unfold Bx.f AF.f
    refine (BI hx (by omega)).bind ?_
    rw [Bool.eq_false_iff.2 c]
    exact Cc (fun k=>if_neg (by simp)) (Ev.now _)
theorem GO {a b c:Int} (ha:Sm a) (hb:Sm b) (hc:Sm c):Ev (fun k=>BN.f k [a,b,c]) (resS (z3 a b c)):=by
  unfold BN.f
  have hM:=LF ha hb hc
  have hN:=KT ha.1 hb.1 hc.1 (by omega)
  refine (Jb ha hb hc).bind ?_
  have hS:=IW (nrm_sn hN hM)
  obtain ⟨l,n1,_⟩:=hN
  unfold z3
  generalize nrm3 a b c=s at *
  obtain ⟨⟨a',b',c'⟩,x,y,z⟩:=s
  simp only [outN] at n1 hS ⊢
  refine hS.bind ?_
  cases hz:zs a' b' c' with
  | none=>exact Cc (g:=fun _=>some ([],false)) (fun k=>if_neg (by simp [resS])) (Ev.now _)
  | some t =>
    obtain ⟨u,v,w,rfl,_⟩:=zs_is hz
    obtain ⟨hne,hq,h⟩:=NP n1 hM hz
    have h1:=h (u*x) (by simp)
    have h2:=h (v*y) (by simp)
    have h3:=h (w*z) (by simp)
    refine Cc (g:=fun k=>(AE.f k [u*x,v*y,w*z]).bind fun t=>some (t,true)) (fun k=>?_) ((FO hne (fun t ht=>by have:=h t ht;omega) (by simp)).bind (Ev.now _))
    rw [show resS (some [u,v,w])=([u,v,w],true) from rfl,if_pos rfl]
    refine (if_pos (show (0:Int)<(([x,y,z]:List Int).length:Int) by simp)).trans ?_
    refine (if_pos (show (0:Int)<(([u,v,w]:List Int).length:Int) by simp)).trans ?_
    refine (if_pos (show (1:Int)<(([x,y,z]:List Int).length:Int) by simp)).trans ?_
    refine (if_pos (show (1:Int)<(([u,v,w]:List Int).length:Int) by simp)).trans ?_
    refine (if_pos (show (2:Int)<(([x,y,z]:List Int).length:Int) by simp)).trans ?_
    refine (if_pos (show (2:Int)<(([u,v,w]:List Int).length:Int) by simp)).trans ?_
    rw [rd0,rd1,rd2,rd0,rd1,rd2,Int.mul_comm x u,Int.mul_comm y v,Int.mul_comm z w,w64 (x:=u*x) (by omega) (by omega),w64 (x:=v*y) (by omega) (by omega),w64 (x:=w*z) (by omega) (by omega)]
theorem rd40 (a b c d:Int):rd [a,b,c,d] 0=a:=rfl
theorem rd41 (a b c d:Int):rd [a,b,c,d] 1=b:=rfl
theorem rd42 (a b c d:Int):rd [a,b,c,d] 2=c:=rfl
theorem rd43 (a b c d:Int):rd [a,b,c,d] 3=d:=rfl
theorem MO {a b c d x:Int} (ha:Sm a) (hb:Sm b) (hc:Sm c) (hd:Sm d) (hx:0≤x) (hx3:x≤3) {w:List Int×Bool} (hw:Ev (fun k=>Aj.l0 k [a,b,c,d] (x+1)) w) : ∀(n:Nat) (y:Int),0≤y→y+n=4→
    Ev (fun k=>Aj.l1 k [a,b,c,d] x y) (orS w (z4y a b c d x n y)):=by
  intro n
  induction n with
  | zero =>
    intro y hy hn
    simp only [z4y]
    refine Ev.step (fun k=>?_) hw
    simp only [Aj.l1]
    rw [if_neg (by omega),w64 (x:=x+1) (by omega) (by omega)]
  | succ n ih =>
    intro y hy hn
    have hy3:y≤3:=by omega
    simp only [z4y]
    have next:=ih (y+1) (by omega) (by omega)
    by_cases c0:x=0∧y=0
    · have e:z4c a b c d x y=none:=by unfold z4c;rw [if_pos c0]
      rw [e]
      refine Ev.step (f:=fun k=>Aj.j2 k [a,b,c,d] x y true) (fun k=>?_) ?_
      · simp only [Aj.l1]
        have:(y==0)=true:=by simp [c0.2]
        rw [if_pos hy3,if_pos c0.1,this]
      refine Ev.step (fun k=>?_) next
      simp only [Aj.j2]
      rw [if_pos trivial,w64 (x:=y+1) (by omega) (by omega)]
    · refine Ev.step (f:=fun k=>Aj.j2 k [a,b,c,d] x y false) (fun k=>?_) ?_
      · simp only [Aj.l1]
        rw [if_pos hy3]
        by_cases x0:x=0
        · have:(y==0)=false:=by simpa using fun e=>c0 ⟨x0,e⟩
          rw [if_pos x0,this]
        · rw [if_neg x0]
      have hT:=t4_bd ha hb hx hx3 hy hy3
      have hw4:=t4_w ha hb hx hx3 hy hy3
      apply Ev.step
      · intro k
        simp only [Aj.j2]
        rw [if_neg (by simp),if_pos (by simp),if_pos (by simp),rd40,rd41,rd42,rd43,hw4,w64 (x:=y+1) (by omega) (by omega)]
      by_cases c1:t4 a b x y=0
      · have e:z4c a b c d x y=some (Dv [x,y,0,0]):=by unfold z4c;rw [if_neg c0,if_pos c1]
        rw [e]
        refine Cc (fun k=>if_pos c1) ?_
        exact (FO (J8 c0) (by intro t ht;simp at ht;omega) (by simp)).bind (Ev.now _)
      · refine Cc (fun k=>if_neg c1) ?_
        obtain ⟨k1,k2,k3,k4⟩:=IE c1 hT
        refine (DD c1 (by omega)).bind ?_
        have hsz:Bf.f (Bi (t4 a b x y)).1=some (absI (Bi (t4 a b x y)).1):=by simp only [Bf.f];rw [ER (by omega) (by omega)]
        by_cases c2:30<absI (Bi (t4 a b x y)).1
        · have e:z4c a b c d x y=none:=by unfold z4c;rw [if_neg c0,if_neg c1,if_pos c2]
          rw [e]
          exact Cc (fun k=>by rw [hsz,Option.bind_some,if_pos (by omega)]) next
        · have hs:Sm (Bi (t4 a b x y)).1:=⟨k1,by unfold absI at c2;omega⟩
          refine Cc (fun k=>by rw [hsz,Option.bind_some,if_neg (by omega),if_pos (by simp),if_pos (by simp)]) ?_
          refine (GO hc hd hs).bind ?_
          cases hz:z3 c d (Bi (t4 a b x y)).1 with
          | none =>
            have e:z4c a b c d x y=none:=by unfold z4c;rw [if_neg c0,if_neg c1,if_neg c2,hz]
            rw [e]
            exact Cc (fun k=>if_neg (by simp [resS])) next
          | some t =>
            obtain ⟨⟨p,q,r,rfl⟩,z0⟩:=I6 hc hd hs hz
            have e:z4c a b c d x y=some (Dv [x*r,y*r,(Bi (t4 a b x y)).2*p,(Bi (t4 a b x y)).2*q]):=by unfold z4c;rw [if_neg c0,if_neg c1,if_neg c2,hz]
            rw [e]
            obtain ⟨m1,m2,m3,m4,m5⟩:=LL hx hx3 hy hy3 (z0.2.2.2 p (by simp)) (z0.2.2.2 q (by simp)) (z0.2.2.2 r (by simp)) k4
            refine Cc (g:=fun k=>(AE.f k [x*r,y*r,(Bi (t4 a b x y)).2*p,(Bi (t4 a b x y)).2*q]).bind fun t=>some (t,true)) (fun k=>?_) ((FO (z4_ne c0 (show (Bi (t4 a b x y)).2≠0 by omega) z0.2.2.1) m5 (by simp)).bind (Ev.now _))
            rw [show resS (some [p,q,r])=([p,q,r],true) from rfl,if_pos rfl,if_pos (by simp),if_pos (by simp),if_pos (by simp),rd0,rd1,rd2,m1,m2,m3,m4]
theorem MW {a b c d:Int} (ha:Sm a) (hb:Sm b) (hc:Sm c) (hd:Sm d) : ∀(n:Nat) (x:Int),0≤x→x+n=4→Ev (fun k=>Aj.l0 k [a,b,c,d] x) (resS (z4x a b c d n x)):=by
  intro n
  induction n with
  | zero =>
    intro x hx hn
    simp only [z4x]
    refine Ev.step (f:=fun _=>some ([],false)) (fun k=>?_) (Ev.now _)
    simp only [Aj.l0]
    rw [if_neg (by omega)]
  | succ n ih =>
    intro x hx hn
    simp only [z4x]
    have:=MO ha hb hc hd hx (by omega) (ih (x+1) (by omega) (by omega)) 4 0 (by omega) (by omega)
    refine Ev.step (f:=fun k=>Aj.l1 k [a,b,c,d] x 0) (fun k=>?_) ?_
    · simp only [Aj.l0]
      rw [if_pos (by omega)]
    · cases hh:z4y a b c d x 4 0 with
      | some v=>rw [hh] at this;exact this
      | none=>rw [hh] at this;exact this
theorem FY {f:List Int} (hx : ∀x∈f,x.natAbs≤1000000) (hl:f.length≤100):Ev (fun k=>B0.f k f) (resS (zF f)):=by
  unfold B0.f
  by_cases c:BE f=true
  · have h:=BO.1 c
    match f,h,c,hx with
    | [a],h,c,hx =>
      have e:zF [a]=none:=by unfold zF;rw [if_pos c]
      rw [e]
      refine (Cf (by simp)).bind ?_
      rw [c]
      exact Cc (g:=fun _=>some ([],false)) (fun k=>by rw [if_pos rfl,if_neg (by simp),if_neg (by simp),if_neg (by simp)]) (Ev.now _)
    | [a,b],h,c,hx =>
      have ha:=h.1 a (by simp)
      have hb:=h.1 b (by simp)
      refine (Cf (by simp)).bind ?_
      rw [c]
      refine Cc (fun k=>by rw [if_pos rfl,if_pos (by simp),if_pos (by simp)]) ?_
      refine (DD ha.1 (by have:=ha.2;omega)).bind ?_
      refine Cc (fun k=>if_pos (by simp)) ?_
      refine (DD hb.1 (by have:=hb.2;omega)).bind ?_
      have k1:=EG ha
      have k2:=EG hb
      rw [w64 (x:=(Bi a).1+(Bi b).1) (by omega) (by omega)]
      obtain ⟨t1,t2⟩:=two_bd ha hb
      by_cases c1:(Bi a).1+(Bi b).1=0
      · have e:zF [a,b]=some (Dv [(Bi b).2,(Bi a).2]):=by unfold zF;rw [if_pos c];exact if_pos c1
        rw [e]
        exact Cc (fun k=>if_pos c1) ((FO t1 t2 (by simp)).bind (Ev.now _))
      · have e:zF [a,b]=none:=by unfold zF;rw [if_pos c];exact if_neg c1
        rw [e]
        exact Cc (fun k=>if_neg c1) (Ev.now _)
    | [a,b,d],h,c,hx =>
      have e:zF [a,b,d]=z3 a b d:=by unfold zF;rw [if_pos c]
      rw [e]
      refine (Cf (by simp)).bind ?_
      rw [c]
      refine Cc (fun k=>by rw [if_pos rfl,if_neg (by simp),if_pos (by simp)]) ?_
      exact (GO (h.1 a (by simp)) (h.1 b (by simp)) (h.1 d (by simp))).bind (Ev.now _)
    | [a,b,d,g],h,c,hx =>
      have e:zF [a,b,d,g]=z4 a b d g:=by unfold zF;rw [if_pos c]
      rw [e]
      refine (Cf (by simp)).bind ?_
      rw [c]
      refine Cc (fun k=>by rw [if_pos rfl,if_neg (by simp),if_neg (by simp),if_pos (by simp)]) ?_
      exact (MW (h.1 a (by simp)) (h.1 b (by simp)) (h.1 d (by simp)) (h.1 g (by simp)) 4 0 (by omega) (by omega)).bind (Ev.now _)
    | [],h,c,hx=>simp at h
    | _::_::_::_::_::_,h,c,hx=>simp at h
  · have e:zF f=none:=by unfold zF;rw [if_neg c]
    rw [e]
    refine (Cf (by omega)).bind ?_
    rw [Bool.eq_false_iff.2 c]
    exact Cc (fun k=>if_neg (by simp)) (Ev.now _)
def resV:Option (List Int×Int)→List Int×Int×Bool
  | some o=>(o.1,o.2,true)
  | none=>([],0,false)
theorem implVF2 {g d:Int} (hg:g≠0) (xs:List Int) (hx : ∀x∈xs,x.natAbs≤1000000000000) (hd:d.natAbs≤1000000000000) (hl:xs.length≤1000) : ∀(m j:Nat) (out:List Int),j+m=xs.length→out.length≤5000+j→
    Ev (fun k=>Ad.l2 k d g out xs (xs.length:Int) j) (out++(xs.drop j).map (fun x=>x.tdiv g),d.tdiv g,true):=by
  intro m
  induction m with
  | zero =>
    intro j out hj ho
    rw [List.drop_of_length_le (by omega)]
    refine Ev.step (f:=fun _=>some (out,d.tdiv g,true)) (fun k=>?_) (by simpa using Ev.now _)
    simp only [Ad.l2]
    rw [if_neg (by omega),if_neg hg,Ga (by omega)]
  | succ m ih =>
    intro j out hj ho
    rw [CE (show j<xs.length by omega),List.map_cons]
    have hm:=hx _ (Dj (xs:=xs) (j:=j) (by omega))
    have h2:=ih (j+1) (out++[(rd xs (j:Int)).tdiv g]) (by omega) (by simp;omega)
    rw [List.append_assoc] at h2
    refine Ev.step (fun k=>?_) h2
    simp only [Ad.l2]
    rw [if_pos (by omega),if_pos (by omega),if_pos (by omega),if_neg hg,if_pos (by omega),Ga (by omega),w64 (x:=(j:Int)+1) (by omega) (by omega)]
    rfl
theorem NO {out:List Int} {d:Int} (hne : ∃x∈out++[d],x≠0) (hx : ∀x∈out,x.natAbs≤1000000000000) (hdb:d.natAbs≤1000000000000) (hl:out.length≤1000) :
    Ev (fun k=>Ad.j3 k out d) ((lowF out d).1,(lowF out d).2,true):=by
  have hall : ∀x∈out++[d],x.natAbs≤1000000000000:=by
    intro x h
    rcases List.mem_append.1 h with k|k
    · exact hx x k
    · simp at k;subst k;exact hdb
  have g0:=Jc hne
  have g1:=KC hne hall
  have g2:=(DZ (out++[d])).1
  have hs:sgG d (gcdF (out++[d]))≠0:=by unfold sgG;split<;>omega
  have fin:=implVF2 hs out hx hdb hl out.length 0 [] (by omega) (by simp)
  rw [List.drop_zero,List.nil_append] at fin
  have fin2:Ev (fun k=>Ad.j4 k out d (sgG d (gcdF (out++[d])))) ((lowF out d).1,(lowF out d).2,true):=Ev.step (fun k=>by simp only [Ad.j4];rfl) fin
  apply Ev.step
  · intro k
    simp only [Ad.j3]
    unfold Be.f
    rw [if_pos (by omega),Option.bind_some,if_pos (by omega)]
  refine (Ng (out++[d]) (fun x h=>by have:=hall x h;omega) (by simp;omega)).bind ?_
  refine Cc (fun k=>?_) fin2
  unfold sgG
  by_cases c:d<0
  · rw [if_pos c,if_pos c,w64 (x := -gcdF (out++[d])) (by omega) (by omega)]
  · rw [if_neg c,if_neg c]
theorem Ea (v:List Int) (i:Nat):rd v (i:Int)=v.getD i 0:=by unfold rd;simp
theorem implVF1 {t a:Int} {v:List Int} {i:Nat} {d:Int} (hv : ∀x∈v,x.natAbs≤1000000) (hl:v.length≤1000) (hi:i<v.length) (ht:t.natAbs≤100) (ha:a.natAbs≤100) (hd:d≠0) (hdb:d.natAbs≤1000000000) :
    ∀(m j:Nat) (out:List Int),j+m=v.length→out.length=j→(∀x∈out,x.natAbs≤1000000000)→
    out=(v.take j).map (fun x=>x*(t-a))→
    Ev (fun k=>Ad.l1 k t out d i a v (v.length:Int) j)
      ((lowF ((v.map fun x=>x*(t-a)).set i (v.getD i 0*(t-a)+d)) d).1,(lowF ((v.map fun x=>x*(t-a)).set i (v.getD i 0*(t-a)+d)) d).2,true):=by
  have bd : ∀x∈v,(x*(t-a)).natAbs≤200000000:=fun x h=>by
    rw [Int.natAbs_mul]
    have:=Nat.mul_le_mul (hv x h) (show (t-a).natAbs≤200 by omega);omega
  intro m
  induction m with
  | zero =>
    intro j out hj ho hob he
    have hgi:(v.getD i 0).natAbs≤1000000:=by rw [List.getD_eq_getElem?_getD,List.getElem?_eq_getElem hi];exact hv _ (List.getElem_mem _)
    have hbi:(v.getD i 0*(t-a)).natAbs≤200000000:=by rw [List.getD_eq_getElem?_getD,List.getElem?_eq_getElem hi];exact bd _ (List.getElem_mem _)
    have e:out=v.map fun x=>x*(t-a):=by rw [he,List.take_of_length_le (by omega)]
    have er:rd out (i:Int)=v.getD i 0*(t-a):=by rw [e,Ea,getD_map _ _ _ hi]
    refine Ev.step (fun k=>?_) (NO (out:=(v.map fun x=>x*(t-a)).set i (v.getD i 0*(t-a)+d)) ⟨d,by simp,hd⟩ (fun x hx=>?_) (by omega) (by simp;omega))
    · simp only [Ad.l1]
      rw [if_neg (by omega),if_pos (by omega),if_pos (by omega),er,w64 (x:=v.getD i 0*(t-a)+d) (by omega) (by omega),e]
      rfl
    · rcases List.mem_or_eq_of_mem_set hx with k|k
      · obtain ⟨y,hy,rfl⟩:=List.mem_map.1 k
        have:=bd y hy;omega
      · subst k;omega
  | succ m ih =>
    intro j out hj ho hob he
    have hm:=hv _ (Dj (xs:=v) (j:=j) (by omega))
    have hb:=bd _ (Dj (xs:=v) (j:=j) (by omega))
    refine Ev.step (fun k=>?_) (ih (j+1) (out++[rd v (j:Int)*(t-a)]) (by omega) (by simp;omega) (fun x hx=>?_) ?_)
    · simp only [Ad.l1]
      rw [if_pos (by omega),if_pos (by omega),if_pos (by omega),if_pos (by omega),w64 (x:=t-a) (by omega) (by omega),w64 (x:=rd v (j:Int)*(t-a)) (by omega) (by omega),w64 (x:=(j:Int)+1) (by omega) (by omega)]
      rfl
    · rcases List.mem_append.1 hx with k|k
      · exact hob x k
      · simp at k;subst k;omega
    · rw [List.take_add_one,List.map_append,← he,List.getElem?_eq_getElem (show j<v.length by omega)]
      congr 1
      simp only [Option.toList,List.map_cons,List.map_nil]
      rw [Ea,List.getD_eq_getElem?_getD,List.getElem?_eq_getElem (show j<v.length by omega)]
      rfl
theorem ax_low {v:List Int} {i:Nat} (h:i<axF v):v.getD i 0=0:=by
  have h2:=List.not_of_lt_findIdx (p:=fun x:Int=>decide (x≠0)) (xs:=v) h
  have hl:i<v.length:=Nat.lt_of_lt_of_le h List.findIdx_le_length
  rw [List.getD_eq_getElem?_getD,List.getElem?_eq_getElem hl]
  simpa using h2
theorem implVF0 {f v:List Int} {t:Int} (hf : ∀x∈f,x.natAbs≤100) (hl:v.length=f.length) (hl2:v.length≤100) (hv : ∀x∈v,x.natAbs≤1000000) (hn : ∃x∈v,x≠0) (hf0 : ∀x∈f,x≠0) (ht:t.natAbs≤100) :
    ∀(m j:Nat),j+m=axF v→Ev (fun k=>Ad.l0 k f t [] v j) ((lowF (outF f v t).1 (outF f v t).2).1,(lowF (outF f v t).1 (outF f v t).2).2,true):=by
  obtain ⟨a1,a2⟩:=G1 hn
  have hfi:(f.getD (axF v) 0).natAbs≤100∧f.getD (axF v) 0≠0:=by
    rw [List.getD_eq_getElem?_getD,List.getElem?_eq_getElem (by omega:axF v<f.length)]
    exact ⟨hf _ (List.getElem_mem _),hf0 _ (List.getElem_mem _)⟩
  have hvi:(v.getD (axF v) 0).natAbs≤1000000:=by
    rw [List.getD_eq_getElem?_getD,List.getElem?_eq_getElem a1]
    exact hv _ (List.getElem_mem _)
  have hd:(2*f.getD (axF v) 0*v.getD (axF v) 0).natAbs≤200000000:=by
    rw [Int.natAbs_mul]
    have:=Nat.mul_le_mul (show (2*f.getD (axF v) 0).natAbs≤200 by omega) hvi;omega
  have hd0:2*f.getD (axF v) 0*v.getD (axF v) 0≠0:=Int.mul_ne_zero (Int.mul_ne_zero (by omega) hfi.2) a2
  intro m
  induction m with
  | zero =>
    intro j hj
    obtain rfl:j=axF v:=by omega
    refine Ev.step (fun k=>?_) (implVF1 (t:=t) (a:=f.getD (axF v) 0) (i:=axF v) hv (by omega) a1 ht hfi.1 hd0 (by omega) v.length 0 [] (by omega) rfl (by simp) (by simp))
    simp only [Ad.l0]
    rw [if_pos (by omega),if_pos (by omega),Ea,if_neg a2,if_pos (by omega),Ea,w64 (x:=2*f.getD (axF v) 0) (by omega) (by omega),w64 (x:=2*f.getD (axF v) 0*v.getD (axF v) 0) (by omega) (by omega)]
    rfl
  | succ m ih =>
    intro j hj
    refine Ev.step (fun k=>?_) (ih (j+1) (by omega))
    simp only [Ad.l0]
    rw [if_pos (by omega),if_pos (by omega),Ea,if_pos (ax_low (by omega)),w64 (x:=(j:Int)+1) (by omega) (by omega)]
    rfl
theorem JF {f:List Int} {t:Int} (h:(BE f&&decide (f.length≤3)&&tOk t)=false):vF f t=none:=by unfold vF;rw [if_neg (by simp [h])]
theorem OC {f:List Int} {t:Int} (h:(BE f&&decide (f.length≤3)&&tOk t)=true):vF f t=match zF f with
    | some v=>some (lowF (outF f v t).1 (outF f v t).2)
    | none=>match zF (f++[-t]) with
      | some w=>some (lowF (w.take f.length) (w.getD f.length 0))
      | none=>none:=by
  unfold vF
  rw [if_pos h]
  cases zF f with
  | some v=>rfl
  | none=>cases zF (f++[-t])<;>rfl
theorem NU {f:List Int} {t:Int} (hf : ∀x∈f,x.natAbs≤100) (hl:f.length≤100):Ev (fun k=>Ad.f k f t) (resV (vF f t)):=by
  have stop:vF f t=none→Ev (fun k=>Ad.j0 k f t true) (resV (vF f t)):=by
    intro e
    rw [e]
    refine Ev.step (f:=fun _=>some ([],0,false)) (fun k=>?_) (Ev.now _)
    simp only [Ad.j0]
    rw [if_pos trivial]
  unfold Ad.f
  refine (BI (fun x h=>by have:=hf x h;omega) (by omega)).bind ?_
  by_cases c1:BE f=true
  · by_cases c2:f.length≤3
    · refine Cc (g:=fun k=>Ad.j0 k f t (!(tOk t))) (fun k=>by rw [if_pos c1,if_neg (by omega),Iq,Option.bind_some]) ?_
      by_cases c3:tOk t=true
      · rw [c3]
        have hall:(BE f&&decide (f.length≤3)&&tOk t)=true:=by rw [c1,c3];simp [c2]
        have hs:=(BO.1 c1).1
        have ht':=(Lm.1 c3).2
        have ht:t.natAbs≤100:=by omega
        have e:=OC hall
        apply Ev.step
        · intro k
          simp only [Ad.j0]
          rw [if_neg (by simp)]
        refine (F5 (fun x h=>by have:=hf x h;omega) hl).bind ?_
        cases hz:zF f with
        | some v =>
          rw [hz] at e
          simp only at e
          rw [e]
          obtain ⟨_,l2,l4,z1,z2,z3',z4'⟩:=Mp hz
          exact Cc (fun k=>if_pos rfl) (implVF0 hf z1 (by omega) z4' z3' (fun x h=>(hs x h).1) ht (axF v) 0 (by omega))
        | none =>
          rw [hz] at e
          simp only at e
          refine Cc (g:=fun k=>(Bx.f k (f++[-t])).bind fun bt297=>(if bt297.2=true then (if 0≤(f.length:Int) then (if (f.length:Int)≤(bt297.1.length:Int) then (if (f.length:Int)<(bt297.1.length:Int) then (Ad.j3 k (bt297.1.take ((f.length:Int):Int).toNat) (rd bt297.1 (f.length:Int))) else (none)) else (none)) else (none)) else (some (([]:List Int),0,false)))) (fun k=>?_) ?_
          · rw [if_neg (by simp [resS])]
            unfold Be.f
            rw [if_pos (by omega),Option.bind_some,if_pos (by omega),w64 (x := -t) (by omega) (by omega)]
          refine (F5 (f:=f++[-t]) (fun x h=>?_) (by simp;omega)).bind ?_
          · rcases List.mem_append.1 h with k|k
            · have:=hf x k;omega
            · simp at k;subst k;omega
          cases hw:zF (f++[-t]) with
          | none =>
            rw [hw] at e
            simp only at e
            rw [e]
            exact Cc (fun k=>if_neg (by simp [resS])) (Ev.now _)
          | some w =>
            rw [hw] at e
            simp only at e
            rw [e]
            obtain ⟨w0,w1,w2⟩:=vF_w hw
            refine Cc (fun k=>?_) (NO (out:=w.take f.length) (d:=w.getD f.length 0) w0 (fun x h=>by have:=w2 x (List.mem_of_mem_take h);omega) ?_ (by simp;omega))
            · rw [show resS (some w)=(w,true) from rfl,if_pos rfl]
              dsimp only
              rw [if_pos (by omega),if_pos (by omega),if_pos (by omega),Ea,Int.toNat_natCast]
            · rw [List.getD_eq_getElem?_getD,List.getElem?_eq_getElem (by omega:f.length<w.length)]
              have:=w2 _ (List.getElem_mem (by omega:f.length<w.length))
              simp only [Option.getD_some];omega
      · rw [Bool.eq_false_iff.2 c3]
        exact stop (JF (by rw [Bool.eq_false_iff.2 c3];simp))
    · exact Cc (fun k=>by rw [if_pos c1,if_pos (by omega)]) (stop (JF (by simp [c2])))
  · exact Cc (fun k=>by rw [if_neg c1]) (stop (JF (by rw [Bool.eq_false_iff.2 c1];simp)))
theorem l7col {xs:List Int} (hx : ∀x∈xs,x.natAbs≤1000000000000) (hl:xs.length≤1000) {d:Int} {v:List (List Int)×Int} : ∀(m j:Nat) (g:Int),j+m=xs.length→g.natAbs≤1000000000000→(1≤j→0≤g)→
    Ev (fun k=>AH.l0 k [xs] d (if j=xs.length then g else gcdL (xs.drop j) g) 1) v→(1≤xs.length)→Ev (fun k=>AH.l1 k [xs] d g 0 j) v:=by
  have w1:wrap64 (0+1)=1:=by decide +kernel
  have r0:Gs [xs] 0=xs:=rfl
  intro m
  induction m with
  | zero =>
    intro j g hj hg h0 hv h1
    rw [if_pos (by omega)] at hv
    refine Ev.step (fun k=>?_) hv
    simp only [AH.l1]
    rw [if_pos (by omega),if_pos (by simp),r0,if_neg (by omega),w1]
  | succ m ih =>
    intro j g hj hg h0 hv h1
    have hm:=hx _ (Dj (xs:=xs) (j:=j) (by omega))
    have hb:(gI g (rd xs (j:Int))).natAbs≤1000000000000:=by
      have k0:=Dk g (rd xs (j:Int))
      by_cases c:g=0
      · by_cases c2:rd xs (j:Int)=0
        · rw [c,c2];unfold gI;simp
        · have:=K4 (b:=g) c2;rw [F3] at this;omega
      · have:=K4 (b:=rd xs (j:Int)) c;omega
    apply Ev.step
    · intro k
      simp only [AH.l1]
      rw [if_pos (by omega),if_pos (by simp),r0,if_pos (by omega),if_pos (by omega)]
    refine (Jh (a:=g) (b:=rd xs (j:Int)) (by omega) (by omega)).bind ?_
    rw [w64 (x:=(j:Int)+1) (by omega) (by omega)]
    refine ih (j+1) (gI g (rd xs (j:Int))) (by omega) hb (fun _=>Dk _ _) ?_ h1
    rw [if_neg (by omega),CE (show j<xs.length by omega)] at hv
    simp only [gcdL] at hv
    by_cases c:j+1=xs.length
    · rw [if_pos c]
      rw [List.drop_of_length_le (by omega)] at hv
      exact hv
    · rw [if_neg c];exact hv
theorem l7out {xs:List Int} (hx : ∀x∈xs,x.natAbs≤1000000000000) (hl:xs.length≤1000) {s e:Int} (hs:s≠0) : ∀(m j:Nat) (out:List Int),j+m=xs.length→out.length=j→
    Ev (fun k=>AH.l3 k [xs] s 0 out j [] e) ([out++(xs.drop j).map fun x=>x.tdiv s],e):=by
  have w1:wrap64 (0+1)=1:=by decide +kernel
  have r0:Gs [xs] 0=xs:=rfl
  intro m
  induction m with
  | zero =>
    intro j out hj ho
    rw [List.drop_of_length_le (by omega)]
    refine Ev.step (f:=fun k=>AH.l2 k [xs] s 1 [out] e) (fun k=>?_) ?_
    · simp only [AH.l3]
      rw [if_pos (by omega),if_pos (by simp),r0,if_neg (by omega),if_pos (by simp),w1]
      rfl
    · refine Ev.step (f:=fun _=>some ([out],e)) (fun k=>?_) (by simpa using Ev.now _)
      simp only [AH.l2]
      rw [if_neg (by simp)]
  | succ m ih =>
    intro j out hj ho
    rw [CE (show j<xs.length by omega),List.map_cons]
    have hm:=hx _ (Dj (xs:=xs) (j:=j) (by omega))
    have h2:=ih (j+1) (out++[(rd xs (j:Int)).tdiv s]) (by omega) (by simp;omega)
    rw [List.append_assoc] at h2
    refine Ev.step (fun k=>?_) h2
    simp only [AH.l3]
    rw [if_pos (by omega),if_pos (by simp),r0,if_pos (by omega),if_pos (by omega),if_neg hs,if_pos (by omega),Ga (by omega),w64 (x:=(j:Int)+1) (by omega) (by omega)]
    rfl
theorem gcd_row {xs:List Int} {d:Int} (h1:1≤xs.length):gcdL xs d=gcdF (xs++[d]):=by
  match xs,h1 with
  | x::xs,_ =>
    have e:gcdL (x::xs) d=gcdF (d::x::xs):=by
      unfold gcdF
      simp only [gcdL]
      have:gI 0 d=absI d:=by unfold gI absI;rw [Int.gcd_zero_left]
      rw [this,K9]
    rw [e]
    exact Ox (fun y=>by simp [or_comm,or_assoc,or_left_comm])
theorem LH {xs:List Int} {d:Int} (hx : ∀x∈xs,x.natAbs≤1000000000000) (hl:xs.length≤1000) (h1:1≤xs.length) (hne : ∃x∈xs++[d],x≠0) (hdb:d.natAbs≤1000000000000):Ev (fun k=>C7.f k xs d) (lowF xs d):=by
  unfold C7.f
  have hall : ∀x∈xs++[d],x.natAbs≤1000000000000:=by
    intro x h
    rcases List.mem_append.1 h with k|k
    · exact hx x k
    · simp at k;subst k;exact hdb
  have g0:=Jc hne
  have g1:=KC hne hall
  have g2:=(DZ (xs++[d])).1
  have hs:sgG d (gcdF (xs++[d]))≠0:=by unfold sgG;split<;>omega
  have fin:Ev (fun k=>AH.f k [xs] d) ([(lowF xs d).1],(lowF xs d).2):=by
    unfold AH.f
    refine Ev.step (f:=fun k=>AH.l1 k [xs] d d 0 (0:Nat)) (fun k=>?_) ?_
    · simp only [AH.l0]
      rw [if_pos (by simp)]
      rfl
    refine l7col hx hl xs.length 0 d (by omega) (by omega) (by omega) ?_ h1
    rw [if_neg (by omega),List.drop_zero,gcd_row h1]
    refine Ev.step (f:=fun k=>AH.j2 k [xs] d (sgG d (gcdF (xs++[d])))) (fun k=>?_) ?_
    · simp only [AH.l0]
      rw [if_neg (by simp)]
      unfold sgG
      by_cases c:d<0
      · rw [if_pos c,if_pos c,w64 (x := -gcdF (xs++[d])) (by omega) (by omega)]
      · rw [if_neg c,if_neg c]
    refine Ev.step (f:=fun k=>AH.l2 k [xs] (sgG d (gcdF (xs++[d]))) 0 [] (d.tdiv (sgG d (gcdF (xs++[d]))))) (fun k=>?_) ?_
    · simp only [AH.j2]
      rw [if_neg hs,Ga (by omega)]
    refine Ev.step (f:=fun k=>AH.l3 k [xs] (sgG d (gcdF (xs++[d]))) 0 [] (0:Nat) [] (d.tdiv (sgG d (gcdF (xs++[d]))))) (fun k=>?_) ?_
    · simp only [AH.l2]
      rw [if_pos (by simp)]
      rfl
    have:=l7out hx hl (e:=d.tdiv (sgG d (gcdF (xs++[d])))) hs xs.length 0 [] (by omega) rfl
    rw [List.drop_zero,List.nil_append] at this
    exact this
  refine fin.bind ?_
  exact Cc (fun k=>if_pos (by simp)) (Ev.now _)
theorem axis_ev {v:List Int} (hl:v.length≤100) (hn : ∃x∈v,x≠0):Ev (fun k=>Cm.f k v) (axF v:Int):=by
  obtain ⟨a1,a2⟩:=G1 hn
  unfold Cm.f
  have : ∀(m j:Nat),j+m=axF v→Ev (fun k=>Cm.l0 k v j) (axF v:Int):=by
    intro m
    induction m with
    | zero =>
      intro j hj
      obtain rfl:j=axF v:=by omega
      refine Ev.step (f:=fun _=>some (axF v:Int)) (fun k=>?_) (Ev.now _)
      simp only [Cm.l0]
      rw [if_pos (by omega),if_pos (by omega),Ea,if_neg a2]
    | succ m ih =>
      intro j hj
      refine Ev.step (fun k=>?_) (ih (j+1) (by omega))
      simp only [Cm.l0]
      rw [if_pos (by omega),if_pos (by omega),Ea,if_pos (ax_low (by omega)),w64 (x:=(j:Int)+1) (by omega) (by omega)]
      rfl
  exact this (axF v) 0 (by omega)
theorem Oa {f v:List Int} {t:Int} {j:Nat} (hj:j<v.length):(outF f v t).1.getD j 0=if j=axF v then v.getD j 0*(t-f.getD (axF v) 0)+(outF f v t).2 else v.getD j 0*(t-f.getD (axF v) 0):=by
  unfold outF
  simp only
  by_cases c:j=axF v
  · rw [if_pos c,← c,List.getD_eq_getElem?_getD,List.getElem?_set_self (by simpa using hj)];rfl
  · rw [if_neg c,List.getD_eq_getElem?_getD,List.getElem?_set_ne (fun e=>c e.symm),← List.getD_eq_getElem?_getD,getD_map _ _ _ hj]
theorem specVF0 {f v:List Int} {t:Int} (hf : ∀x∈f,x.natAbs≤100) (hl:v.length=f.length) (hl2:v.length≤100) (hv : ∀x∈v,x.natAbs≤1000000) (hn : ∃x∈v,x≠0) (hf0 : ∀x∈f,x≠0) (ht:t.natAbs≤100) :
    ∀(m j:Nat) (out:List Int),j+m=v.length→out=(outF f v t).1.take j→
    Ev (fun k=>Ah.l0 k f t v (axF v:Int) (outF f v t).2 out j) ((lowF (outF f v t).1 (outF f v t).2).1,(lowF (outF f v t).1 (outF f v t).2).2,true):=by
  obtain ⟨a1,a2⟩:=G1 hn
  have hfi:(f.getD (axF v) 0).natAbs≤100∧f.getD (axF v) 0≠0:=by
    rw [List.getD_eq_getElem?_getD,List.getElem?_eq_getElem (by omega:axF v<f.length)]
    exact ⟨hf _ (List.getElem_mem _),hf0 _ (List.getElem_mem _)⟩
  have hvj : ∀j,j<v.length→(v.getD j 0).natAbs≤1000000:=fun j hj=>by
    rw [List.getD_eq_getElem?_getD,List.getElem?_eq_getElem hj]
    exact hv _ (List.getElem_mem _)
  have hd:(outF f v t).2.natAbs≤200000000:=by
    unfold outF
    simp only
    rw [Int.natAbs_mul]
    have:=Nat.mul_le_mul (show (2*f.getD (axF v) 0).natAbs≤200 by omega) (hvj _ a1);omega
  have hd0:(outF f v t).2≠0:=by unfold outF;exact Int.mul_ne_zero (Int.mul_ne_zero (by omega) hfi.2) a2
  have hol:(outF f v t).1.length=v.length:=by unfold outF;simp
  have bd : ∀j,j<v.length→(v.getD j 0*(t-f.getD (axF v) 0)).natAbs≤200000000:=fun j hj=>by
    rw [Int.natAbs_mul]
    have:=Nat.mul_le_mul (hvj j hj) (show (t-f.getD (axF v) 0).natAbs≤200 by omega);omega
  have hob : ∀x∈(outF f v t).1,x.natAbs≤1000000000:=by
    intro x hx
    obtain ⟨j,hj,rfl⟩:=List.mem_iff_getElem.1 hx
    have e:=Oa (f:=f) (t:=t) (v:=v) (j:=j) (by omega)
    rw [List.getD_eq_getElem?_getD,List.getElem?_eq_getElem hj] at e
    simp only [Option.getD_some] at e
    rw [e]
    have:=bd j (by omega)
    split<;>omega
  intro m
  induction m with
  | zero =>
    intro j out hj ho
    rw [List.take_of_length_le (by omega)] at ho
    subst ho
    apply Ev.step
    · intro k
      simp only [Ah.l0]
      rw [if_neg (by omega)]
    refine (LH (fun x h=>by have:=hob x h;omega) (by omega) (by omega) ⟨_,List.mem_append_right _ (List.mem_singleton.2 rfl),hd0⟩ (by omega)).bind (Ev.now _)
  | succ m ih =>
    intro j out hj ho
    have e:=Oa (f:=f) (t:=t) (v:=v) (j:=j) (by omega)
    have hb:=bd j (by omega)
    have hlen:out.length≤1000:=by rw [ho,List.length_take];omega
    have nx:out++[(outF f v t).1.getD j 0]=(outF f v t).1.take (j+1):=by
      rw [List.take_add_one,← ho,List.getD_eq_getElem?_getD,List.getElem?_eq_getElem (show j<(outF f v t).1.length by omega)];rfl
    refine Ev.step (fun k=>?_) (ih (j+1) _ (by omega) nx)
    simp only [Ah.l0]
    rw [if_pos (by omega),if_pos (by omega),if_pos (by omega),if_pos (by omega),Ea,Ea,w64 (x:=t-f.getD (axF v) 0) (by omega) (by omega),w64 (x:=v.getD j 0*(t-f.getD (axF v) 0)) (by omega) (by omega),w64 (x:=(j:Int)+1) (by omega) (by omega)]
    by_cases c:j=axF v
    · rw [if_pos c] at e
      rw [if_pos (by omega),if_pos (by omega),e,w64 (x:=v.getD j 0*(t-f.getD (axF v) 0)+(outF f v t).2) (by omega) (by omega)]
      rfl
    · rw [if_neg c] at e
      rw [if_neg (by omega),if_pos (by omega),e]
      rfl
theorem NS {f:List Int} {t:Int} (hf : ∀x∈f,x.natAbs≤100) (hl:f.length≤100):Ev (fun k=>Ah.f k f t) (resV (vF f t)):=by
  have stop:vF f t=none→Ev (fun k=>Ah.j0 k f t true) (resV (vF f t)):=by
    intro e
    rw [e]
    refine Ev.step (f:=fun _=>some ([],0,false)) (fun k=>?_) (Ev.now _)
    simp only [Ah.j0]
    rw [if_pos trivial]
  unfold Ah.f DJ.f
  have hform:Ev (fun k=>(Au.f k f).bind fun t320=>(if t320=true then (some (decide ((f.length:Int)≤3))) else (some false))) (BE f&&decide (f.length≤3)):=by
    refine (Cf (by omega)).bind ?_
    by_cases c:BE f=true
    · refine Cc (g:=fun _=>some (decide ((f.length:Int)≤3))) (fun k=>if_pos c) ?_
      have:(BE f&&decide (f.length≤3))=decide ((f.length:Int)≤3):=by rw [c,Bool.true_and];exact decide_eq_decide.2 (by omega)
      rw [this];exact Ev.now _
    · rw [Bool.eq_false_iff.2 c]
      exact Cc (fun k=>if_neg (by simp)) (Ev.now _)
  refine hform.bind ?_
  by_cases c12:(BE f&&decide (f.length≤3))=true
  · refine Cc (g:=fun k=>Ah.j0 k f t (!(tOk t))) (fun k=>by rw [if_pos c12,Jw,Option.bind_some]) ?_
    by_cases c3:tOk t=true
    · rw [c3]
      have hall:(BE f&&decide (f.length≤3)&&tOk t)=true:=by rw [c12,c3];rfl
      have c1:BE f=true:=(Bool.and_eq_true_iff.1 c12).1
      obtain ⟨hs,hl1,_⟩:=BO.1 c1
      have c2:f.length≤3:=by simpa using (Bool.and_eq_true_iff.1 c12).2
      have ht':=(Lm.1 c3).2
      have ht:t.natAbs≤100:=by omega
      have e:=OC hall
      apply Ev.step
      · intro k
        simp only [Ah.j0]
        rw [if_neg (by simp)]
      refine (FY (fun x h=>by have:=hf x h;omega) hl).bind ?_
      cases hz:zF f with
      | some v =>
        rw [hz] at e
        simp only at e
        rw [e]
        obtain ⟨_,l2,l4,z1,z2,z3',z4'⟩:=Mp hz
        obtain ⟨a1,a2⟩:=G1 z3'
        refine Cc (fun k=>if_pos rfl) ?_
        refine (axis_ev (v:=v) (by omega) z3').bind ?_
        have hfi:(f.getD (axF v) 0).natAbs≤100:=by
          rw [List.getD_eq_getElem?_getD,List.getElem?_eq_getElem (by omega:axF v<f.length)]
          exact hf _ (List.getElem_mem _)
        have hvi:(v.getD (axF v) 0).natAbs≤1000000:=by
          rw [List.getD_eq_getElem?_getD,List.getElem?_eq_getElem a1]
          exact z4' _ (List.getElem_mem _)
        have hd:(2*f.getD (axF v) 0*v.getD (axF v) 0).natAbs≤200000000:=by
          rw [Int.natAbs_mul]
          have:=Nat.mul_le_mul (show (2*f.getD (axF v) 0).natAbs≤200 by omega) hvi;omega
        refine Cc (fun k=>?_) (specVF0 hf z1 (by omega) z4' z3' (fun x h=>(hs x h).1) ht v.length 0 [] (by omega) (by simp))
        rw [show resS (some v)=(v,true) from rfl]
        dsimp only
        rw [if_pos (by omega),if_pos (by omega),if_pos (by omega),Ea,Ea,w64 (x:=2*f.getD (axF v) 0) (by omega) (by omega),w64 (x:=2*f.getD (axF v) 0*v.getD (axF v) 0) (by omega) (by omega)]
        rfl
      | none =>
        rw [hz] at e
        simp only at e
        refine Cc (g:=fun k=>(B0.f k (f++[-t])).bind fun bt544=>(if bt544.2=true then (if 0≤(f.length:Int) then (if (f.length:Int)≤(bt544.1.length:Int) then (if (f.length:Int)<(bt544.1.length:Int) then ((C7.f k (bt544.1.take ((f.length:Int):Int).toNat) (rd bt544.1 (f.length:Int))).bind fun bt553=>(some (bt553.1,bt553.2,true))) else (none)) else (none)) else (none)) else (some ((([]:List Int)),0,false)))) (fun k=>?_) ?_
        · rw [if_neg (by simp [resS]),Option.bind_some,if_pos (by simp;omega),Option.bind_some,List.nil_append,if_pos (by omega),w64 (x := -t) (by omega) (by omega)]
        refine (FY (f:=f++[-t]) (fun x h=>?_) (by simp;omega)).bind ?_
        · rcases List.mem_append.1 h with k|k
          · have:=hf x k;omega
          · simp at k;subst k;omega
        cases hw:zF (f++[-t]) with
        | none =>
          rw [hw] at e
          simp only at e
          rw [e]
          exact Cc (fun k=>if_neg (by simp [resS])) (Ev.now _)
        | some w =>
          rw [hw] at e
          simp only at e
          rw [e]
          obtain ⟨w0,w1,w2⟩:=vF_w hw
          have hlow:Ev (fun k=>C7.f k (w.take f.length) (w.getD f.length 0)) (lowF (w.take f.length) (w.getD f.length 0)):=by
            refine LH (fun x h=>by have:=w2 x (List.mem_of_mem_take h);omega) (by rw [List.length_take];omega) (by rw [List.length_take];omega) w0 ?_
            rw [List.getD_eq_getElem?_getD,List.getElem?_eq_getElem (by omega:f.length<w.length)]
            have:=w2 _ (List.getElem_mem (by omega:f.length<w.length))
            simp only [Option.getD_some];omega
          refine Cc (g:=fun k=>(C7.f k (w.take f.length) (w.getD f.length 0)).bind fun b=>some (b.1,b.2,true)) (fun k=>?_) (hlow.bind (Ev.now _))
          rw [show resS (some w)=(w,true) from rfl,if_pos rfl]
          dsimp only
          rw [if_pos (by omega),if_pos (by omega),if_pos (by omega),Ea,Int.toNat_natCast]
    · rw [Bool.eq_false_iff.2 c3]
      exact stop (JF (by rw [Bool.eq_false_iff.2 c3];simp))
  · rw [Bool.eq_false_iff.2 c12]
    exact Cc (fun k=>if_neg (by simp)) (stop (JF (by rw [Bool.eq_false_iff.2 c12];rfl)))
def tx (l:List UInt8):ByteArray:=⟨l.toArray⟩
theorem En (l:List UInt8):(tx l).data.toList=l:=by simp [tx]
theorem Bv (l:List UInt8):(tx l).size=l.length:=by simp [tx,ByteArray.size]
theorem Cp (a b:List UInt8):tx a++tx b=tx (a++b):=by
  apply ByteArray.ext
  apply Array.ext'
  simp [tx]
theorem CT (l:List UInt8):(tx l).toList=l:=by simp [tx]
theorem E1 (l:List UInt8) (a b:Nat):(tx l).extract a b=tx ((l.drop a).take (b-a)):=by
  rw [Lib.extract_eq,En];rfl
theorem G9 {a b:List UInt8} (h:tx a=tx b):a=b:=by rw [← En a,h,En]
theorem JQ {c:UInt8} : ∀(a b:List UInt8),c∉a→Lib.index (a++c::b) [c]=a.length
  | [],b,_=>by simp [Lib.index]
  | x::a,b,h=>by
    have hx:c≠x:=fun e=>h (by simp [e])
    have:=JQ a b (fun (m:c∈a)=>h (List.mem_cons_of_mem _ m))
    simp only [List.cons_append,Lib.index,this,List.isPrefixOf,Bool.and_true,List.length_cons]
    rw [if_neg (by simpa using hx),if_neg (by simp)]
    omega
theorem J5 {c:UInt8} : ∀(a:List UInt8),c∉a→Lib.index a [c] = -1
  | [],_=>by simp [Lib.index]
  | x::a,h=>by
    have hx:c≠x:=fun e=>h (by simp [e])
    have:=J5 a (fun (m:c∈a)=>h (List.mem_cons_of_mem _ m))
    simp only [Lib.index,this,List.isPrefixOf,Bool.and_true]
    rw [if_neg (by simpa using hx),if_pos (by simp)]
theorem Hy {c:UInt8} {a:List UInt8} (h:c∉a):Lib.split a [c]=[a]:=by
  unfold Lib.split
  rw [Lib.count_miss (J5 a h)]
  rfl
theorem JD {c:UInt8} {a:List UInt8} (b:List UInt8) (h:c∉a):Lib.split (a++c::b) [c]=a::Lib.split b [c]:=by
  unfold Lib.split
  have hi:=JQ a b h
  rw [Lib.count_hit (by simp) hi,Nat.add_comm 1]
  have hk:Lib.splitK [c] 0 (Lib.count b [c]+1) (a++c::b)=if Lib.index (a++c::b) [c] == -1 then [a++c::b] else (a++c::b).take ((Lib.index (a++c::b) [c]).toNat+0)::Lib.splitK [c] 0 (Lib.count b [c]) ((a++c::b).drop ((Lib.index (a++c::b) [c]).toNat+[c].length)):=rfl
  have e:(a++c::b).drop (a.length+[c].length)=b:=by simp
  have e2:((a.length:Int)).toNat=a.length:=by omega
  rw [e,hk,hi,if_neg (by simp),e2,e,Nat.add_zero,List.take_left]
theorem LD {s:List UInt8} {c:UInt8} (hs:s.length<4294967281):strings_Split.f (tx s) (tx [c])=some ((Lib.split s [c]).map tx):=by
  unfold strings_Split.f
  rw [if_pos ⟨by rw [Bv];exact hs,by rw [Bv];simp⟩]
  have h:=Lib.splitB_data (tx [c]) 0 (Lib.countB (tx s) (tx [c])) (tx s)
  rw [En,En] at h
  have e:Lib.countB (tx s) (tx [c])=Lib.count s [c]:=by unfold Lib.countB;rw [En,En]
  rw [e] at h ⊢
  show _=some ((Lib.splitK [c] 0 (Lib.count s [c]) s).map tx)
  rw [← h,List.map_map]
  have e2 : ∀l:List ByteArray,l.map (tx ∘ fun x=>x.data.toList)=l:=by
    intro l
    induction l with
    | nil=>rfl
    | cons x l ih=>simp only [List.map_cons,ih];rfl
  rw [e2]
theorem dec_step {n:Nat} (h : ¬n<10):Lib.decDigits n=Lib.decDigits (n/10)++[UInt8.ofNat (48+n%10)]:=by
  rw [Lib.decDigits,dif_neg h]
def valD (l:List UInt8) (n:Int):Int:=l.foldl (fun n b=>n*10+((b.toNat:Int)-48)) n
theorem itoa_of {n:Int} (h:0≤n):Lib.itoa n=Lib.decDigits n.toNat:=by unfold Lib.itoa;rw [if_neg (by omega)]
def spc (xs:List Int):List UInt8:=xs.flatMap fun x=>32::Lib.itoa x
def jn (xs:List Int):List UInt8:=Lib.join (xs.map Lib.itoa) [32]
def Mid (xs:List Int):Prop := ∀x∈xs,-4611686018427387904≤x∧x≤4611686018427387904
theorem spc_len {xs:List Int} (h:Mid xs):(spc xs).length≤22*xs.length:=by
  induction xs with
  | nil=>simp [spc]
  | cons x xs ih =>
    have h1:=h x (by simp)
    have:=ih (fun y hy=>h y (by simp [hy]))
    have hl:=Lib.itoa_length_le x (by omega) (by omega)
    simp only [spc,List.flatMap_cons,List.length_append,List.length_cons] at this ⊢
    omega
theorem Nw (x:Int) (xs:List Int):jn (x::xs)=Lib.itoa x++spc xs:=by
  induction xs generalizing x with
  | nil=>simp [jn,Lib.join,spc,List.intercalate]
  | cons y xs ih =>
    have:=ih y
    simp only [jn,Lib.join,List.map_cons,List.intercalate,spc,List.flatMap_cons] at this ⊢
    rw [List.intersperse_cons_cons,List.flatten_cons,List.flatten_cons,this]
    simp
theorem jn_spc (xs:List Int):(spc xs).drop 1=jn xs:=by
  cases xs with
  | nil=>simp [spc,jn,Lib.join,List.intercalate]
  | cons x xs=>rw [Nw];simp [spc]
theorem N2 {xs:List Int} (h:Mid xs):(jn xs).length≤22*xs.length:=by
  rw [← jn_spc,List.length_drop]
  have:=spc_len h
  omega
theorem GI {n:Int} (h0 : -4611686018427387904≤n) (h1:n≤4611686018427387904):strconv_Itoa.f n=some (tx (Lib.itoa n)):=by
  unfold strconv_Itoa.f
  rw [if_pos (by omega)];rfl
theorem join_eq {xs:List Int} (hx:Mid xs) (hl:xs.length≤1000000):strings_Join.f (xs.map fun x=>tx (Lib.itoa x)) (tx [32])=some (tx (jn xs)):=by
  unfold strings_Join.f
  have e:(xs.map fun x=>tx (Lib.itoa x)).map (fun b=>b.data.toList)=xs.map Lib.itoa:=by
    rw [List.map_map];congr 1
  have hj:=N2 hx
  rw [e,En,List.length_map,if_pos ⟨by omega,by unfold jn at hj;omega⟩]
  rfl
theorem Ml (xs:List Int) (hx:Mid xs) (hl:xs.length≤1000000) : ∀(d j:Nat),j+d=xs.length→
    Ev (fun k=>Bn.l0 k ((xs.take j).map fun x=>tx (Lib.itoa x)) xs (xs.length:Int) (j:Int)) (tx (jn xs)):=by
  intro d
  induction d with
  | zero =>
    intro j hj
    rw [List.take_of_length_le (by omega)]
    refine Ev.step (f:=fun _=>some (tx (jn xs))) (fun k=>?_) (Ev.now _)
    simp only [Bn.l0]
    rw [if_neg (by omega),show (⟨#[32]⟩:ByteArray)=tx [32] from rfl,join_eq hx hl]
    rfl
  | succ d ih =>
    intro j hj
    have hm:=hx _ (Dj (show j<xs.length by omega))
    have:=ih (j+1) (by omega)
    have e:(xs.take (j+1)).map (fun x=>tx (Lib.itoa x))=(xs.take j).map (fun x=>tx (Lib.itoa x))++[tx (Lib.itoa (rd xs (j:Int)))]:=by
      have e9:xs.take (j+1)=xs.take j++[rd xs (j:Int)]:=by
        have h9:=CE (show j<xs.length by omega)
        rw [List.take_add_one,← List.head?_drop,h9]
        simp
      rw [e9];simp
    rw [e] at this
    refine Ev.step (fun k=>?_) this
    simp only [Bn.l0]
    rw [if_pos (by omega),if_pos (by omega),if_pos (by omega),GI hm.1 hm.2]
    simp only [Option.bind_some]
    rw [if_pos (by simp;omega),w64 (x:=(j:Int)+1) (by omega) (by omega)]
    rfl
theorem F8 {xs:List Int} (hx:Mid xs) (hl:xs.length≤1000000):Ev (fun k=>Bn.f k xs) (tx (jn xs)):=by
  have:=Ml xs hx hl xs.length 0 (by omega)
  rw [List.take_zero,List.map_nil] at this
  exact this
theorem found_ev {xs:List Int} (hx:Mid xs) (hl:xs.length≤1000000):Ev (fun k=>Cz.f k xs true) (tx (jn xs)):=by
  unfold Cz.f
  simp only [if_true]
  exact (F8 hx hl).bind (Ev.now _)
theorem Ll (l:List UInt8) (j:Nat) (h:j<l.length):bt (tx l) (j:Int)=(l[j].toNat:Int):=by
  unfold bt
  rw [dif_pos (by rw [Bv];simpa using h)]
  simp [tx,ByteArray.getElem_eq_getElem_data]
theorem I7 (l:List UInt8) (h:l.head? ≠some 45):Cu.f (tx l) (⟨#[45]⟩:ByteArray)=some (tx l,false):=by
  rw [show (⟨#[45]⟩:ByteArray)=tx [45] from rfl]
  unfold Cu.f Cl.f BW.f
  cases l with
  | nil=>simp [Bv]
  | cons x l =>
    have hx:x≠45:=fun e=>h (by simp [e])
    simp only [Bv,E1,CT,List.length_cons,List.length_nil]
    rw [if_pos (by omega),if_pos (by omega),if_pos (by omega)]
    simp [hx]
theorem Ir (l:List UInt8):Cu.f (tx (45::l)) (⟨#[45]⟩:ByteArray)=some (tx l,true):=by
  rw [show (⟨#[45]⟩:ByteArray)=tx [45] from rfl]
  unfold Cu.f Cl.f BW.f
  simp only [Bv,E1,CT,List.length_cons,List.length_nil]
  rw [if_pos (by omega),if_pos (by omega),if_pos (by omega)]
  simp only [List.drop_zero,List.take_succ_cons,List.drop_succ_cons]
  simp
  rw [if_pos (by omega)]
  rfl
theorem runL_one {line:List UInt8} {ls:List ByteArray} {form form':List Int} {out r:List UInt8} {x:List Int×List UInt8} (hs:line.length≤1000) (hr:r.length≤1000000) (ho:out.length≤1000000000)
    (hc:Ev (fun k=>C4.f k form ((Lib.split line [32]).map tx)) (form',tx r)) (hn:Ev (fun k=>runL k ls form' (out++(r++[10]))) x):Ev (fun k=>runL k (tx line::ls) form out) x:=by
  simp only [runL]
  rw [show (⟨#[32]⟩:ByteArray)=tx [32] from rfl,LD (by omega)]
  simp only [Option.bind_some]
  refine hc.bind ?_
  rw [Bv]
  simp only [if_pos (And.intro hr ho)]
  rw [show (⟨#[10]⟩:ByteArray)=tx [10] from rfl,Cp,En]
  exact hn
theorem runL_nil (form:List Int) (out:List UInt8):Ev (fun k=>runL k [] form out) (form,out):=by
  simp only [runL];exact Ev.now _
def okN (a b:Int):Prop:=a≠0∧b≠0∧a.natAbs≤5000∧b.natAbs≤5000
instance (a b:Int):Decidable (okN a b):=by unfold okN;infer_instance
def GU (a b p:Int):Int:=if okN a b∧Dm p=true then sym a b p else 0
theorem F1 (a:Int):CD.f a=some (decide (a.natAbs≤5000)):=by
  unfold CD.f
  by_cases c:a≥ -5000
  · rw [if_pos c];congr 1;exact decide_eq_decide.2 (by omega)
  · rw [if_neg c,decide_eq_false (by omega)]
theorem both_eq (a b:Int):CC.f a b=some (decide (okN a b)):=by
  unfold CC.f
  by_cases ca:a=0
  · rw [if_pos ca,decide_eq_false (fun h:okN a b=>h.1 ca)]
  by_cases cb:b=0
  · rw [if_neg ca,if_pos cb,decide_eq_false (fun h:okN a b=>h.2.1 cb)]
  rw [if_neg ca,if_neg cb,F1,F1]
  simp only [Option.bind_some]
  by_cases c:a.natAbs≤5000
  · rw [if_pos (by simpa using c)];congr 1;exact decide_eq_decide.2 ⟨fun h=>⟨ca,cb,c,h⟩,fun h=>h.2.2.2⟩
  · rw [if_neg (by simpa using c),decide_eq_false (fun h:okN a b=>c h.2.2.1)]
theorem FW (a:Int):BR.f a=some (decide (a.natAbs≤5000)):=by
  unfold BR.f
  rw [EA]
  simp only [Option.bind_some]
  congr 1
  by_cases c:a.natAbs≤5000
  · rw [decide_eq_true c,decide_eq_true (show -5000≤a by omega),decide_eq_true (show a≤5000 by omega)];rfl
  · rw [decide_eq_false c]
    by_cases d : -5000≤a
    · rw [decide_eq_false (show ¬a≤5000 by omega),Bool.and_false]
    · rw [decide_eq_false d,Bool.false_and]
theorem l3Ok_eq (a b:Int):DS.f a b=some (decide (okN a b)):=by
  unfold DS.f
  rw [FW,FW]
  simp only [Option.bind_some]
  by_cases c:a.natAbs≤5000
  · rw [if_pos (by simpa using c)]
    by_cases d:b.natAbs≤5000
    · rw [if_pos (by simpa using d)]
      by_cases ca:a=0
      · rw [if_pos ca,decide_eq_false (fun h:okN a b=>h.1 ca)]
      · rw [if_neg ca]
        by_cases cb:b=0
        · rw [decide_eq_false (fun h:okN a b=>h.2.1 cb)];simp [cb]
        · rw [decide_eq_true (show okN a b from ⟨ca,cb,c,d⟩)];simp [cb]
    · rw [if_neg (by simpa using d),decide_eq_false (fun h:okN a b=>d h.2.2.2)]
  · rw [if_neg (by simpa using c),decide_eq_false (fun h:okN a b=>c h.2.2.1)]
theorem JL (a b p:Int):Ev (fun k=>CQ.f k a b p) (GU a b p):=by
  unfold CQ.f GU
  rw [both_eq]
  simp only [Option.bind_some]
  by_cases c:okN a b
  · rw [decide_eq_true c]
    simp only [if_true]
    refine (Ec p).bind ?_
    by_cases d:Dm p=true
    · rw [if_pos ⟨c,d⟩,d]
      simp only [if_true]
      exact (D2 (DV.1 d) c.1 c.2.1 (by have:=c.2.2.1;omega) (by have:=c.2.2.2;omega)).bind (Ev.now _)
    · rw [if_neg (fun h=>d h.2),show Dm p=false by simpa using d]
      simp only [Bool.false_eq_true,if_false]
      exact Ev.now _
  · rw [decide_eq_false c,if_neg (fun h=>c h.1)]
    simp only [Bool.false_eq_true,if_false]
    exact Ev.now _
theorem Kn (a b p:Int):Ev (fun k=>CS.f k a b p) (GU a b p):=by
  unfold CS.f GU
  rw [l3Ok_eq]
  simp only [Option.bind_some]
  by_cases c:okN a b
  · rw [decide_eq_true c]
    simp only [if_true]
    refine (EV p).bind ?_
    by_cases d:Dm p=true
    · rw [if_pos ⟨c,d⟩,d]
      simp only [if_true]
      exact (Er (DV.1 d) c.1 c.2.1 (by have:=c.2.2.1;omega) (by have:=c.2.2.2;omega)).bind (Ev.now _)
    · rw [if_neg (fun h=>d h.2),show Dm p=false by simpa using d]
      simp only [Bool.false_eq_true,if_false]
      exact Ev.now _
  · rw [decide_eq_false c,if_neg (fun h=>c h.1)]
    simp only [Bool.false_eq_true,if_false]
    exact Ev.now _
theorem IZ {p:Int} (h:Dm p=true):0≤p∧p≤5000:=by
  unfold Dm at h
  simp only [Bool.or_eq_true,Bool.and_eq_true,decide_eq_true_eq] at h
  omega
def plW (p:Int):List UInt8:=if p=0 then [114] else Lib.itoa p
def CX (xs:List Int) (n:Int):List Int:=xs.map fun x=>(Bi (x*n)).1
theorem KG {a b:Int} {A B:Nat} (ha:a.natAbs≤A) (hb:b.natAbs≤B):(a*b).natAbs≤A*B:=by
  rw [Int.natAbs_mul];exact Nat.mul_le_mul ha hb
theorem Lj {n:Int} (hn:n≠0) (hN:n.natAbs<2 ^ 63):(Bi n).1≠0∧(Bi n).1.natAbs≤n.natAbs:=by
  have h:=DL hn hN
  obtain ⟨h1,h2,_⟩:=h
  have hr:(Bi n).2*(Bi n).2≠0:=Int.mul_ne_zero (by omega) (by omega)
  refine ⟨fun e=>hn (by rw [h1,e,Int.zero_mul]),?_⟩
  have:=C0 (a:=(Bi n).1) hr
  rw [← h1] at this
  exact this
theorem NA {xs:List Int} {n:Int} (hn:n≠0) (hN:n.natAbs≤5000) (hx : ∀x∈xs,x≠0∧x.natAbs≤31) : ∀y∈CX xs n,y.natAbs≤1000000:=by
  intro y hy
  obtain ⟨x,hxm,rfl⟩:=List.mem_map.1 hy
  have hm:=hx x hxm
  have hb:=KG hm.2 hN
  have:=Lj (n:=x*n) (Int.mul_ne_zero hm.1 hn) (by omega)
  omega
theorem Hg (xs:List Int) (n:Int) (hn:n≠0) (hN:n.natAbs≤5000) (hx : ∀x∈xs,x≠0∧x.natAbs≤31) (hl:xs.length≤100) : ∀(d j:Nat) (out:List Int),j+d=xs.length→out.length=j→
    Ev (fun k=>BA.l0 k xs n out (j:Int)) (out++CX (xs.drop j) n):=by
  intro d
  induction d with
  | zero =>
    intro j out hj _
    rw [List.drop_of_length_le (by omega)]
    refine Ev.step (f:=fun _=>some out) (fun k=>?_) (by simpa [CX] using Ev.now out)
    simp only [BA.l0]
    rw [if_neg (by omega)]
  | succ d ih =>
    intro j out hj ho
    have hm:=hx _ (Dj (show j<xs.length by omega))
    have hb:=KG hm.2 hN
    have hz:rd xs (j:Int)*n≠0:=Int.mul_ne_zero hm.1 hn
    have:=ih (j+1) (out++[(Bi (rd xs (j:Int)*n)).1]) (by omega) (by simp;omega)
    rw [CE (show j<xs.length by omega)]
    refine Ev.step (f:=fun k=>(AP.f k (rd xs (j:Int)*n)).bind fun bt231=>BA.l0 k xs n (out++[bt231.1]) ((j+1:Nat):Int)) (fun k=>?_) ((DD hz (by omega)).bind ?_)
    · simp only [BA.l0]
      rw [if_pos (by omega),if_pos (by omega),w64 (x:=n*rd xs (j:Int)) (by rw [Int.mul_comm];omega) (by rw [Int.mul_comm];omega),Int.mul_comm n,w64 (x:=(j:Int)+1) (by omega) (by omega)]
      simp only [if_pos (show out.length<17592186044416 by omega)]
      rfl
    · simpa [CX] using this
theorem Lq (xs:List Int) (n:Int) (hn:n≠0) (hN:n.natAbs≤5000) (hx : ∀x∈xs,x≠0∧x.natAbs≤31) (hl:xs.length≤100) : ∀(d j:Nat),j+d=xs.length→
    Ev (fun k=>AM.l0 k n (CX (xs.take j) n) xs (xs.length:Int) (j:Int)) (if BE (CX xs n)=true then (CX xs n,true) else ([],false)):=by
  intro d
  induction d with
  | zero =>
    intro j hj
    rw [List.take_of_length_le (by omega)]
    have hv:=BI (NA hn hN hx) (by simp [CX];omega)
    refine Ev.step (f:=fun k=>(Ai.f k (CX xs n)).bind fun t135=>(if t135=true then (some (CX xs n,true)) else (some (([]:List Int),false)))) (fun k=>?_) (hv.bind ?_)
    · simp only [AM.l0]
      rw [if_neg (by omega)]
    · by_cases c:BE (CX xs n)=true
      · simp only [if_pos c];exact Ev.now _
      · simp only [if_neg c];exact Ev.now _
  | succ d ih =>
    intro j hj
    have hm:=hx _ (Dj (show j<xs.length by omega))
    have hb:=KG hm.2 hN
    have hz:rd xs (j:Int)*n≠0:=Int.mul_ne_zero hm.1 hn
    have:=ih (j+1) (by omega)
    have e9:xs.take (j+1)=xs.take j++[rd xs (j:Int)]:=by
      have h9:=CE (show j<xs.length by omega)
      rw [List.take_add_one,← List.head?_drop,h9]
      simp
    have e10:CX (xs.take (j+1)) n=CX (xs.take j) n++[(Bi (rd xs (j:Int)*n)).1]:=by rw [e9];simp [CX]
    rw [e10] at this
    have hlen:(CX (xs.take j) n).length<17592186044416:=by simp [CX];omega
    refine Ev.step (f:=fun k=>(AO.f k (rd xs (j:Int)*n)).bind fun bt130=>AM.l0 k n (CX (xs.take j) n++[bt130.1]) xs (xs.length:Int) ((j+1:Nat):Int)) (fun k=>?_) ((Ds hz (by omega)).bind ?_)
    · simp only [AM.l0]
      rw [if_pos (by omega),if_pos (by omega),if_pos (by omega),w64 (x:=rd xs (j:Int)*n) (by omega) (by omega),w64 (x:=(j:Int)+1) (by omega) (by omega)]
      simp only [if_pos hlen]
      rfl
    · exact this
def resT (xs:List Int) (n:Int):List Int×Bool:=if BE xs=true∧n≠0∧n.natAbs≤5000∧BE (CX xs n)=true then (CX xs n,true) else ([],false)
theorem J9 {xs:List Int} (n:Int) (hx : ∀x∈xs,x.natAbs≤31) (hl:xs.length≤100):Ev (fun k=>AM.f k xs n) (resT xs n):=by
  have hno : ∀(h : ¬(BE xs=true∧n≠0∧n.natAbs≤5000)),Ev (fun k=>AM.j0 k xs n true) (resT xs n):=by
    intro h
    have e:resT xs n=([],false):=by unfold resT;rw [if_neg (fun g=>h ⟨g.1,g.2.1,g.2.2.1⟩)]
    rw [e]
    exact Ev.step (f:=fun _=>some ([],false)) (fun k=>by simp [AM.j0]) (Ev.now _)
  unfold AM.f
  refine (BI (xs:=xs) (fun x h=>by have:=hx x h;omega) (by omega)).bind ?_
  by_cases c1:BE xs=true
  · simp only [c1,if_true]
    by_cases c2:n=0
    · simp only [if_pos c2]
      exact hno (fun h=>h.2.1 c2)
    · simp only [if_neg c2,F1,Option.bind_some]
      by_cases c3:n.natAbs≤5000
      · have hz:=(BO.1 c1).1
        have hx2 : ∀x∈xs,x≠0∧x.natAbs≤31:=fun x h=>⟨(hz x h).1,hx x h⟩
        have:=Lq xs n c2 c3 hx2 hl xs.length 0 (by omega)
        have e:resT xs n=if BE (CX xs n)=true then (CX xs n,true) else ([],false):=by
          unfold resT
          by_cases c4:BE (CX xs n)=true
          · rw [if_pos ⟨c1,c2,c3,c4⟩,if_pos c4]
          · rw [if_neg (fun g=>c4 g.2.2.2),if_neg c4]
        rw [e]
        rw [List.take_zero] at this
        refine Ev.step (fun k=>?_) this
        simp only [AM.j0,decide_eq_true c3,Bool.not_true,Bool.false_eq_true,if_false]
        rfl
      · simp only [decide_eq_false c3,Bool.not_false]
        exact hno (fun h=>c3 h.2.2)
  · simp only [c1,Bool.false_eq_true,if_false]
    exact hno (fun h=>c1 h.1)
theorem NX {xs:List Int} (n:Int) (hx : ∀x∈xs,x.natAbs≤31) (hl:xs.length≤100):Ev (fun k=>Bz.f k xs n) (resT xs n):=by
  have hno : ∀(h : ¬(BE xs=true∧n≠0∧n.natAbs≤5000)),Ev (fun k=>Bz.j0 k xs n true) (resT xs n):=by
    intro h
    have e:resT xs n=([],false):=by unfold resT;rw [if_neg (fun g=>h ⟨g.1,g.2.1,g.2.2.1⟩)]
    rw [e]
    exact Ev.step (f:=fun _=>some ([],false)) (fun k=>by simp [Bz.j0]) (Ev.now _)
  unfold Bz.f
  refine (Cf (xs:=xs) (by omega)).bind ?_
  by_cases c1:BE xs=true
  · simp only [c1,if_true,FW,Option.bind_some]
    by_cases c3:n.natAbs≤5000
    · simp only [decide_eq_true c3,if_true]
      by_cases c2:n=0
      · rw [show (n==0)=true by simpa using c2]
        exact hno (fun h=>h.2.1 c2)
      · rw [show (n==0)=false by simpa using c2]
        have hz:=(BO.1 c1).1
        have hx2 : ∀x∈xs,x≠0∧x.natAbs≤31:=fun x h=>⟨(hz x h).1,hx x h⟩
        have ht:=Hg xs n c2 c3 hx2 hl xs.length 0 [] (by omega) rfl
        rw [List.drop_zero,List.nil_append] at ht
        have hv:=Cf (xs:=CX xs n) (by simp [CX];omega)
        refine Ev.step (f:=fun k=>(BA.f k xs n).bind fun t241=>((Au.f k t241).bind fun t244=>(if t244=true then (some (t241,true)) else (some ((([]:List Int)),false))))) (fun k=>by simp [Bz.j0]) ?_
        unfold BA.f
        refine ht.bind (hv.bind ?_)
        have e:resT xs n=if BE (CX xs n)=true then (CX xs n,true) else ([],false):=by
          unfold resT
          by_cases c4:BE (CX xs n)=true
          · rw [if_pos ⟨c1,c2,c3,c4⟩,if_pos c4]
          · rw [if_neg (fun g=>c4 g.2.2.2),if_neg c4]
        rw [e]
        by_cases c4:BE (CX xs n)=true
        · simp only [if_pos c4];exact Ev.now _
        · simp only [if_neg c4];exact Ev.now _
    · simp only [decide_eq_false c3,Bool.false_eq_true,if_false]
      exact hno (fun h=>c3 h.2.2)
  · simp only [c1,Bool.false_eq_true,if_false]
    exact hno (fun h=>c1 h.1)
theorem MI {n:Int} (hn:n≤2000) {a b c d:Int} (h:sqs 3 0 n=some [a,b,c,d]):Mid [a,b,c,d]:=by
  obtain ⟨h1,h2⟩:=LU 3 0 n _ (by omega) h
  rw [Ez,Ez,Ez,Ez] at h2
  have e0:H5 []=0:=rfl
  have a1:=sq_nonneg a
  have a2:=sq_nonneg b
  have a3:=sq_nonneg c
  have a4:=sq_nonneg d
  have hx : ∀x:Int,x*x≤2000→ -4611686018427387904≤x∧x≤4611686018427387904:=by
    intro x hx
    constructor
    · refine Int.not_lt.1 fun hc=>?_
      have:(50:Int)*50≤ -x * -x:=Int.mul_le_mul (by omega) (by omega) (by omega) (by omega)
      rw [Int.neg_mul_neg] at this
      omega
    · refine Int.not_lt.1 fun hc=>?_
      have:(50:Int)*50≤x*x:=Int.mul_le_mul (by omega) (by omega) (by omega) (by omega)
      omega
  intro x hm
  simp only [List.mem_cons,List.mem_nil_iff,or_false] at hm
  rcases hm with rfl|rfl|rfl|rfl<;>exact hx _ (by omega)
def isD (b:UInt8):Bool:=decide (48≤b.toNat)&&decide (b.toNat≤57)
def okD (d:List UInt8):Bool:=decide (1≤d.length)&&(decide (d.length≤4)&&d.all isD)
def numT:List UInt8→Int
  | 45::l=>if okD l=true then -(valD l 0) else 99999
  | l=>if okD l=true then valD l 0 else 99999
theorem Nq : ∀(l:List UInt8) (j:Nat) (n:Int),l.all isD=true→0≤n→n<10 ^ j→0≤valD l n∧valD l n<10 ^ (l.length+j)
  | [],j,n,_,h0,h1=>⟨h0,by simpa [valD] using h1⟩
  | b::l,j,n,h,h0,h1=>by
    simp only [List.all_cons,Bool.and_eq_true,isD,decide_eq_true_eq] at h
    have:=Nq l (j+1) (n*10+((b.toNat:Int)-48)) (by simpa [isD] using h.2) (by omega) (by rw [Int.pow_succ];omega)
    rw [show (b::l).length+j=l.length+(j+1) by simp;omega]
    exact this
theorem okD_bd {l:List UInt8} (h:okD l=true):0≤valD l 0∧valD l 0<10000:=by
  simp only [okD,Bool.and_eq_true,decide_eq_true_eq] at h
  have:=Nq l 0 0 h.2.2 (by omega) (by decide)
  refine ⟨this.1,Int.lt_of_lt_of_le this.2 ?_⟩
  have:l.length=0∨l.length=1∨l.length=2∨l.length=3∨l.length=4:=by omega
  rcases this with e|e|e|e|e<;>rw [e]<;>decide
theorem Nl (s:List UInt8):(numT s).natAbs≤99999:=by
  unfold numT
  split
  · split
    · have:=okD_bd (by assumption);omega
    · decide
  · split
    · have:=okD_bd (by assumption);omega
    · decide
theorem pow_j {j:Nat} (h:j≤3):(10:Int) ^ j≤1000:=by
  have:j=0∨j=1∨j=2∨j=3:=by omega
  rcases this with rfl|rfl|rfl|rfl<;>decide
theorem MZ {b:UInt8} (h : ¬isD b=true):(b.toNat:Int)<48∨57<(b.toNat:Int):=by
  simp only [isD,Bool.and_eq_true,decide_eq_true_eq] at h
  omega
theorem NB (l:List UInt8) (hl:l.length≤4) (m:Bool) : ∀(d j:Nat) (n:Int),j+d=l.length→0≤n→n<10 ^ j→
    Ev (fun k=>Ar.l0 k (tx l) m n (l.length:Int) (j:Int)) (if (l.drop j).all isD=true then (if m=true then -(valD (l.drop j) n) else valD (l.drop j) n) else 99999):=by
  intro d
  induction d with
  | zero =>
    intro j n hj h0 h1
    have hp:n<10000:=by
      have:j=0∨j=1∨j=2∨j=3∨j=4:=by omega
      rcases this with rfl|rfl|rfl|rfl|rfl<;>exact Int.lt_of_lt_of_le h1 (by decide)
    rw [List.drop_of_length_le (by omega)]
    refine Ev.step (f:=fun _=>some (if m=true then -n else n)) (fun k=>?_) (Ev.now _)
    simp only [Ar.l0]
    rw [if_neg (by omega),w64 (by omega) (by omega)]
    cases m<;>rfl
  | succ d ih =>
    intro j n hj h0 h1
    have hjl:j<l.length:=by omega
    have hp:=pow_j (show j≤3 by omega)
    rw [List.drop_eq_getElem_cons hjl,List.all_cons]
    by_cases c:isD l[j]=true
    · rw [c,Bool.true_and]
      simp only [isD,Bool.and_eq_true,decide_eq_true_eq] at c
      have:=ih (j+1) (n*10+((l[j].toNat:Int)-48)) (by omega) (by omega) (by rw [Int.pow_succ];omega)
      refine Ev.step (fun k=>?_) this
      simp only [Ar.l0]
      rw [if_pos (by omega),if_pos (by omega),if_pos (by rw [Bv];omega),Ll l j hjl,if_neg (by omega),if_neg (by omega),w64 (x:=n*10) (by omega) (by omega),w64 (x:=(j:Int)+1) (by omega) (by omega),
        show ((l[j].toNat:Int)-48)%256=(l[j].toNat:Int)-48 by omega,w64 (by omega) (by omega)]
      rfl
    · have c2:=MZ c
      rw [Bool.eq_false_iff.2 c,Bool.false_and,if_neg (by simp)]
      refine Ev.step (f:=fun _=>some 99999) (fun k=>?_) (Ev.now _)
      simp only [Ar.l0]
      rw [if_pos (by omega),if_pos (by omega),if_pos (by rw [Bv];omega),Ll l j hjl]
      by_cases c3:(l[j].toNat:Int)<48
      · rw [if_pos c3]
      · rw [if_neg c3,if_pos (by omega)]
theorem Kk (l:List UInt8) (m:Bool):Ev (fun k=>if ((tx l).size:Int)<1 then Ar.j0 k (tx l) m true else Ar.j0 k (tx l) m (decide (((tx l).size:Int)>4))) (if okD l=true then (if m=true then -(valD l 0) else valD l 0) else 99999):=by
  rw [Bv]
  by_cases c1:1≤l.length
  · simp only [if_neg (show ¬(l.length:Int)<1 by omega)]
    by_cases c2:l.length≤4
    · have:=NB l c2 m l.length 0 0 (by omega) (by omega) (by decide)
      rw [List.drop_zero] at this
      rw [show okD l=l.all isD by unfold okD;rw [decide_eq_true c1,decide_eq_true c2];rfl]
      refine Ev.step (fun k=>?_) this
      simp only [Ar.j0,Bv,decide_eq_false (show ¬(l.length:Int)>4 by omega),Bool.false_eq_true,if_false]
      rfl
    · rw [show okD l=false by unfold okD;rw [decide_eq_false c2,Bool.false_and,Bool.and_false]]
      refine Ev.step (f:=fun _=>some 99999) (fun k=>?_) (Ev.now _)
      simp only [Ar.j0,decide_eq_true (show (l.length:Int)>4 by omega),if_true]
  · rw [show okD l=false by unfold okD;rw [decide_eq_false c1,Bool.false_and]]
    simp only [if_pos (show (l.length:Int)<1 by omega)]
    refine Ev.step (f:=fun _=>some 99999) (fun k=>?_) (Ev.now _)
    simp only [Ar.j0,if_true]
theorem Kl (l:List UInt8):numT (45::l)=if okD l=true then -(valD l 0) else 99999:=rfl
theorem Lx {s:List UInt8} (h:s.head? ≠some 45):numT s=if okD s=true then valD s 0 else 99999:=by
  unfold numT
  split
  · exact absurd rfl h
  · rfl
theorem Ee (s:List UInt8):Ev (fun k=>Ar.f k (tx s)) (numT s):=by
  unfold Ar.f
  by_cases h:s.head? = some 45
  · obtain ⟨l,rfl⟩ : ∃l,s=45::l:=by
      cases s with
      | nil=>cases h
      | cons x l=>simp at h;subst h;exact ⟨l,rfl⟩
    rw [Ir,Kl]
    simp only [Option.bind_some]
    exact Kk l true
  · rw [I7 s h,Lx h]
    simp only [Option.bind_some]
    exact Kk s false
theorem Nu (l:List UInt8) (hl:l.length≤4) (sg:Int) (hs:sg=1∨sg = -1) : ∀(d j:Nat) (n:Int),j+d=l.length→0≤n→n<10 ^ j→
    Ev (fun k=>Am.l0 k (tx l) sg n (j:Int)) (if (l.drop j).all isD=true then sg*valD (l.drop j) n else 99999):=by
  intro d
  induction d with
  | zero =>
    intro j n hj h0 h1
    have hp:n<10000:=by
      have:j=0∨j=1∨j=2∨j=3∨j=4:=by omega
      rcases this with rfl|rfl|rfl|rfl|rfl<;>exact Int.lt_of_lt_of_le h1 (by decide)
    rw [List.drop_of_length_le (by omega)]
    refine Ev.step (f:=fun _=>some (sg*n)) (fun k=>?_) (Ev.now _)
    simp only [Am.l0]
    rw [if_neg (by rw [Bv];omega)]
    rcases hs with rfl|rfl<;>rw [w64 (by omega) (by omega)]
  | succ d ih =>
    intro j n hj h0 h1
    have hjl:j<l.length:=by omega
    have hp:=pow_j (show j≤3 by omega)
    rw [List.drop_eq_getElem_cons hjl,List.all_cons]
    by_cases c:isD l[j]=true
    · rw [c,Bool.true_and]
      simp only [isD,Bool.and_eq_true,decide_eq_true_eq] at c
      have:=ih (j+1) (n*10+((l[j].toNat:Int)-48)) (by omega) (by omega) (by rw [Int.pow_succ];omega)
      refine Ev.step (fun k=>?_) this
      simp only [Am.l0]
      rw [if_pos (by rw [Bv];omega),if_pos (by omega),Ll l j hjl,if_neg (by omega),if_neg (by omega),Int.mul_comm 10 n,w64 (x:=n*10) (by omega) (by omega),w64 (x:=(j:Int)+1) (by omega) (by omega),
        show ((l[j].toNat:Int)-48)%256=(l[j].toNat:Int)-48 by omega,w64 (by omega) (by omega)]
      rfl
    · have c2:=MZ c
      rw [Bool.eq_false_iff.2 c,Bool.false_and,if_neg (by simp)]
      refine Ev.step (f:=fun _=>some 99999) (fun k=>?_) (Ev.now _)
      simp only [Am.l0]
      rw [if_pos (by rw [Bv];omega),if_pos (by omega),Ll l j hjl]
      by_cases c3:(l[j].toNat:Int)<48
      · rw [if_pos c3]
      · rw [if_neg c3,if_pos (by omega)]
theorem Hk (l:List UInt8) (sg:Int) (hs:sg=1∨sg = -1):Ev (fun k=>Am.j1 k (tx l) sg) (if okD l=true then sg*valD l 0 else 99999):=by
  apply Ev.step
  · intro k
    simp only [Am.j1,EA,Option.bind_some,Bv]
    exact rfl
  by_cases c1:1≤l.length∧l.length≤4
  · have:=Nu l c1.2 sg hs l.length 0 0 (by omega) (by omega) (by decide)
    rw [List.drop_zero] at this
    rw [show okD l=l.all isD by unfold okD;rw [decide_eq_true c1.1,decide_eq_true c1.2];rfl]
    simp only [decide_eq_true (show (1:Int)≤(l.length:Int) by omega),decide_eq_true (show (l.length:Int)≤4 by omega),Bool.and_self,if_true]
    exact this
  · rw [show okD l=false by
      unfold okD
      by_cases c2:1≤l.length
      · rw [decide_eq_false (show ¬l.length≤4 by omega),Bool.false_and,Bool.and_false]
      · rw [decide_eq_false c2,Bool.false_and]]
    have e:(decide ((1:Int)≤(l.length:Int))&&decide ((l.length:Int)≤4))=false:=by
      by_cases c2:1≤l.length
      · rw [decide_eq_false (show ¬(l.length:Int)≤4 by omega),Bool.and_false]
      · rw [decide_eq_false (show ¬(1:Int)≤(l.length:Int) by omega),Bool.false_and]
    simp only [e,Bool.false_eq_true,if_false]
    exact Ev.now _
theorem Ex (s:List UInt8):Ev (fun k=>Am.f k (tx s)) (numT s):=by
  unfold Am.f
  rw [Bv]
  cases s with
  | nil =>
    simp only [List.length_nil,if_neg (show ¬((0:Nat):Int)>0 by omega)]
    refine Ev.step (fun k=>?_) (Hk [] 1 (.inl rfl))
    simp only [Am.j0,Bool.false_eq_true,if_false]
  | cons b l =>
    have e:=Ll (b::l) 0 (by simp)
    simp only [if_pos (show ((b::l).length:Int)>0 by simp<;>omega),if_pos (show 0<((b::l).length:Int) by simp<;>omega)]
    rw [show bt (tx (b::l)) 0=(b.toNat:Int) from e]
    by_cases c:b=45
    · subst c
      have:=Hk l (-1) (.inr rfl)
      rw [Kl]
      rw [show (if okD l=true then (-1)*valD l 0 else 99999)=(if okD l=true then -(valD l 0) else 99999) by split<;>omega] at this
      refine Ev.step (fun k=>?_) this
      simp only [Am.j0]
      rw [show ((((45:UInt8).toNat:Nat):Int)==45)=true from rfl,if_pos rfl,Bv,if_pos (by simp<;>omega),E1]
      simp
    · have hc : ¬(b.toNat:Int)=45:=fun h=>c (UInt8.toNat_inj.1 (by simpa using Int.ofNat_inj.1 h))
      have:=Hk (b::l) 1 (.inl rfl)
      rw [Int.one_mul] at this
      rw [Lx (by simpa using c)]
      refine Ev.step (fun k=>?_) this
      simp only [Am.j0]
      rw [show ((b.toNat:Int)==45)=false from beq_eq_false_iff_ne.mpr hc,if_neg (by simp)]
def D6 (s:List UInt8):Int:=if s=[114] then 0 else if numT s=0 then -1 else numT s
theorem GN (s:List UInt8):Ev (fun k=>Cv.f k (tx s)) (D6 s):=by
  unfold Cv.f D6
  rw [CT]
  by_cases c:s=[114]
  · simp only [if_pos c];exact Ev.now _
  · simp only [if_neg c]
    refine (Ee s).bind ?_
    by_cases c2:numT s=0
    · simp only [if_pos c2];exact Ev.now _
    · simp only [if_neg c2];exact Ev.now _
theorem GR (s:List UInt8):Ev (fun k=>CG.f k (tx s)) (D6 s):=by
  unfold CG.f D6
  rw [CT]
  by_cases c:s=[114]
  · simp only [if_pos c];exact Ev.now _
  · simp only [if_neg c]
    refine (Ex s).bind ?_
    by_cases c2:numT s=0
    · simp only [if_pos c2];exact Ev.now _
    · simp only [if_neg c2];exact Ev.now _
theorem l10Cut_l (s:List UInt8) (c:UInt8) (hl:s.length≤1000000) : ∀(d j f:Nat) (acc:List ByteArray),j+d=s.length→f≤j→c∉(s.drop f).take (j-f)→acc.length≤j→
    Ev (fun k=>Ca.l0 k (tx s) (c.toNat:Int) acc (f:Int) (j:Int)) (acc++(Lib.split (s.drop f) [c]).map tx):=by
  intro d
  induction d with
  | zero =>
    intro j f acc hj hf hn ha
    rw [List.take_of_length_le (by simp;omega)] at hn
    rw [Hy hn]
    refine Ev.step (f:=fun _=>some (acc++[tx (s.drop f)])) (fun k=>?_) (Ev.now _)
    simp only [Ca.l0,Bv]
    rw [if_neg (by omega),if_pos (by omega),if_pos (by omega),if_pos (by omega),E1,Int.toNat_natCast,List.take_of_length_le (by simp)]
  | succ d ih =>
    intro j f acc hj hf hn ha
    have hjl:j<s.length:=by omega
    have hd:s.drop f=(s.drop f).take (j-f)++s[j]::s.drop (j+1):=by
      have h1:=(List.take_append_drop (j-f) (s.drop f)).symm
      rw [List.drop_drop,show f+(j-f)=j by omega,List.drop_eq_getElem_cons hjl] at h1
      exact h1
    by_cases e:s[j]=c
    · have:=ih (j+1) (j+1) (acc++[tx ((s.drop f).take (j-f))]) (by omega) (by omega) (by simp) (by simp;omega)
      rw [hd,e,JD _ hn]
      rw [List.append_assoc] at this
      refine Ev.step (fun k=>?_) this
      simp only [Ca.l0,Bv]
      rw [if_pos (by omega),if_pos (by omega),Ll s j hjl,if_pos (by rw [e]),if_pos (by omega),if_pos (by omega),if_pos (by omega),if_pos (by omega),E1,Int.toNat_natCast,Int.toNat_natCast,w64 (x:=(j:Int)+1) (by omega) (by omega)]
      rfl
    · have:=ih (j+1) f acc (by omega) (by omega) (by
        intro m
        rw [show j+1-f=(j-f)+1 by omega,List.take_add_one,List.mem_append] at m
        rcases m with m|m
        · exact hn m
        · rw [List.getElem?_drop,show f+(j-f)=j by omega,List.getElem?_eq_getElem hjl] at m
          simp at m
          exact e m.symm) (by omega)
      refine Ev.step (fun k=>?_) this
      simp only [Ca.l0,Bv]
      rw [if_pos (by omega),if_pos (by omega),Ll s j hjl,if_neg (fun h=>e (UInt8.toNat_inj.1 (Int.ofNat_inj.1 h))),w64 (x:=(j:Int)+1) (by omega) (by omega)]
      rfl
theorem J6 (s:List UInt8) (c:UInt8) (hl:s.length≤1000000):Ev (fun k=>Ca.f k (tx s) (c.toNat:Int)) ((Lib.split s [c]).map tx):=by
  have:=l10Cut_l s c hl s.length 0 0 [] (by omega) (by omega) (by simp) (by simp)
  rw [List.drop_zero,List.nil_append] at this
  exact this
theorem J2 : ∀(n:Nat),n≤4611686018427387904→Ev (fun k=>AX.f k (n:Int)) (tx (Lib.decDigits n)):=by
  intro n
  induction n using Nat.strongRecOn with
  | _ n ih =>
    intro hn
    by_cases c:n<10
    · rw [Lib.decDigits_one c]
      refine Ev.step (f:=fun _=>some (tx [UInt8.ofNat (48+n)])) (fun k=>?_) (Ev.now _)
      simp only [AX.f]
      rw [if_neg (by omega),if_neg (by omega),if_pos (by omega),w64 (by omega) (by omega)]
      congr 1
      have e:((48+(n:Int))%256).toNat=48+n:=by omega
      simp [strOfNums,tx,e]
    · rw [dec_step c]
      have e1:Int.tdiv (n:Int) 10=((n/10:Nat):Int):=rfl
      have e2:Int.tmod (n:Int) 10=((n%10:Nat):Int):=rfl
      have hl:=Lib.nDigits_le20 (n/10) (by omega)
      apply Ev.step
      · intro k
        simp only [AX.f]
        rw [if_neg (by omega),if_neg (by omega),if_neg (by omega),e1,e2,w64 (x:=((n/10:Nat):Int)) (by omega) (by omega)]
      refine (ih (n/10) (by omega) (by omega)).bind ?_
      have e3:strOfNums [(wrap64 (48+((n%10:Nat):Int)))%256]=tx [UInt8.ofNat (48+n%10)]:=by
        rw [w64 (by omega) (by omega)]
        have e:((48+((n%10:Nat):Int))%256).toNat=48+n%10:=by omega
        simp only [strOfNums,tx,List.map_cons,List.map_nil,e]
      simp only [Option.bind_some,e3,Bv,Cp,Lib.decDigits_length,List.length_singleton]
      rw [if_pos (by omega)]
      exact Ev.now _
theorem Et {n:Int} (h0 : -4611686018427387904≤n) (h1:n≤4611686018427387904):Ev (fun k=>AX.f k n) (tx (Lib.itoa n)):=by
  by_cases c:n<0
  · have d:=J2 n.natAbs (by omega)
    have e:Lib.itoa n=45::Lib.decDigits n.natAbs:=by unfold Lib.itoa;rw [if_pos c]
    rw [e]
    apply Ev.step
    · intro k
      simp only [AX.f]
      rw [if_neg (by omega),if_pos c,w64 (by omega) (by omega),show -n=((n.natAbs:Nat):Int) by omega]
    refine d.bind ?_
    have hl:=Lib.nDigits_le20 n.natAbs (by omega)
    rw [Bv,Lib.decDigits_length,if_pos (by omega),show (⟨#[45]⟩:ByteArray)=tx [45] from rfl,Cp]
    exact Ev.now _
  · rw [itoa_of (by omega)]
    have:=J2 n.toNat (by omega)
    rwa [Int.toNat_of_nonneg (by omega)] at this
def jw (ws:List (List UInt8)):List UInt8:=Lib.join ws [32]
theorem Kw (w:List UInt8) (ws:List (List UInt8)):jw (w::ws)=w++ws.flatMap (fun x=>32::x):=by
  induction ws generalizing w with
  | nil=>simp [jw,Lib.join,List.intercalate]
  | cons y ws ih =>
    have:=ih y
    simp only [jw,Lib.join,List.intercalate,List.flatMap_cons] at this ⊢
    rw [List.intersperse_cons_cons,List.flatten_cons,List.flatten_cons,this]
    simp
theorem NG (ws:List (List UInt8)) (w:List UInt8):jw (ws++[w])=if ws.length=0 then w else jw ws++32::w:=by
  cases ws with
  | nil=>simp [jw,Lib.join,List.intercalate]
  | cons y ws=>rw [List.cons_append,Kw,Kw];simp
theorem jn_jw (xs:List Int):jn xs=jw (xs.map Lib.itoa):=rfl
theorem JZ {xs:List Int} {j:Nat} (h:j<xs.length):xs.take (j+1)=xs.take j++[rd xs (j:Int)]:=by
  have h9:=CE h
  rw [List.take_add_one,← List.head?_drop,h9]
  simp
theorem jn_snoc {xs:List Int} {j:Nat} (h:j<xs.length):jn (xs.take (j+1))=if j=0 then Lib.itoa (rd xs (j:Int)) else jn (xs.take j)++32::Lib.itoa (rd xs (j:Int)):=by
  rw [JZ h,jn_jw,jn_jw,List.map_append,List.map_cons,List.map_nil,NG]
  simp only [List.length_map,List.length_take,Nat.min_eq_left (Nat.le_of_lt h)]
theorem NH (xs:List Int) (hx:Mid xs) (hl:xs.length≤1000000) : ∀(d j:Nat),j+d=xs.length→
    Ev (fun k=>Bu.l0 k xs (tx (jn (xs.take j))) (j:Int)) (tx (jn xs)):=by
  intro d
  induction d with
  | zero =>
    intro j hj
    rw [List.take_of_length_le (by omega)]
    refine Ev.step (f:=fun _=>some (tx (jn xs))) (fun k=>?_) (Ev.now _)
    simp only [Bu.l0]
    rw [if_neg (by omega)]
  | succ d ih =>
    intro j hj
    have hm:=hx _ (Dj (show j<xs.length by omega))
    have hlen:=Lib.itoa_length_le (rd xs (j:Int)) (by omega) (by omega)
    have hj2:=N2 (xs:=xs.take j) (fun x h=>hx x (List.mem_of_mem_take h))
    rw [List.length_take] at hj2
    have:=ih (j+1) (by omega)
    rw [jn_snoc (show j<xs.length by omega)] at this
    by_cases c:j=0
    · subst c
      rw [if_pos rfl] at this
      apply Ev.step
      · intro k
        simp only [Bu.l0]
        rw [if_pos (by omega),if_neg (by omega),if_pos (by omega),w64 (x:=((0:Nat):Int)+1) (by omega) (by omega)]
      refine (Et hm.1 hm.2).bind ?_
      rw [List.take_zero,show jn []=[] from rfl,Cp,Bv,Bv,List.nil_append]
      simp only [if_pos (show ([]:List UInt8).length+(Lib.itoa (rd xs ((0:Nat):Int))).length≤9223372036854775807 by rw [List.length_nil];omega)]
      exact this
    · rw [if_neg c] at this
      apply Ev.step
      · intro k
        simp only [Bu.l0,Bv]
        rw [if_pos (by omega),if_pos (by omega),if_pos (by omega),if_pos (by omega),w64 (x:=(j:Int)+1) (by omega) (by omega)]
      refine (Et hm.1 hm.2).bind ?_
      rw [show (⟨#[32]⟩:ByteArray)=tx [32] from rfl,Cp,Cp,Bv,Bv]
      simp only [List.length_append,List.length_singleton]
      rw [show jn (xs.take j)++[32]++Lib.itoa (rd xs (j:Int))=jn (xs.take j)++32::Lib.itoa (rd xs (j:Int)) by simp]
      simp only [if_pos (show (jn (xs.take j)).length+1+(Lib.itoa (rd xs (j:Int))).length≤9223372036854775807 by omega)]
      exact this
theorem FF {xs:List Int} (hx:Mid xs) (hl:xs.length≤1000000):Ev (fun k=>Bu.f k xs) (tx (jn xs)):=by
  have:=NH xs hx hl xs.length 0 (by omega)
  rw [List.take_zero] at this
  exact this
theorem Jr {a:List UInt8} (b:Bool) (h:a.length≤1000000):Cn.f (tx a) b=some (tx (if b=true then a++[10] else [110,111,10])):=by
  unfold Cn.f
  rw [Bv,show (⟨#[10]⟩:ByteArray)=tx [10] from rfl,Cp]
  cases b
  · rw [if_neg (by simp),if_neg (by simp)];rfl
  · rw [if_pos rfl,if_pos (by omega),if_pos rfl]
def whW:List UInt8:=[119,104,97,116]
def okW:List UInt8:=[111,107]
def noW:List UInt8:=[110,111]
def fndT (q:List Int×Bool):List UInt8:=if q.2=true then jn q.1 else noW
def jb (ps:List Int):List UInt8:=jw (ps.map plW)
def oneT (form:List Int) (w:List UInt8):List UInt8:=if w=[115,104,111,119] then jn form else if w=[100,105,115,99] then Lib.itoa (disc form) else if w=[98,97,100] then jb (bad form) else if w=[122,101,114,111] then fndT (resS (zF form)) else if w=[112,108,97,110,101,115] then Lib.itoa (pall form) else whW
def atT (form:List Int) (p:Int):List UInt8:=if Dm p=true then (if van form p=true then [122,101,114,111] else [110,111,110,101]) else noW
def valT (q:List Int×Int×Bool):List UInt8:=if q.2.2=true then jn q.1++[32,47,32]++Lib.itoa q.2.1 else noW
def Gi (n:Int):List Int×Bool:=if 0≤n∧n≤2000 then fin (sqs 3 0 n) else ([],false)
def symT (s:Int):List UInt8:=if s=0 then noW else Lib.itoa s
def askT (form:List Int) (w:List UInt8) (r:List (List UInt8)):List UInt8:=if r.length=0 then oneT form w else if w=[115,121,109,98,111,108]∧r.length=3 then symT (GU (numT (r.getD 0 [])) (numT (r.getD 1 [])) (D6 (r.getD 2 []))) else if w=[97,116]∧r.length=1 then atT form (D6 (r.getD 0 [])) else if w=[118,97,108,117,101]∧r.length=1 then valT (resV (vF form (numT (r.getD 0 [])))) else if w=[115,113,117,97,114,101,115]∧r.length=1 then fndT (Gi (numT (r.getD 0 []))) else whW
def Fl (form:List Int) (q:List Int×Bool):List Int×List UInt8:=if q.2=true then (q.1,okW) else (form,noW)
def Fx (form:List Int) (w:List UInt8) (r:List (List UInt8)):List Int×List UInt8:=if w=[102,111,114,109]∧0<r.length then Fl form (r.map numT,BE (r.map numT)) else if w=[116,105,109,101,115]∧r.length=1 then Fl form (resT form (numT (r.getD 0 []))) else if w=[99,111,114,101,115]∧r.length=0 then Fl form (resT form 1) else (form,askT form w r)
theorem Eh {n:Int} (h:n.natAbs≤1000000000000):(Lib.itoa n).length≤21:=Lib.itoa_length_le n (by omega) (by omega)
theorem mid_of {xs:List Int} {N:Nat} (hN:N≤1000000000000) (h : ∀x∈xs,x.natAbs≤N):Mid xs:=fun x hx=>by have:=h x hx;omega
theorem EI {xs:List Int} (hm:Mid xs) (hl:xs.length≤20):(jn xs).length≤440:=by have:=N2 hm;omega
theorem Jg (n:Int):Mid (Gi n).1∧(Gi n).1.length≤4:=by
  unfold Gi
  refine ⟨?_,fin_len 3 n⟩
  by_cases h:0≤n∧n≤2000
  · rw [if_pos h]
    cases hq:sqs 3 0 n with
    | none=>intro x hx;simp [fin] at hx
    | some r =>
      simp only [fin]
      have hl:=Lp 3 0 n r hq
      match r,hl,hq with
      | [a,b,c,d],_,hq=>exact MI (by omega) hq
  · rw [if_neg h];intro x hx;simp at hx
theorem LN {form:List Int}:Mid (resS (zF form)).1∧(resS (zF form)).1.length≤4:=by
  cases hz:zF form with
  | none=>exact ⟨fun x hx=>by simp [resS] at hx,by simp [resS]⟩
  | some v =>
    obtain ⟨_,l2,l4,z1,z2,z3',z4'⟩:=Mp hz
    exact ⟨fun x hx=>by have:=z4' x hx;omega,by show v.length≤4;omega⟩
theorem MU {form:List Int} {t:Int}:Mid (resV (vF form t)).1∧(resV (vF form t)).1.length≤4∧(resV (vF form t)).2.1.natAbs≤1000000000:=by
  cases hz:vF form t with
  | none=>exact ⟨fun x hx=>by simp [resV] at hx,by simp [resV],by simp [resV]⟩
  | some v =>
    obtain ⟨l4,z1,z2⟩:=vF_small hz
    exact ⟨fun x hx=>by have:=z1 x hx;omega,l4,z2⟩
theorem NN {p:Int} (h:Plc p):0≤p∧p≤5000:=IZ (DV.2 h)
theorem Of {form:List Int}:(∀p∈bad form,0≤p∧p≤5000)∧(bad form).length≤11 :=
  ⟨fun p hp=>NN (Gv (List.mem_filter.1 hp).1),Nat.le_trans (List.length_filter_le _ _) (H8 form)⟩
theorem LG {p:Int} (h:0≤p∧p≤5000):(plW p).length≤21:=by
  unfold plW
  split
  · simp
  · exact Lib.itoa_length_le p (by omega) (by omega)
theorem LQ : ∀ {ps:List Int},(∀p∈ps,0≤p∧p≤5000)→(jb ps).length≤22*ps.length
  | [],_=>by simp [jb,jw,Lib.join,List.intercalate]
  | p::ps,h=>by
    have key : ∀l:List Int,(∀p∈l,0≤p∧p≤5000)→((l.map plW).flatMap (fun x=>32::x)).length≤22*l.length:=by
      intro l
      induction l with
      | nil=>intro _;simp
      | cons y l ih =>
        intro hl
        have h1:=LG (hl y (by simp))
        have:=ih (fun z hz=>hl z (by simp [hz]))
        simp only [List.map_cons,List.flatMap_cons,List.length_append,List.length_cons] at this ⊢
        omega
    have h1:=LG (h p (by simp))
    have:=key ps (fun z hz=>h z (by simp [hz]))
    unfold jb
    rw [List.map_cons,Kw,List.length_append,List.length_cons]
    omega
theorem LV (f:Int→Int) (hf : ∀p,-1000≤f p) : ∀(ps:List Int) (acc:Int),-1000≤acc→acc≤1000→ -1000≤minL f ps acc∧minL f ps acc≤1000
  | [],acc,h0,h1=>⟨h0,h1⟩
  | p::ps,acc,h0,h1=>by
    have h2:=mn_le (a:=acc) (b:=f p)
    have h3:=hf p
    simp only [minL]
    exact LV f hf ps _ (by rcases h2.2.2 with e|e<;>rw [e]<;>omega) (by omega)
theorem Nx : ∀ {ps:List Int},(∀p∈ps,0≤p∧p≤5000)→badL ps=some (ps.map fun p=>tx (plW p))
  | [],_=>rfl
  | p::ps,h=>by
    have hp:=h p (by simp)
    have e:(if p=0 then some (⟨#[114]⟩:ByteArray) else strconv_Itoa.f p)=some (tx (plW p)):=by
      unfold plW
      by_cases c:p=0
      · rw [if_pos c,if_pos c];rfl
      · rw [if_neg c,if_neg c,GI (by omega) (by omega)]
    have e2:=Nx (ps:=ps) (fun z hz=>h z (by simp [hz]))
    simp only [badL,e,Option.bind_some,e2,List.map_cons]
theorem joinB_eq {ps:List Int} (hx : ∀p∈ps,0≤p∧p≤5000) (hl:ps.length≤1000000):strings_Join.f (ps.map fun p=>tx (plW p)) (tx [32])=some (tx (jb ps)):=by
  unfold strings_Join.f
  have e:(ps.map fun p=>tx (plW p)).map (fun b=>b.data.toList)=ps.map plW:=by
    rw [List.map_map];congr 1
  have hj:=LQ hx
  rw [e,En,List.length_map,if_pos ⟨by omega,by unfold jb jw at hj;omega⟩]
  rfl
theorem jb_snoc {xs:List Int} {j:Nat} (h:j<xs.length):jb (xs.take (j+1))=if j=0 then plW (rd xs (j:Int)) else jb (xs.take j)++32::plW (rd xs (j:Int)):=by
  unfold jb
  rw [JZ h,List.map_append,List.map_cons,List.map_nil,NG]
  simp only [List.length_map,List.length_take,Nat.min_eq_left (Nat.le_of_lt h)]
theorem l10Bad_l (xs:List Int) (hx : ∀p∈xs,0≤p∧p≤5000) (hl:xs.length≤1000) : ∀(d j:Nat),j+d=xs.length→
    Ev (fun k=>BT.l0 k (tx (jb (xs.take j))) xs (j:Int)) (tx (jb xs++[10])):=by
  intro d
  induction d with
  | zero =>
    intro j hj
    have hj2:=LQ hx
    rw [List.take_of_length_le (by omega)]
    refine Ev.step (f:=fun _=>some (tx (jb xs++[10]))) (fun k=>?_) (Ev.now _)
    simp only [BT.l0,Bv]
    rw [if_neg (by omega),if_pos (by omega),show (⟨#[10]⟩:ByteArray)=tx [10] from rfl,Cp]
  | succ d ih =>
    intro j hj
    have hm:=hx _ (Dj (show j<xs.length by omega))
    have hlen:=Lib.itoa_length_le (rd xs (j:Int)) (by omega) (by omega)
    have hj2:=LQ (ps:=xs.take j) (fun x h=>hx x (List.mem_of_mem_take h))
    rw [List.length_take] at hj2
    have:=ih (j+1) (by omega)
    rw [jb_snoc (show j<xs.length by omega)] at this
    by_cases c:j=0
    · subst c
      rw [if_pos rfl] at this
      rw [List.take_zero,show jb []=[] from rfl]
      by_cases cz:rd xs ((0:Nat):Int)=0
      · rw [show plW (rd xs ((0:Nat):Int))=[114] by unfold plW;rw [if_pos cz]] at this
        refine Ev.step (fun k=>?_) this
        simp only [BT.l0,Bv]
        rw [if_pos (by omega),if_neg (by omega),if_pos (by omega),if_pos cz,if_pos (by simp),w64 (x:=((0:Nat):Int)+1) (by omega) (by omega),show (⟨#[114]⟩:ByteArray)=tx [114] from rfl,Cp]
        rfl
      · rw [show plW (rd xs ((0:Nat):Int))=Lib.itoa (rd xs ((0:Nat):Int)) by unfold plW;rw [if_neg cz]] at this
        apply Ev.step
        · intro k
          simp only [BT.l0,Bv]
          rw [if_pos (by omega),if_neg (by omega),if_pos (by omega),if_neg cz,w64 (x:=((0:Nat):Int)+1) (by omega) (by omega)]
        refine (Et (by omega) (by omega)).bind ?_
        rw [Cp,Bv,List.nil_append]
        simp only [if_pos (show ([]:List UInt8).length+(Lib.itoa (rd xs ((0:Nat):Int))).length≤9223372036854775807 by rw [List.length_nil];omega)]
        exact this
    · rw [if_neg c] at this
      by_cases cz:rd xs (j:Int)=0
      · rw [show plW (rd xs (j:Int))=[114] by unfold plW;rw [if_pos cz]] at this
        refine Ev.step (fun k=>?_) this
        simp only [BT.l0,Bv]
        rw [if_pos (by omega),if_pos (by omega),if_pos (by omega),if_pos (by omega),if_pos cz,show (⟨#[32]⟩:ByteArray)=tx [32] from rfl,show (⟨#[114]⟩:ByteArray)=tx [114] from rfl,Cp,Cp,Bv,if_pos (by simp only [List.length_append,List.length_singleton];omega),w64 (x:=(j:Int)+1) (by omega) (by omega)]
        rw [show jb (xs.take j)++[32]++[114]=jb (xs.take j)++32::[114] by simp]
        rfl
      · rw [show plW (rd xs (j:Int))=Lib.itoa (rd xs (j:Int)) by unfold plW;rw [if_neg cz]] at this
        apply Ev.step
        · intro k
          simp only [BT.l0,Bv]
          rw [if_pos (by omega),if_pos (by omega),if_pos (by omega),if_pos (by omega),if_neg cz,w64 (x:=(j:Int)+1) (by omega) (by omega)]
        refine (Et (by omega) (by omega)).bind ?_
        rw [show (⟨#[32]⟩:ByteArray)=tx [32] from rfl,Cp,Cp,Bv,Bv]
        simp only [List.length_append,List.length_singleton]
        rw [show jb (xs.take j)++[32]++Lib.itoa (rd xs (j:Int))=jb (xs.take j)++32::Lib.itoa (rd xs (j:Int)) by simp]
        simp only [if_pos (show (jb (xs.take j)).length+1+(Lib.itoa (rd xs (j:Int))).length≤9223372036854775807 by omega)]
        exact this
theorem MK {xs:List Int} (hx : ∀x∈xs,Sm x) (h1:1≤xs.length) (hl:xs.length≤4) (ps:List Int) (hp : ∀p∈ps,Plc p) (h11:ps.length≤100) : ∀(d j:Nat) (out:List Int),j+d=ps.length→out.length≤j→
    Ev (fun k=>BZ.l0 k xs out ps j) (out++(ps.drop j).filter (fun p => !van xs p)):=by
  intro d
  induction d with
  | zero =>
    intro j out hj ho
    rw [List.drop_of_length_le (by omega)]
    refine Ev.step (f:=fun _=>some out) (fun k=>?_) (by simpa using Ev.now _)
    simp only [BZ.l0]
    rw [if_neg (by omega)]
  | succ d ih =>
    intro j out hj ho
    have hP:=hp _ (Dj (xs:=ps) (j:=j) (by omega))
    rw [CE (show j<ps.length by omega)]
    apply Ev.step
    · intro k
      simp only [BZ.l0]
      rw [if_pos (by omega),if_pos (by omega),w64 (x:=(j:Int)+1) (by omega) (by omega)]
    · refine (GA hP hx h1 (by omega) (by omega)).bind ?_
      by_cases c:van xs (rd ps (j:Int))=true
      · rw [List.filter_cons_of_neg (by simp [c])]
        simp only [if_pos c]
        exact ih (j+1) out (by omega) (by omega)
      · have:=ih (j+1) (out++[rd ps (j:Int)]) (by omega) (by simp;omega)
        rw [List.append_assoc,List.singleton_append] at this
        rw [List.filter_cons_of_pos (by simp [c])]
        simp only [if_neg c,if_pos (show out.length<17592186044416 by omega)]
        exact this
theorem Ij {xs:List Int} (c:BE xs=true):Ev (fun k=>BZ.f k xs) (bad xs):=by
  unfold BZ.f
  have hk:=BO.1 c
  have e1:=EZ (xs:=xs) (by omega)
  rw [if_pos c] at e1
  have:=H8 xs
  exact e1.bind (MK hk.1 hk.2.1 hk.2.2 (plc xs) (fun p hp=>Gv hp) (by omega) (plc xs).length 0 [] (by omega) (by simp))
theorem cores_ok {xs:List Int} (c:BE xs=true):resT xs 1=(CX xs 1,true):=by
  have hk:=BO.1 c
  have c2:BE (CX xs 1)=true:=by
    refine BO.2 ⟨fun y hy=>?_,by simpa [CX] using hk.2.1,by simpa [CX] using hk.2.2⟩
    obtain ⟨x,hx,rfl⟩:=List.mem_map.1 hy
    have hs:=hk.1 x hx
    rw [Int.mul_one]
    have:=Lj (n:=x) hs.1 (by have:=hs.2;omega)
    exact ⟨this.1,Nat.le_trans this.2 hs.2⟩
  unfold resT
  rw [if_pos ⟨c,by decide,by decide,c2⟩]
theorem MT {xs:List Int} (c:BE xs=true):Ev (fun k=>CH.f k xs) (resT xs 1):=by
  have hk:=BO.1 c
  unfold CH.f
  exact (J9 (xs:=xs) 1 (fun x h=>by have:=(hk.1 x h).2;omega) (by omega)).bind (Ev.now _)
theorem NL {xs:List Int} (c:BE xs=true):Ev (fun k=>CP.f k xs) (resT xs 1):=by
  have hk:=BO.1 c
  rw [cores_ok c]
  unfold CP.f
  have e:=Cf (xs:=xs) (by omega)
  rw [c] at e
  refine e.bind ?_
  simp only [if_true]
  have ht:=Hg xs 1 (by decide) (by decide) (fun x h=>⟨(hk.1 x h).1,by have:=(hk.1 x h).2;omega⟩) (by omega) xs.length 0 [] (by omega) rfl
  rw [List.drop_zero,List.nil_append] at ht
  unfold BA.f
  exact ht.bind (Ev.now _)
theorem E4 : ∀(xs:List Int) (acc:Int),acc≤Gl xs acc∧Gl xs acc≤acc+xs.length
  | [],acc=>by simp [Gl]
  | y::ys,acc=>by
    simp only [Gl,List.length_cons]
    split
    · have:=E4 ys (acc+1);omega
    · have:=E4 ys acc;omega
theorem Hm (xs:List Int):0≤less xs∧less xs≤xs.length:=by have:=E4 xs 0;exact ⟨this.1,by have:=this.2;unfold less;omega⟩
theorem Jd (a b p:Int):(GU a b p).natAbs≤1:=by
  unfold GU
  split
  · rcases Lw a b p with e|e<;>rw [e]<;>decide
  · decide
structure Fm (form:List Int):Prop where
  ok:BE form=true
  sm : ∀x∈form,Sm x
  l1:1≤form.length
  l4:form.length≤4
theorem Fm.of {form:List Int} (c:BE form=true):Fm form:=⟨c,(BO.1 c).1,(BO.1 c).2.1,(BO.1 c).2.2⟩
theorem Fm.le {form:List Int} (h:Fm form) {N:Nat} (hN:30≤N) : ∀x∈form,x.natAbs≤N:=fun x hx=>Nat.le_trans (h.sm x hx).2 hN
theorem Fm.mid {form:List Int} (h:Fm form):Mid form:=mid_of (N:=30) (by omega) (h.le (by omega))
theorem Fm.disc {form:List Int} (h:Fm form):(disc form).natAbs≤24300000:=by
  have hb:=Eu h.sm (by have:=h.l4;omega)
  have hdb:=Lj hb.1 (by omega)
  show (Bi (prod form)).1.natAbs≤_
  omega
theorem MC (xs:List Int) (h:xs.length≤4) (p:Int) : -1000≤D7 xs p:=by
  unfold D7
  split
  · have:=mn_le (a:=less xs) (b:=(xs.length:Int)-less xs)
    rcases this.2.2 with e|e<;>rw [e]<;>have:=Hm xs<;>omega
  · split
    · split<;>omega
    · omega
theorem Fm.pall {form:List Int} (h:Fm form):(pall form).natAbs≤1000:=by
  have:=LV (D7 form) (MC form h.l4) (plc form) (form.length:Int) (by omega) (by have:=h.l4;omega)
  show (minL (D7 form) (plc form) form.length).natAbs≤1000
  omega
theorem NK {q:List Int×Bool} (hm:Mid q.1) (hl:q.1.length≤20):(fndT q).length≤440:=by
  unfold fndT
  split
  · exact EI hm hl
  · decide
theorem Gy {q:List Int×Bool} (hm:Mid q.1) (hl:q.1.length≤20):Ev (fun k=>Cz.f k q.1 q.2) (tx (fndT q)):=by
  obtain ⟨l,b⟩:=q
  unfold fndT
  cases b
  · unfold Cz.f
    simp only [Bool.false_eq_true,if_false]
    exact Ev.now _
  · exact found_ev hm (by omega)
theorem LI {q:List Int×Bool}:(if q.2=true then jn q.1++[10] else [110,111,10])=fndT q++[10]:=by
  unfold fndT
  split<;>rfl
theorem ten (a:List UInt8):tx a++(⟨#[10]⟩:ByteArray)=tx (a++[10]):=by rw [show (⟨#[10]⟩:ByteArray)=tx [10] from rfl,Cp]
theorem Mw {form:List Int} (h:Fm form) (w:List UInt8):Ev (fun k=>DG.f k form (tx w)) (tx (oneT form w++[10])):=by
  unfold DG.f oneT
  rw [CT]
  have h1:=h.l1
  have h4:=h.l4
  by_cases c1:w=([115,104,111,119]:List UInt8)
  · simp only [if_pos c1]
    have hj:=EI h.mid (by omega)
    refine (FF h.mid (by omega)).bind ?_
    simp only [Bv,if_pos (show (jn form).length+1≤9223372036854775807 by omega),ten]
    exact Ev.now _
  simp only [if_neg c1]
  by_cases c2:w=([100,105,115,99]:List UInt8)
  · simp only [if_pos c2]
    have hd:=h.disc
    have hj:=Eh (n:=disc form) (by omega)
    have e:=Lt (xs:=form) (by omega)
    rw [if_pos h.ok] at e
    refine e.bind ((Et (n:=disc form) (by omega) (by omega)).bind ?_)
    simp only [Bv,if_pos (show (Lib.itoa (disc form)).length+1≤9223372036854775807 by omega),ten]
    exact Ev.now _
  simp only [if_neg c2]
  by_cases c3:w=([98,97,100]:List UInt8)
  · simp only [if_pos c3]
    have hb:=Of (form:=form)
    have:=l10Bad_l (bad form) hb.1 (by omega) (bad form).length 0 (by omega)
    rw [List.take_zero] at this
    unfold BT.f
    exact ((Ij h.ok).bind this).bind (f:=fun _ t=>some t) (Ev.now _)
  simp only [if_neg c3]
  by_cases c4:w=([122,101,114,111]:List UInt8)
  · simp only [if_pos c4]
    have hz:=LN (form:=form)
    refine (FY (h.le (by omega)) (by omega)).bind ((FF hz.1 (by omega)).bind ?_)
    have hj:=EI hz.1 (by omega)
    simp only [Jr _ (show (jn (resS (zF form)).1).length≤1000000 by omega),Option.bind_some,LI]
    exact Ev.now _
  simp only [if_neg c4]
  by_cases c5:w=([112,108,97,110,101,115]:List UInt8)
  · simp only [if_pos c5]
    have hd:=h.pall
    have hj:=Eh (n:=pall form) (by omega)
    have e:=GZ (xs:=form) (by omega)
    rw [if_pos h.ok] at e
    refine e.bind ((Et (n:=pall form) (by omega) (by omega)).bind ?_)
    simp only [Bv,if_pos (show (Lib.itoa (pall form)).length+1≤9223372036854775807 by omega),ten]
    exact Ev.now _
  simp only [if_neg c5]
  exact Ev.now _
theorem Me {form:List Int} (h:Fm form) (w:List UInt8) (hw:w=([115,104,111,119]:List UInt8)∨w=([100,105,115,99]:List UInt8)∨w=([98,97,100]:List UInt8)∨w=([122,101,114,111]:List UInt8)∨w=([112,108,97,110,101,115]:List UInt8)):Ev (fun k=>ask0 k form (tx w)) (tx (oneT form w)):=by
  have h1:=h.l1
  have h4:=h.l4
  rcases hw with rfl|rfl|rfl|rfl|rfl
  · exact F8 h.mid (by omega)
  · have hd:=h.disc
    have e:=La (xs:=form) (h.le (by omega)) (by omega)
    rw [if_pos h.ok] at e
    show Ev (fun k=>(CN.f k form).bind fun n=>strconv_Itoa.f n) (tx (Lib.itoa (disc form)))
    refine e.bind ?_
    rw [GI (by omega) (by omega)]
    exact Ev.now _
  · have hb:=Of (form:=form)
    have e:=Io (xs:=form) (h.le (by omega)) (by omega)
    rw [if_pos h.ok] at e
    show Ev (fun k=>(BD.f k form).bind fun ps=>if ps.length≤1000000 then (badL ps).bind fun ts=>strings_Join.f ts (tx [32]) else none) (tx (jb (bad form)))
    refine e.bind ?_
    rw [if_pos (by omega),Nx hb.1,Option.bind_some,joinB_eq hb.1 (by omega)]
    exact Ev.now _
  · have hz:=LN (form:=form)
    show Ev (fun k=>(Bx.f k form).bind fun q=>Cz.f k q.1 q.2) (tx (fndT (resS (zF form))))
    exact (F5 (h.le (by omega)) (by omega)).bind (Gy hz.1 (by omega))
  · have hd:=h.pall
    have e:=GY (xs:=form) (h.le (by omega)) (by omega)
    rw [if_pos h.ok] at e
    show Ev (fun k=>(Br.f k form).bind fun n=>strconv_Itoa.f n) (tx (Lib.itoa (pall form)))
    refine e.bind ?_
    rw [GI (by omega) (by omega)]
    exact Ev.now _
theorem Ms {form:List Int} (h:Fm form) (p:Int):Ev (fun k=>DY.f k form p) (tx (atT form p++[10])):=by
  unfold DY.f atT
  refine (EV p).bind ?_
  by_cases c:Dm p=true
  · simp only [if_pos c]
    refine (GA (DV.1 c) h.sm h.l1 (by have:=h.l4;omega) (by have:=h.l4;omega)).bind ?_
    by_cases c2:van form p=true
    · simp only [if_pos c2];exact Ev.now _
    · simp only [if_neg c2];exact Ev.now _
  · simp only [if_neg c];exact Ev.now _
theorem val_len {q:List Int×Int×Bool} (hm:Mid q.1) (hl:q.1.length≤20) (hd:q.2.1.natAbs≤1000000000):(valT q).length≤500:=by
  unfold valT
  split
  · have:=EI hm hl
    have:=Eh (n:=q.2.1) (by omega)
    simp only [List.length_append,List.length_cons,List.length_nil]
    omega
  · decide
theorem F0 {ws:List (List UInt8)} {j:Nat} (h:j<ws.length):rdOf ByteArray.empty (ws.map tx) (j:Int)=tx (ws.getD j []):=by
  unfold rdOf
  simp [List.getD_eq_getElem?_getD,h]
theorem Mi {form:List Int} (h:Fm form) (w:List UInt8) (r:List (List UInt8)):Ev (fun k=>AL.f k form ((w::r).map tx)) (tx (askT form w r++[10])):=by
  have h4:=h.l4
  have hlen:(((w::r).map tx).length:Int)=(r.length:Int)+1:=by simp
  have r0:rdOf ByteArray.empty ((w::r).map tx) 0=tx w:=F0 (ws:=w::r) (j:=0) (by simp)
  have r1:1≤r.length→rdOf ByteArray.empty ((w::r).map tx) 1=tx (r.getD 0 []):=fun e=>F0 (ws:=w::r) (j:=1) (by simp;omega)
  have r2:2≤r.length→rdOf ByteArray.empty ((w::r).map tx) 2=tx (r.getD 1 []):=fun e=>F0 (ws:=w::r) (j:=2) (by simp;omega)
  have r3:3≤r.length→rdOf ByteArray.empty ((w::r).map tx) 3=tx (r.getD 2 []):=fun e=>F0 (ws:=w::r) (j:=3) (by simp;omega)
  generalize (w::r).map tx=L at hlen r0 r1 r2 r3 ⊢
  unfold AL.f askT
  by_cases c0:r.length=0
  · simp only [if_pos c0,if_pos (show (L.length:Int)=1 by omega),if_pos (show 0<(L.length:Int) by omega),r0]
    exact (Mw h w).bind (f:=fun _ t=>some t) (Ev.now _)
  simp only [if_neg c0,if_neg (show ¬(L.length:Int)=1 by omega),if_pos (show 0<(L.length:Int) by omega),r0,CT]
  -- squares
  have q3 : ∀b:Bool,(b=true↔w=([115,113,117,97,114,101,115]:List UInt8)∧r.length=1)→Ev (fun k=>AL.j3 k L b) (tx ((if w=[115,113,117,97,114,101,115]∧r.length=1 then fndT (Gi (numT (r.getD 0 []))) else whW)++[10])):=by
    intro b hb
    by_cases c:w=([115,113,117,97,114,101,115]:List UInt8)∧r.length=1
    · rw [if_pos c,hb.2 c]
      apply Ev.step
      · intro k
        simp only [AL.j3,if_true,if_pos (show 1<(L.length:Int) by omega),r1 (by omega)]
        exact rfl
      have hz:=Jg (numT (r.getD 0 []))
      refine (Ex _).bind ((Hx _ (by have:=Nl (r.getD 0 []);omega)).bind ((FF hz.1 (by omega)).bind ?_))
      have hj:=EI hz.1 (by omega)
      have e:=Jr (Gi (numT (r.getD 0 []))).2 (show (jn (Gi (numT (r.getD 0 []))).1).length≤1000000 by omega)
      rw [LI] at e
      refine Cc (fun k=>?_) (Ev.now _)
      show (Cn.f (tx (jn (Gi (numT (r.getD 0 []))).1)) (Gi (numT (r.getD 0 []))).2).bind _=_
      rw [e]
      rfl
    · rw [if_neg c,Bool.eq_false_iff.2 (fun e=>c (hb.1 e))]
      refine Ev.step (f:=fun _=>some (tx (whW++[10]))) (fun k=>?_) (Ev.now _)
      simp only [AL.j3,Bool.false_eq_true,if_false]
      rfl
  have q2 : ∀b:Bool,(b=true↔w=([118,97,108,117,101]:List UInt8)∧r.length=1)→Ev (fun k=>AL.j2 k form L b) (tx ((if w=[118,97,108,117,101]∧r.length=1 then valT (resV (vF form (numT (r.getD 0 [])))) else if w=[115,113,117,97,114,101,115]∧r.length=1 then fndT (Gi (numT (r.getD 0 []))) else whW)++[10])):=by
    intro b hb
    by_cases c:w=([118,97,108,117,101]:List UInt8)∧r.length=1
    · rw [if_pos c,hb.2 c]
      apply Ev.step
      · intro k
        simp only [AL.j2,if_true,if_pos (show 1<(L.length:Int) by omega),r1 (by omega)]
        exact rfl
      have hz:=MU (form:=form) (t:=numT (r.getD 0 []))
      have hj:=EI hz.1 (by omega)
      have hi:=Eh (n:=(resV (vF form (numT (r.getD 0 [])))).2.1) (by omega)
      refine (Ex _).bind ((NS (h.le (by omega)) (by omega)).bind ((FF hz.1 (by omega)).bind ?_))
      simp only [Bv,if_pos (show (jn (resV (vF form (numT (r.getD 0 [])))).1).length+3≤9223372036854775807 by omega)]
      refine (Et (n:=(resV (vF form (numT (r.getD 0 [])))).2.1) (by omega) (by omega)).bind ?_
      rw [show (⟨#[32,47,32]⟩:ByteArray)=tx [32,47,32] from rfl,Cp,Cp,Bv,Bv]
      have hl3:(jn (resV (vF form (numT (r.getD 0 [])))).1++[32,47,32]).length+(Lib.itoa (resV (vF form (numT (r.getD 0 [])))).2.1).length≤9223372036854775807:=by simp only [List.length_append,List.length_cons,List.length_nil];omega
      have e:=Jr (a:=jn (resV (vF form (numT (r.getD 0 [])))).1++[32,47,32]++Lib.itoa (resV (vF form (numT (r.getD 0 [])))).2.1) (resV (vF form (numT (r.getD 0 [])))).2.2 (by simp only [List.length_append,List.length_cons,List.length_nil];omega)
      simp only [if_pos hl3,e,Option.bind_some]
      rw [show (if (resV (vF form (numT (r.getD 0 [])))).2.2=true then jn (resV (vF form (numT (r.getD 0 [])))).1++[32,47,32]++Lib.itoa (resV (vF form (numT (r.getD 0 [])))).2.1++[10] else [110,111,10])=valT (resV (vF form (numT (r.getD 0 []))))++[10] by unfold valT;split<;>rfl]
      exact Ev.now _
    · rw [if_neg c,Bool.eq_false_iff.2 (fun e=>c (hb.1 e))]
      by_cases cw:w=([115,113,117,97,114,101,115]:List UInt8)
      · refine Ev.step (fun k=>?_) (q3 ((L.length:Int)==2) ⟨fun e=>⟨cw,by have:=beq_iff_eq.1 e;omega⟩,fun e=>beq_iff_eq.2 (by omega)⟩)
        simp only [AL.j2,Bool.false_eq_true,if_false,if_pos (show 0<(L.length:Int) by omega),r0,CT,if_pos cw]
      · refine Ev.step (fun k=>?_) (q3 false ⟨fun e=>(by cases e),fun e=>absurd e.1 cw⟩)
        simp only [AL.j2,Bool.false_eq_true,if_false,if_pos (show 0<(L.length:Int) by omega),r0,CT,if_neg cw]
  have q1 : ∀b:Bool,(b=true↔w=([97,116]:List UInt8)∧r.length=1)→Ev (fun k=>AL.j1 k form L b) (tx ((if w=[97,116]∧r.length=1 then atT form (D6 (r.getD 0 [])) else if w=[118,97,108,117,101]∧r.length=1 then valT (resV (vF form (numT (r.getD 0 [])))) else if w=[115,113,117,97,114,101,115]∧r.length=1 then fndT (Gi (numT (r.getD 0 []))) else whW)++[10])):=by
    intro b hb
    by_cases c:w=([97,116]:List UInt8)∧r.length=1
    · rw [if_pos c,hb.2 c]
      apply Ev.step
      · intro k
        simp only [AL.j1,if_true,if_pos (show 1<(L.length:Int) by omega),r1 (by omega)]
        exact rfl
      exact (GR _).bind ((Ms h _).bind (Ev.now _))
    · rw [if_neg c,Bool.eq_false_iff.2 (fun e=>c (hb.1 e))]
      by_cases cw:w=([118,97,108,117,101]:List UInt8)
      · refine Ev.step (fun k=>?_) (q2 ((L.length:Int)==2) ⟨fun e=>⟨cw,by have:=beq_iff_eq.1 e;omega⟩,fun e=>beq_iff_eq.2 (by omega)⟩)
        simp only [AL.j1,Bool.false_eq_true,if_false,if_pos (show 0<(L.length:Int) by omega),r0,CT,if_pos cw]
      · refine Ev.step (fun k=>?_) (q2 false ⟨fun e=>(by cases e),fun e=>absurd e.1 cw⟩)
        simp only [AL.j1,Bool.false_eq_true,if_false,if_pos (show 0<(L.length:Int) by omega),r0,CT,if_neg cw]
  have q0 : ∀b:Bool,(b=true↔w=([115,121,109,98,111,108]:List UInt8)∧r.length=3)→Ev (fun k=>AL.j0 k form L b) (tx ((if w=[115,121,109,98,111,108]∧r.length=3 then symT (GU (numT (r.getD 0 [])) (numT (r.getD 1 [])) (D6 (r.getD 2 []))) else if w=[97,116]∧r.length=1 then atT form (D6 (r.getD 0 [])) else if w=[118,97,108,117,101]∧r.length=1 then valT (resV (vF form (numT (r.getD 0 [])))) else if w=[115,113,117,97,114,101,115]∧r.length=1 then fndT (Gi (numT (r.getD 0 []))) else whW)++[10])):=by
    intro b hb
    by_cases c:w=([115,121,109,98,111,108]:List UInt8)∧r.length=3
    · rw [if_pos c,hb.2 c]
      apply Ev.step
      · intro k
        simp only [AL.j0,if_true,if_pos (show 1<(L.length:Int) by omega),if_pos (show 2<(L.length:Int) by omega),if_pos (show 3<(L.length:Int) by omega),r1 (by omega),r2 (by omega),r3 (by omega)]
        exact rfl
      refine (Ex _).bind ((Ex _).bind ((GR _).bind ((Kn _ _ _).bind ?_)))
      generalize hs:GU (numT (r.getD 0 [])) (numT (r.getD 1 [])) (D6 (r.getD 2 []))=s
      have hb:s.natAbs≤1:=by rw [← hs];exact Jd _ _ _
      have hi:=Eh (n:=s) (by omega)
      refine (Et (n:=s) (by omega) (by omega)).bind ?_
      simp only [Jr _ (show (Lib.itoa s).length≤1000000 by omega),Option.bind_some]
      rw [show (if (s != 0)=true then Lib.itoa s++[10] else [110,111,10])=symT s++[10] by
        unfold symT
        by_cases e:s=0
        · subst e;rfl
        · rw [if_pos (bne_iff_ne.2 e),if_neg e]]
      exact Ev.now _
    · rw [if_neg c,Bool.eq_false_iff.2 (fun e=>c (hb.1 e))]
      by_cases cw:w=([97,116]:List UInt8)
      · refine Ev.step (fun k=>?_) (q1 ((L.length:Int)==2) ⟨fun e=>⟨cw,by have:=beq_iff_eq.1 e;omega⟩,fun e=>beq_iff_eq.2 (by omega)⟩)
        simp only [AL.j0,Bool.false_eq_true,if_false,if_pos (show 0<(L.length:Int) by omega),r0,CT,if_pos cw]
      · refine Ev.step (fun k=>?_) (q1 false ⟨fun e=>(by cases e),fun e=>absurd e.1 cw⟩)
        simp only [AL.j0,Bool.false_eq_true,if_false,if_pos (show 0<(L.length:Int) by omega),r0,CT,if_neg cw]
  by_cases cw:w=([115,121,109,98,111,108]:List UInt8)
  · simp only [if_pos cw]
    exact q0 ((L.length:Int)==4) ⟨fun e=>⟨cw,by have:=beq_iff_eq.1 e;omega⟩,fun e=>beq_iff_eq.2 (by omega)⟩
  · simp only [if_neg cw]
    exact q0 false ⟨fun e=>(by cases e),fun e=>absurd e.1 cw⟩
theorem MB {w:List UInt8} {n:Nat} (h:EB w=(n:Int)) (hn:1≤n):(n=1∧(w=([98,97,100]:List UInt8)∨w=([99,111,114,101,115]:List UInt8)∨w=([100,105,115,99]:List UInt8)∨w=([112,108,97,110,101,115]:List UInt8)∨w=([115,104,111,119]:List UInt8)∨w=([122,101,114,111]:List UInt8)))∨(n=2∧(w=([97,116]:List UInt8)∨w=([115,113,117,97,114,101,115]:List UInt8)∨w=([116,105,109,101,115]:List UInt8)∨w=([118,97,108,117,101]:List UInt8)))∨(n=4∧w=([115,121,109,98,111,108]:List UInt8)):=by
  unfold EB at h
  by_cases e:[97,116]=w
  · rw [if_pos e] at h;exact .inr (.inl ⟨by omega,.inl e.symm⟩)
  rw [if_neg e] at h;clear e
  by_cases e:[98,97,100]=w
  · rw [if_pos e] at h;exact .inl ⟨by omega,.inl e.symm⟩
  rw [if_neg e] at h;clear e
  by_cases e:[99,111,114,101,115]=w
  · rw [if_pos e] at h;exact .inl ⟨by omega,.inr (.inl e.symm)⟩
  rw [if_neg e] at h;clear e
  by_cases e:[100,105,115,99]=w
  · rw [if_pos e] at h;exact .inl ⟨by omega,.inr (.inr (.inl e.symm))⟩
  rw [if_neg e] at h;clear e
  by_cases e:[112,108,97,110,101,115]=w
  · rw [if_pos e] at h;exact .inl ⟨by omega,.inr (.inr (.inr (.inl e.symm)))⟩
  rw [if_neg e] at h;clear e
  by_cases e:[115,104,111,119]=w
  · rw [if_pos e] at h;exact .inl ⟨by omega,.inr (.inr (.inr (.inr (.inl e.symm))))⟩
  rw [if_neg e] at h;clear e
  by_cases e:[115,113,117,97,114,101,115]=w
  · rw [if_pos e] at h;exact .inr (.inl ⟨by omega,.inr (.inl e.symm)⟩)
  rw [if_neg e] at h;clear e
  by_cases e:[115,121,109,98,111,108]=w
  · rw [if_pos e] at h;exact .inr (.inr ⟨by omega,e.symm⟩)
  rw [if_neg e] at h;clear e
  by_cases e:[116,105,109,101,115]=w
  · rw [if_pos e] at h;exact .inr (.inl ⟨by omega,.inr (.inr (.inl e.symm))⟩)
  rw [if_neg e] at h;clear e
  by_cases e:[118,97,108,117,101]=w
  · rw [if_pos e] at h;exact .inr (.inl ⟨by omega,.inr (.inr (.inr (e.symm)))⟩)
  rw [if_neg e] at h;clear e
  by_cases e:[122,101,114,111]=w
  · rw [if_pos e] at h;exact .inl ⟨by omega,.inr (.inr (.inr (.inr (.inr (e.symm)))))⟩
  rw [if_neg e] at h;clear e
  omega
def outT (q:List Int×List UInt8):List Int×ByteArray:=(q.1,tx (q.2++[10]))
theorem Ib (form:List Int) (q:List Int×Bool):Ev (fun _=>if q.2=true then some (q.1,(⟨#[111,107,10]⟩:ByteArray)) else some (form,(⟨#[110,111,10]⟩:ByteArray))) (outT (Fl form q)):=by
  unfold Fl
  by_cases c:q.2=true
  · simp only [if_pos c];exact Ev.now _
  · simp only [if_neg c];exact Ev.now _
theorem Hr (form:List Int) (q:List Int×Bool):Ev (fun _=>some (if q.2=true then q.1 else form,if q.2=true then (⟨#[111,107]⟩:ByteArray) else (⟨#[110,111]⟩:ByteArray))) ((Fl form q).1,tx (Fl form q).2):=by
  unfold Fl
  by_cases c:q.2=true
  · simp only [if_pos c];exact Ev.now _
  · simp only [if_neg c];exact Ev.now _
theorem Mf (r:List (List UInt8)):Ev (fun k=>GP k (r.map tx)) (r.map numT):=by
  induction r with
  | nil=>exact Ev.now _
  | cons x r ih =>
    simp only [List.map_cons,GP]
    exact (Ee x).bind (ih.bind (Ev.now _))
theorem nums_bd (r:List (List UInt8)) : ∀x∈r.map numT,x.natAbs≤1000000:=by
  intro x hx
  obtain ⟨y,_,rfl⟩:=List.mem_map.1 hx
  have:=Nl y;omega
theorem Mj {form:List Int} (h:Fm form) (w:List UInt8) (r:List (List UInt8)) (hl:r.length≤1000) (hs:w.length≤1000000):Ev (fun k=>C4.f k form ((w::r).map tx)) ((Fx form w r).1,tx (Fx form w r).2):=by
  have h4:=h.l4
  simp only [List.map_cons,C4.f,En,List.length_map]
  unfold Fx
  by_cases cF:w=([102,111,114,109]:List UInt8)
  · subst cF
    simp only [if_pos (show tx ([102,111,114,109]:List UInt8)=E9 from rfl)]
    by_cases cr:r.length=0
    · obtain rfl:=List.length_eq_zero_iff.1 cr
      refine Cc (g:=fun _=>some (form,Gm)) (fun k=>if_pos rfl) ?_
      exact Ev.now _
    · rw [if_pos (show _∧_ from ⟨by first|rfl|trivial,by omega⟩)]
      refine Cc (g:=fun k=>Fa k form (r.map tx)) (fun k=>if_neg (fun e=>cr (by have:=congrArg List.length e;simpa using this))) ?_
      unfold Fa
      simp only [List.length_map,if_pos (show 1≤r.length∧r.length≤1000000 from ⟨by omega,by omega⟩)]
      exact (Mf r).bind ((BI (nums_bd r) (by simpa using hl)).bind (Hr form (r.map numT,BE (r.map numT))))
  simp only [if_neg (show ¬tx w=E9 from fun e=>cF (G9 (b:=([102,111,114,109]:List UInt8)) e))]
  rw [if_neg (show ¬(w=[102,111,114,109]∧0<r.length) from fun e=>cF e.1)]
  by_cases cm:EB w=((r.length+1:Nat):Int)
  · simp only [if_neg (show ¬EB w≠((r.length+1:Nat):Int) from fun e=>e cm)]
    rcases MB cm (by omega) with ⟨hr,hw⟩|⟨hr,hw⟩|⟨hr,hw⟩
    · obtain rfl:r=[]:=List.length_eq_zero_iff.1 (by omega)
      have ct : ¬w=([116,105,109,101,115]:List UInt8):=by rcases hw with rfl|rfl|rfl|rfl|rfl|rfl<;>decide
      simp only [if_neg (show ¬tx w=FU from fun e=>ct (G9 (b:=([116,105,109,101,115]:List UInt8)) e))]
      rw [if_neg (show ¬(w=[116,105,109,101,115]∧([]:List (List UInt8)).length=1) from fun e=>ct e.1)]
      by_cases cc:w=([99,111,114,101,115]:List UInt8)
      · rw [if_pos ⟨cc,rfl⟩]
        simp only [if_pos (show tx w=FT by rw [cc];rfl),List.map_nil]
        unfold Hn
        exact (MT h.ok).bind (Hr form (resT form 1))
      · rw [if_neg (show ¬(w=[99,111,114,101,115]∧([]:List (List UInt8)).length=0) from fun e=>cc e.1)]
        simp only [if_neg (show ¬tx w=FT from fun e=>cc (G9 (b:=([99,111,114,101,115]:List UInt8)) e)),List.map_nil]
        have hw':w=([115,104,111,119]:List UInt8)∨w=([100,105,115,99]:List UInt8)∨w=([98,97,100]:List UInt8)∨w=([122,101,114,111]:List UInt8)∨w=([112,108,97,110,101,115]:List UInt8):=by
          rcases hw with e|e|e|e|e|e
          · exact .inr (.inr (.inl e))
          · exact absurd e cc
          · exact .inr (.inl e)
          · exact .inr (.inr (.inr (.inr e)))
          · exact .inl e
          · exact .inr (.inr (.inr (.inl e)))
        exact (Me h w hw').bind (Ev.now _)
    · obtain ⟨a,rfl⟩ : ∃a,r=[a]:=by
        match r,hr with
        | [a],_=>exact ⟨a,rfl⟩
      have cc : ¬w=([99,111,114,101,115]:List UInt8):=by rcases hw with rfl|rfl|rfl|rfl<;>decide
      simp only [if_neg (show ¬tx w=FT from fun e=>cc (G9 (b:=([99,111,114,101,115]:List UInt8)) e)),List.map_cons,List.map_nil]
      by_cases ct:w=([116,105,109,101,115]:List UInt8)
      · rw [if_pos ⟨ct,rfl⟩]
        simp only [if_pos (show tx w=FU by rw [ct];rfl)]
        unfold HQ
        exact (Ee a).bind ((J9 (numT a) (h.le (by omega)) (by omega)).bind (Hr form (resT form (numT a))))
      rw [if_neg (show ¬(w=[116,105,109,101,115]∧[a].length=1) from fun e=>ct e.1),if_neg (show ¬(w=[99,111,114,101,115]∧[a].length=0) from fun e=>cc e.1)]
      simp only [if_neg (show ¬tx w=FU from fun e=>ct (G9 (b:=([116,105,109,101,115]:List UInt8)) e))]
      refine Ev.bind (g:=fun k=>ask1 k form (tx w) (tx a)) (f:=fun _ t=>some (form,t)) (a:=tx (askT form w [a])) ?_ (Ev.now _)
      rcases hw with rfl|rfl|rfl|rfl
      · show Ev (fun k=>(Cv.f k (tx a)).bind fun n=>(Bs.f k n).bind fun v=>if v=true then (Ck.f k form n).bind fun t=>some (JR true t) else some (JR false false)) (tx (atT form (D6 a)))
        refine (GN a).bind ((Ec _).bind ?_)
        unfold atT
        by_cases c:Dm (D6 a)=true
        · simp only [if_pos c]
          have e:=F7 (xs:=form) (p:=D6 a) (h.le (by omega)) (by omega)
          rw [h.ok,c,Bool.true_and,Bool.true_and] at e
          refine e.bind ?_
          cases van form (D6 a)<;>exact Ev.now _
        · simp only [if_neg c];exact Ev.now _
      · show Ev (fun k=>(Ar.f k (tx a)).bind fun n=>(CO.f n).bind fun q=>Cz.f k q.1 q.2) (tx (fndT (Gi (numT a))))
        refine (Ee a).bind ?_
        simp only [Hh,Option.bind_some]
        have hz:=Jg (numT a)
        exact Gy (q:=Gi (numT a)) hz.1 (by omega)
      · exact absurd rfl ct
      · show Ev (fun k=>(Ar.f k (tx a)).bind fun n=>(Ad.f k form n).bind fun q=>if q.2.2=true then (Bn.f k q.1).bind fun t=>(strconv_Itoa.f q.2.1).bind fun u=>if t.size≤1000000∧u.size≤1000000 then some (Jx t u) else none else some ⟨#[110,111]⟩) (tx (valT (resV (vF form (numT a)))))
        have hz:=MU (form:=form) (t:=numT a)
        have hj:=EI hz.1 (by omega)
        have hi:=Eh (n:=(resV (vF form (numT a))).2.1) (by omega)
        refine (Ee a).bind ((NU (h.le (by omega)) (by omega)).bind ?_)
        unfold valT
        by_cases c:(resV (vF form (numT a))).2.2=true
        · simp only [if_pos c]
          refine (F8 hz.1 (by omega)).bind ?_
          rw [GI (by omega) (by omega)]
          simp only [Option.bind_some,Bv,if_pos (show (jn (resV (vF form (numT a))).1).length≤1000000∧(Lib.itoa (resV (vF form (numT a))).2.1).length≤1000000 from ⟨by omega,by omega⟩)]
          unfold Jx
          rw [show (⟨#[32,47,32]⟩:ByteArray)=tx [32,47,32] from rfl,Cp,Cp]
          exact Ev.now _
        · simp only [if_neg c];exact Ev.now _
    · obtain ⟨a,b,c,rfl⟩ : ∃a b c,r=[a,b,c]:=by
        match r,hr with
        | [a,b,c],_=>exact ⟨a,b,c,rfl⟩
      subst hw
      refine Cc (g:=fun k=>(ask3 k (tx ([115,121,109,98,111,108]:List UInt8)) (tx a) (tx b) (tx c)).bind fun t=>some (form,t)) (fun k=>?_) ?_
      · rw [if_neg (show ¬tx ([115,121,109,98,111,108]:List UInt8)=FU by intro e;exact absurd (G9 (b:=([116,105,109,101,115]:List UInt8)) e) (by decide)),if_neg (show ¬tx ([115,121,109,98,111,108]:List UInt8)=FT by intro e;exact absurd (G9 (b:=([99,111,114,101,115]:List UInt8)) e) (by decide))]
        rfl
      refine Ev.bind (g:=fun k=>ask3 k (tx ([115,121,109,98,111,108]:List UInt8)) (tx a) (tx b) (tx c)) (f:=fun _ t=>some (form,t)) (a:=tx (symT (GU (numT a) (numT b) (D6 c)))) ?_ (Ev.now _)
      show Ev (fun k=>(Ar.f k (tx a)).bind fun n1=>(Ar.f k (tx b)).bind fun n2=>(Cv.f k (tx c)).bind fun n3=>(CQ.f k n1 n2 n3).bind fun sy=>Cz.f k [sy] (sy != 0)) _
      refine (Ee a).bind ((Ee b).bind ((GN c).bind ((JL _ _ _).bind ?_)))
      generalize hs:GU (numT a) (numT b) (D6 c)=s
      have hb:s.natAbs≤1:=by rw [← hs];exact Jd _ _ _
      have e:=Gy (q:=([s],s != 0)) (fun x hx=>by simp at hx;subst hx;omega) (by simp)
      rw [show fndT ([s],s != 0)=symT s by
        unfold fndT symT
        by_cases e:s=0
        · subst e;rfl
        · rw [if_pos (bne_iff_ne.2 e),if_neg e,Nw];simp [spc]] at e
      exact e
  · simp only [if_pos (show EB w≠((r.length+1:Nat):Int) from cm),Bv,if_pos hs]
    have k : ∀ {X:List UInt8} {n:Nat},EB X=((n+1:Nat):Int)→¬(w=X∧r.length=n):=fun hX e=>cm (by rw [e.1,hX,e.2])
    rw [if_neg (k (by decide)),if_neg (k (by decide))]
    have e:askT form w r=whW:=by
      unfold askT
      by_cases c0:r.length=0
      · rw [if_pos c0]
        unfold oneT
        have k0 : ∀ {X:List UInt8},EB X=((0+1:Nat):Int)→¬w=X:=fun hX e=>k hX ⟨e,c0⟩
        rw [if_neg (k0 (by decide)),if_neg (k0 (by decide)),if_neg (k0 (by decide)),if_neg (k0 (by decide)),if_neg (k0 (by decide))]
      · rw [if_neg c0,if_neg (k (by decide)),if_neg (k (by decide)),if_neg (k (by decide)),if_neg (k (by decide))]
    rw [e]
    exact Ev.now _
theorem L9 {form:List Int} (ws:List (List UInt8)) (hl:ws.length≤1001) {R:List Int×ByteArray} : ∀(d j:Nat) (acc:List Int),j+d=ws.length→acc.length≤j→
    Ev (fun k=>if 0<((ws.map tx).length:Int) then (if (rdOf ByteArray.empty (ws.map tx) 0).toList=([102,111,114,109]:List UInt8) then (AB.j1 k form (ws.map tx) (acc++(ws.drop j).map numT) (decide (((acc++(ws.drop j).map numT).length:Int)>0))) else (AB.j1 k form (ws.map tx) (acc++(ws.drop j).map numT) false)) else none) R→
    Ev (fun k=>AB.l0 k form (ws.map tx) acc (j:Int)) R:=by
  intro d
  induction d with
  | zero =>
    intro j acc hj ha hR
    rw [List.drop_of_length_le (by omega),List.map_nil,List.append_nil] at hR
    refine Ev.step (fun k=>?_) hR
    simp only [AB.l0]
    rw [if_neg (by simp;omega)]
  | succ d ih =>
    intro j acc hj ha hR
    have hjl:j<ws.length:=by omega
    rw [List.drop_eq_getElem_cons hjl,List.map_cons,List.append_cons] at hR
    have:=ih (j+1) (acc++[numT ws[j]]) (by omega) (by simp;omega) hR
    apply Ev.step
    · intro k
      simp only [AB.l0]
      rw [if_pos (by simp;omega),if_pos (by omega),F0 hjl,w64 (x:=(j:Int)+1) (by omega) (by omega)]
    rw [show ws.getD j []=ws[j] by simp [List.getD_eq_getElem?_getD,hjl]]
    refine (Ex _).bind ?_
    simp only [if_pos (show acc.length<17592186044416 by omega)]
    exact this
theorem KX {form:List Int} (h:Fm form) (w:List UInt8) (r:List (List UInt8)) (hl:r.length≤1000):Ev (fun k=>AB.f k form ((w::r).map tx)) (outT (Fx form w r)):=by
  have h4:=h.l4
  unfold AB.f
  refine L9 (w::r) (by simp;omega) r.length 1 [] (by simp;omega) (by simp) ?_
  have hA:=Mi h w r
  have r0:rdOf ByteArray.empty ((w::r).map tx) 0=tx w:=F0 (ws:=w::r) (j:=0) (by simp)
  have hlen:(((w::r).map tx).length:Int)=(r.length:Int)+1:=by simp
  generalize (w::r).map tx=L at hA r0 hlen ⊢
  simp only [List.drop_succ_cons,List.drop_zero,List.nil_append,r0,CT,if_pos (show 0<(L.length:Int) by omega)]
  unfold Fx
  have hn:((r.map numT).length:Int)=(r.length:Int):=by simp
  have q3 : ∀b:Bool,(b=true↔w=([99,111,114,101,115]:List UInt8)∧r.length=0)→Ev (fun k=>AB.j3 k form L b) (outT (if w=[99,111,114,101,115]∧r.length=0 then Fl form (resT form 1) else (form,askT form w r))):=by
    intro b hb
    by_cases c:w=([99,111,114,101,115]:List UInt8)∧r.length=0
    · rw [if_pos c,hb.2 c]
      apply Ev.step
      · intro k
        simp only [AB.j3,if_true]
        exact rfl
      exact (NL h.ok).bind (Ib form (resT form 1))
    · rw [if_neg c,Bool.eq_false_iff.2 (fun e=>c (hb.1 e))]
      apply Ev.step
      · intro k
        simp only [AB.j3,Bool.false_eq_true,if_false]
        exact rfl
      exact hA.bind (Ev.now _)
  have q2 : ∀b:Bool,(b=true↔w=([116,105,109,101,115]:List UInt8)∧r.length=1)→Ev (fun k=>AB.j2 k form L (r.map numT) b) (outT (if w=[116,105,109,101,115]∧r.length=1 then Fl form (resT form (numT (r.getD 0 []))) else if w=[99,111,114,101,115]∧r.length=0 then Fl form (resT form 1) else (form,askT form w r))):=by
    intro b hb
    by_cases c:w=([116,105,109,101,115]:List UInt8)∧r.length=1
    · rw [if_pos c,hb.2 c]
      obtain ⟨a,rfl⟩ : ∃a,r=[a]:=by
        match r,c.2 with
        | [a],_=>exact ⟨a,rfl⟩
      apply Ev.step
      · intro k
        simp only [AB.j2,if_true]
        exact if_pos (by simp)
      exact (NX (numT a) (h.le (by omega)) (by omega)).bind (Ib form (resT form (numT a)))
    · rw [if_neg c,Bool.eq_false_iff.2 (fun e=>c (hb.1 e))]
      by_cases cw:w=([99,111,114,101,115]:List UInt8)
      · refine Ev.step (fun k=>?_) (q3 (((r.map numT).length:Int)==0) ⟨fun e=>⟨cw,by have:=beq_iff_eq.1 e;omega⟩,fun e=>beq_iff_eq.2 (by omega)⟩)
        simp only [AB.j2,Bool.false_eq_true,if_false,if_pos (show 0<(L.length:Int) by omega),r0,CT,if_pos cw]
      · refine Ev.step (fun k=>?_) (q3 false ⟨fun e=>(by cases e),fun e=>absurd e.1 cw⟩)
        simp only [AB.j2,Bool.false_eq_true,if_false,if_pos (show 0<(L.length:Int) by omega),r0,CT,if_neg cw]
  have q1 : ∀b:Bool,(b=true↔w=([102,111,114,109]:List UInt8)∧0<r.length)→Ev (fun k=>AB.j1 k form L (r.map numT) b) (outT (if w=[102,111,114,109]∧0<r.length then Fl form (r.map numT,BE (r.map numT)) else if w=[116,105,109,101,115]∧r.length=1 then Fl form (resT form (numT (r.getD 0 []))) else if w=[99,111,114,101,115]∧r.length=0 then Fl form (resT form 1) else (form,askT form w r))):=by
    intro b hb
    by_cases c:w=([102,111,114,109]:List UInt8)∧0<r.length
    · rw [if_pos c,hb.2 c]
      apply Ev.step
      · intro k
        simp only [AB.j1,if_true]
        exact rfl
      exact (Cf (xs:=r.map numT) (by simpa using hl)).bind (Ib form (r.map numT,BE (r.map numT)))
    · rw [if_neg c,Bool.eq_false_iff.2 (fun e=>c (hb.1 e))]
      by_cases cw:w=([116,105,109,101,115]:List UInt8)
      · refine Ev.step (fun k=>?_) (q2 (((r.map numT).length:Int)==1) ⟨fun e=>⟨cw,by have:=beq_iff_eq.1 e;omega⟩,fun e=>beq_iff_eq.2 (by omega)⟩)
        simp only [AB.j1,Bool.false_eq_true,if_false,if_pos (show 0<(L.length:Int) by omega),r0,CT,if_pos cw]
      · refine Ev.step (fun k=>?_) (q2 false ⟨fun e=>(by cases e),fun e=>absurd e.1 cw⟩)
        simp only [AB.j1,Bool.false_eq_true,if_false,if_pos (show 0<(L.length:Int) by omega),r0,CT,if_neg cw]
  by_cases cw:w=([102,111,114,109]:List UInt8)
  · simp only [if_pos cw]
    exact q1 (decide (((r.map numT).length:Int)>0)) ⟨fun e=>⟨cw,by have:=of_decide_eq_true e;omega⟩,fun e=>decide_eq_true (by have:=e.2;omega)⟩
  · simp only [if_neg cw]
    exact q1 false ⟨fun e=>(by cases e),fun e=>absurd e.1 cw⟩
theorem Le {form:List Int} (h:Fm form) {q:List Int×Bool} (hq:q.2=true→BE q.1=true):Fm (Fl form q).1:=by
  unfold Fl
  split
  · exact Fm.of (hq (by assumption))
  · exact h
theorem I9 (form:List Int) (q:List Int×Bool):(Fl form q).2.length≤10:=by
  unfold Fl
  split
  · exact (show okW.length≤10 by decide)
  · exact (show noW.length≤10 by decide)
theorem Nt (form:List Int) (n:Int):(resT form n).2=true→BE (resT form n).1=true:=by
  unfold resT
  by_cases c:BE form=true∧n≠0∧n.natAbs≤5000∧BE (CX form n)=true
  · rw [if_pos c];exact fun _=>c.2.2.2
  · rw [if_neg c];intro e;cases e
theorem I0 {form:List Int} (h:Fm form) (w:List UInt8) (r:List (List UInt8)):Fm (Fx form w r).1:=by
  unfold Fx
  split
  · exact Le h (fun e=>e)
  split
  · exact Le h (Nt _ _)
  split
  · exact Le h (Nt _ _)
  · exact h
theorem one_len {form:List Int} (h:Fm form) (w:List UInt8):(oneT form w).length≤500:=by
  have h4:=h.l4
  unfold oneT
  split
  · have:=EI h.mid (by omega);omega
  split
  · have:=Eh (n:=disc form) (by have:=h.disc;omega);omega
  split
  · have hb:=Of (form:=form)
    have:=LQ hb.1;omega
  split
  · have:=NK (LN (form:=form)).1 (by have:=(LN (form:=form)).2;omega);omega
  split
  · have:=Eh (n:=pall form) (by have:=h.pall;omega);omega
  · decide
theorem ask_len {form:List Int} (h:Fm form) (w:List UInt8) (r:List (List UInt8)):(askT form w r).length≤500:=by
  unfold askT
  split
  · exact one_len h w
  split
  · unfold symT
    split
    · decide
    · have:=Eh (n:=GU (numT (r.getD 0 [])) (numT (r.getD 1 [])) (D6 (r.getD 2 []))) (by have:=Jd (numT (r.getD 0 [])) (numT (r.getD 1 [])) (D6 (r.getD 2 []));omega);omega
  split
  · unfold atT
    split
    · split<;>decide
    · decide
  split
  · have hz:=MU (form:=form) (t:=numT (r.getD 0 []))
    exact val_len hz.1 (by omega) hz.2.2
  split
  · have hz:=Jg (numT (r.getD 0 []))
    have:=NK hz.1 (by omega);omega
  · decide
theorem Jl {form:List Int} (h:Fm form) (w:List UInt8) (r:List (List UInt8)):(Fx form w r).2.length≤500:=by
  unfold Fx
  split
  · have:=I9 form (r.map numT,BE (r.map numT));omega
  split
  · have:=I9 form (resT form (numT (r.getD 0 [])));omega
  split
  · have:=I9 form (resT form 1);omega
  · exact ask_len h w r
theorem FJ (c:UInt8) : ∀(n:Nat) (s:List UInt8),s.length≤n→∃w r,Lib.split s [c]=w::r∧r.length≤s.length∧∀l∈w::r,l.length≤s.length:=by
  intro n
  induction n with
  | zero =>
    intro s hs
    obtain rfl:=List.length_eq_zero_iff.1 (show s.length=0 by omega)
    exact ⟨[],[],Hy (by simp),by simp,by simp⟩
  | succ n ih =>
    intro s hs
    by_cases hc:c∈s
    · obtain ⟨a,b,rfl,ha⟩:=List.eq_append_cons_of_mem hc
      simp only [List.length_append,List.length_cons] at hs
      obtain ⟨w,r,e,h1,h2⟩:=ih b (by omega)
      refine ⟨a,w::r,by rw [JD b ha,e],by simp;omega,fun l hl=>?_⟩
      rcases List.mem_cons.1 hl with rfl|hl
      · simp
      · have:=h2 l hl;simp;omega
    · exact ⟨s,[],Hy hc,by simp,by simp⟩
def runT:List (List UInt8)→List Int→List UInt8→List Int×List UInt8
  | [],form,out=>(form,out)
  | l::ls,form,out=>match Lib.split l [32] with
    | []=>(form,out)
    | w::r=>runT ls (Fx form w r).1 (out++((Fx form w r).2++[10]))
theorem Iz : ∀(ls:List (List UInt8)) (form:List Int) (out:List UInt8),Fm form→(∀l∈ls,l.length≤500)→out.length+501*ls.length≤1000000000→Ev (fun k=>runL k (ls.map tx) form out) (runT ls form out)
  | [],form,out,_,_,_=>runL_nil form out
  | l::ls,form,out,h,hl,ho=>by
    have h5:=hl l (by simp)
    obtain ⟨w,r,e,h1,h2⟩:=FJ 32 l.length l (Nat.le_refl _)
    have hn:=Jl h w r
    simp only [List.length_cons] at ho
    simp only [List.map_cons,runT,e]
    refine runL_one (by omega) (r:=(Fx form w r).2) (by omega) (by omega) ?_ (Iz ls _ _ (I0 h w r) (fun x hx=>hl x (by simp [hx])) (by simp only [List.length_append,List.length_cons,List.length_nil];omega))
    rw [e]
    exact Mj h w r (by omega) (by have:=h2 w (by simp);omega)
def endT (q:List Int×List UInt8):List UInt8:=q.2++([116,101,114,109,115,32]++Lib.itoa (q.1.length:Int)++[10])
theorem run_fm : ∀(ls:List (List UInt8)) (form:List Int) (out:List UInt8),Fm form→Fm (runT ls form out).1
  | [],form,out,h=>h
  | l::ls,form,out,h=>by
    simp only [runT]
    split
    · exact h
    · exact run_fm ls _ _ (I0 h _ _)
theorem MM : ∀(ls:List (List UInt8)) (form:List Int) (out:List UInt8),Fm form→(runT ls form out).2.length≤out.length+501*ls.length
  | [],form,out,h=>by simp [runT]
  | l::ls,form,out,h=>by
    simp only [runT]
    split
    · simp
    · rename_i w r _
      have:=MM ls (Fx form w r).1 (out++((Fx form w r).2++[10])) (I0 h _ _)
      have hn:=Jl h w r
      simp only [List.length_append,List.length_cons,List.length_nil] at this ⊢
      omega
theorem On (lines:List (List UInt8)) (hL:lines.length≤1000) (h5 : ∀l∈lines,l.length≤500) : ∀(d j:Nat) (form:List Int) (out:List UInt8),j+d+1=lines.length→Fm form→out.length+501*d≤1000000000→
    Ev (fun k=>Ce.l0 k form (tx out) (lines.map tx) (j:Int)) (tx (endT (runT (lines.dropLast.drop j) form out))):=by
  intro d
  induction d with
  | zero =>
    intro j form out hj h ho
    have h4:=h.l4
    have hi:=Eh (n:=(form.length:Int)) (by omega)
    rw [List.drop_of_length_le (by rw [List.length_dropLast];omega)]
    apply Ev.step
    · intro k
      simp only [Ce.l0,Bv]
      rw [w64 (x:=(j:Int)+1) (by omega) (by omega),if_neg (by simp;omega),if_pos (by omega)]
    refine (Et (n:=(form.length:Int)) (by omega) (by omega)).bind ?_
    rw [show (⟨#[116,101,114,109,115,32]⟩:ByteArray)=tx [116,101,114,109,115,32] from rfl,show (⟨#[10]⟩:ByteArray)=tx [10] from rfl,Cp,Cp,Cp,Bv,Bv,Bv]
    rw [if_pos (by simp only [List.length_append,List.length_cons,List.length_nil];omega),if_pos (by simp only [List.length_append,List.length_cons,List.length_nil];omega)]
    simp only [runT,endT]
    rw [show out++([116,101,114,109,115,32]++Lib.itoa (form.length:Int)++[10])=out++[116,101,114,109,115,32]++Lib.itoa (form.length:Int)++[10] by simp]
    exact Ev.now _
  | succ d ih =>
    intro j form out hj h ho
    have hjl:j<lines.length:=by omega
    have hjd:j<lines.dropLast.length:=by rw [List.length_dropLast];omega
    have hl5:=h5 _ (List.getElem_mem hjl)
    obtain ⟨w,r,e,h1,h2⟩:=FJ 32 lines[j].length lines[j] (Nat.le_refl _)
    have hn:=Jl h w r
    have:=ih (j+1) (Fx form w r).1 (out++((Fx form w r).2++[10])) (by omega) (I0 h w r) (by simp only [List.length_append,List.length_cons,List.length_nil];omega)
    rw [List.drop_eq_getElem_cons hjd,List.getElem_dropLast]
    simp only [runT,e]
    apply Ev.step
    · intro k
      simp only [Ce.l0]
      rw [w64 (x:=(j:Int)+1) (by omega) (by omega),if_pos (by simp;omega),if_pos (by omega),if_pos (by simp;omega),F0 hjl]
    rw [show lines.getD j []=lines[j] by simp [List.getD_eq_getElem?_getD,hjl]]
    have hc:=J6 lines[j] 32 (by omega)
    rw [e] at hc
    refine hc.bind ((KX h w r (by omega)).bind ?_)
    unfold outT
    rw [Bv,Bv,Cp]
    simp only [if_pos (show out.length+((Fx form w r).2++[10]).length≤9223372036854775807 by simp only [List.length_append,List.length_cons,List.length_nil];omega)]
    exact this
theorem LB:Fm [1]:=Fm.of (by decide)
def execT (s:List UInt8):List UInt8:=if s.length>500 then [116,111,111,32,108,111,110,103,10] else endT (runT (Lib.split s [10]).dropLast [1] [])
theorem KS (s:List UInt8):Ev (fun k=>C5.f k (tx s)) (tx (execT s)):=by
  unfold execT
  by_cases c:s.length>500
  · unfold C5.f
    simp only [Bv,if_pos c]
    exact Ev.now _
  rw [if_neg c]
  obtain ⟨w,r,e,h1,h2⟩:=FJ 10 s.length s (Nat.le_refl _)
  have hdl:(Lib.split s [10]).dropLast.length≤501:=by rw [e,List.length_dropLast];simp;omega
  have hR:=Iz (Lib.split s [10]).dropLast [1] [] LB (fun l hl=>by have:=h2 l (e▸List.dropLast_subset _ hl);omega) (by rw [List.length_nil];omega)
  have hf:=run_fm (Lib.split s [10]).dropLast [1] [] LB
  have hb:=MM (Lib.split s [10]).dropLast [1] [] LB
  have f4:=hf.l4
  unfold C5.f
  simp only [Bv,if_neg c,show (⟨#[10]⟩:ByteArray)=tx [10] from rfl,LD (s:=s) (c:=10) (by omega)]
  simp only [Option.bind_some,← List.map_dropLast]
  refine hR.bind ?_
  generalize runT (Lib.split s [10]).dropLast [1] []=q at hf hb f4 ⊢
  have hl:=Lib.itoa_length_le (q.1.length:Int) (by omega) (by omega)
  rw [GI (n:=(q.1.length:Int)) (by omega) (by omega)]
  simp only [Option.bind_some]
  rw [if_pos ⟨by rw [Bv];omega,by rw [List.length_nil] at hb;omega,by omega⟩,show (⟨#[116,101,114,109,115,32]⟩:ByteArray)=tx [116,101,114,109,115,32] from rfl,Cp,Cp,En]
  exact Ev.now _
theorem K6 (s:List UInt8):Ev (fun k=>Ce.f k (tx s)) (tx (execT s)):=by
  unfold execT Ce.f
  rw [Bv]
  by_cases c:s.length>500
  · simp only [if_pos c,if_pos (show (s.length:Int)>500 by omega)]
    exact Ev.now _
  simp only [if_neg c,if_neg (show ¬(s.length:Int)>500 by omega)]
  obtain ⟨w,r,e,h1,h2⟩:=FJ 10 s.length s (Nat.le_refl _)
  refine (J6 s 10 (by omega)).bind ?_
  have hll:(Lib.split s [10]).length=r.length+1:=by rw [e];rfl
  have:=On (Lib.split s [10]) (by omega) (fun l hl=>by have:=h2 l (e▸hl);omega) r.length 0 [1] [] (by omega) LB (by simp;omega)
  rw [List.drop_zero] at this
  exact this
theorem tx_of (b:ByteArray):b=tx b.data.toList:=by cases b;simp [tx]
theorem holds:laws_FnExactExecute.Pure:=by
  intro a0 _
  refine Ev.rounds ?_
  unfold laws_FnExactExecute.f
  by_cases big:(a0.size:Int)>1048576
  · simp only [if_pos big];exact Ev.now _
  simp only [if_neg big]
  rw [tx_of a0]
  refine (K6 _).bind ((KS _).bind ?_)
  simp only [if_true]
  exact Ev.now _
end Go.Proofs.YtacfcoilmdhgnaaGreatDoor.QFnExactExecute
