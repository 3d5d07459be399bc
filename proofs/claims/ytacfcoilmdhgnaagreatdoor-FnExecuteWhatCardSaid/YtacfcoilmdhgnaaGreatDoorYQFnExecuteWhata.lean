/- What a script writes, and that unknown lines and wrong forms change nothing. -/
import Derived.Test.YtacfcoilmdhgnaaGreatDoorYQFnExecuteWhata0
set_option linter.unusedVariables false
set_option linter.unusedSimpArgs false
namespace Go.Proofs.YtacfcoilmdhgnaaGreatDoor.QFnExecuteWhat
open Go.RowKit Go.Proofs.YtacfcoilmdhgnaaGreatDoor.PFnExecuteWhat Go.Proofs.YtacfcoilmdhgnaaGreatDoorW.PrintWords Go.Proofs.YtacfcoilmdhgnaaGreatDoorW.PrintLast Go.Proofs.YtacfcoilmdhgnaaGreatDoorW.PrintMore Locg
theorem ND {a b c d:Int} (ha:Sm a) (hb:Sm b) (hc:Sm c) (hd:Sm d) : ∀(n:Nat) (x:Int),0≤x→x+n=4→Ev (fun k=>Aq.l0 k [a,b,c,d] x) (resS (z4x a b c d n x)):=by
 intro n
 induction n with
 | zero =>
  intro x hx hn
  simp only [z4x]
  refine Ev.step (f:=fun _=>some ([],false)) (fun k=>?_) (Ev.now _)
  simp only [Aq.l0]
  rw [if_neg (by omega)]
 | succ n ih =>
  intro x hx hn
  simp only [z4x]
  have:=Oi ha hb hc hd hx (by omega) (ih (x+1) (by omega) (by omega)) 4 0 (by omega) (by omega)
  refine Ev.step (f:=fun k=>Aq.l1 k [a,b,c,d] x 0) (fun k=>?_) ?_
  ·simp only [Aq.l0]
   rw [if_pos (by omega)]
  ·cases hh:z4y a b c d x 4 0 with
   | some v=>rw [hh] at this;exact this
   | none=>rw [hh] at this;exact this
theorem Gr {f:List Int} (hx : ∀x∈f,x.natAbs≤1000000) (hl:f.length≤100):Ev (fun k=>Ck.f k f) (resS (zF f)):=by
 unfold Ck.f
 by_cases c:BK f=true
 ·have h:=BP.1 c
  match f,h,c,hx with
  | [a],h,c,hx =>
   have e:zF [a]=none:=by unfold zF;rw [if_pos c]
   rw [e]
   refine (BZ (by simp)).bind ?_
   rw [c]
   exact Cn (g:=fun _=>some ([],false)) (fun k=>by rw [if_pos rfl,if_neg (by simp),if_neg (by simp),if_neg (by simp)]) (Ev.now _)
  | [a,b],h,c,hx =>
   have ha:=h.1 a (by simp)
   have hb:=h.1 b (by simp)
   refine (BZ (by simp)).bind ?_
   rw [c]
   refine Cn (fun k=>by rw [if_pos rfl,if_pos (by simp),if_pos (by simp)]) ?_
   refine (DT ha.1 (by have:=ha.2;omega)).bind ?_
   refine Cn (fun k=>if_pos (by simp)) ?_
   refine (DT hb.1 (by have:=hb.2;omega)).bind ?_
   have k1:=E4 ha
   have k2:=E4 hb
   rw [w64 (x:=(Bv a).1+(Bv b).1) (by omega) (by omega)]
   obtain ⟨t1,t2⟩:=two_bd ha hb
   by_cases c1:(Bv a).1+(Bv b).1=0
   ·have e:zF [a,b]=some (DM [(Bv b).2,(Bv a).2]):=by unfold zF;rw [if_pos c];exact if_pos c1
    rw [e]
    exact Cn (fun k=>if_pos c1) ((Ga t1 t2 (by simp)).bind (Ev.now _))
   ·have e:zF [a,b]=none:=by unfold zF;rw [if_pos c];exact if_neg c1
    rw [e]
    exact Cn (fun k=>if_neg c1) (Ev.now _)
  | [a,b,d],h,c,hx =>
   have e:zF [a,b,d]=z3 a b d:=by unfold zF;rw [if_pos c]
   rw [e]
   refine (BZ (by simp)).bind ?_
   rw [c]
   refine Cn (fun k=>by rw [if_pos rfl,if_neg (by simp),if_pos (by simp)]) ?_
   exact (Hl (h.1 a (by simp)) (h.1 b (by simp)) (h.1 d (by simp))).bind (Ev.now _)
  | [a,b,d,g],h,c,hx =>
   have e:zF [a,b,d,g]=z4 a b d g:=by unfold zF;rw [if_pos c]
   rw [e]
   refine (BZ (by simp)).bind ?_
   rw [c]
   refine Cn (fun k=>by rw [if_pos rfl,if_neg (by simp),if_neg (by simp),if_pos (by simp)]) ?_
   exact (ND (h.1 a (by simp)) (h.1 b (by simp)) (h.1 d (by simp)) (h.1 g (by simp)) 4 0 (by omega) (by omega)).bind (Ev.now _)
  | [],h,c,hx=>simp at h
  | _::_::_::_::_::_,h,c,hx=>simp at h
 ·have e:zF f=none:=by unfold zF;rw [if_neg c]
  rw [e]
  refine (BZ (by omega)).bind ?_
  rw [Bool.eq_false_iff.2 c]
  exact Cn (fun k=>if_neg (by simp)) (Ev.now _)
def resV:Option (List Int×Int)→List Int×Int×Bool
 | some o=>(o.1,o.2,true)
 | none=>([],0,false)
theorem implVF2 {g d:Int} (hg:g≠0) (xs:List Int) (hx : ∀x∈xs,x.natAbs≤1000000000000) (hd:d.natAbs≤1000000000000) (hl:xs.length≤1000) : ∀(m j:Nat) (out:List Int),j+m=xs.length→out.length≤5000+j→
  Ev (fun k=>Ad.l2 k d g out xs (xs.length:Int) j) (out++(xs.drop j).map (fun x=>x.tdiv g),d.tdiv g,true):=by
 intro m
 induction m with
 | zero =>
  intro j out hj ho
  rw [List.drop_of_length_le (by omega)]
  refine Ev.step (f:=fun _=>some (out,d.tdiv g,true)) (fun k=>?_) (by simpa using Ev.now _)
  simp only [Ad.l2]
  rw [if_neg (by omega),if_neg hg,Gk (by omega)]
 | succ m ih =>
  intro j out hj ho
  rw [CQ (show j<xs.length by omega),List.map_cons]
  have hm:=hx _ (DA (xs:=xs) (j:=j) (by omega))
  have h2:=ih (j+1) (out++[(rd xs (j:Int)).tdiv g]) (by omega) (by simp;omega)
  rw [List.append_assoc] at h2
  refine Ev.step (fun k=>?_) h2
  simp only [Ad.l2]
  rw [if_pos (by omega),if_pos (by omega),if_pos (by omega),if_neg hg,if_pos (by omega),Gk (by omega),w64 (x:=(j:Int)+1) (by omega) (by omega)]
  rfl
theorem N5 {out:List Int} {d:Int} (hne : ∃x∈out++[d],x≠0) (hx : ∀x∈out,x.natAbs≤1000000000000) (hdb:d.natAbs≤1000000000000) (hl:out.length≤1000) :
  Ev (fun k=>Ad.j3 k out d) ((lowF out d).1,(lowF out d).2,true):=by
 have hall : ∀x∈out++[d],x.natAbs≤1000000000000:=by
  intro x h
  rcases List.mem_append.1 h with k|k
  ·exact hx x k
  ·simp at k;subst k;exact hdb
 have g0:=J0 hne
 have g1:=LI hne hall
 have g2:=(Eo (out++[d])).1
 have hs:sgG d (gcdF (out++[d]))≠0:=by unfold sgG;split<;>omega
 have fin:=implVF2 hs out hx hdb hl out.length 0 [] (by omega) (by simp)
 rw [List.drop_zero,List.nil_append] at fin
 have fin2:Ev (fun k=>Ad.j4 k out d (sgG d (gcdF (out++[d])))) ((lowF out d).1,(lowF out d).2,true):=Ev.step (fun k=>by simp only [Ad.j4];rfl) fin
 apply Ev.step
 ·intro k
  simp only [Ad.j3]
  unfold Bn.f
  rw [if_pos (by omega),Option.bind_some,if_pos (by omega)]
 refine (Pu (out++[d]) (fun x h=>by have:=hall x h;omega) (by simp;omega)).bind ?_
 refine Cn (fun k=>?_) fin2
 unfold sgG
 by_cases c:d<0
 ·rw [if_pos c,if_pos c,w64 (x := -gcdF (out++[d])) (by omega) (by omega)]
 ·rw [if_neg c,if_neg c]
theorem Eu (v:List Int) (i:Nat):rd v (i:Int)=v.getD i 0:=by unfold rd;simp
theorem implVF1 {t a:Int} {v:List Int} {i:Nat} {d:Int} (hv : ∀x∈v,x.natAbs≤1000000) (hl:v.length≤1000) (hi:i<v.length) (ht:t.natAbs≤100) (ha:a.natAbs≤100) (hd:d≠0) (hdb:d.natAbs≤1000000000) :
  ∀(m j:Nat) (out:List Int),j+m=v.length→out.length=j→(∀x∈out,x.natAbs≤1000000000)→
  out=(v.take j).map (fun x=>x*(t-a))→
  Ev (fun k=>Ad.l1 k t out d i a v (v.length:Int) j)
   ((lowF ((v.map fun x=>x*(t-a)).set i (v.getD i 0*(t-a)+d)) d).1,(lowF ((v.map fun x=>x*(t-a)).set i (v.getD i 0*(t-a)+d)) d).2,true):=by
 have bd : ∀x∈v,(x*(t-a)).natAbs≤200000000:=fun x h=>by
  rw [Int.natAbs_mul]
  have:=Nat.mul_le_mul (hv x h) (show (t-a).natAbs≤200 by omega);omega
 intro m
 induction m with
 | zero =>
  intro j out hj ho hob he
  have hgi:(v.getD i 0).natAbs≤1000000:=by rw [List.getD_eq_getElem?_getD,List.getElem?_eq_getElem hi];exact hv _ (List.getElem_mem _)
  have hbi:(v.getD i 0*(t-a)).natAbs≤200000000:=by rw [List.getD_eq_getElem?_getD,List.getElem?_eq_getElem hi];exact bd _ (List.getElem_mem _)
  have e:out=v.map fun x=>x*(t-a):=by rw [he,List.take_of_length_le (by omega)]
  have er:rd out (i:Int)=v.getD i 0*(t-a):=by rw [e,Eu,getD_map _ _ _ hi]
  refine Ev.step (fun k=>?_) (N5 (out:=(v.map fun x=>x*(t-a)).set i (v.getD i 0*(t-a)+d)) ⟨d,by simp,hd⟩ (fun x hx=>?_) (by omega) (by simp;omega))
  ·simp only [Ad.l1]
   rw [if_neg (by omega),if_pos (by omega),if_pos (by omega),er,w64 (x:=v.getD i 0*(t-a)+d) (by omega) (by omega),e]
   rfl
  ·rcases List.mem_or_eq_of_mem_set hx with k|k
   ·obtain ⟨y,hy,rfl⟩:=List.mem_map.1 k
    have:=bd y hy;omega
   ·subst k;omega
 | succ m ih =>
  intro j out hj ho hob he
  have hm:=hv _ (DA (xs:=v) (j:=j) (by omega))
  have hb:=bd _ (DA (xs:=v) (j:=j) (by omega))
  refine Ev.step (fun k=>?_) (ih (j+1) (out++[rd v (j:Int)*(t-a)]) (by omega) (by simp;omega) (fun x hx=>?_) ?_)
  ·simp only [Ad.l1]
   rw [if_pos (by omega),if_pos (by omega),if_pos (by omega),if_pos (by omega),w64 (x:=t-a) (by omega) (by omega),w64 (x:=rd v (j:Int)*(t-a)) (by omega) (by omega),w64 (x:=(j:Int)+1) (by omega) (by omega)]
   rfl
  ·rcases List.mem_append.1 hx with k|k
   ·exact hob x k
   ·simp at k;subst k;omega
  ·rw [List.take_add_one,List.map_append,← he,List.getElem?_eq_getElem (show j<v.length by omega)]
   congr 1
   simp only [Option.toList,List.map_cons,List.map_nil]
   rw [Eu,List.getD_eq_getElem?_getD,List.getElem?_eq_getElem (show j<v.length by omega)]
   rfl
theorem ax_low {v:List Int} {i:Nat} (h:i<axF v):v.getD i 0=0:=by
 have h2:=List.not_of_lt_findIdx (p:=fun x:Int=>decide (x≠0)) (xs:=v) h
 have hl:i<v.length:=Nat.lt_of_lt_of_le h List.findIdx_le_length
 rw [List.getD_eq_getElem?_getD,List.getElem?_eq_getElem hl]
 simpa using h2
theorem implVF0 {f v:List Int} {t:Int} (hf : ∀x∈f,x.natAbs≤100) (hl:v.length=f.length) (hl2:v.length≤100) (hv : ∀x∈v,x.natAbs≤1000000) (hn : ∃x∈v,x≠0) (hf0 : ∀x∈f,x≠0) (ht:t.natAbs≤100) :
  ∀m j:Nat,j+m=axF v→Ev (fun k=>Ad.l0 k f t [] v j) ((lowF (outF f v t).1 (outF f v t).2).1,(lowF (outF f v t).1 (outF f v t).2).2,true):=by
 obtain ⟨a1,a2⟩:=Hx hn
 have hfi:(f.getD (axF v) 0).natAbs≤100∧f.getD (axF v) 0≠0:=by
  rw [List.getD_eq_getElem?_getD,List.getElem?_eq_getElem (by omega:axF v<f.length)]
  exact ⟨hf _ (List.getElem_mem _),hf0 _ (List.getElem_mem _)⟩
 have hvi:(v.getD (axF v) 0).natAbs≤1000000:=by
  rw [List.getD_eq_getElem?_getD,List.getElem?_eq_getElem a1]
  exact hv _ (List.getElem_mem _)
 have hd:(2*f.getD (axF v) 0*v.getD (axF v) 0).natAbs≤200000000:=by
  rw [Int.natAbs_mul]
  have:=Nat.mul_le_mul (show (2*f.getD (axF v) 0).natAbs≤200 by omega) hvi;omega
 have hd0:2*f.getD (axF v) 0*v.getD (axF v) 0≠0:=Int.mul_ne_zero (Int.mul_ne_zero (by omega) hfi.2) a2
 intro m
 induction m with
 | zero =>
  intro j hj
  obtain rfl:j=axF v:=by omega
  refine Ev.step (fun k=>?_) (implVF1 (t:=t) (a:=f.getD (axF v) 0) (i:=axF v) hv (by omega) a1 ht hfi.1 hd0 (by omega) v.length 0 [] (by omega) rfl (by simp) (by simp))
  simp only [Ad.l0]
  rw [if_pos (by omega),if_pos (by omega),Eu,if_neg a2,if_pos (by omega),Eu,w64 (x:=2*f.getD (axF v) 0) (by omega) (by omega),w64 (x:=2*f.getD (axF v) 0*v.getD (axF v) 0) (by omega) (by omega)]
  rfl
 | succ m ih =>
  intro j hj
  refine Ev.step (fun k=>?_) (ih (j+1) (by omega))
  simp only [Ad.l0]
  rw [if_pos (by omega),if_pos (by omega),Eu,if_pos (ax_low (by omega)),w64 (x:=(j:Int)+1) (by omega) (by omega)]
  rfl
theorem Ko {f:List Int} {t:Int} (h:(BK f&&decide (f.length≤3)&&tOk t)=false):vF f t=none:=by unfold vF;rw [if_neg (by simp [h])]
theorem Pq {f:List Int} {t:Int} (h:(BK f&&decide (f.length≤3)&&tOk t)=true):vF f t=match zF f with
  | some v=>some (lowF (outF f v t).1 (outF f v t).2)
  | none=>match zF (f++[-t]) with
   | some w=>some (lowF (w.take f.length) (w.getD f.length 0))
   | none=>none:=by
 unfold vF
 rw [if_pos h]
 cases zF f with
 | some v=>rfl
 | none=>cases zF (f++[-t])<;>rfl
theorem OL {f:List Int} {t:Int} (hf : ∀x∈f,x.natAbs≤100) (hl:f.length≤100):Ev (fun k=>Ad.f k f t) (resV (vF f t)):=by
 have stop:vF f t=none→Ev (fun k=>Ad.j0 k f t true) (resV (vF f t)):=by
  intro e
  rw [e]
  refine Ev.step (f:=fun _=>some ([],0,false)) (fun k=>?_) (Ev.now _)
  simp only [Ad.j0]
  rw [if_pos trivial]
 unfold Ad.f
 refine (BR (fun x h=>by have:=hf x h;omega) (by omega)).bind ?_
 by_cases c1:BK f=true
 ·by_cases c2:f.length≤3
  ·refine Cn (g:=fun k=>Ad.j0 k f t (!(tOk t))) (fun k=>by rw [if_pos c1,if_neg (by omega),I3,Option.bind_some]) ?_
   by_cases c3:tOk t=true
   ·rw [c3]
    have hall:(BK f&&decide (f.length≤3)&&tOk t)=true:=by rw [c1,c3];simp [c2]
    have hs:=(BP.1 c1).1
    have ht':=(LZ.1 c3).2
    have ht:t.natAbs≤100:=by omega
    have e:=Pq hall
    apply Ev.step
    ·intro k
     simp only [Ad.j0]
     rw [if_neg (by simp)]
    refine (Gp (fun x h=>by have:=hf x h;omega) hl).bind ?_
    cases hz:zF f with
    | some v =>
     rw [hz] at e
     simp only at e
     rw [e]
     obtain ⟨_,l2,l4,z1,z2,z3',z4'⟩:=MV hz
     exact Cn (fun k=>if_pos rfl) (implVF0 hf z1 (by omega) z4' z3' (fun x h=>(hs x h).1) ht (axF v) 0 (by omega))
    | none =>
     rw [hz] at e
     simp only at e
     refine Cn (g:=fun k=>(BI.f k (f++[-t])).bind fun bt6=>(if bt6.2=true then (if 0≤(f.length:Int) then (if (f.length:Int)≤(bt6.1.length:Int) then (if (f.length:Int)<(bt6.1.length:Int) then (Ad.j3 k (bt6.1.take ((f.length:Int):Int).toNat) (rd bt6.1 (f.length:Int))) else none) else none) else none) else some (([]:List Int),0,false))) (fun k=>?_) ?_
     ·rw [if_neg (by simp [resS])]
      unfold Bn.f
      rw [if_pos (by omega),Option.bind_some,if_pos (by omega),w64 (x := -t) (by omega) (by omega)]
     refine (Gp (f:=f++[-t]) (fun x h=>?_) (by simp;omega)).bind ?_
     ·rcases List.mem_append.1 h with k|k
      ·have:=hf x k;omega
      ·simp at k;subst k;omega
     cases hw:zF (f++[-t]) with
     | none =>
      rw [hw] at e
      simp only at e
      rw [e]
      exact Cn (fun k=>if_neg (by simp [resS])) (Ev.now _)
     | some w =>
      rw [hw] at e
      simp only at e
      rw [e]
      obtain ⟨w0,w1,w2⟩:=vF_w hw
      refine Cn (fun k=>?_) (N5 (out:=w.take f.length) (d:=w.getD f.length 0) w0 (fun x h=>by have:=w2 x (List.mem_of_mem_take h);omega) ?_ (by simp;omega))
      ·rw [show resS (some w)=(w,true) from rfl,if_pos rfl]
       dsimp only
       rw [if_pos (by omega),if_pos (by omega),if_pos (by omega),Eu,Int.toNat_natCast]
      ·rw [List.getD_eq_getElem?_getD,List.getElem?_eq_getElem (by omega:f.length<w.length)]
       have:=w2 _ (List.getElem_mem (by omega:f.length<w.length))
       simp only [Option.getD_some];omega
   ·rw [Bool.eq_false_iff.2 c3]
    exact stop (Ko (by rw [Bool.eq_false_iff.2 c3];simp))
  ·exact Cn (fun k=>by rw [if_pos c1,if_pos (by omega)]) (stop (Ko (by simp [c2])))
 ·exact Cn (fun k=>by rw [if_neg c1]) (stop (Ko (by rw [Bool.eq_false_iff.2 c1];simp)))
theorem l7col {xs:List Int} (hx : ∀x∈xs,x.natAbs≤1000000000000) (hl:xs.length≤1000) {d:Int} {v:List (List Int)×Int} : ∀(m j:Nat) (g:Int),j+m=xs.length→g.natAbs≤1000000000000→(1≤j→0≤g)→
  Ev (fun k=>AO.l0 k [xs] d (if j=xs.length then g else gcdL (xs.drop j) g) 1) v→(1≤xs.length)→Ev (fun k=>AO.l1 k [xs] d g 0 j) v:=by
 have w1:wrap64 (0+1)=1:=by decide +kernel
 have r0:G4 [xs] 0=xs:=rfl
 intro m
 induction m with
 | zero =>
  intro j g hj hg h0 hv h1
  rw [if_pos (by omega)] at hv
  refine Ev.step (fun k=>?_) hv
  simp only [AO.l1]
  rw [if_pos (by omega),if_pos (by simp),r0,if_neg (by omega),w1]
 | succ m ih =>
  intro j g hj hg h0 hv h1
  have hm:=hx _ (DA (xs:=xs) (j:=j) (by omega))
  have hb:(gI g (rd xs (j:Int))).natAbs≤1000000000000:=by
   have k0:=DD g (rd xs (j:Int))
   by_cases c:g=0
   ·by_cases c2:rd xs (j:Int)=0
    ·rw [c,c2];unfold gI;simp
    ·have:=L9 (b:=g) c2;rw [Gh] at this;omega
   ·have:=L9 (b:=rd xs (j:Int)) c;omega
  apply Ev.step
  ·intro k
   simp only [AO.l1]
   rw [if_pos (by omega),if_pos (by simp),r0,if_pos (by omega),if_pos (by omega)]
  refine (JE (a:=g) (b:=rd xs (j:Int)) (by omega) (by omega)).bind ?_
  rw [w64 (x:=(j:Int)+1) (by omega) (by omega)]
  refine ih (j+1) (gI g (rd xs (j:Int))) (by omega) hb (fun _=>DD _ _) ?_ h1
  rw [if_neg (by omega),CQ (show j<xs.length by omega)] at hv
  simp only [gcdL] at hv
  by_cases c:j+1=xs.length
  ·rw [if_pos c]
   rw [List.drop_of_length_le (by omega)] at hv
   exact hv
  ·rw [if_neg c];exact hv
theorem l7out {xs:List Int} (hx : ∀x∈xs,x.natAbs≤1000000000000) (hl:xs.length≤1000) {s e:Int} (hs:s≠0) : ∀(m j:Nat) (out:List Int),j+m=xs.length→out.length=j→
  Ev (fun k=>AO.l3 k [xs] s 0 out j [] e) ([out++(xs.drop j).map fun x=>x.tdiv s],e):=by
 have w1:wrap64 (0+1)=1:=by decide +kernel
 have r0:G4 [xs] 0=xs:=rfl
 intro m
 induction m with
 | zero =>
  intro j out hj ho
  rw [List.drop_of_length_le (by omega)]
  refine Ev.step (f:=fun k=>AO.l2 k [xs] s 1 [out] e) (fun k=>?_) ?_
  ·simp only [AO.l3]
   rw [if_pos (by omega),if_pos (by simp),r0,if_neg (by omega),if_pos (by simp),w1]
   rfl
  ·refine Ev.step (f:=fun _=>some ([out],e)) (fun k=>?_) (by simpa using Ev.now _)
   simp only [AO.l2]
   rw [if_neg (by simp)]
 | succ m ih =>
  intro j out hj ho
  rw [CQ (show j<xs.length by omega),List.map_cons]
  have hm:=hx _ (DA (xs:=xs) (j:=j) (by omega))
  have h2:=ih (j+1) (out++[(rd xs (j:Int)).tdiv s]) (by omega) (by simp;omega)
  rw [List.append_assoc] at h2
  refine Ev.step (fun k=>?_) h2
  simp only [AO.l3]
  rw [if_pos (by omega),if_pos (by simp),r0,if_pos (by omega),if_pos (by omega),if_neg hs,if_pos (by omega),Gk (by omega),w64 (x:=(j:Int)+1) (by omega) (by omega)]
  rfl
theorem gcd_row {xs:List Int} {d:Int} (h1:1≤xs.length):gcdL xs d=gcdF (xs++[d]):=by
 match xs,h1 with
 | x::xs,_ =>
  have e:gcdL (x::xs) d=gcdF (d::x::xs):=by
   unfold gcdF
   simp only [gcdL]
   have:gI 0 d=absI d:=by unfold gI absI;rw [Int.gcd_zero_left]
   rw [this,LF]
  rw [e]
  exact Oj (fun y=>by simp [or_comm,or_assoc,or_left_comm])
theorem Mm {xs:List Int} {d:Int} (hx : ∀x∈xs,x.natAbs≤1000000000000) (hl:xs.length≤1000) (h1:1≤xs.length) (hne : ∃x∈xs++[d],x≠0) (hdb:d.natAbs≤1000000000000):Ev (fun k=>Dk.f k xs d) (lowF xs d):=by
 unfold Dk.f
 have hall : ∀x∈xs++[d],x.natAbs≤1000000000000:=by
  intro x h
  rcases List.mem_append.1 h with k|k
  ·exact hx x k
  ·simp at k;subst k;exact hdb
 have g0:=J0 hne
 have g1:=LI hne hall
 have g2:=(Eo (xs++[d])).1
 have hs:sgG d (gcdF (xs++[d]))≠0:=by unfold sgG;split<;>omega
 have fin:Ev (fun k=>AO.f k [xs] d) ([(lowF xs d).1],(lowF xs d).2):=by
  unfold AO.f
  refine Ev.step (f:=fun k=>AO.l1 k [xs] d d 0 (0:Nat)) (fun k=>?_) ?_
  ·simp only [AO.l0]
   rw [if_pos (by simp)]
   rfl
  refine l7col hx hl xs.length 0 d (by omega) (by omega) (by omega) ?_ h1
  rw [if_neg (by omega),List.drop_zero,gcd_row h1]
  refine Ev.step (f:=fun k=>AO.j2 k [xs] d (sgG d (gcdF (xs++[d])))) (fun k=>?_) ?_
  ·simp only [AO.l0]
   rw [if_neg (by simp)]
   unfold sgG
   by_cases c:d<0
   ·rw [if_pos c,if_pos c,w64 (x := -gcdF (xs++[d])) (by omega) (by omega)]
   ·rw [if_neg c,if_neg c]
  refine Ev.step (f:=fun k=>AO.l2 k [xs] (sgG d (gcdF (xs++[d]))) 0 [] (d.tdiv (sgG d (gcdF (xs++[d]))))) (fun k=>?_) ?_
  ·simp only [AO.j2]
   rw [if_neg hs,Gk (by omega)]
  refine Ev.step (f:=fun k=>AO.l3 k [xs] (sgG d (gcdF (xs++[d]))) 0 [] (0:Nat) [] (d.tdiv (sgG d (gcdF (xs++[d]))))) (fun k=>?_) ?_
  ·simp only [AO.l2]
   rw [if_pos (by simp)]
   rfl
  have:=l7out hx hl (e:=d.tdiv (sgG d (gcdF (xs++[d])))) hs xs.length 0 [] (by omega) rfl
  rw [List.drop_zero,List.nil_append] at this
  exact this
 refine fin.bind ?_
 exact Cn (fun k=>if_pos (by simp)) (Ev.now _)
theorem axis_ev {v:List Int} (hl:v.length≤100) (hn : ∃x∈v,x≠0):Ev (fun k=>Cx.f k v) (axF v:Int):=by
 obtain ⟨a1,a2⟩:=Hx hn
 unfold Cx.f
 have : ∀m j:Nat,j+m=axF v→Ev (fun k=>Cx.l0 k v j) (axF v:Int):=by
  intro m
  induction m with
  | zero =>
   intro j hj
   obtain rfl:j=axF v:=by omega
   refine Ev.step (f:=fun _=>some (axF v:Int)) (fun k=>?_) (Ev.now _)
   simp only [Cx.l0]
   rw [if_pos (by omega),if_pos (by omega),Eu,if_neg a2]
  | succ m ih =>
   intro j hj
   refine Ev.step (fun k=>?_) (ih (j+1) (by omega))
   simp only [Cx.l0]
   rw [if_pos (by omega),if_pos (by omega),Eu,if_pos (ax_low (by omega)),w64 (x:=(j:Int)+1) (by omega) (by omega)]
   rfl
 exact this (axF v) 0 (by omega)
theorem Pv {f v:List Int} {t:Int} {j:Nat} (hj:j<v.length):(outF f v t).1.getD j 0=if j=axF v then v.getD j 0*(t-f.getD (axF v) 0)+(outF f v t).2 else v.getD j 0*(t-f.getD (axF v) 0):=by
 unfold outF
 simp only
 by_cases c:j=axF v
 ·rw [if_pos c,← c,List.getD_eq_getElem?_getD,List.getElem?_set_self (by simpa using hj)];rfl
 ·rw [if_neg c,List.getD_eq_getElem?_getD,List.getElem?_set_ne (fun e=>c e.symm),← List.getD_eq_getElem?_getD,getD_map _ _ _ hj]
theorem specVF0 {f v:List Int} {t:Int} (hf : ∀x∈f,x.natAbs≤100) (hl:v.length=f.length) (hl2:v.length≤100) (hv : ∀x∈v,x.natAbs≤1000000) (hn : ∃x∈v,x≠0) (hf0 : ∀x∈f,x≠0) (ht:t.natAbs≤100) :
  ∀(m j:Nat) (out:List Int),j+m=v.length→out=(outF f v t).1.take j→
  Ev (fun k=>Ak.l0 k f t v (axF v:Int) (outF f v t).2 out j) ((lowF (outF f v t).1 (outF f v t).2).1,(lowF (outF f v t).1 (outF f v t).2).2,true):=by
 obtain ⟨a1,a2⟩:=Hx hn
 have hfi:(f.getD (axF v) 0).natAbs≤100∧f.getD (axF v) 0≠0:=by
  rw [List.getD_eq_getElem?_getD,List.getElem?_eq_getElem (by omega:axF v<f.length)]
  exact ⟨hf _ (List.getElem_mem _),hf0 _ (List.getElem_mem _)⟩
 have hvj : ∀j,j<v.length→(v.getD j 0).natAbs≤1000000:=fun j hj=>by
  rw [List.getD_eq_getElem?_getD,List.getElem?_eq_getElem hj]
  exact hv _ (List.getElem_mem _)
 have hd:(outF f v t).2.natAbs≤200000000:=by
  unfold outF
  simp only
  rw [Int.natAbs_mul]
  have:=Nat.mul_le_mul (show (2*f.getD (axF v) 0).natAbs≤200 by omega) (hvj _ a1);omega
 have hd0:(outF f v t).2≠0:=by unfold outF;exact Int.mul_ne_zero (Int.mul_ne_zero (by omega) hfi.2) a2
 have hol:(outF f v t).1.length=v.length:=by unfold outF;simp
 have bd : ∀j,j<v.length→(v.getD j 0*(t-f.getD (axF v) 0)).natAbs≤200000000:=fun j hj=>by
  rw [Int.natAbs_mul]
  have:=Nat.mul_le_mul (hvj j hj) (show (t-f.getD (axF v) 0).natAbs≤200 by omega);omega
 have hob : ∀x∈(outF f v t).1,x.natAbs≤1000000000:=by
  intro x hx
  obtain ⟨j,hj,rfl⟩:=List.mem_iff_getElem.1 hx
  have e:=Pv (f:=f) (t:=t) (v:=v) (j:=j) (by omega)
  rw [List.getD_eq_getElem?_getD,List.getElem?_eq_getElem hj] at e
  simp only [Option.getD_some] at e
  rw [e]
  have:=bd j (by omega)
  split<;>omega
 intro m
 induction m with
 | zero =>
  intro j out hj ho
  rw [List.take_of_length_le (by omega)] at ho
  subst ho
  apply Ev.step
  ·intro k
   simp only [Ak.l0]
   rw [if_neg (by omega)]
  refine (Mm (fun x h=>by have:=hob x h;omega) (by omega) (by omega) ⟨_,List.mem_append_right _ (List.mem_singleton.2 rfl),hd0⟩ (by omega)).bind (Ev.now _)
 | succ m ih =>
  intro j out hj ho
  have e:=Pv (f:=f) (t:=t) (v:=v) (j:=j) (by omega)
  have hb:=bd j (by omega)
  have hlen:out.length≤1000:=by rw [ho,List.length_take];omega
  have nx:out++[(outF f v t).1.getD j 0]=(outF f v t).1.take (j+1):=by
   rw [List.take_add_one,← ho,List.getD_eq_getElem?_getD,List.getElem?_eq_getElem (show j<(outF f v t).1.length by omega)];rfl
  refine Ev.step (fun k=>?_) (ih (j+1) _ (by omega) nx)
  simp only [Ak.l0]
  rw [if_pos (by omega),if_pos (by omega),if_pos (by omega),if_pos (by omega),Eu,Eu,w64 (x:=t-f.getD (axF v) 0) (by omega) (by omega),w64 (x:=v.getD j 0*(t-f.getD (axF v) 0)) (by omega) (by omega),w64 (x:=(j:Int)+1) (by omega) (by omega)]
  by_cases c:j=axF v
  ·rw [if_pos c] at e
   rw [if_pos (by omega),if_pos (by omega),e,w64 (x:=v.getD j 0*(t-f.getD (axF v) 0)+(outF f v t).2) (by omega) (by omega)]
   rfl
  ·rw [if_neg c] at e
   rw [if_neg (by omega),if_pos (by omega),e]
   rfl
theorem Ol {f:List Int} {t:Int} (hf : ∀x∈f,x.natAbs≤100) (hl:f.length≤100):Ev (fun k=>Ak.f k f t) (resV (vF f t)):=by
 have stop:vF f t=none→Ev (fun k=>Ak.j0 k f t true) (resV (vF f t)):=by
  intro e
  rw [e]
  refine Ev.step (f:=fun _=>some ([],0,false)) (fun k=>?_) (Ev.now _)
  simp only [Ak.j0]
  rw [if_pos trivial]
 unfold Ak.f DW.f
 have hform:Ev (fun k=>(As.f k f).bind fun t5=>(if t5=true then some (decide ((f.length:Int)≤3)) else some false)) (BK f&&decide (f.length≤3)):=by
  refine (BZ (by omega)).bind ?_
  by_cases c:BK f=true
  ·refine Cn (g:=fun _=>some (decide ((f.length:Int)≤3))) (fun k=>if_pos c) ?_
   have:(BK f&&decide (f.length≤3))=decide ((f.length:Int)≤3):=by rw [c,Bool.true_and];exact decide_eq_decide.2 (by omega)
   rw [this];exact Ev.now _
  ·rw [Bool.eq_false_iff.2 c]
   exact Cn (fun k=>if_neg (by simp)) (Ev.now _)
 refine hform.bind ?_
 by_cases c12:(BK f&&decide (f.length≤3))=true
 ·refine Cn (g:=fun k=>Ak.j0 k f t (!(tOk t))) (fun k=>by rw [if_pos c12,JT,Option.bind_some]) ?_
  by_cases c3:tOk t=true
  ·rw [c3]
   have hall:(BK f&&decide (f.length≤3)&&tOk t)=true:=by rw [c12,c3];rfl
   have c1:BK f=true:=(Bool.and_eq_true_iff.1 c12).1
   obtain ⟨hs,hl1,_⟩:=BP.1 c1
   have c2:f.length≤3:=by simpa using (Bool.and_eq_true_iff.1 c12).2
   have ht':=(LZ.1 c3).2
   have ht:t.natAbs≤100:=by omega
   have e:=Pq hall
   apply Ev.step
   ·intro k
    simp only [Ak.j0]
    rw [if_neg (by simp)]
   refine (Gr (fun x h=>by have:=hf x h;omega) hl).bind ?_
   cases hz:zF f with
   | some v =>
    rw [hz] at e
    simp only at e
    rw [e]
    obtain ⟨_,l2,l4,z1,z2,z3',z4'⟩:=MV hz
    obtain ⟨a1,a2⟩:=Hx z3'
    refine Cn (fun k=>if_pos rfl) ?_
    refine (axis_ev (v:=v) (by omega) z3').bind ?_
    have hfi:(f.getD (axF v) 0).natAbs≤100:=by
     rw [List.getD_eq_getElem?_getD,List.getElem?_eq_getElem (by omega:axF v<f.length)]
     exact hf _ (List.getElem_mem _)
    have hvi:(v.getD (axF v) 0).natAbs≤1000000:=by
     rw [List.getD_eq_getElem?_getD,List.getElem?_eq_getElem a1]
     exact z4' _ (List.getElem_mem _)
    have hd:(2*f.getD (axF v) 0*v.getD (axF v) 0).natAbs≤200000000:=by
     rw [Int.natAbs_mul]
     have:=Nat.mul_le_mul (show (2*f.getD (axF v) 0).natAbs≤200 by omega) hvi;omega
    refine Cn (fun k=>?_) (specVF0 hf z1 (by omega) z4' z3' (fun x h=>(hs x h).1) ht v.length 0 [] (by omega) (by simp))
    rw [show resS (some v)=(v,true) from rfl]
    dsimp only
    rw [if_pos (by omega),if_pos (by omega),if_pos (by omega),Eu,Eu,w64 (x:=2*f.getD (axF v) 0) (by omega) (by omega),w64 (x:=2*f.getD (axF v) 0*v.getD (axF v) 0) (by omega) (by omega)]
    rfl
   | none =>
    rw [hz] at e
    simp only at e
    refine Cn (g:=fun k=>(Ck.f k (f++[-t])).bind fun bt6=>(if bt6.2=true then if 0≤(f.length:Int) then if (f.length:Int)≤(bt6.1.length:Int) then if (f.length:Int)<(bt6.1.length:Int) then (Dk.f k (bt6.1.take ((f.length:Int):Int).toNat) (rd bt6.1 (f.length:Int))).bind fun bt7=>(some (bt7.1,bt7.2,true)) else none else none else none else some ((([]:List Int)),0,false))) (fun k=>?_) ?_
    ·rw [if_neg (by simp [resS]),Option.bind_some,if_pos (by simp;omega),Option.bind_some,List.nil_append,if_pos (by omega),w64 (x := -t) (by omega) (by omega)]
    refine (Gr (f:=f++[-t]) (fun x h=>?_) (by simp;omega)).bind ?_
    ·rcases List.mem_append.1 h with k|k
     ·have:=hf x k;omega
     ·simp at k;subst k;omega
    cases hw:zF (f++[-t]) with
    | none =>
     rw [hw] at e
     simp only at e
     rw [e]
     exact Cn (fun k=>if_neg (by simp [resS])) (Ev.now _)
    | some w =>
     rw [hw] at e
     simp only at e
     rw [e]
     obtain ⟨w0,w1,w2⟩:=vF_w hw
     have hlow:Ev (fun k=>Dk.f k (w.take f.length) (w.getD f.length 0)) (lowF (w.take f.length) (w.getD f.length 0)):=by
      refine Mm (fun x h=>by have:=w2 x (List.mem_of_mem_take h);omega) (by rw [List.length_take];omega) (by rw [List.length_take];omega) w0 ?_
      rw [List.getD_eq_getElem?_getD,List.getElem?_eq_getElem (by omega:f.length<w.length)]
      have:=w2 _ (List.getElem_mem (by omega:f.length<w.length))
      simp only [Option.getD_some];omega
     refine Cn (g:=fun k=>(Dk.f k (w.take f.length) (w.getD f.length 0)).bind fun b=>some (b.1,b.2,true)) (fun k=>?_) (hlow.bind (Ev.now _))
     rw [show resS (some w)=(w,true) from rfl,if_pos rfl]
     dsimp only
     rw [if_pos (by omega),if_pos (by omega),if_pos (by omega),Eu,Int.toNat_natCast]
  ·rw [Bool.eq_false_iff.2 c3]
   exact stop (Ko (by rw [Bool.eq_false_iff.2 c3];simp))
 ·rw [Bool.eq_false_iff.2 c12]
  exact Cn (fun k=>if_neg (by simp)) (stop (Ko (by rw [Bool.eq_false_iff.2 c12];rfl)))
def tx (l:List UInt8):ByteArray:=⟨l.toArray⟩
theorem EJ (l:List UInt8):(tx l).data.toList=l:=by simp [tx]
theorem Ba (l:List UInt8):(tx l).size=l.length:=by simp [tx,ByteArray.size]
theorem Bu (a b:List UInt8):tx a++tx b=tx (a++b):=by
 apply ByteArray.ext
 apply Array.ext'
 simp [tx]
theorem C2 (l:List UInt8):(tx l).toList=l:=by simp [tx]
theorem Ef (l:List UInt8) (a b:Nat):(tx l).extract a b=tx ((l.drop a).take (b-a)):=by
 rw [Lib.extract_eq,EJ];rfl
theorem Ia {a b:List UInt8} (h:tx a=tx b):a=b:=by rw [← EJ a,h,EJ]
theorem Kj {c:UInt8} : ∀a b:List UInt8,c∉a→Lib.index (a++c::b) [c]=a.length
 | [],b,_=>by simp [Lib.index]
 | x::a,b,h=>by
  have hx:c≠x:=fun e=>h (by simp [e])
  have:=Kj a b (fun (m:c∈a)=>h (List.mem_cons_of_mem _ m))
  simp only [List.cons_append,Lib.index,this,List.isPrefixOf,Bool.and_true,List.length_cons]
  rw [if_neg (by simpa using hx),if_neg (by simp)]
  omega
theorem Kw {c:UInt8} : ∀a:List UInt8,c∉a→Lib.index a [c] = -1
 | [],_=>by simp [Lib.index]
 | x::a,h=>by
  have hx:c≠x:=fun e=>h (by simp [e])
  have:=Kw a (fun (m:c∈a)=>h (List.mem_cons_of_mem _ m))
  simp only [Lib.index,this,List.isPrefixOf,Bool.and_true]
  rw [if_neg (by simpa using hx),if_pos (by simp)]
theorem Fv {c:UInt8} {a:List UInt8} (h:c∉a):Lib.split a [c]=[a]:=by
 unfold Lib.split
 rw [Lib.count_miss (Kw a h)]
 rfl
theorem GN {c:UInt8} {a:List UInt8} (b:List UInt8) (h:c∉a):Lib.split (a++c::b) [c]=a::Lib.split b [c]:=by
 unfold Lib.split
 have hi:=Kj a b h
 rw [Lib.count_hit (by simp) hi,Nat.add_comm 1]
 have hk:Lib.splitK [c] 0 (Lib.count b [c]+1) (a++c::b)=if Lib.index (a++c::b) [c] == -1 then [a++c::b] else (a++c::b).take ((Lib.index (a++c::b) [c]).toNat+0)::Lib.splitK [c] 0 (Lib.count b [c]) ((a++c::b).drop ((Lib.index (a++c::b) [c]).toNat+[c].length)):=rfl
 have e:(a++c::b).drop (a.length+[c].length)=b:=by simp
 have e2:((a.length:Int)).toNat=a.length:=by omega
 rw [e,hk,hi,if_neg (by simp),e2,e,Nat.add_zero,List.take_left]
theorem Mj {s:List UInt8} {c:UInt8} (hs:s.length<4294967281):strings_Split.f (tx s) (tx [c])=some ((Lib.split s [c]).map tx):=by
 unfold strings_Split.f
 rw [if_pos ⟨by rw [Ba];exact hs,by rw [Ba];simp⟩]
 have h:=Lib.splitB_data (tx [c]) 0 (Lib.countB (tx s) (tx [c])) (tx s)
 rw [EJ,EJ] at h
 have e:Lib.countB (tx s) (tx [c])=Lib.count s [c]:=by unfold Lib.countB;rw [EJ,EJ]
 rw [e] at h ⊢
 show _=some ((Lib.splitK [c] 0 (Lib.count s [c]) s).map tx)
 rw [← h,List.map_map]
 have e2 : ∀l:List ByteArray,l.map (tx ∘ fun x=>x.data.toList)=l:=by
  intro l
  induction l with
  | nil=>rfl
  | cons x l ih=>simp only [List.map_cons,ih];rfl
 rw [e2]
theorem Mp {n:Nat} (h : ¬n<10):Lib.decDigits n=Lib.decDigits (n/10)++[UInt8.ofNat (48+n%10)]:=by
 rw [Lib.decDigits,dif_neg h]
theorem Ky : ∀n:Nat,∀b∈Lib.decDigits n,48≤b.toNat∧b.toNat≤57:=by
 intro n
 induction n using Nat.strongRecOn with
 | _ n ih =>
  by_cases c:n<10
  ·rw [Lib.decDigits_one c]
   intro b hb
   obtain rfl:=List.mem_singleton.1 hb
   rw [UInt8.toNat_ofNat']
   omega
  ·rw [Mp c]
   intro b hb
   rcases List.mem_append.1 hb with hb|hb
   ·exact ih _ (by omega) b hb
   ·obtain rfl:=List.mem_singleton.1 hb
    rw [UInt8.toNat_ofNat']
    omega
def valD (l:List UInt8) (n:Int):Int:=l.foldl (fun n b=>n*10+((b.toNat:Int)-48)) n
theorem itoa_of {n:Int} (h:0≤n):Lib.itoa n=Lib.decDigits n.toNat:=by unfold Lib.itoa;rw [if_neg (by omega)]
def spc (xs:List Int):List UInt8:=xs.flatMap fun x=>32::Lib.itoa x
def jn (xs:List Int):List UInt8:=Lib.join (xs.map Lib.itoa) [32]
def Mid (xs:List Int):Prop := ∀x∈xs,-4611686018427387904≤x∧x≤4611686018427387904
theorem spc_len {xs:List Int} (h:Mid xs):(spc xs).length≤22*xs.length:=by
 induction xs with
 | nil=>simp [spc]
 | cons x xs ih =>
  have h1:=h x (by simp)
  have:=ih (fun y hy=>h y (by simp [hy]))
  have hl:=Lib.itoa_length_le x (by omega) (by omega)
  simp only [spc,List.flatMap_cons,List.length_append,List.length_cons] at this ⊢
  omega
theorem Pe (x:Int) (xs:List Int):jn (x::xs)=Lib.itoa x++spc xs:=by
 induction xs generalizing x with
 | nil=>simp [jn,Lib.join,spc,List.intercalate]
 | cons y xs ih =>
  have:=ih y
  simp only [jn,Lib.join,List.map_cons,List.intercalate,spc,List.flatMap_cons] at this ⊢
  rw [List.intersperse_cons_cons,List.flatten_cons,List.flatten_cons,this]
  simp
theorem jn_spc (xs:List Int):(spc xs).drop 1=jn xs:=by
 cases xs with
 | nil=>simp [spc,jn,Lib.join,List.intercalate]
 | cons x xs=>rw [Pe];simp [spc]
theorem N3 {xs:List Int} (h:Mid xs):(jn xs).length≤22*xs.length:=by
 rw [← jn_spc,List.length_drop]
 have:=spc_len h
 omega
theorem Hd {n:Int} (h0 : -4611686018427387904≤n) (h1:n≤4611686018427387904):strconv_Itoa.f n=some (tx (Lib.itoa n)):=by
 unfold strconv_Itoa.f
 rw [if_pos (by omega)];rfl
theorem join_eq {xs:List Int} (hx:Mid xs) (hl:xs.length≤1000000):strings_Join.f (xs.map fun x=>tx (Lib.itoa x)) (tx [32])=some (tx (jn xs)):=by
 unfold strings_Join.f
 have e:(xs.map fun x=>tx (Lib.itoa x)).map (fun b=>b.data.toList)=xs.map Lib.itoa:=by
  rw [List.map_map];congr 1
 have hj:=N3 hx
 rw [e,EJ,List.length_map,if_pos ⟨by omega,by unfold jn at hj;omega⟩]
 rfl
theorem MP (xs:List Int) (hx:Mid xs) (hl:xs.length≤1000000) : ∀d j:Nat,j+d=xs.length→
  Ev (fun k=>Bx.l0 k ((xs.take j).map fun x=>tx (Lib.itoa x)) xs (xs.length:Int) (j:Int)) (tx (jn xs)):=by
 intro d
 induction d with
 | zero =>
  intro j hj
  rw [List.take_of_length_le (by omega)]
  refine Ev.step (f:=fun _=>some (tx (jn xs))) (fun k=>?_) (Ev.now _)
  simp only [Bx.l0]
  rw [if_neg (by omega),show (⟨#[32]⟩:ByteArray)=tx [32] from rfl,join_eq hx hl]
  rfl
 | succ d ih =>
  intro j hj
  have hm:=hx _ (DA (show j<xs.length by omega))
  have:=ih (j+1) (by omega)
  have e:(xs.take (j+1)).map (fun x=>tx (Lib.itoa x))=(xs.take j).map (fun x=>tx (Lib.itoa x))++[tx (Lib.itoa (rd xs (j:Int)))]:=by
   have e9:xs.take (j+1)=xs.take j++[rd xs (j:Int)]:=by
    have h9:=CQ (show j<xs.length by omega)
    rw [List.take_add_one,← List.head?_drop,h9]
    simp
   rw [e9];simp
  rw [e] at this
  refine Ev.step (fun k=>?_) this
  simp only [Bx.l0]
  rw [if_pos (by omega),if_pos (by omega),if_pos (by omega),Hd hm.1 hm.2]
  simp only [Option.bind_some]
  rw [if_pos (by simp;omega),w64 (x:=(j:Int)+1) (by omega) (by omega)]
  rfl
theorem Gu {xs:List Int} (hx:Mid xs) (hl:xs.length≤1000000):Ev (fun k=>Bx.f k xs) (tx (jn xs)):=by
 have:=MP xs hx hl xs.length 0 (by omega)
 rw [List.take_zero,List.map_nil] at this
 exact this
theorem found_ev {xs:List Int} (hx:Mid xs) (hl:xs.length≤1000000):Ev (fun k=>CJ.f k xs true) (tx (jn xs)):=by
 unfold CJ.f
 simp only [if_true]
 exact (Gu hx hl).bind (Ev.now _)
theorem IE (l:List UInt8) (j:Nat) (h:j<l.length):bt (tx l) (j:Int)=(l[j].toNat:Int):=by
 unfold bt
 rw [dif_pos (by rw [Ba];simpa using h)]
 simp [tx,ByteArray.getElem_eq_getElem_data]
theorem JJ (l:List UInt8) (h:l.head? ≠some 45):CF.f (tx l) (⟨#[45]⟩:ByteArray)=some (tx l,false):=by
 rw [show (⟨#[45]⟩:ByteArray)=tx [45] from rfl]
 unfold CF.f Cy.f Cg.f
 cases l with
 | nil=>simp [Ba]
 | cons x l =>
  have hx:x≠45:=fun e=>h (by simp [e])
  simp only [Ba,Ef,C2,List.length_cons,List.length_nil]
  rw [if_pos (by omega),if_pos (by omega),if_pos (by omega)]
  simp [hx]
theorem IY (l:List UInt8):CF.f (tx (45::l)) (⟨#[45]⟩:ByteArray)=some (tx l,true):=by
 rw [show (⟨#[45]⟩:ByteArray)=tx [45] from rfl]
 unfold CF.f Cy.f Cg.f
 simp only [Ba,Ef,C2,List.length_cons,List.length_nil]
 rw [if_pos (by omega),if_pos (by omega),if_pos (by omega)]
 simp only [List.drop_zero,List.take_succ_cons,List.drop_succ_cons]
 simp
 rw [if_pos (by omega)]
 rfl
theorem runL_one {line:List UInt8} {ls:List ByteArray} {form form':List Int} {out r:List UInt8} {x:List Int×List UInt8} (hs:line.length≤1000) (hr:r.length≤1000000) (ho:out.length≤1000000000)
  (hc:Ev (fun k=>Dj.f k form ((Lib.split line [32]).map tx)) (form',tx r)) (hn:Ev (fun k=>runL k ls form' (out++(r++[10]))) x):Ev (fun k=>runL k (tx line::ls) form out) x:=by
 simp only [runL]
 rw [show (⟨#[32]⟩:ByteArray)=tx [32] from rfl,Mj (by omega)]
 simp only [Option.bind_some]
 refine hc.bind ?_
 rw [Ba]
 simp only [if_pos (And.intro hr ho)]
 rw [show (⟨#[10]⟩:ByteArray)=tx [10] from rfl,Bu,EJ]
 exact hn
theorem runL_nil (form:List Int) (out:List UInt8):Ev (fun k=>runL k [] form out) (form,out):=by
 simp only [runL];exact Ev.now _
theorem itoa_no (n:Int) {c:UInt8} (hc:c.toNat<45):c∉Lib.itoa n:=by
 unfold Lib.itoa
 by_cases h:n<0
 ·rw [if_pos h]
  intro m
  rcases List.mem_cons.1 m with e|m
  ·subst e;revert hc;decide
  ·have:=Ky _ _ m;omega
 ·rw [if_neg h]
  intro m
  have:=Ky _ _ m;omega
def okN (a b:Int):Prop:=a≠0∧b≠0∧a.natAbs≤5000∧b.natAbs≤5000
instance (a b:Int):Decidable (okN a b):=by unfold okN;infer_instance
def Hq (a b p:Int):Int:=if okN a b∧DB p=true then sym a b p else 0
theorem Gm (a:Int):CO.f a=some (decide (a.natAbs≤5000)):=by
 unfold CO.f
 by_cases c:a≥ -5000
 ·rw [if_pos c];congr 1;exact decide_eq_decide.2 (by omega)
 ·rw [if_neg c,decide_eq_false (by omega)]
theorem both_eq (a b:Int):CN.f a b=some (decide (okN a b)):=by
 unfold CN.f
 by_cases ca:a=0
 ·rw [if_pos ca,decide_eq_false (fun h:okN a b=>h.1 ca)]
 by_cases cb:b=0
 ·rw [if_neg ca,if_pos cb,decide_eq_false (fun h:okN a b=>h.2.1 cb)]
 rw [if_neg ca,if_neg cb,Gm,Gm]
 simp only [Option.bind_some]
 by_cases c:a.natAbs≤5000
 ·rw [if_pos (by simpa using c)];congr 1;exact decide_eq_decide.2 ⟨fun h=>⟨ca,cb,c,h⟩,fun h=>h.2.2.2⟩
 ·rw [if_neg (by simpa using c),decide_eq_false (fun h:okN a b=>c h.2.2.1)]
theorem Gw (a:Int):B2.f a=some (decide (a.natAbs≤5000)):=by
 unfold B2.f
 rw [E1]
 simp only [Option.bind_some]
 congr 1
 by_cases c:a.natAbs≤5000
 ·rw [decide_eq_true c,decide_eq_true (show -5000≤a by omega),decide_eq_true (show a≤5000 by omega)];rfl
 ·rw [decide_eq_false c]
  by_cases d : -5000≤a
  ·rw [decide_eq_false (show ¬a≤5000 by omega),Bool.and_false]
  ·rw [decide_eq_false d,Bool.false_and]
theorem l3Ok_eq (a b:Int):D9.f a b=some (decide (okN a b)):=by
 unfold D9.f
 rw [Gw,Gw]
 simp only [Option.bind_some]
 by_cases c:a.natAbs≤5000
 ·rw [if_pos (by simpa using c)]
  by_cases d:b.natAbs≤5000
  ·rw [if_pos (by simpa using d)]
   by_cases ca:a=0
   ·rw [if_pos ca,decide_eq_false (fun h:okN a b=>h.1 ca)]
   ·rw [if_neg ca]
    by_cases cb:b=0
    ·rw [decide_eq_false (fun h:okN a b=>h.2.1 cb)];simp [cb]
    ·rw [decide_eq_true (show okN a b from ⟨ca,cb,c,d⟩)];simp [cb]
  ·rw [if_neg (by simpa using d),decide_eq_false (fun h:okN a b=>d h.2.2.2)]
 ·rw [if_neg (by simpa using c),decide_eq_false (fun h:okN a b=>c h.2.2.1)]
theorem Ku (a b p:Int):Ev (fun k=>C8.f k a b p) (Hq a b p):=by
 unfold C8.f Hq
 rw [both_eq]
 simp only [Option.bind_some]
 by_cases c:okN a b
 ·rw [decide_eq_true c]
  simp only [if_true]
  refine (Ew p).bind ?_
  by_cases d:DB p=true
  ·rw [if_pos ⟨c,d⟩,d]
   simp only [if_true]
   exact (Em (Ed.1 d) c.1 c.2.1 (by have:=c.2.2.1;omega) (by have:=c.2.2.2;omega)).bind (Ev.now _)
  ·rw [if_neg (fun h=>d h.2),show DB p=false by simpa using d]
   simp only [Bool.false_eq_true,if_false]
   exact Ev.now _
 ·rw [decide_eq_false c,if_neg (fun h=>c h.1)]
  simp only [Bool.false_eq_true,if_false]
  exact Ev.now _
theorem J9 (a b p:Int):Ev (fun k=>C6.f k a b p) (Hq a b p):=by
 unfold C6.f Hq
 rw [l3Ok_eq]
 simp only [Option.bind_some]
 by_cases c:okN a b
 ·rw [decide_eq_true c]
  simp only [if_true]
  refine (Fq p).bind ?_
  by_cases d:DB p=true
  ·rw [if_pos ⟨c,d⟩,d]
   simp only [if_true]
   exact (ER (Ed.1 d) c.1 c.2.1 (by have:=c.2.2.1;omega) (by have:=c.2.2.2;omega)).bind (Ev.now _)
  ·rw [if_neg (fun h=>d h.2),show DB p=false by simpa using d]
   simp only [Bool.false_eq_true,if_false]
   exact Ev.now _
 ·rw [decide_eq_false c,if_neg (fun h=>c h.1)]
  simp only [Bool.false_eq_true,if_false]
  exact Ev.now _
theorem Jq {p:Int} (h:DB p=true):0≤p∧p≤5000:=by
 unfold DB at h
 simp only [Bool.or_eq_true,Bool.and_eq_true,decide_eq_true_eq] at h
 omega
def plW (p:Int):List UInt8:=if p=0 then [114] else Lib.itoa p
def Dd (xs:List Int) (n:Int):List Int:=xs.map fun x=>(Bv (x*n)).1
theorem K8 {a b:Int} {A B:Nat} (ha:a.natAbs≤A) (hb:b.natAbs≤B):(a*b).natAbs≤A*B:=by
 rw [Int.natAbs_mul];exact Nat.mul_le_mul ha hb
theorem Ln {n:Int} (hn:n≠0) (hN:n.natAbs<2 ^ 63):(Bv n).1≠0∧(Bv n).1.natAbs≤n.natAbs:=by
 have h:=D2 hn hN
 obtain ⟨h1,h2,_⟩:=h
 have hr:(Bv n).2*(Bv n).2≠0:=Int.mul_ne_zero (by omega) (by omega)
 refine ⟨fun e=>hn (by rw [h1,e,Int.zero_mul]),?_⟩
 have:=Df (a:=(Bv n).1) hr
 rw [← h1] at this
 exact this
theorem Ov {xs:List Int} {n:Int} (hn:n≠0) (hN:n.natAbs≤5000) (hx : ∀x∈xs,x≠0∧x.natAbs≤31) : ∀y∈Dd xs n,y.natAbs≤1000000:=by
 intro y hy
 obtain ⟨x,hxm,rfl⟩:=List.mem_map.1 hy
 have hm:=hx x hxm
 have hb:=K8 hm.2 hN
 have:=Ln (n:=x*n) (Int.mul_ne_zero hm.1 hn) (by omega)
 omega
theorem IJ (xs:List Int) (n:Int) (hn:n≠0) (hN:n.natAbs≤5000) (hx : ∀x∈xs,x≠0∧x.natAbs≤31) (hl:xs.length≤100) : ∀(d j:Nat) (out:List Int),j+d=xs.length→out.length=j→
  Ev (fun k=>BL.l0 k xs n out (j:Int)) (out++Dd (xs.drop j) n):=by
 intro d
 induction d with
 | zero =>
  intro j out hj _
  rw [List.drop_of_length_le (by omega)]
  refine Ev.step (f:=fun _=>some out) (fun k=>?_) (by simpa [Dd] using Ev.now out)
  simp only [BL.l0]
  rw [if_neg (by omega)]
 | succ d ih =>
  intro j out hj ho
  have hm:=hx _ (DA (show j<xs.length by omega))
  have hb:=K8 hm.2 hN
  have hz:rd xs (j:Int)*n≠0:=Int.mul_ne_zero hm.1 hn
  have:=ih (j+1) (out++[(Bv (rd xs (j:Int)*n)).1]) (by omega) (by simp;omega)
  rw [CQ (show j<xs.length by omega)]
  refine Ev.step (f:=fun k=>(AX.f k (rd xs (j:Int)*n)).bind fun bt3=>BL.l0 k xs n (out++[bt3.1]) ((j+1:Nat):Int)) (fun k=>?_) ((DT hz (by omega)).bind ?_)
  ·simp only [BL.l0]
   rw [if_pos (by omega),if_pos (by omega),w64 (x:=n*rd xs (j:Int)) (by rw [Int.mul_comm];omega) (by rw [Int.mul_comm];omega),Int.mul_comm n,w64 (x:=(j:Int)+1) (by omega) (by omega)]
   simp only [if_pos (show out.length<17592186044416 by omega)]
   rfl
  ·simpa [Dd] using this
theorem L1 (xs:List Int) (n:Int) (hn:n≠0) (hN:n.natAbs≤5000) (hx : ∀x∈xs,x≠0∧x.natAbs≤31) (hl:xs.length≤100) : ∀d j:Nat,j+d=xs.length→
  Ev (fun k=>AU.l0 k n (Dd (xs.take j) n) xs (xs.length:Int) (j:Int)) (if BK (Dd xs n)=true then (Dd xs n,true) else ([],false)):=by
 intro d
 induction d with
 | zero =>
  intro j hj
  rw [List.take_of_length_le (by omega)]
  have hv:=BR (Ov hn hN hx) (by simp [Dd];omega)
  refine Ev.step (f:=fun k=>(Am.f k (Dd xs n)).bind fun t4=>(if t4=true then some (Dd xs n,true) else some (([]:List Int),false))) (fun k=>?_) (hv.bind ?_)
  ·simp only [AU.l0]
   rw [if_neg (by omega)]
  ·by_cases c:BK (Dd xs n)=true
   ·simp only [if_pos c];exact Ev.now _
   ·simp only [if_neg c];exact Ev.now _
 | succ d ih =>
  intro j hj
  have hm:=hx _ (DA (show j<xs.length by omega))
  have hb:=K8 hm.2 hN
  have hz:rd xs (j:Int)*n≠0:=Int.mul_ne_zero hm.1 hn
  have:=ih (j+1) (by omega)
  have e9:xs.take (j+1)=xs.take j++[rd xs (j:Int)]:=by
   have h9:=CQ (show j<xs.length by omega)
   rw [List.take_add_one,← List.head?_drop,h9]
   simp
  have e10:Dd (xs.take (j+1)) n=Dd (xs.take j) n++[(Bv (rd xs (j:Int)*n)).1]:=by rw [e9];simp [Dd]
  rw [e10] at this
  have hlen:(Dd (xs.take j) n).length<17592186044416:=by simp [Dd];omega
  refine Ev.step (f:=fun k=>(AW.f k (rd xs (j:Int)*n)).bind fun bt3=>AU.l0 k n (Dd (xs.take j) n++[bt3.1]) xs (xs.length:Int) ((j+1:Nat):Int)) (fun k=>?_) ((DI hz (by omega)).bind ?_)
  ·simp only [AU.l0]
   rw [if_pos (by omega),if_pos (by omega),if_pos (by omega),w64 (x:=rd xs (j:Int)*n) (by omega) (by omega),w64 (x:=(j:Int)+1) (by omega) (by omega)]
   simp only [if_pos hlen]
   rfl
  ·exact this
def resT (xs:List Int) (n:Int):List Int×Bool:=if BK xs=true∧n≠0∧n.natAbs≤5000∧BK (Dd xs n)=true then (Dd xs n,true) else ([],false)
theorem Ka {xs:List Int} (n:Int) (hx : ∀x∈xs,x.natAbs≤31) (hl:xs.length≤100):Ev (fun k=>AU.f k xs n) (resT xs n):=by
 have hno : ∀(h : ¬(BK xs=true∧n≠0∧n.natAbs≤5000)),Ev (fun k=>AU.j0 k xs n true) (resT xs n):=by
  intro h
  have e:resT xs n=([],false):=by unfold resT;rw [if_neg (fun g=>h ⟨g.1,g.2.1,g.2.2.1⟩)]
  rw [e]
  exact Ev.step (f:=fun _=>some ([],false)) (fun k=>by simp [AU.j0]) (Ev.now _)
 unfold AU.f
 refine (BR (xs:=xs) (fun x h=>by have:=hx x h;omega) (by omega)).bind ?_
 by_cases c1:BK xs=true
 ·simp only [c1,if_true]
  by_cases c2:n=0
  ·simp only [if_pos c2]
   exact hno (fun h=>h.2.1 c2)
  ·simp only [if_neg c2,Gm,Option.bind_some]
   by_cases c3:n.natAbs≤5000
   ·have hz:=(BP.1 c1).1
    have hx2 : ∀x∈xs,x≠0∧x.natAbs≤31:=fun x h=>⟨(hz x h).1,hx x h⟩
    have:=L1 xs n c2 c3 hx2 hl xs.length 0 (by omega)
    have e:resT xs n=if BK (Dd xs n)=true then (Dd xs n,true) else ([],false):=by
     unfold resT
     by_cases c4:BK (Dd xs n)=true
     ·rw [if_pos ⟨c1,c2,c3,c4⟩,if_pos c4]
     ·rw [if_neg (fun g=>c4 g.2.2.2),if_neg c4]
    rw [e]
    rw [List.take_zero] at this
    refine Ev.step (fun k=>?_) this
    simp only [AU.j0,decide_eq_true c3,Bool.not_true,Bool.false_eq_true,if_false]
    rfl
   ·simp only [decide_eq_false c3,Bool.not_false]
    exact hno (fun h=>c3 h.2.2)
 ·simp only [c1,Bool.false_eq_true,if_false]
  exact hno (fun h=>c1 h.1)
theorem Ph {xs:List Int} (n:Int) (hx : ∀x∈xs,x.natAbs≤31) (hl:xs.length≤100):Ev (fun k=>BJ.f k xs n) (resT xs n):=by
 have hno : ∀(h : ¬(BK xs=true∧n≠0∧n.natAbs≤5000)),Ev (fun k=>BJ.j0 k xs n true) (resT xs n):=by
  intro h
  have e:resT xs n=([],false):=by unfold resT;rw [if_neg (fun g=>h ⟨g.1,g.2.1,g.2.2.1⟩)]
  rw [e]
  exact Ev.step (f:=fun _=>some ([],false)) (fun k=>by simp [BJ.j0]) (Ev.now _)
 unfold BJ.f
 refine (BZ (xs:=xs) (by omega)).bind ?_
 by_cases c1:BK xs=true
 ·simp only [c1,if_true,Gw,Option.bind_some]
  by_cases c3:n.natAbs≤5000
  ·simp only [decide_eq_true c3,if_true]
   by_cases c2:n=0
   ·rw [show (n==0)=true by simpa using c2]
    exact hno (fun h=>h.2.1 c2)
   ·rw [show (n==0)=false by simpa using c2]
    have hz:=(BP.1 c1).1
    have hx2 : ∀x∈xs,x≠0∧x.natAbs≤31:=fun x h=>⟨(hz x h).1,hx x h⟩
    have ht:=IJ xs n c2 c3 hx2 hl xs.length 0 [] (by omega) rfl
    rw [List.drop_zero,List.nil_append] at ht
    have hv:=BZ (xs:=Dd xs n) (by simp [Dd];omega)
    refine Ev.step (f:=fun k=>(BL.f k xs n).bind fun t5=>((As.f k t5).bind fun t6=>(if t6=true then some (t5,true) else some ((([]:List Int)),false)))) (fun k=>by simp [BJ.j0]) ?_
    unfold BL.f
    refine ht.bind (hv.bind ?_)
    have e:resT xs n=if BK (Dd xs n)=true then (Dd xs n,true) else ([],false):=by
     unfold resT
     by_cases c4:BK (Dd xs n)=true
     ·rw [if_pos ⟨c1,c2,c3,c4⟩,if_pos c4]
     ·rw [if_neg (fun g=>c4 g.2.2.2),if_neg c4]
    rw [e]
    by_cases c4:BK (Dd xs n)=true
    ·simp only [if_pos c4];exact Ev.now _
    ·simp only [if_neg c4];exact Ev.now _
  ·simp only [decide_eq_false c3,Bool.false_eq_true,if_false]
   exact hno (fun h=>c3 h.2.2)
 ·simp only [c1,Bool.false_eq_true,if_false]
  exact hno (fun h=>c1 h.1)
theorem Nd {n:Int} (hn:n≤2000) {a b c d:Int} (h:sqs 3 0 n=some [a,b,c,d]):Mid [a,b,c,d]:=by
 obtain ⟨h1,h2⟩:=Mw 3 0 n _ (by omega) h
 rw [EY,EY,EY,EY] at h2
 have e0:IF []=0:=rfl
 have a1:=sq_nonneg a
 have a2:=sq_nonneg b
 have a3:=sq_nonneg c
 have a4:=sq_nonneg d
 have hx : ∀x:Int,x*x≤2000→ -4611686018427387904≤x∧x≤4611686018427387904:=by
  intro x hx
  constructor
  ·refine Int.not_lt.1 fun hc=>?_
   have:(50:Int)*50≤ -x * -x:=Int.mul_le_mul (by omega) (by omega) (by omega) (by omega)
   rw [Int.neg_mul_neg] at this
   omega
  ·refine Int.not_lt.1 fun hc=>?_
   have:(50:Int)*50≤x*x:=Int.mul_le_mul (by omega) (by omega) (by omega) (by omega)
   omega
 intro x hm
 simp only [List.mem_cons,List.mem_nil_iff,or_false] at hm
 rcases hm with rfl|rfl|rfl|rfl<;>exact hx _ (by omega)
def isD (b:UInt8):Bool:=decide (48≤b.toNat)&&decide (b.toNat≤57)
def okD (d:List UInt8):Bool:=decide (1≤d.length)&&(decide (d.length≤4)&&d.all isD)
def numT:List UInt8→Int
 | 45::l=>if okD l=true then -(valD l 0) else 99999
 | l=>if okD l=true then valD l 0 else 99999
theorem O9 : ∀(l:List UInt8) (j:Nat) (n:Int),l.all isD=true→0≤n→n<10 ^ j→0≤valD l n∧valD l n<10 ^ (l.length+j)
 | [],j,n,_,h0,h1=>⟨h0,by simpa [valD] using h1⟩
 | b::l,j,n,h,h0,h1=>by
  simp only [List.all_cons,Bool.and_eq_true,isD,decide_eq_true_eq] at h
  have:=O9 l (j+1) (n*10+((b.toNat:Int)-48)) (by simpa [isD] using h.2) (by omega) (by rw [Int.pow_succ];omega)
  rw [show (b::l).length+j=l.length+(j+1) by simp;omega]
  exact this
theorem okD_bd {l:List UInt8} (h:okD l=true):0≤valD l 0∧valD l 0<10000:=by
 simp only [okD,Bool.and_eq_true,decide_eq_true_eq] at h
 have:=O9 l 0 0 h.2.2 (by omega) (by decide)
 refine ⟨this.1,Int.lt_of_lt_of_le this.2 ?_⟩
 have:l.length=0∨l.length=1∨l.length=2∨l.length=3∨l.length=4:=by omega
 rcases this with e|e|e|e|e<;>rw [e]<;>decide
theorem N0 (s:List UInt8):(numT s).natAbs≤99999:=by
 unfold numT
 split
 ·split
  ·have:=okD_bd (by assumption);omega
  ·decide
 ·split
  ·have:=okD_bd (by assumption);omega
  ·decide
theorem pow_j {j:Nat} (h:j≤3):(10:Int) ^ j≤1000:=by
 have:j=0∨j=1∨j=2∨j=3:=by omega
 rcases this with rfl|rfl|rfl|rfl<;>decide
theorem O0 {b:UInt8} (h : ¬isD b=true):(b.toNat:Int)<48∨57<(b.toNat:Int):=by
 simp only [isD,Bool.and_eq_true,decide_eq_true_eq] at h
 omega
theorem Og (l:List UInt8) (hl:l.length≤4) (m:Bool) : ∀(d j:Nat) (n:Int),j+d=l.length→0≤n→n<10 ^ j→
  Ev (fun k=>Ax.l0 k (tx l) m n (l.length:Int) (j:Int)) (if (l.drop j).all isD=true then if m=true then -(valD (l.drop j) n) else valD (l.drop j) n else 99999):=by
 intro d
 induction d with
 | zero =>
  intro j n hj h0 h1
  have hp:n<10000:=by
   have:j=0∨j=1∨j=2∨j=3∨j=4:=by omega
   rcases this with rfl|rfl|rfl|rfl|rfl<;>exact Int.lt_of_lt_of_le h1 (by decide)
  rw [List.drop_of_length_le (by omega)]
  refine Ev.step (f:=fun _=>some (if m=true then -n else n)) (fun k=>?_) (Ev.now _)
  simp only [Ax.l0]
  rw [if_neg (by omega),w64 (by omega) (by omega)]
  cases m<;>rfl
 | succ d ih =>
  intro j n hj h0 h1
  have hjl:j<l.length:=by omega
  have hp:=pow_j (show j≤3 by omega)
  rw [List.drop_eq_getElem_cons hjl,List.all_cons]
  by_cases c:isD l[j]=true
  ·rw [c,Bool.true_and]
   simp only [isD,Bool.and_eq_true,decide_eq_true_eq] at c
   have:=ih (j+1) (n*10+((l[j].toNat:Int)-48)) (by omega) (by omega) (by rw [Int.pow_succ];omega)
   refine Ev.step (fun k=>?_) this
   simp only [Ax.l0]
   rw [if_pos (by omega),if_pos (by omega),if_pos (by rw [Ba];omega),IE l j hjl,if_neg (by omega),if_neg (by omega),w64 (x:=n*10) (by omega) (by omega),w64 (x:=(j:Int)+1) (by omega) (by omega),
    show ((l[j].toNat:Int)-48)%256=(l[j].toNat:Int)-48 by omega,w64 (by omega) (by omega)]
   rfl
  ·have c2:=O0 c
   rw [Bool.eq_false_iff.2 c,Bool.false_and,if_neg (by simp)]
   refine Ev.step (f:=fun _=>some 99999) (fun k=>?_) (Ev.now _)
   simp only [Ax.l0]
   rw [if_pos (by omega),if_pos (by omega),if_pos (by rw [Ba];omega),IE l j hjl]
   by_cases c3:(l[j].toNat:Int)<48
   ·rw [if_pos c3]
   ·rw [if_neg c3,if_pos (by omega)]
theorem KU (l:List UInt8) (m:Bool):Ev (fun k=>if ((tx l).size:Int)<1 then Ax.j0 k (tx l) m true else Ax.j0 k (tx l) m (decide (((tx l).size:Int)>4))) (if okD l=true then if m=true then -(valD l 0) else valD l 0 else 99999):=by
 rw [Ba]
 by_cases c1:1≤l.length
 ·simp only [if_neg (show ¬(l.length:Int)<1 by omega)]
  by_cases c2:l.length≤4
  ·have:=Og l c2 m l.length 0 0 (by omega) (by omega) (by decide)
   rw [List.drop_zero] at this
   rw [show okD l=l.all isD by unfold okD;rw [decide_eq_true c1,decide_eq_true c2];rfl]
   refine Ev.step (fun k=>?_) this
   simp only [Ax.j0,Ba,decide_eq_false (show ¬(l.length:Int)>4 by omega),Bool.false_eq_true,if_false]
   rfl
  ·rw [show okD l=false by unfold okD;rw [decide_eq_false c2,Bool.false_and,Bool.and_false]]
   refine Ev.step (f:=fun _=>some 99999) (fun k=>?_) (Ev.now _)
   simp only [Ax.j0,decide_eq_true (show (l.length:Int)>4 by omega),if_true]
 ·rw [show okD l=false by unfold okD;rw [decide_eq_false c1,Bool.false_and]]
  simp only [if_pos (show (l.length:Int)<1 by omega)]
  refine Ev.step (f:=fun _=>some 99999) (fun k=>?_) (Ev.now _)
  simp only [Ax.j0,if_true]
theorem KJ (l:List UInt8):numT (45::l)=if okD l=true then -(valD l 0) else 99999:=rfl
theorem Mz {s:List UInt8} (h:s.head? ≠some 45):numT s=if okD s=true then valD s 0 else 99999:=by
 unfold numT
 split
 ·exact absurd rfl h
 ·rfl
theorem Ey (s:List UInt8):Ev (fun k=>Ax.f k (tx s)) (numT s):=by
 unfold Ax.f
 by_cases h:s.head? = some 45
 ·obtain ⟨l,rfl⟩ : ∃l,s=45::l:=by
   cases s with
   | nil=>cases h
   | cons x l=>simp at h;subst h;exact ⟨l,rfl⟩
  rw [IY,KJ]
  simp only [Option.bind_some]
  exact KU l true
 ·rw [JJ s h,Mz h]
  simp only [Option.bind_some]
  exact KU s false
theorem Pb (l:List UInt8) (hl:l.length≤4) (sg:Int) (hs:sg=1∨sg = -1) : ∀(d j:Nat) (n:Int),j+d=l.length→0≤n→n<10 ^ j→
  Ev (fun k=>Au.l0 k (tx l) sg n (j:Int)) (if (l.drop j).all isD=true then sg*valD (l.drop j) n else 99999):=by
 intro d
 induction d with
 | zero =>
  intro j n hj h0 h1
  have hp:n<10000:=by
   have:j=0∨j=1∨j=2∨j=3∨j=4:=by omega
   rcases this with rfl|rfl|rfl|rfl|rfl<;>exact Int.lt_of_lt_of_le h1 (by decide)
  rw [List.drop_of_length_le (by omega)]
  refine Ev.step (f:=fun _=>some (sg*n)) (fun k=>?_) (Ev.now _)
  simp only [Au.l0]
  rw [if_neg (by rw [Ba];omega)]
  rcases hs with rfl|rfl<;>rw [w64 (by omega) (by omega)]
 | succ d ih =>
  intro j n hj h0 h1
  have hjl:j<l.length:=by omega
  have hp:=pow_j (show j≤3 by omega)
  rw [List.drop_eq_getElem_cons hjl,List.all_cons]
  by_cases c:isD l[j]=true
  ·rw [c,Bool.true_and]
   simp only [isD,Bool.and_eq_true,decide_eq_true_eq] at c
   have:=ih (j+1) (n*10+((l[j].toNat:Int)-48)) (by omega) (by omega) (by rw [Int.pow_succ];omega)
   refine Ev.step (fun k=>?_) this
   simp only [Au.l0]
   rw [if_pos (by rw [Ba];omega),if_pos (by omega),IE l j hjl,if_neg (by omega),if_neg (by omega),Int.mul_comm 10 n,w64 (x:=n*10) (by omega) (by omega),w64 (x:=(j:Int)+1) (by omega) (by omega),
    show ((l[j].toNat:Int)-48)%256=(l[j].toNat:Int)-48 by omega,w64 (by omega) (by omega)]
   rfl
  ·have c2:=O0 c
   rw [Bool.eq_false_iff.2 c,Bool.false_and,if_neg (by simp)]
   refine Ev.step (f:=fun _=>some 99999) (fun k=>?_) (Ev.now _)
   simp only [Au.l0]
   rw [if_pos (by rw [Ba];omega),if_pos (by omega),IE l j hjl]
   by_cases c3:(l[j].toNat:Int)<48
   ·rw [if_pos c3]
   ·rw [if_neg c3,if_pos (by omega)]
theorem H8 (l:List UInt8) (sg:Int) (hs:sg=1∨sg = -1):Ev (fun k=>Au.j1 k (tx l) sg) (if okD l=true then sg*valD l 0 else 99999):=by
 apply Ev.step
 ·intro k
  simp only [Au.j1,E1,Option.bind_some,Ba]
  exact rfl
 by_cases c1:1≤l.length∧l.length≤4
 ·have:=Pb l c1.2 sg hs l.length 0 0 (by omega) (by omega) (by decide)
  rw [List.drop_zero] at this
  rw [show okD l=l.all isD by unfold okD;rw [decide_eq_true c1.1,decide_eq_true c1.2];rfl]
  simp only [decide_eq_true (show (1:Int)≤(l.length:Int) by omega),decide_eq_true (show (l.length:Int)≤4 by omega),Bool.and_self,if_true]
  exact this
 ·rw [show okD l=false by
   unfold okD
   by_cases c2:1≤l.length
   ·rw [decide_eq_false (show ¬l.length≤4 by omega),Bool.false_and,Bool.and_false]
   ·rw [decide_eq_false c2,Bool.false_and]]
  have e:(decide ((1:Int)≤(l.length:Int))&&decide ((l.length:Int)≤4))=false:=by
   by_cases c2:1≤l.length
   ·rw [decide_eq_false (show ¬(l.length:Int)≤4 by omega),Bool.and_false]
   ·rw [decide_eq_false (show ¬(1:Int)≤(l.length:Int) by omega),Bool.false_and]
  simp only [e,Bool.false_eq_true,if_false]
  exact Ev.now _
theorem EX (s:List UInt8):Ev (fun k=>Au.f k (tx s)) (numT s):=by
 unfold Au.f
 rw [Ba]
 cases s with
 | nil =>
  simp only [List.length_nil,if_neg (show ¬((0:Nat):Int)>0 by omega)]
  refine Ev.step (fun k=>?_) (H8 [] 1 (.inl rfl))
  simp only [Au.j0,Bool.false_eq_true,if_false]
 | cons b l =>
  have e:=IE (b::l) 0 (by simp)
  simp only [if_pos (show ((b::l).length:Int)>0 by simp<;>omega),if_pos (show 0<((b::l).length:Int) by simp<;>omega)]
  rw [show bt (tx (b::l)) 0=(b.toNat:Int) from e]
  by_cases c:b=45
  ·subst c
   have:=H8 l (-1) (.inr rfl)
   rw [KJ]
   rw [show (if okD l=true then (-1)*valD l 0 else 99999)=(if okD l=true then -(valD l 0) else 99999) by split<;>omega] at this
   refine Ev.step (fun k=>?_) this
   simp only [Au.j0]
   rw [show ((((45:UInt8).toNat:Nat):Int)==45)=true from rfl,if_pos rfl,Ba,if_pos (by simp<;>omega),Ef]
   simp
  ·have hc : ¬(b.toNat:Int)=45:=fun h=>c (UInt8.toNat_inj.1 (by simpa using Int.ofNat_inj.1 h))
   have:=H8 (b::l) 1 (.inl rfl)
   rw [Int.one_mul] at this
   rw [Mz (by simpa using c)]
   refine Ev.step (fun k=>?_) this
   simp only [Au.j0]
   rw [show ((b.toNat:Int)==45)=false from beq_eq_false_iff_ne.mpr hc,if_neg (by simp)]
def Et (s:List UInt8):Int:=if s=[114] then 0 else if numT s=0 then -1 else numT s
theorem Hn (s:List UInt8):Ev (fun k=>CG.f k (tx s)) (Et s):=by
 unfold CG.f Et
 rw [C2]
 by_cases c:s=[114]
 ·simp only [if_pos c];exact Ev.now _
 ·simp only [if_neg c]
  refine (Ey s).bind ?_
  by_cases c2:numT s=0
  ·simp only [if_pos c2];exact Ev.now _
  ·simp only [if_neg c2];exact Ev.now _
theorem Hm (s:List UInt8):Ev (fun k=>CU.f k (tx s)) (Et s):=by
 unfold CU.f Et
 rw [C2]
 by_cases c:s=[114]
 ·simp only [if_pos c];exact Ev.now _
 ·simp only [if_neg c]
  refine (EX s).bind ?_
  by_cases c2:numT s=0
  ·simp only [if_pos c2];exact Ev.now _
  ·simp only [if_neg c2];exact Ev.now _
theorem l10Cut_l (s:List UInt8) (c:UInt8) (hl:s.length≤1000000) : ∀(d j f:Nat) (acc:List ByteArray),j+d=s.length→f≤j→c∉(s.drop f).take (j-f)→acc.length≤j→
  Ev (fun k=>Cl.l0 k (tx s) (c.toNat:Int) acc (f:Int) (j:Int)) (acc++(Lib.split (s.drop f) [c]).map tx):=by
 intro d
 induction d with
 | zero =>
  intro j f acc hj hf hn ha
  rw [List.take_of_length_le (by simp;omega)] at hn
  rw [Fv hn]
  refine Ev.step (f:=fun _=>some (acc++[tx (s.drop f)])) (fun k=>?_) (Ev.now _)
  simp only [Cl.l0,Ba]
  rw [if_neg (by omega),if_pos (by omega),if_pos (by omega),if_pos (by omega),Ef,Int.toNat_natCast,List.take_of_length_le (by simp)]
 | succ d ih =>
  intro j f acc hj hf hn ha
  have hjl:j<s.length:=by omega
  have hd:s.drop f=(s.drop f).take (j-f)++s[j]::s.drop (j+1):=by
   have h1:=(List.take_append_drop (j-f) (s.drop f)).symm
   rw [List.drop_drop,show f+(j-f)=j by omega,List.drop_eq_getElem_cons hjl] at h1
   exact h1
  by_cases e:s[j]=c
  ·have:=ih (j+1) (j+1) (acc++[tx ((s.drop f).take (j-f))]) (by omega) (by omega) (by simp) (by simp;omega)
   rw [hd,e,GN _ hn]
   rw [List.append_assoc] at this
   refine Ev.step (fun k=>?_) this
   simp only [Cl.l0,Ba]
   rw [if_pos (by omega),if_pos (by omega),IE s j hjl,if_pos (by rw [e]),if_pos (by omega),if_pos (by omega),if_pos (by omega),if_pos (by omega),Ef,Int.toNat_natCast,Int.toNat_natCast,w64 (x:=(j:Int)+1) (by omega) (by omega)]
   rfl
  ·have:=ih (j+1) f acc (by omega) (by omega) (by
    intro m
    rw [show j+1-f=(j-f)+1 by omega,List.take_add_one,List.mem_append] at m
    rcases m with m|m
    ·exact hn m
    ·rw [List.getElem?_drop,show f+(j-f)=j by omega,List.getElem?_eq_getElem hjl] at m
     simp at m
     exact e m.symm) (by omega)
   refine Ev.step (fun k=>?_) this
   simp only [Cl.l0,Ba]
   rw [if_pos (by omega),if_pos (by omega),IE s j hjl,if_neg (fun h=>e (UInt8.toNat_inj.1 (Int.ofNat_inj.1 h))),w64 (x:=(j:Int)+1) (by omega) (by omega)]
   rfl
theorem KM (s:List UInt8) (c:UInt8) (hl:s.length≤1000000):Ev (fun k=>Cl.f k (tx s) (c.toNat:Int)) ((Lib.split s [c]).map tx):=by
 have:=l10Cut_l s c hl s.length 0 0 [] (by omega) (by omega) (by simp) (by simp)
 rw [List.drop_zero,List.nil_append] at this
 exact this
theorem Kp : ∀n:Nat,n≤4611686018427387904→Ev (fun k=>AP.f k (n:Int)) (tx (Lib.decDigits n)):=by
 intro n
 induction n using Nat.strongRecOn with
 | _ n ih =>
  intro hn
  by_cases c:n<10
  ·rw [Lib.decDigits_one c]
   refine Ev.step (f:=fun _=>some (tx [UInt8.ofNat (48+n)])) (fun k=>?_) (Ev.now _)
   simp only [AP.f]
   rw [if_neg (by omega),if_neg (by omega),if_pos (by omega),w64 (by omega) (by omega)]
   congr 1
   have e:((48+(n:Int))%256).toNat=48+n:=by omega
   simp [strOfNums,tx,e]
  ·rw [Mp c]
   have e1:Int.tdiv (n:Int) 10=((n/10:Nat):Int):=rfl
   have e2:Int.tmod (n:Int) 10=((n%10:Nat):Int):=rfl
   have hl:=Lib.nDigits_le20 (n/10) (by omega)
   apply Ev.step
   ·intro k
    simp only [AP.f]
    rw [if_neg (by omega),if_neg (by omega),if_neg (by omega),e1,e2,w64 (x:=((n/10:Nat):Int)) (by omega) (by omega)]
   refine (ih (n/10) (by omega) (by omega)).bind ?_
   have e3:strOfNums [(wrap64 (48+((n%10:Nat):Int)))%256]=tx [UInt8.ofNat (48+n%10)]:=by
    rw [w64 (by omega) (by omega)]
    have e:((48+((n%10:Nat):Int))%256).toNat=48+n%10:=by omega
    simp only [strOfNums,tx,List.map_cons,List.map_nil,e]
   simp only [Option.bind_some,e3,Ba,Bu,Lib.decDigits_length,List.length_singleton]
   rw [if_pos (by omega)]
   exact Ev.now _
theorem EC {n:Int} (h0 : -4611686018427387904≤n) (h1:n≤4611686018427387904):Ev (fun k=>AP.f k n) (tx (Lib.itoa n)):=by
 by_cases c:n<0
 ·have d:=Kp n.natAbs (by omega)
  have e:Lib.itoa n=45::Lib.decDigits n.natAbs:=by unfold Lib.itoa;rw [if_pos c]
  rw [e]
  apply Ev.step
  ·intro k
   simp only [AP.f]
   rw [if_neg (by omega),if_pos c,w64 (by omega) (by omega),show -n=((n.natAbs:Nat):Int) by omega]
  refine d.bind ?_
  have hl:=Lib.nDigits_le20 n.natAbs (by omega)
  rw [Ba,Lib.decDigits_length,if_pos (by omega),show (⟨#[45]⟩:ByteArray)=tx [45] from rfl,Bu]
  exact Ev.now _
 ·rw [itoa_of (by omega)]
  have:=Kp n.toNat (by omega)
  rwa [Int.toNat_of_nonneg (by omega)] at this
def jw (ws:List (List UInt8)):List UInt8:=Lib.join ws [32]
theorem Lx (w:List UInt8) (ws:List (List UInt8)):jw (w::ws)=w++ws.flatMap (fun x=>32::x):=by
 induction ws generalizing w with
 | nil=>simp [jw,Lib.join,List.intercalate]
 | cons y ws ih =>
  have:=ih y
  simp only [jw,Lib.join,List.intercalate,List.flatMap_cons] at this ⊢
  rw [List.intersperse_cons_cons,List.flatten_cons,List.flatten_cons,this]
  simp
theorem NH (ws:List (List UInt8)) (w:List UInt8):jw (ws++[w])=if ws.length=0 then w else jw ws++32::w:=by
 cases ws with
 | nil=>simp [jw,Lib.join,List.intercalate]
 | cons y ws=>rw [List.cons_append,Lx,Lx];simp
theorem jn_jw (xs:List Int):jn xs=jw (xs.map Lib.itoa):=rfl
theorem Kr {xs:List Int} {j:Nat} (h:j<xs.length):xs.take (j+1)=xs.take j++[rd xs (j:Int)]:=by
 have h9:=CQ h
 rw [List.take_add_one,← List.head?_drop,h9]
 simp
theorem jn_snoc {xs:List Int} {j:Nat} (h:j<xs.length):jn (xs.take (j+1))=if j=0 then Lib.itoa (rd xs (j:Int)) else jn (xs.take j)++32::Lib.itoa (rd xs (j:Int)):=by
 rw [Kr h,jn_jw,jn_jw,List.map_append,List.map_cons,List.map_nil,NH]
 simp only [List.length_map,List.length_take,Nat.min_eq_left (Nat.le_of_lt h)]
theorem OG (xs:List Int) (hx:Mid xs) (hl:xs.length≤1000000) : ∀d j:Nat,j+d=xs.length→
  Ev (fun k=>BE.l0 k xs (tx (jn (xs.take j))) (j:Int)) (tx (jn xs)):=by
 intro d
 induction d with
 | zero =>
  intro j hj
  rw [List.take_of_length_le (by omega)]
  refine Ev.step (f:=fun _=>some (tx (jn xs))) (fun k=>?_) (Ev.now _)
  simp only [BE.l0]
  rw [if_neg (by omega)]
 | succ d ih =>
  intro j hj
  have hm:=hx _ (DA (show j<xs.length by omega))
  have hlen:=Lib.itoa_length_le (rd xs (j:Int)) (by omega) (by omega)
  have hj2:=N3 (xs:=xs.take j) (fun x h=>hx x (List.mem_of_mem_take h))
  rw [List.length_take] at hj2
  have:=ih (j+1) (by omega)
  rw [jn_snoc (show j<xs.length by omega)] at this
  by_cases c:j=0
  ·subst c
   rw [if_pos rfl] at this
   apply Ev.step
   ·intro k
    simp only [BE.l0]
    rw [if_pos (by omega),if_neg (by omega),if_pos (by omega),w64 (x:=((0:Nat):Int)+1) (by omega) (by omega)]
   refine (EC hm.1 hm.2).bind ?_
   rw [List.take_zero,show jn []=[] from rfl,Bu,Ba,Ba,List.nil_append]
   simp only [if_pos (show ([]:List UInt8).length+(Lib.itoa (rd xs ((0:Nat):Int))).length≤9223372036854775807 by rw [List.length_nil];omega)]
   exact this
  ·rw [if_neg c] at this
   apply Ev.step
   ·intro k
    simp only [BE.l0,Ba]
    rw [if_pos (by omega),if_pos (by omega),if_pos (by omega),if_pos (by omega),w64 (x:=(j:Int)+1) (by omega) (by omega)]
   refine (EC hm.1 hm.2).bind ?_
   rw [show (⟨#[32]⟩:ByteArray)=tx [32] from rfl,Bu,Bu,Ba,Ba]
   simp only [List.length_append,List.length_singleton]
   rw [show jn (xs.take j)++[32]++Lib.itoa (rd xs (j:Int))=jn (xs.take j)++32::Lib.itoa (rd xs (j:Int)) by simp]
   simp only [if_pos (show (jn (xs.take j)).length+1+(Lib.itoa (rd xs (j:Int))).length≤9223372036854775807 by omega)]
   exact this
theorem F1 {xs:List Int} (hx:Mid xs) (hl:xs.length≤1000000):Ev (fun k=>BE.f k xs) (tx (jn xs)):=by
 have:=OG xs hx hl xs.length 0 (by omega)
 rw [List.take_zero] at this
 exact this
theorem Js {a:List UInt8} (b:Bool) (h:a.length≤1000000):Cz.f (tx a) b=some (tx (if b=true then a++[10] else [110,111,10])):=by
 unfold Cz.f
 rw [Ba,show (⟨#[10]⟩:ByteArray)=tx [10] from rfl,Bu]
 cases b
 ·rw [if_neg (by simp),if_neg (by simp)];rfl
 ·rw [if_pos rfl,if_pos (by omega),if_pos rfl]
def whW:List UInt8:=[119,104,97,116]
def okW:List UInt8:=[111,107]
def noW:List UInt8:=[110,111]
def fndT (q:List Int×Bool):List UInt8:=if q.2=true then jn q.1 else noW
def jb (ps:List Int):List UInt8:=jw (ps.map plW)
def oneT (form:List Int) (w:List UInt8):List UInt8:=if w=[115,104,111,119] then jn form else if w=[100,105,115,99] then Lib.itoa (disc form) else if w=[98,97,100] then jb (bad form) else if w=[122,101,114,111] then fndT (resS (zF form)) else if w=[112,108,97,110,101,115] then Lib.itoa (pall form) else whW
def atT (form:List Int) (p:Int):List UInt8:=if DB p=true then if van form p=true then [122,101,114,111] else [110,111,110,101] else noW
def valT (q:List Int×Int×Bool):List UInt8:=if q.2.2=true then jn q.1++[32,47,32]++Lib.itoa q.2.1 else noW
def GK (n:Int):List Int×Bool:=if 0≤n∧n≤2000 then fin (sqs 3 0 n) else ([],false)
def symT (s:Int):List UInt8:=if s=0 then noW else Lib.itoa s
def askT (form:List Int) (w:List UInt8) (r:List (List UInt8)):List UInt8:=if r.length=0 then oneT form w else if w=[115,121,109,98,111,108]∧r.length=3 then symT (Hq (numT (r.getD 0 [])) (numT (r.getD 1 [])) (Et (r.getD 2 []))) else if w=[97,116]∧r.length=1 then atT form (Et (r.getD 0 [])) else if w=[118,97,108,117,101]∧r.length=1 then valT (resV (vF form (numT (r.getD 0 [])))) else if w=[115,113,117,97,114,101,115]∧r.length=1 then fndT (GK (numT (r.getD 0 []))) else whW
def FA (form:List Int) (q:List Int×Bool):List Int×List UInt8:=if q.2=true then (q.1,okW) else (form,noW)
def ES (form:List Int) (w:List UInt8) (r:List (List UInt8)):List Int×List UInt8:=if w=[102,111,114,109]∧0<r.length then FA form (r.map numT,BK (r.map numT)) else if w=[116,105,109,101,115]∧r.length=1 then FA form (resT form (numT (r.getD 0 []))) else if w=[99,111,114,101,115]∧r.length=0 then FA form (resT form 1) else (form,askT form w r)
theorem Eb {n:Int} (h:n.natAbs≤1000000000000):(Lib.itoa n).length≤21:=Lib.itoa_length_le n (by omega) (by omega)
theorem mid_of {xs:List Int} {N:Nat} (hN:N≤1000000000000) (h : ∀x∈xs,x.natAbs≤N):Mid xs:=fun x hx=>by have:=h x hx;omega
theorem E6 {xs:List Int} (hm:Mid xs) (hl:xs.length≤20):(jn xs).length≤440:=by have:=N3 hm;omega
theorem JY (n:Int):Mid (GK n).1∧(GK n).1.length≤4:=by
 unfold GK
 refine ⟨?_,fin_len 3 n⟩
 by_cases h:0≤n∧n≤2000
 ·rw [if_pos h]
  cases hq:sqs 3 0 n with
  | none=>intro x hx;simp [fin] at hx
  | some r =>
   simp only [fin]
   have hl:=L0 3 0 n r hq
   match r,hl,hq with
   | [a,b,c,d],_,hq=>exact Nd (by omega) hq
 ·rw [if_neg h];intro x hx;simp at hx
theorem Me {form:List Int}:Mid (resS (zF form)).1∧(resS (zF form)).1.length≤4:=by
 cases hz:zF form with
 | none=>exact ⟨fun x hx=>by simp [resS] at hx,by simp [resS]⟩
 | some v =>
  obtain ⟨_,l2,l4,z1,z2,z3',z4'⟩:=MV hz
  exact ⟨fun x hx=>by have:=z4' x hx;omega,by show v.length≤4;omega⟩
theorem Pr {form:List Int} {t:Int}:Mid (resV (vF form t)).1∧(resV (vF form t)).1.length≤4∧(resV (vF form t)).2.1.natAbs≤1000000000:=by
 cases hz:vF form t with
 | none=>exact ⟨fun x hx=>by simp [resV] at hx,by simp [resV],by simp [resV]⟩
 | some v =>
  obtain ⟨l4,z1,z2⟩:=vF_small hz
  exact ⟨fun x hx=>by have:=z1 x hx;omega,l4,z2⟩
theorem Oe {p:Int} (h:Plc p):0≤p∧p≤5000:=Jq (Ed.2 h)
theorem NT {form:List Int}:(∀p∈bad form,0≤p∧p≤5000)∧(bad form).length≤11 :=
 ⟨fun p hp=>Oe (GR (List.mem_filter.1 hp).1),Nat.le_trans (List.length_filter_le _ _) (Iq form)⟩
theorem Ma {p:Int} (h:0≤p∧p≤5000):(plW p).length≤21:=by
 unfold plW
 split
 ·simp
 ·exact Lib.itoa_length_le p (by omega) (by omega)
theorem MB : ∀ {ps:List Int},(∀p∈ps,0≤p∧p≤5000)→(jb ps).length≤22*ps.length
 | [],_=>by simp [jb,jw,Lib.join,List.intercalate]
 | p::ps,h=>by
  have key : ∀l:List Int,(∀p∈l,0≤p∧p≤5000)→((l.map plW).flatMap (fun x=>32::x)).length≤22*l.length:=by
   intro l
   induction l with
   | nil=>intro _;simp
   | cons y l ih =>
    intro hl
    have h1:=Ma (hl y (by simp))
    have:=ih (fun z hz=>hl z (by simp [hz]))
    simp only [List.map_cons,List.flatMap_cons,List.length_append,List.length_cons] at this ⊢
    omega
  have h1:=Ma (h p (by simp))
  have:=key ps (fun z hz=>h z (by simp [hz]))
  unfold jb
  rw [List.map_cons,Lx,List.length_append,List.length_cons]
  omega
theorem MG (f:Int→Int) (hf : ∀p,-1000≤f p) : ∀(ps:List Int) (acc:Int),-1000≤acc→acc≤1000→ -1000≤minL f ps acc∧minL f ps acc≤1000
 | [],acc,h0,h1=>⟨h0,h1⟩
 | p::ps,acc,h0,h1=>by
  have h2:=mn_le (a:=acc) (b:=f p)
  have h3:=hf p
  simp only [minL]
  exact MG f hf ps _ (by rcases h2.2.2 with e|e<;>rw [e]<;>omega) (by omega)
theorem NZ : ∀ {ps:List Int},(∀p∈ps,0≤p∧p≤5000)→badL ps=some (ps.map fun p=>tx (plW p))
 | [],_=>rfl
 | p::ps,h=>by
  have hp:=h p (by simp)
  have e:(if p=0 then some (⟨#[114]⟩:ByteArray) else strconv_Itoa.f p)=some (tx (plW p)):=by
   unfold plW
   by_cases c:p=0
   ·rw [if_pos c,if_pos c];rfl
   ·rw [if_neg c,if_neg c,Hd (by omega) (by omega)]
  have e2:=NZ (ps:=ps) (fun z hz=>h z (by simp [hz]))
  simp only [badL,e,Option.bind_some,e2,List.map_cons]
theorem joinB_eq {ps:List Int} (hx : ∀p∈ps,0≤p∧p≤5000) (hl:ps.length≤1000000):strings_Join.f (ps.map fun p=>tx (plW p)) (tx [32])=some (tx (jb ps)):=by
 unfold strings_Join.f
 have e:(ps.map fun p=>tx (plW p)).map (fun b=>b.data.toList)=ps.map plW:=by
  rw [List.map_map];congr 1
 have hj:=MB hx
 rw [e,EJ,List.length_map,if_pos ⟨by omega,by unfold jb jw at hj;omega⟩]
 rfl
theorem jb_snoc {xs:List Int} {j:Nat} (h:j<xs.length):jb (xs.take (j+1))=if j=0 then plW (rd xs (j:Int)) else jb (xs.take j)++32::plW (rd xs (j:Int)):=by
 unfold jb
 rw [Kr h,List.map_append,List.map_cons,List.map_nil,NH]
 simp only [List.length_map,List.length_take,Nat.min_eq_left (Nat.le_of_lt h)]
theorem l10Bad_l (xs:List Int) (hx : ∀p∈xs,0≤p∧p≤5000) (hl:xs.length≤1000) : ∀d j:Nat,j+d=xs.length→
  Ev (fun k=>Cc.l0 k (tx (jb (xs.take j))) xs (j:Int)) (tx (jb xs++[10])):=by
 intro d
 induction d with
 | zero =>
  intro j hj
  have hj2:=MB hx
  rw [List.take_of_length_le (by omega)]
  refine Ev.step (f:=fun _=>some (tx (jb xs++[10]))) (fun k=>?_) (Ev.now _)
  simp only [Cc.l0,Ba]
  rw [if_neg (by omega),if_pos (by omega),show (⟨#[10]⟩:ByteArray)=tx [10] from rfl,Bu]
 | succ d ih =>
  intro j hj
  have hm:=hx _ (DA (show j<xs.length by omega))
  have hlen:=Lib.itoa_length_le (rd xs (j:Int)) (by omega) (by omega)
  have hj2:=MB (ps:=xs.take j) (fun x h=>hx x (List.mem_of_mem_take h))
  rw [List.length_take] at hj2
  have:=ih (j+1) (by omega)
  rw [jb_snoc (show j<xs.length by omega)] at this
  by_cases c:j=0
  ·subst c
   rw [if_pos rfl] at this
   rw [List.take_zero,show jb []=[] from rfl]
   by_cases cz:rd xs ((0:Nat):Int)=0
   ·rw [show plW (rd xs ((0:Nat):Int))=[114] by unfold plW;rw [if_pos cz]] at this
    refine Ev.step (fun k=>?_) this
    simp only [Cc.l0,Ba]
    rw [if_pos (by omega),if_neg (by omega),if_pos (by omega),if_pos cz,if_pos (by simp),w64 (x:=((0:Nat):Int)+1) (by omega) (by omega),show (⟨#[114]⟩:ByteArray)=tx [114] from rfl,Bu]
    rfl
   ·rw [show plW (rd xs ((0:Nat):Int))=Lib.itoa (rd xs ((0:Nat):Int)) by unfold plW;rw [if_neg cz]] at this
    apply Ev.step
    ·intro k
     simp only [Cc.l0,Ba]
     rw [if_pos (by omega),if_neg (by omega),if_pos (by omega),if_neg cz,w64 (x:=((0:Nat):Int)+1) (by omega) (by omega)]
    refine (EC (by omega) (by omega)).bind ?_
    rw [Bu,Ba,List.nil_append]
    simp only [if_pos (show ([]:List UInt8).length+(Lib.itoa (rd xs ((0:Nat):Int))).length≤9223372036854775807 by rw [List.length_nil];omega)]
    exact this
  ·rw [if_neg c] at this
   by_cases cz:rd xs (j:Int)=0
   ·rw [show plW (rd xs (j:Int))=[114] by unfold plW;rw [if_pos cz]] at this
    refine Ev.step (fun k=>?_) this
    simp only [Cc.l0,Ba]
    rw [if_pos (by omega),if_pos (by omega),if_pos (by omega),if_pos (by omega),if_pos cz,show (⟨#[32]⟩:ByteArray)=tx [32] from rfl,show (⟨#[114]⟩:ByteArray)=tx [114] from rfl,Bu,Bu,Ba,if_pos (by simp only [List.length_append,List.length_singleton];omega),w64 (x:=(j:Int)+1) (by omega) (by omega)]
    rw [show jb (xs.take j)++[32]++[114]=jb (xs.take j)++32::[114] by simp]
    rfl
   ·rw [show plW (rd xs (j:Int))=Lib.itoa (rd xs (j:Int)) by unfold plW;rw [if_neg cz]] at this
    apply Ev.step
    ·intro k
     simp only [Cc.l0,Ba]
     rw [if_pos (by omega),if_pos (by omega),if_pos (by omega),if_pos (by omega),if_neg cz,w64 (x:=(j:Int)+1) (by omega) (by omega)]
    refine (EC (by omega) (by omega)).bind ?_
    rw [show (⟨#[32]⟩:ByteArray)=tx [32] from rfl,Bu,Bu,Ba,Ba]
    simp only [List.length_append,List.length_singleton]
    rw [show jb (xs.take j)++[32]++Lib.itoa (rd xs (j:Int))=jb (xs.take j)++32::Lib.itoa (rd xs (j:Int)) by simp]
    simp only [if_pos (show (jb (xs.take j)).length+1+(Lib.itoa (rd xs (j:Int))).length≤9223372036854775807 by omega)]
    exact this
theorem NU {xs:List Int} (hx : ∀x∈xs,Sm x) (h1:1≤xs.length) (hl:xs.length≤4) (ps:List Int) (hp : ∀p∈ps,Plc p) (h11:ps.length≤100) : ∀(d j:Nat) (out:List Int),j+d=ps.length→out.length≤j→
  Ev (fun k=>Cf.l0 k xs out ps j) (out++(ps.drop j).filter (fun p => !van xs p)):=by
 intro d
 induction d with
 | zero =>
  intro j out hj ho
  rw [List.drop_of_length_le (by omega)]
  refine Ev.step (f:=fun _=>some out) (fun k=>?_) (by simpa using Ev.now _)
  simp only [Cf.l0]
  rw [if_neg (by omega)]
 | succ d ih =>
  intro j out hj ho
  have hP:=hp _ (DA (xs:=ps) (j:=j) (by omega))
  rw [CQ (show j<ps.length by omega)]
  apply Ev.step
  ·intro k
   simp only [Cf.l0]
   rw [if_pos (by omega),if_pos (by omega),w64 (x:=(j:Int)+1) (by omega) (by omega)]
  ·refine (Hb hP hx h1 (by omega) (by omega)).bind ?_
   by_cases c:van xs (rd ps (j:Int))=true
   ·rw [List.filter_cons_of_neg (by simp [c])]
    simp only [if_pos c]
    exact ih (j+1) out (by omega) (by omega)
   ·have:=ih (j+1) (out++[rd ps (j:Int)]) (by omega) (by simp;omega)
    rw [List.append_assoc,List.singleton_append] at this
    rw [List.filter_cons_of_pos (by simp [c])]
    simp only [if_neg c,if_pos (show out.length<17592186044416 by omega)]
    exact this
theorem IZ {xs:List Int} (c:BK xs=true):Ev (fun k=>Cf.f k xs) (bad xs):=by
 unfold Cf.f
 have hk:=BP.1 c
 have e1:=Fs (xs:=xs) (by omega)
 rw [if_pos c] at e1
 have:=Iq xs
 exact e1.bind (NU hk.1 hk.2.1 hk.2.2 (plc xs) (fun p hp=>GR hp) (by omega) (plc xs).length 0 [] (by omega) (by simp))
theorem cores_ok {xs:List Int} (c:BK xs=true):resT xs 1=(Dd xs 1,true):=by
 have hk:=BP.1 c
 have c2:BK (Dd xs 1)=true:=by
  refine BP.2 ⟨fun y hy=>?_,by simpa [Dd] using hk.2.1,by simpa [Dd] using hk.2.2⟩
  obtain ⟨x,hx,rfl⟩:=List.mem_map.1 hy
  have hs:=hk.1 x hx
  rw [Int.mul_one]
  have:=Ln (n:=x) hs.1 (by have:=hs.2;omega)
  exact ⟨this.1,Nat.le_trans this.2 hs.2⟩
 unfold resT
 rw [if_pos ⟨c,by decide,by decide,c2⟩]
theorem OO {xs:List Int} (c:BK xs=true):Ev (fun k=>CX.f k xs) (resT xs 1):=by
 have hk:=BP.1 c
 unfold CX.f
 exact (Ka (xs:=xs) 1 (fun x h=>by have:=(hk.1 x h).2;omega) (by omega)).bind (Ev.now _)
theorem O2 {xs:List Int} (c:BK xs=true):Ev (fun k=>C9.f k xs) (resT xs 1):=by
 have hk:=BP.1 c
 rw [cores_ok c]
 unfold C9.f
 have e:=BZ (xs:=xs) (by omega)
 rw [c] at e
 refine e.bind ?_
 simp only [if_true]
 have ht:=IJ xs 1 (by decide) (by decide) (fun x h=>⟨(hk.1 x h).1,by have:=(hk.1 x h).2;omega⟩) (by omega) xs.length 0 [] (by omega) rfl
 rw [List.drop_zero,List.nil_append] at ht
 unfold BL.f
 exact ht.bind (Ev.now _)
theorem FL : ∀(xs:List Int) (acc:Int),acc≤GI xs acc∧GI xs acc≤acc+xs.length
 | [],acc=>by simp [GI]
 | y::ys,acc=>by
  simp only [GI,List.length_cons]
  split
  ·have:=FL ys (acc+1);omega
  ·have:=FL ys acc;omega
theorem IB (xs:List Int):0≤less xs∧less xs≤xs.length:=by have:=FL xs 0;exact ⟨this.1,by have:=this.2;unfold less;omega⟩
theorem Jy (a b p:Int):(Hq a b p).natAbs≤1:=by
 unfold Hq
 split
 ·rcases Mc a b p with e|e<;>rw [e]<;>decide
 ·decide
structure Fm (form:List Int):Prop where
 ok:BK form=true
 sm : ∀x∈form,Sm x
 l1:1≤form.length
 l4:form.length≤4
theorem Fm.of {form:List Int} (c:BK form=true):Fm form:=⟨c,(BP.1 c).1,(BP.1 c).2.1,(BP.1 c).2.2⟩
theorem Fm.le {form:List Int} (h:Fm form) {N:Nat} (hN:30≤N) : ∀x∈form,x.natAbs≤N:=fun x hx=>Nat.le_trans (h.sm x hx).2 hN
theorem Fm.mid {form:List Int} (h:Fm form):Mid form:=mid_of (N:=30) (by omega) (h.le (by omega))
theorem Fm.disc {form:List Int} (h:Fm form):(disc form).natAbs≤24300000:=by
 have hb:=EP h.sm (by have:=h.l4;omega)
 have hdb:=Ln hb.1 (by omega)
 show (Bv (prod form)).1.natAbs≤_
 omega
theorem ML (xs:List Int) (h:xs.length≤4) (p:Int) : -1000≤Es xs p:=by
 unfold Es
 split
 ·have:=mn_le (a:=less xs) (b:=(xs.length:Int)-less xs)
  rcases this.2.2 with e|e<;>rw [e]<;>have:=IB xs<;>omega
 ·split
  ·split<;>omega
  ·omega
theorem Fm.pall {form:List Int} (h:Fm form):(pall form).natAbs≤1000:=by
 have:=MG (Es form) (ML form h.l4) (plc form) (form.length:Int) (by omega) (by have:=h.l4;omega)
 show (minL (Es form) (plc form) form.length).natAbs≤1000
 omega
theorem Oa {q:List Int×Bool} (hm:Mid q.1) (hl:q.1.length≤20):(fndT q).length≤440:=by
 unfold fndT
 split
 ·exact E6 hm hl
 ·decide
theorem G8 {q:List Int×Bool} (hm:Mid q.1) (hl:q.1.length≤20):Ev (fun k=>CJ.f k q.1 q.2) (tx (fndT q)):=by
 obtain ⟨l,b⟩:=q
 unfold fndT
 cases b
 ·unfold CJ.f
  simp only [Bool.false_eq_true,if_false]
  exact Ev.now _
 ·exact found_ev hm (by omega)
theorem Ms {q:List Int×Bool}:(if q.2=true then jn q.1++[10] else [110,111,10])=fndT q++[10]:=by
 unfold fndT
 split<;>rfl
theorem ten (a:List UInt8):tx a++(⟨#[10]⟩:ByteArray)=tx (a++[10]):=by rw [show (⟨#[10]⟩:ByteArray)=tx [10] from rfl,Bu]
theorem MS {form:List Int} (h:Fm form) (w:List UInt8):Ev (fun k=>DY.f k form (tx w)) (tx (oneT form w++[10])):=by
 unfold DY.f oneT
 rw [C2]
 have h1:=h.l1
 have h4:=h.l4
 by_cases c1:w=([115,104,111,119]:List UInt8)
 ·simp only [if_pos c1]
  have hj:=E6 h.mid (by omega)
  refine (F1 h.mid (by omega)).bind ?_
  simp only [Ba,if_pos (show (jn form).length+1≤9223372036854775807 by omega),ten]
  exact Ev.now _
 simp only [if_neg c1]
 by_cases c2:w=([100,105,115,99]:List UInt8)
 ·simp only [if_pos c2]
  have hd:=h.disc
  have hj:=Eb (n:=disc form) (by omega)
  have e:=Lf (xs:=form) (by omega)
  rw [if_pos h.ok] at e
  refine e.bind ((EC (n:=disc form) (by omega) (by omega)).bind ?_)
  simp only [Ba,if_pos (show (Lib.itoa (disc form)).length+1≤9223372036854775807 by omega),ten]
  exact Ev.now _
 simp only [if_neg c2]
 by_cases c3:w=([98,97,100]:List UInt8)
 ·simp only [if_pos c3]
  have hb:=NT (form:=form)
  have:=l10Bad_l (bad form) hb.1 (by omega) (bad form).length 0 (by omega)
  rw [List.take_zero] at this
  unfold Cc.f
  exact ((IZ h.ok).bind this).bind (f:=fun _ t=>some t) (Ev.now _)
 simp only [if_neg c3]
 by_cases c4:w=([122,101,114,111]:List UInt8)
 ·simp only [if_pos c4]
  have hz:=Me (form:=form)
  refine (Gr (h.le (by omega)) (by omega)).bind ((F1 hz.1 (by omega)).bind ?_)
  have hj:=E6 hz.1 (by omega)
  simp only [Js _ (show (jn (resS (zF form)).1).length≤1000000 by omega),Option.bind_some,Ms]
  exact Ev.now _
 simp only [if_neg c4]
 by_cases c5:w=([112,108,97,110,101,115]:List UInt8)
 ·simp only [if_pos c5]
  have hd:=h.pall
  have hj:=Eb (n:=pall form) (by omega)
  have e:=Ht (xs:=form) (by omega)
  rw [if_pos h.ok] at e
  refine e.bind ((EC (n:=pall form) (by omega) (by omega)).bind ?_)
  simp only [Ba,if_pos (show (Lib.itoa (pall form)).length+1≤9223372036854775807 by omega),ten]
  exact Ev.now _
 simp only [if_neg c5]
 exact Ev.now _
theorem Nn {form:List Int} (h:Fm form) (w:List UInt8) (hw:w=([115,104,111,119]:List UInt8)∨w=([100,105,115,99]:List UInt8)∨w=([98,97,100]:List UInt8)∨w=([122,101,114,111]:List UInt8)∨w=([112,108,97,110,101,115]:List UInt8)):Ev (fun k=>ask0 k form (tx w)) (tx (oneT form w)):=by
 have h1:=h.l1
 have h4:=h.l4
 rcases hw with rfl|rfl|rfl|rfl|rfl
 ·exact Gu h.mid (by omega)
 ·have hd:=h.disc
  have e:=LB (xs:=form) (h.le (by omega)) (by omega)
  rw [if_pos h.ok] at e
  show Ev (fun k=>(C5.f k form).bind fun n=>strconv_Itoa.f n) (tx (Lib.itoa (disc form)))
  refine e.bind ?_
  rw [Hd (by omega) (by omega)]
  exact Ev.now _
 ·have hb:=NT (form:=form)
  have e:=IX (xs:=form) (h.le (by omega)) (by omega)
  rw [if_pos h.ok] at e
  show Ev (fun k=>(BM.f k form).bind fun ps=>if ps.length≤1000000 then (badL ps).bind fun ts=>strings_Join.f ts (tx [32]) else none) (tx (jb (bad form)))
  refine e.bind ?_
  rw [if_pos (by omega),NZ hb.1,Option.bind_some,joinB_eq hb.1 (by omega)]
  exact Ev.now _
 ·have hz:=Me (form:=form)
  show Ev (fun k=>(BI.f k form).bind fun q=>CJ.f k q.1 q.2) (tx (fndT (resS (zF form))))
  exact (Gp (h.le (by omega)) (by omega)).bind (G8 hz.1 (by omega))
 ·have hd:=h.pall
  have e:=Hs (xs:=form) (h.le (by omega)) (by omega)
  rw [if_pos h.ok] at e
  show Ev (fun k=>(BC.f k form).bind fun n=>strconv_Itoa.f n) (tx (Lib.itoa (pall form)))
  refine e.bind ?_
  rw [Hd (by omega) (by omega)]
  exact Ev.now _
theorem Nr {form:List Int} (h:Fm form) (p:Int):Ev (fun k=>Ei.f k form p) (tx (atT form p++[10])):=by
 unfold Ei.f atT
 refine (Fq p).bind ?_
 by_cases c:DB p=true
 ·simp only [if_pos c]
  refine (Hb (Ed.1 c) h.sm h.l1 (by have:=h.l4;omega) (by have:=h.l4;omega)).bind ?_
  by_cases c2:van form p=true
  ·simp only [if_pos c2];exact Ev.now _
  ·simp only [if_neg c2];exact Ev.now _
 ·simp only [if_neg c];exact Ev.now _
theorem val_len {q:List Int×Int×Bool} (hm:Mid q.1) (hl:q.1.length≤20) (hd:q.2.1.natAbs≤1000000000):(valT q).length≤500:=by
 unfold valT
 split
 ·have:=E6 hm hl
  have:=Eb (n:=q.2.1) (by omega)
  simp only [List.length_append,List.length_cons,List.length_nil]
  omega
 ·decide
theorem FW {ws:List (List UInt8)} {j:Nat} (h:j<ws.length):rdOf ByteArray.empty (ws.map tx) (j:Int)=tx (ws.getD j []):=by
 unfold rdOf
 simp [List.getD_eq_getElem?_getD,h]
theorem M3 {form:List Int} (h:Fm form) (w:List UInt8) (r:List (List UInt8)):Ev (fun k=>AR.f k form ((w::r).map tx)) (tx (askT form w r++[10])):=by
 have h4:=h.l4
 have hlen:(((w::r).map tx).length:Int)=(r.length:Int)+1:=by simp
 have r0:rdOf ByteArray.empty ((w::r).map tx) 0=tx w:=FW (ws:=w::r) (j:=0) (by simp)
 have r1:1≤r.length→rdOf ByteArray.empty ((w::r).map tx) 1=tx (r.getD 0 []):=fun e=>FW (ws:=w::r) (j:=1) (by simp;omega)
 have r2:2≤r.length→rdOf ByteArray.empty ((w::r).map tx) 2=tx (r.getD 1 []):=fun e=>FW (ws:=w::r) (j:=2) (by simp;omega)
 have r3:3≤r.length→rdOf ByteArray.empty ((w::r).map tx) 3=tx (r.getD 2 []):=fun e=>FW (ws:=w::r) (j:=3) (by simp;omega)
 generalize (w::r).map tx=L at hlen r0 r1 r2 r3 ⊢
 unfold AR.f askT
 by_cases c0:r.length=0
 ·simp only [if_pos c0,if_pos (show (L.length:Int)=1 by omega),if_pos (show 0<(L.length:Int) by omega),r0]
  exact (MS h w).bind (f:=fun _ t=>some t) (Ev.now _)
 simp only [if_neg c0,if_neg (show ¬(L.length:Int)=1 by omega),if_pos (show 0<(L.length:Int) by omega),r0,C2]
 -- squares
 have q3 : ∀b:Bool,(b=true↔w=([115,113,117,97,114,101,115]:List UInt8)∧r.length=1)→Ev (fun k=>AR.j3 k L b) (tx ((if w=[115,113,117,97,114,101,115]∧r.length=1 then fndT (GK (numT (r.getD 0 []))) else whW)++[10])):=by
  intro b hb
  by_cases c:w=([115,113,117,97,114,101,115]:List UInt8)∧r.length=1
  ·rw [if_pos c,hb.2 c]
   apply Ev.step
   ·intro k
    simp only [AR.j3,if_true,if_pos (show 1<(L.length:Int) by omega),r1 (by omega)]
    exact rfl
   have hz:=JY (numT (r.getD 0 []))
   refine (EX _).bind ((IK _ (by have:=N0 (r.getD 0 []);omega)).bind ((F1 hz.1 (by omega)).bind ?_))
   have hj:=E6 hz.1 (by omega)
   have e:=Js (GK (numT (r.getD 0 []))).2 (show (jn (GK (numT (r.getD 0 []))).1).length≤1000000 by omega)
   rw [Ms] at e
   refine Cn (fun k=>?_) (Ev.now _)
   show (Cz.f (tx (jn (GK (numT (r.getD 0 []))).1)) (GK (numT (r.getD 0 []))).2).bind _=_
   rw [e]
   rfl
  ·rw [if_neg c,Bool.eq_false_iff.2 (fun e=>c (hb.1 e))]
   refine Ev.step (f:=fun _=>some (tx (whW++[10]))) (fun k=>?_) (Ev.now _)
   simp only [AR.j3,Bool.false_eq_true,if_false]
   rfl
 have q2 : ∀b:Bool,(b=true↔w=([118,97,108,117,101]:List UInt8)∧r.length=1)→Ev (fun k=>AR.j2 k form L b) (tx ((if w=[118,97,108,117,101]∧r.length=1 then valT (resV (vF form (numT (r.getD 0 [])))) else if w=[115,113,117,97,114,101,115]∧r.length=1 then fndT (GK (numT (r.getD 0 []))) else whW)++[10])):=by
  intro b hb
  by_cases c:w=([118,97,108,117,101]:List UInt8)∧r.length=1
  ·rw [if_pos c,hb.2 c]
   apply Ev.step
   ·intro k
    simp only [AR.j2,if_true,if_pos (show 1<(L.length:Int) by omega),r1 (by omega)]
    exact rfl
   have hz:=Pr (form:=form) (t:=numT (r.getD 0 []))
   have hj:=E6 hz.1 (by omega)
   have hi:=Eb (n:=(resV (vF form (numT (r.getD 0 [])))).2.1) (by omega)
   refine (EX _).bind ((Ol (h.le (by omega)) (by omega)).bind ((F1 hz.1 (by omega)).bind ?_))
   simp only [Ba,if_pos (show (jn (resV (vF form (numT (r.getD 0 [])))).1).length+3≤9223372036854775807 by omega)]
   refine (EC (n:=(resV (vF form (numT (r.getD 0 [])))).2.1) (by omega) (by omega)).bind ?_
   rw [show (⟨#[32,47,32]⟩:ByteArray)=tx [32,47,32] from rfl,Bu,Bu,Ba,Ba]
   have hl3:(jn (resV (vF form (numT (r.getD 0 [])))).1++[32,47,32]).length+(Lib.itoa (resV (vF form (numT (r.getD 0 [])))).2.1).length≤9223372036854775807:=by simp only [List.length_append,List.length_cons,List.length_nil];omega
   have e:=Js (a:=jn (resV (vF form (numT (r.getD 0 [])))).1++[32,47,32]++Lib.itoa (resV (vF form (numT (r.getD 0 [])))).2.1) (resV (vF form (numT (r.getD 0 [])))).2.2 (by simp only [List.length_append,List.length_cons,List.length_nil];omega)
   simp only [if_pos hl3,e,Option.bind_some]
   rw [show (if (resV (vF form (numT (r.getD 0 [])))).2.2=true then jn (resV (vF form (numT (r.getD 0 [])))).1++[32,47,32]++Lib.itoa (resV (vF form (numT (r.getD 0 [])))).2.1++[10] else [110,111,10])=valT (resV (vF form (numT (r.getD 0 []))))++[10] by unfold valT;split<;>rfl]
   exact Ev.now _
  ·rw [if_neg c,Bool.eq_false_iff.2 (fun e=>c (hb.1 e))]
   by_cases cw:w=([115,113,117,97,114,101,115]:List UInt8)
   ·refine Ev.step (fun k=>?_) (q3 ((L.length:Int)==2) ⟨fun e=>⟨cw,by have:=beq_iff_eq.1 e;omega⟩,fun e=>beq_iff_eq.2 (by omega)⟩)
    simp only [AR.j2,Bool.false_eq_true,if_false,if_pos (show 0<(L.length:Int) by omega),r0,C2,if_pos cw]
   ·refine Ev.step (fun k=>?_) (q3 false ⟨fun e=>(by cases e),fun e=>absurd e.1 cw⟩)
    simp only [AR.j2,Bool.false_eq_true,if_false,if_pos (show 0<(L.length:Int) by omega),r0,C2,if_neg cw]
 have q1 : ∀b:Bool,(b=true↔w=([97,116]:List UInt8)∧r.length=1)→Ev (fun k=>AR.j1 k form L b) (tx ((if w=[97,116]∧r.length=1 then atT form (Et (r.getD 0 [])) else if w=[118,97,108,117,101]∧r.length=1 then valT (resV (vF form (numT (r.getD 0 [])))) else if w=[115,113,117,97,114,101,115]∧r.length=1 then fndT (GK (numT (r.getD 0 []))) else whW)++[10])):=by
  intro b hb
  by_cases c:w=([97,116]:List UInt8)∧r.length=1
  ·rw [if_pos c,hb.2 c]
   apply Ev.step
   ·intro k
    simp only [AR.j1,if_true,if_pos (show 1<(L.length:Int) by omega),r1 (by omega)]
    exact rfl
   exact (Hm _).bind ((Nr h _).bind (Ev.now _))
  ·rw [if_neg c,Bool.eq_false_iff.2 (fun e=>c (hb.1 e))]
   by_cases cw:w=([118,97,108,117,101]:List UInt8)
   ·refine Ev.step (fun k=>?_) (q2 ((L.length:Int)==2) ⟨fun e=>⟨cw,by have:=beq_iff_eq.1 e;omega⟩,fun e=>beq_iff_eq.2 (by omega)⟩)
    simp only [AR.j1,Bool.false_eq_true,if_false,if_pos (show 0<(L.length:Int) by omega),r0,C2,if_pos cw]
   ·refine Ev.step (fun k=>?_) (q2 false ⟨fun e=>(by cases e),fun e=>absurd e.1 cw⟩)
    simp only [AR.j1,Bool.false_eq_true,if_false,if_pos (show 0<(L.length:Int) by omega),r0,C2,if_neg cw]
 have q0 : ∀b:Bool,(b=true↔w=([115,121,109,98,111,108]:List UInt8)∧r.length=3)→Ev (fun k=>AR.j0 k form L b) (tx ((if w=[115,121,109,98,111,108]∧r.length=3 then symT (Hq (numT (r.getD 0 [])) (numT (r.getD 1 [])) (Et (r.getD 2 []))) else if w=[97,116]∧r.length=1 then atT form (Et (r.getD 0 [])) else if w=[118,97,108,117,101]∧r.length=1 then valT (resV (vF form (numT (r.getD 0 [])))) else if w=[115,113,117,97,114,101,115]∧r.length=1 then fndT (GK (numT (r.getD 0 []))) else whW)++[10])):=by
  intro b hb
  by_cases c:w=([115,121,109,98,111,108]:List UInt8)∧r.length=3
  ·rw [if_pos c,hb.2 c]
   apply Ev.step
   ·intro k
    simp only [AR.j0,if_true,if_pos (show 1<(L.length:Int) by omega),if_pos (show 2<(L.length:Int) by omega),if_pos (show 3<(L.length:Int) by omega),r1 (by omega),r2 (by omega),r3 (by omega)]
    exact rfl
   refine (EX _).bind ((EX _).bind ((Hm _).bind ((J9 _ _ _).bind ?_)))
   generalize hs:Hq (numT (r.getD 0 [])) (numT (r.getD 1 [])) (Et (r.getD 2 []))=s
   have hb:s.natAbs≤1:=by rw [← hs];exact Jy _ _ _
   have hi:=Eb (n:=s) (by omega)
   refine (EC (n:=s) (by omega) (by omega)).bind ?_
   simp only [Js _ (show (Lib.itoa s).length≤1000000 by omega),Option.bind_some]
   rw [show (if (s != 0)=true then Lib.itoa s++[10] else [110,111,10])=symT s++[10] by
    unfold symT
    by_cases e:s=0
    ·subst e;rfl
    ·rw [if_pos (bne_iff_ne.2 e),if_neg e]]
   exact Ev.now _
  ·rw [if_neg c,Bool.eq_false_iff.2 (fun e=>c (hb.1 e))]
   by_cases cw:w=([97,116]:List UInt8)
   ·refine Ev.step (fun k=>?_) (q1 ((L.length:Int)==2) ⟨fun e=>⟨cw,by have:=beq_iff_eq.1 e;omega⟩,fun e=>beq_iff_eq.2 (by omega)⟩)
    simp only [AR.j0,Bool.false_eq_true,if_false,if_pos (show 0<(L.length:Int) by omega),r0,C2,if_pos cw]
   ·refine Ev.step (fun k=>?_) (q1 false ⟨fun e=>(by cases e),fun e=>absurd e.1 cw⟩)
    simp only [AR.j0,Bool.false_eq_true,if_false,if_pos (show 0<(L.length:Int) by omega),r0,C2,if_neg cw]
 by_cases cw:w=([115,121,109,98,111,108]:List UInt8)
 ·simp only [if_pos cw]
  exact q0 ((L.length:Int)==4) ⟨fun e=>⟨cw,by have:=beq_iff_eq.1 e;omega⟩,fun e=>beq_iff_eq.2 (by omega)⟩
 ·simp only [if_neg cw]
  exact q0 false ⟨fun e=>(by cases e),fun e=>absurd e.1 cw⟩
theorem Nf {w:List UInt8} {n:Nat} (h:E3 w=(n:Int)) (hn:1≤n):(n=1∧(w=([98,97,100]:List UInt8)∨w=([99,111,114,101,115]:List UInt8)∨w=([100,105,115,99]:List UInt8)∨w=([112,108,97,110,101,115]:List UInt8)∨w=([115,104,111,119]:List UInt8)∨w=([122,101,114,111]:List UInt8)))∨(n=2∧(w=([97,116]:List UInt8)∨w=([115,113,117,97,114,101,115]:List UInt8)∨w=([116,105,109,101,115]:List UInt8)∨w=([118,97,108,117,101]:List UInt8)))∨(n=4∧w=([115,121,109,98,111,108]:List UInt8)):=by
 unfold E3 at h
 by_cases e:[97,116]=w
 ·rw [if_pos e] at h;exact .inr (.inl ⟨by omega,.inl e.symm⟩)
 rw [if_neg e] at h;clear e
 by_cases e:[98,97,100]=w
 ·rw [if_pos e] at h;exact .inl ⟨by omega,.inl e.symm⟩
 rw [if_neg e] at h;clear e
 by_cases e:[99,111,114,101,115]=w
 ·rw [if_pos e] at h;exact .inl ⟨by omega,.inr (.inl e.symm)⟩
 rw [if_neg e] at h;clear e
 by_cases e:[100,105,115,99]=w
 ·rw [if_pos e] at h;exact .inl ⟨by omega,.inr (.inr (.inl e.symm))⟩
 rw [if_neg e] at h;clear e
 by_cases e:[112,108,97,110,101,115]=w
 ·rw [if_pos e] at h;exact .inl ⟨by omega,.inr (.inr (.inr (.inl e.symm)))⟩
 rw [if_neg e] at h;clear e
 by_cases e:[115,104,111,119]=w
 ·rw [if_pos e] at h;exact .inl ⟨by omega,.inr (.inr (.inr (.inr (.inl e.symm))))⟩
 rw [if_neg e] at h;clear e
 by_cases e:[115,113,117,97,114,101,115]=w
 ·rw [if_pos e] at h;exact .inr (.inl ⟨by omega,.inr (.inl e.symm)⟩)
 rw [if_neg e] at h;clear e
 by_cases e:[115,121,109,98,111,108]=w
 ·rw [if_pos e] at h;exact .inr (.inr ⟨by omega,e.symm⟩)
 rw [if_neg e] at h;clear e
 by_cases e:[116,105,109,101,115]=w
 ·rw [if_pos e] at h;exact .inr (.inl ⟨by omega,.inr (.inr (.inl e.symm))⟩)
 rw [if_neg e] at h;clear e
 by_cases e:[118,97,108,117,101]=w
 ·rw [if_pos e] at h;exact .inr (.inl ⟨by omega,.inr (.inr (.inr (e.symm)))⟩)
 rw [if_neg e] at h;clear e
 by_cases e:[122,101,114,111]=w
 ·rw [if_pos e] at h;exact .inl ⟨by omega,.inr (.inr (.inr (.inr (.inr (e.symm)))))⟩
 rw [if_neg e] at h;clear e
 omega
def outT (q:List Int×List UInt8):List Int×ByteArray:=(q.1,tx (q.2++[10]))
theorem Ih (form:List Int) (q:List Int×Bool):Ev (fun _=>if q.2=true then some (q.1,(⟨#[111,107,10]⟩:ByteArray)) else some (form,(⟨#[110,111,10]⟩:ByteArray))) (outT (FA form q)):=by
 unfold FA
 by_cases c:q.2=true
 ·simp only [if_pos c];exact Ev.now _
 ·simp only [if_neg c];exact Ev.now _
theorem ID (form:List Int) (q:List Int×Bool):Ev (fun _=>some (if q.2=true then q.1 else form,if q.2=true then (⟨#[111,107]⟩:ByteArray) else (⟨#[110,111]⟩:ByteArray))) ((FA form q).1,tx (FA form q).2):=by
 unfold FA
 by_cases c:q.2=true
 ·simp only [if_pos c];exact Ev.now _
 ·simp only [if_neg c];exact Ev.now _
theorem NB (r:List (List UInt8)):Ev (fun k=>Ho k (r.map tx)) (r.map numT):=by
 induction r with
 | nil=>exact Ev.now _
 | cons x r ih =>
  simp only [List.map_cons,Ho]
  exact (Ey x).bind (ih.bind (Ev.now _))
theorem nums_bd (r:List (List UInt8)) : ∀x∈r.map numT,x.natAbs≤1000000:=by
 intro x hx
 obtain ⟨y,_,rfl⟩:=List.mem_map.1 hx
 have:=N0 y;omega
theorem MW {form:List Int} (h:Fm form) (w:List UInt8) (r:List (List UInt8)) (hl:r.length≤1000) (hs:w.length≤1000000):Ev (fun k=>Dj.f k form ((w::r).map tx)) ((ES form w r).1,tx (ES form w r).2):=by
 have h4:=h.l4
 simp only [List.map_cons,Dj.f,EJ,List.length_map]
 unfold ES
 by_cases cF:w=([102,111,114,109]:List UInt8)
 ·subst cF
  simp only [if_pos (show tx ([102,111,114,109]:List UInt8)=Fx from rfl)]
  by_cases cr:r.length=0
  ·obtain rfl:=List.length_eq_zero_iff.1 cr
   refine Cn (g:=fun _=>some (form,GG)) (fun k=>if_pos rfl) ?_
   exact Ev.now _
  ·rw [if_pos (show _∧_ from ⟨by first|rfl|trivial,by omega⟩)]
   refine Cn (g:=fun k=>FE k form (r.map tx)) (fun k=>if_neg (fun e=>cr (by have:=congrArg List.length e;simpa using this))) ?_
   unfold FE
   simp only [List.length_map,if_pos (show 1≤r.length∧r.length≤1000000 from ⟨by omega,by omega⟩)]
   exact (NB r).bind ((BR (nums_bd r) (by simpa using hl)).bind (ID form (r.map numT,BK (r.map numT))))
 simp only [if_neg (show ¬tx w=Fx from fun e=>cF (Ia (b:=([102,111,114,109]:List UInt8)) e))]
 rw [if_neg (show ¬(w=[102,111,114,109]∧0<r.length) from fun e=>cF e.1)]
 by_cases cm:E3 w=((r.length+1:Nat):Int)
 ·simp only [if_neg (show ¬E3 w≠((r.length+1:Nat):Int) from fun e=>e cm)]
  rcases Nf cm (by omega) with ⟨hr,hw⟩|⟨hr,hw⟩|⟨hr,hw⟩
  ·obtain rfl:r=[]:=List.length_eq_zero_iff.1 (by omega)
   have ct : ¬w=([116,105,109,101,115]:List UInt8):=by rcases hw with rfl|rfl|rfl|rfl|rfl|rfl<;>decide
   simp only [if_neg (show ¬tx w=Gf from fun e=>ct (Ia (b:=([116,105,109,101,115]:List UInt8)) e))]
   rw [if_neg (show ¬(w=[116,105,109,101,115]∧([]:List (List UInt8)).length=1) from fun e=>ct e.1)]
   by_cases cc:w=([99,111,114,101,115]:List UInt8)
   ·rw [if_pos ⟨cc,rfl⟩]
    simp only [if_pos (show tx w=Gg by rw [cc];rfl),List.map_nil]
    unfold Io
    exact (OO h.ok).bind (ID form (resT form 1))
   ·rw [if_neg (show ¬(w=[99,111,114,101,115]∧([]:List (List UInt8)).length=0) from fun e=>cc e.1)]
    simp only [if_neg (show ¬tx w=Gg from fun e=>cc (Ia (b:=([99,111,114,101,115]:List UInt8)) e)),List.map_nil]
    have hw':w=([115,104,111,119]:List UInt8)∨w=([100,105,115,99]:List UInt8)∨w=([98,97,100]:List UInt8)∨w=([122,101,114,111]:List UInt8)∨w=([112,108,97,110,101,115]:List UInt8):=by
     rcases hw with e|e|e|e|e|e
     ·exact .inr (.inr (.inl e))
     ·exact absurd e cc
     ·exact .inr (.inl e)
     ·exact .inr (.inr (.inr (.inr e)))
     ·exact .inl e
     ·exact .inr (.inr (.inr (.inl e)))
    exact (Nn h w hw').bind (Ev.now _)
  ·obtain ⟨a,rfl⟩ : ∃a,r=[a]:=by
    match r,hr with
    | [a],_=>exact ⟨a,rfl⟩
   have cc : ¬w=([99,111,114,101,115]:List UInt8):=by rcases hw with rfl|rfl|rfl|rfl<;>decide
   simp only [if_neg (show ¬tx w=Gg from fun e=>cc (Ia (b:=([99,111,114,101,115]:List UInt8)) e)),List.map_cons,List.map_nil]
   by_cases ct:w=([116,105,109,101,115]:List UInt8)
   ·rw [if_pos ⟨ct,rfl⟩]
    simp only [if_pos (show tx w=Gf by rw [ct];rfl)]
    unfold Ip
    exact (Ey a).bind ((Ka (numT a) (h.le (by omega)) (by omega)).bind (ID form (resT form (numT a))))
   rw [if_neg (show ¬(w=[116,105,109,101,115]∧[a].length=1) from fun e=>ct e.1),if_neg (show ¬(w=[99,111,114,101,115]∧[a].length=0) from fun e=>cc e.1)]
   simp only [if_neg (show ¬tx w=Gf from fun e=>ct (Ia (b:=([116,105,109,101,115]:List UInt8)) e))]
   refine Ev.bind (g:=fun k=>ask1 k form (tx w) (tx a)) (f:=fun _ t=>some (form,t)) (a:=tx (askT form w [a])) ?_ (Ev.now _)
   rcases hw with rfl|rfl|rfl|rfl
   ·show Ev (fun k=>(CG.f k (tx a)).bind fun n=>(BD.f k n).bind fun v=>if v=true then (Ct.f k form n).bind fun t=>some (KQ true t) else some (KQ false false)) (tx (atT form (Et a)))
    refine (Hn a).bind ((Ew _).bind ?_)
    unfold atT
    by_cases c:DB (Et a)=true
    ·simp only [if_pos c]
     have e:=Gi (xs:=form) (p:=Et a) (h.le (by omega)) (by omega)
     rw [h.ok,c,Bool.true_and,Bool.true_and] at e
     refine e.bind ?_
     cases van form (Et a)<;>exact Ev.now _
    ·simp only [if_neg c];exact Ev.now _
   ·show Ev (fun k=>(Ax.f k (tx a)).bind fun n=>(Da.f n).bind fun q=>CJ.f k q.1 q.2) (tx (fndT (GK (numT a))))
    refine (Ey a).bind ?_
    simp only [IL,Option.bind_some]
    have hz:=JY (numT a)
    exact G8 (q:=GK (numT a)) hz.1 (by omega)
   ·exact absurd rfl ct
   ·show Ev (fun k=>(Ax.f k (tx a)).bind fun n=>(Ad.f k form n).bind fun q=>if q.2.2=true then (Bx.f k q.1).bind fun t=>(strconv_Itoa.f q.2.1).bind fun u=>if t.size≤1000000∧u.size≤1000000 then some (JZ t u) else none else some ⟨#[110,111]⟩) (tx (valT (resV (vF form (numT a)))))
    have hz:=Pr (form:=form) (t:=numT a)
    have hj:=E6 hz.1 (by omega)
    have hi:=Eb (n:=(resV (vF form (numT a))).2.1) (by omega)
    refine (Ey a).bind ((OL (h.le (by omega)) (by omega)).bind ?_)
    unfold valT
    by_cases c:(resV (vF form (numT a))).2.2=true
    ·simp only [if_pos c]
     refine (Gu hz.1 (by omega)).bind ?_
     rw [Hd (by omega) (by omega)]
     simp only [Option.bind_some,Ba,if_pos (show (jn (resV (vF form (numT a))).1).length≤1000000∧(Lib.itoa (resV (vF form (numT a))).2.1).length≤1000000 from ⟨by omega,by omega⟩)]
     unfold JZ
     rw [show (⟨#[32,47,32]⟩:ByteArray)=tx [32,47,32] from rfl,Bu,Bu]
     exact Ev.now _
    ·simp only [if_neg c];exact Ev.now _
  ·obtain ⟨a,b,c,rfl⟩ : ∃a b c,r=[a,b,c]:=by
    match r,hr with
    | [a,b,c],_=>exact ⟨a,b,c,rfl⟩
   subst hw
   refine Cn (g:=fun k=>(ask3 k (tx ([115,121,109,98,111,108]:List UInt8)) (tx a) (tx b) (tx c)).bind fun t=>some (form,t)) (fun k=>?_) ?_
   ·rw [if_neg (show ¬tx ([115,121,109,98,111,108]:List UInt8)=Gf by intro e;exact absurd (Ia (b:=([116,105,109,101,115]:List UInt8)) e) (by decide)),if_neg (show ¬tx ([115,121,109,98,111,108]:List UInt8)=Gg by intro e;exact absurd (Ia (b:=([99,111,114,101,115]:List UInt8)) e) (by decide))]
    rfl
   refine Ev.bind (g:=fun k=>ask3 k (tx ([115,121,109,98,111,108]:List UInt8)) (tx a) (tx b) (tx c)) (f:=fun _ t=>some (form,t)) (a:=tx (symT (Hq (numT a) (numT b) (Et c)))) ?_ (Ev.now _)
   show Ev (fun k=>(Ax.f k (tx a)).bind fun n1=>(Ax.f k (tx b)).bind fun n2=>(CG.f k (tx c)).bind fun n3=>(C8.f k n1 n2 n3).bind fun sy=>CJ.f k [sy] (sy != 0)) _
   refine (Ey a).bind ((Ey b).bind ((Hn c).bind ((Ku _ _ _).bind ?_)))
   generalize hs:Hq (numT a) (numT b) (Et c)=s
   have hb:s.natAbs≤1:=by rw [← hs];exact Jy _ _ _
   have e:=G8 (q:=([s],s != 0)) (fun x hx=>by simp at hx;subst hx;omega) (by simp)
   rw [show fndT ([s],s != 0)=symT s by
    unfold fndT symT
    by_cases e:s=0
    ·subst e;rfl
    ·rw [if_pos (bne_iff_ne.2 e),if_neg e,Pe];simp [spc]] at e
   exact e
 ·simp only [if_pos (show E3 w≠((r.length+1:Nat):Int) from cm),Ba,if_pos hs]
  have k : ∀ {X:List UInt8} {n:Nat},E3 X=((n+1:Nat):Int)→¬(w=X∧r.length=n):=fun hX e=>cm (by rw [e.1,hX,e.2])
  rw [if_neg (k (by decide)),if_neg (k (by decide))]
  have e:askT form w r=whW:=by
   unfold askT
   by_cases c0:r.length=0
   ·rw [if_pos c0]
    unfold oneT
    have k0 : ∀ {X:List UInt8},E3 X=((0+1:Nat):Int)→¬w=X:=fun hX e=>k hX ⟨e,c0⟩
    rw [if_neg (k0 (by decide)),if_neg (k0 (by decide)),if_neg (k0 (by decide)),if_neg (k0 (by decide)),if_neg (k0 (by decide))]
   ·rw [if_neg c0,if_neg (k (by decide)),if_neg (k (by decide)),if_neg (k (by decide)),if_neg (k (by decide))]
  rw [e]
  exact Ev.now _
theorem M9 {form:List Int} (ws:List (List UInt8)) (hl:ws.length≤1001) {R:List Int×ByteArray} : ∀(d j:Nat) (acc:List Int),j+d=ws.length→acc.length≤j→
  Ev (fun k=>if 0<((ws.map tx).length:Int) then (if (rdOf ByteArray.empty (ws.map tx) 0).toList=([102,111,114,109]:List UInt8) then (AK.j1 k form (ws.map tx) (acc++(ws.drop j).map numT) (decide (((acc++(ws.drop j).map numT).length:Int)>0))) else AK.j1 k form (ws.map tx) (acc++(ws.drop j).map numT) false) else none) R→
  Ev (fun k=>AK.l0 k form (ws.map tx) acc (j:Int)) R:=by
 intro d
 induction d with
 | zero =>
  intro j acc hj ha hR
  rw [List.drop_of_length_le (by omega),List.map_nil,List.append_nil] at hR
  refine Ev.step (fun k=>?_) hR
  simp only [AK.l0]
  rw [if_neg (by simp;omega)]
 | succ d ih =>
  intro j acc hj ha hR
  have hjl:j<ws.length:=by omega
  rw [List.drop_eq_getElem_cons hjl,List.map_cons,List.append_cons] at hR
  have:=ih (j+1) (acc++[numT ws[j]]) (by omega) (by simp;omega) hR
  apply Ev.step
  ·intro k
   simp only [AK.l0]
   rw [if_pos (by simp;omega),if_pos (by omega),FW hjl,w64 (x:=(j:Int)+1) (by omega) (by omega)]
  rw [show ws.getD j []=ws[j] by simp [List.getD_eq_getElem?_getD,hjl]]
  refine (EX _).bind ?_
  simp only [if_pos (show acc.length<17592186044416 by omega)]
  exact this
theorem Lh {form:List Int} (h:Fm form) (w:List UInt8) (r:List (List UInt8)) (hl:r.length≤1000):Ev (fun k=>AK.f k form ((w::r).map tx)) (outT (ES form w r)):=by
 have h4:=h.l4
 unfold AK.f
 refine M9 (w::r) (by simp;omega) r.length 1 [] (by simp;omega) (by simp) ?_
 have hA:=M3 h w r
 have r0:rdOf ByteArray.empty ((w::r).map tx) 0=tx w:=FW (ws:=w::r) (j:=0) (by simp)
 have hlen:(((w::r).map tx).length:Int)=(r.length:Int)+1:=by simp
 generalize (w::r).map tx=L at hA r0 hlen ⊢
 simp only [List.drop_succ_cons,List.drop_zero,List.nil_append,r0,C2,if_pos (show 0<(L.length:Int) by omega)]
 unfold ES
 have hn:((r.map numT).length:Int)=(r.length:Int):=by simp
 have q3 : ∀b:Bool,(b=true↔w=([99,111,114,101,115]:List UInt8)∧r.length=0)→Ev (fun k=>AK.j3 k form L b) (outT (if w=[99,111,114,101,115]∧r.length=0 then FA form (resT form 1) else (form,askT form w r))):=by
  intro b hb
  by_cases c:w=([99,111,114,101,115]:List UInt8)∧r.length=0
  ·rw [if_pos c,hb.2 c]
   apply Ev.step
   ·intro k
    simp only [AK.j3,if_true]
    exact rfl
   exact (O2 h.ok).bind (Ih form (resT form 1))
  ·rw [if_neg c,Bool.eq_false_iff.2 (fun e=>c (hb.1 e))]
   apply Ev.step
   ·intro k
    simp only [AK.j3,Bool.false_eq_true,if_false]
    exact rfl
   exact hA.bind (Ev.now _)
 have q2 : ∀b:Bool,(b=true↔w=([116,105,109,101,115]:List UInt8)∧r.length=1)→Ev (fun k=>AK.j2 k form L (r.map numT) b) (outT (if w=[116,105,109,101,115]∧r.length=1 then FA form (resT form (numT (r.getD 0 []))) else if w=[99,111,114,101,115]∧r.length=0 then FA form (resT form 1) else (form,askT form w r))):=by
  intro b hb
  by_cases c:w=([116,105,109,101,115]:List UInt8)∧r.length=1
  ·rw [if_pos c,hb.2 c]
   obtain ⟨a,rfl⟩ : ∃a,r=[a]:=by
    match r,c.2 with
    | [a],_=>exact ⟨a,rfl⟩
   apply Ev.step
   ·intro k
    simp only [AK.j2,if_true]
    exact if_pos (by simp)
   exact (Ph (numT a) (h.le (by omega)) (by omega)).bind (Ih form (resT form (numT a)))
  ·rw [if_neg c,Bool.eq_false_iff.2 (fun e=>c (hb.1 e))]
   by_cases cw:w=([99,111,114,101,115]:List UInt8)
   ·refine Ev.step (fun k=>?_) (q3 (((r.map numT).length:Int)==0) ⟨fun e=>⟨cw,by have:=beq_iff_eq.1 e;omega⟩,fun e=>beq_iff_eq.2 (by omega)⟩)
    simp only [AK.j2,Bool.false_eq_true,if_false,if_pos (show 0<(L.length:Int) by omega),r0,C2,if_pos cw]
   ·refine Ev.step (fun k=>?_) (q3 false ⟨fun e=>(by cases e),fun e=>absurd e.1 cw⟩)
    simp only [AK.j2,Bool.false_eq_true,if_false,if_pos (show 0<(L.length:Int) by omega),r0,C2,if_neg cw]
 have q1 : ∀b:Bool,(b=true↔w=([102,111,114,109]:List UInt8)∧0<r.length)→Ev (fun k=>AK.j1 k form L (r.map numT) b) (outT (if w=[102,111,114,109]∧0<r.length then FA form (r.map numT,BK (r.map numT)) else if w=[116,105,109,101,115]∧r.length=1 then FA form (resT form (numT (r.getD 0 []))) else if w=[99,111,114,101,115]∧r.length=0 then FA form (resT form 1) else (form,askT form w r))):=by
  intro b hb
  by_cases c:w=([102,111,114,109]:List UInt8)∧0<r.length
  ·rw [if_pos c,hb.2 c]
   apply Ev.step
   ·intro k
    simp only [AK.j1,if_true]
    exact rfl
   exact (BZ (xs:=r.map numT) (by simpa using hl)).bind (Ih form (r.map numT,BK (r.map numT)))
  ·rw [if_neg c,Bool.eq_false_iff.2 (fun e=>c (hb.1 e))]
   by_cases cw:w=([116,105,109,101,115]:List UInt8)
   ·refine Ev.step (fun k=>?_) (q2 (((r.map numT).length:Int)==1) ⟨fun e=>⟨cw,by have:=beq_iff_eq.1 e;omega⟩,fun e=>beq_iff_eq.2 (by omega)⟩)
    simp only [AK.j1,Bool.false_eq_true,if_false,if_pos (show 0<(L.length:Int) by omega),r0,C2,if_pos cw]
   ·refine Ev.step (fun k=>?_) (q2 false ⟨fun e=>(by cases e),fun e=>absurd e.1 cw⟩)
    simp only [AK.j1,Bool.false_eq_true,if_false,if_pos (show 0<(L.length:Int) by omega),r0,C2,if_neg cw]
 by_cases cw:w=([102,111,114,109]:List UInt8)
 ·simp only [if_pos cw]
  exact q1 (decide (((r.map numT).length:Int)>0)) ⟨fun e=>⟨cw,by have:=of_decide_eq_true e;omega⟩,fun e=>decide_eq_true (by have:=e.2;omega)⟩
 ·simp only [if_neg cw]
  exact q1 false ⟨fun e=>(by cases e),fun e=>absurd e.1 cw⟩
theorem Lq {form:List Int} (h:Fm form) {q:List Int×Bool} (hq:q.2=true→BK q.1=true):Fm (FA form q).1:=by
 unfold FA
 split
 ·exact Fm.of (hq (by assumption))
 ·exact h
theorem JR (form:List Int) (q:List Int×Bool):(FA form q).2.length≤10:=by
 unfold FA
 split
 ·exact (show okW.length≤10 by decide)
 ·exact (show noW.length≤10 by decide)
theorem OQ (form:List Int) (n:Int):(resT form n).2=true→BK (resT form n).1=true:=by
 unfold resT
 by_cases c:BK form=true∧n≠0∧n.natAbs≤5000∧BK (Dd form n)=true
 ·rw [if_pos c];exact fun _=>c.2.2.2
 ·rw [if_neg c];intro e;cases e
theorem JX {form:List Int} (h:Fm form) (w:List UInt8) (r:List (List UInt8)):Fm (ES form w r).1:=by
 unfold ES
 split
 ·exact Lq h (fun e=>e)
 split
 ·exact Lq h (OQ _ _)
 split
 ·exact Lq h (OQ _ _)
 ·exact h
theorem one_len {form:List Int} (h:Fm form) (w:List UInt8):(oneT form w).length≤500:=by
 have h4:=h.l4
 unfold oneT
 split
 ·have:=E6 h.mid (by omega);omega
 split
 ·have:=Eb (n:=disc form) (by have:=h.disc;omega);omega
 split
 ·have hb:=NT (form:=form)
  have:=MB hb.1;omega
 split
 ·have:=Oa (Me (form:=form)).1 (by have:=(Me (form:=form)).2;omega);omega
 split
 ·have:=Eb (n:=pall form) (by have:=h.pall;omega);omega
 ·decide
theorem ask_len {form:List Int} (h:Fm form) (w:List UInt8) (r:List (List UInt8)):(askT form w r).length≤500:=by
 unfold askT
 split
 ·exact one_len h w
 split
 ·unfold symT
  split
  ·decide
  ·have:=Eb (n:=Hq (numT (r.getD 0 [])) (numT (r.getD 1 [])) (Et (r.getD 2 []))) (by have:=Jy (numT (r.getD 0 [])) (numT (r.getD 1 [])) (Et (r.getD 2 []));omega);omega
 split
 ·unfold atT
  split
  ·split<;>decide
  ·decide
 split
 ·have hz:=Pr (form:=form) (t:=numT (r.getD 0 []))
  exact val_len hz.1 (by omega) hz.2.2
 split
 ·have hz:=JY (numT (r.getD 0 []))
  have:=Oa hz.1 (by omega);omega
 ·decide
theorem JH {form:List Int} (h:Fm form) (w:List UInt8) (r:List (List UInt8)):(ES form w r).2.length≤500:=by
 unfold ES
 split
 ·have:=JR form (r.map numT,BK (r.map numT));omega
 split
 ·have:=JR form (resT form (numT (r.getD 0 [])));omega
 split
 ·have:=JR form (resT form 1);omega
 ·exact ask_len h w r
theorem EU (c:UInt8) : ∀(n:Nat) (s:List UInt8),s.length≤n→∃w r,Lib.split s [c]=w::r∧r.length≤s.length∧∀l∈w::r,l.length≤s.length:=by
 intro n
 induction n with
 | zero =>
  intro s hs
  obtain rfl:=List.length_eq_zero_iff.1 (show s.length=0 by omega)
  exact ⟨[],[],Fv (by simp),by simp,by simp⟩
 | succ n ih =>
  intro s hs
  by_cases hc:c∈s
  ·obtain ⟨a,b,rfl,ha⟩:=List.eq_append_cons_of_mem hc
   simp only [List.length_append,List.length_cons] at hs
   obtain ⟨w,r,e,h1,h2⟩:=ih b (by omega)
   refine ⟨a,w::r,by rw [GN b ha,e],by simp;omega,fun l hl=>?_⟩
   rcases List.mem_cons.1 hl with rfl|hl
   ·simp
   ·have:=h2 l hl;simp;omega
  ·exact ⟨s,[],Fv hc,by simp,by simp⟩
def runT:List (List UInt8)→List Int→List UInt8→List Int×List UInt8
 | [],form,out=>(form,out)
 | l::ls,form,out=>match Lib.split l [32] with
  | []=>(form,out)
  | w::r=>runT ls (ES form w r).1 (out++((ES form w r).2++[10]))
theorem Jn : ∀(ls:List (List UInt8)) (form:List Int) (out:List UInt8),Fm form→(∀l∈ls,l.length≤500)→out.length+501*ls.length≤1000000000→Ev (fun k=>runL k (ls.map tx) form out) (runT ls form out)
 | [],form,out,_,_,_=>runL_nil form out
 | l::ls,form,out,h,hl,ho=>by
  have h5:=hl l (by simp)
  obtain ⟨w,r,e,h1,h2⟩:=EU 32 l.length l (Nat.le_refl _)
  have hn:=JH h w r
  simp only [List.length_cons] at ho
  simp only [List.map_cons,runT,e]
  refine runL_one (by omega) (r:=(ES form w r).2) (by omega) (by omega) ?_ (Jn ls _ _ (JX h w r) (fun x hx=>hl x (by simp [hx])) (by simp only [List.length_append,List.length_cons,List.length_nil];omega))
  rw [e]
  exact MW h w r (by omega) (by have:=h2 w (by simp);omega)
def endT (q:List Int×List UInt8):List UInt8:=q.2++([116,101,114,109,115,32]++Lib.itoa (q.1.length:Int)++[10])
theorem N7 : ∀(ls:List (List UInt8)) (form:List Int) (out:List UInt8),Fm form→Fm (runT ls form out).1
 | [],form,out,h=>h
 | l::ls,form,out,h=>by
  simp only [runT]
  split
  ·exact h
  ·exact N7 ls _ _ (JX h _ _)
theorem LY : ∀(ls:List (List UInt8)) (form:List Int) (out:List UInt8),Fm form→(runT ls form out).2.length≤out.length+501*ls.length
 | [],form,out,h=>by simp [runT]
 | l::ls,form,out,h=>by
  simp only [runT]
  split
  ·simp
  ·rename_i w r _
   have:=LY ls (ES form w r).1 (out++((ES form w r).2++[10])) (JX h _ _)
   have hn:=JH h w r
   simp only [List.length_append,List.length_cons,List.length_nil] at this ⊢
   omega
theorem OJ (lines:List (List UInt8)) (hL:lines.length≤1000) (h5 : ∀l∈lines,l.length≤500) : ∀(d j:Nat) (form:List Int) (out:List UInt8),j+d+1=lines.length→Fm form→out.length+501*d≤1000000000→
  Ev (fun k=>Ci.l0 k form (tx out) (lines.map tx) (j:Int)) (tx (endT (runT (lines.dropLast.drop j) form out))):=by
 intro d
 induction d with
 | zero =>
  intro j form out hj h ho
  have h4:=h.l4
  have hi:=Eb (n:=(form.length:Int)) (by omega)
  rw [List.drop_of_length_le (by rw [List.length_dropLast];omega)]
  apply Ev.step
  ·intro k
   simp only [Ci.l0,Ba]
   rw [w64 (x:=(j:Int)+1) (by omega) (by omega),if_neg (by simp;omega),if_pos (by omega)]
  refine (EC (n:=(form.length:Int)) (by omega) (by omega)).bind ?_
  rw [show (⟨#[116,101,114,109,115,32]⟩:ByteArray)=tx [116,101,114,109,115,32] from rfl,show (⟨#[10]⟩:ByteArray)=tx [10] from rfl,Bu,Bu,Bu,Ba,Ba,Ba]
  rw [if_pos (by simp only [List.length_append,List.length_cons,List.length_nil];omega),if_pos (by simp only [List.length_append,List.length_cons,List.length_nil];omega)]
  simp only [runT,endT]
  rw [show out++([116,101,114,109,115,32]++Lib.itoa (form.length:Int)++[10])=out++[116,101,114,109,115,32]++Lib.itoa (form.length:Int)++[10] by simp]
  exact Ev.now _
 | succ d ih =>
  intro j form out hj h ho
  have hjl:j<lines.length:=by omega
  have hjd:j<lines.dropLast.length:=by rw [List.length_dropLast];omega
  have hl5:=h5 _ (List.getElem_mem hjl)
  obtain ⟨w,r,e,h1,h2⟩:=EU 32 lines[j].length lines[j] (Nat.le_refl _)
  have hn:=JH h w r
  have:=ih (j+1) (ES form w r).1 (out++((ES form w r).2++[10])) (by omega) (JX h w r) (by simp only [List.length_append,List.length_cons,List.length_nil];omega)
  rw [List.drop_eq_getElem_cons hjd,List.getElem_dropLast]
  simp only [runT,e]
  apply Ev.step
  ·intro k
   simp only [Ci.l0]
   rw [w64 (x:=(j:Int)+1) (by omega) (by omega),if_pos (by simp;omega),if_pos (by omega),if_pos (by simp;omega),FW hjl]
  rw [show lines.getD j []=lines[j] by simp [List.getD_eq_getElem?_getD,hjl]]
  have hc:=KM lines[j] 32 (by omega)
  rw [e] at hc
  refine hc.bind ((Lh h w r (by omega)).bind ?_)
  unfold outT
  rw [Ba,Ba,Bu]
  simp only [if_pos (show out.length+((ES form w r).2++[10]).length≤9223372036854775807 by simp only [List.length_append,List.length_cons,List.length_nil];omega)]
  exact this
theorem Je:Fm [1]:=Fm.of (by decide)
def Lj (s:List UInt8):List UInt8:=if s.length>500 then [116,111,111,32,108,111,110,103,10] else endT (runT (Lib.split s [10]).dropLast [1] [])
theorem Gn (s:List UInt8):Ev (fun k=>CM.f k (tx s)) (tx (Lj s)):=by
 unfold Lj
 by_cases c:s.length>500
 ·unfold CM.f
  simp only [Ba,if_pos c]
  exact Ev.now _
 rw [if_neg c]
 obtain ⟨w,r,e,h1,h2⟩:=EU 10 s.length s (Nat.le_refl _)
 have hdl:(Lib.split s [10]).dropLast.length≤501:=by rw [e,List.length_dropLast];simp;omega
 have hR:=Jn (Lib.split s [10]).dropLast [1] [] Je (fun l hl=>by have:=h2 l (e▸List.dropLast_subset _ hl);omega) (by rw [List.length_nil];omega)
 have hf:=N7 (Lib.split s [10]).dropLast [1] [] Je
 have hb:=LY (Lib.split s [10]).dropLast [1] [] Je
 have f4:=hf.l4
 unfold CM.f
 simp only [Ba,if_neg c,show (⟨#[10]⟩:ByteArray)=tx [10] from rfl,Mj (s:=s) (c:=10) (by omega)]
 simp only [Option.bind_some,← List.map_dropLast]
 refine hR.bind ?_
 generalize runT (Lib.split s [10]).dropLast [1] []=q at hf hb f4 ⊢
 have hl:=Lib.itoa_length_le (q.1.length:Int) (by omega) (by omega)
 rw [Hd (n:=(q.1.length:Int)) (by omega) (by omega)]
 simp only [Option.bind_some]
 rw [if_pos ⟨by rw [Ba];omega,by rw [List.length_nil] at hb;omega,by omega⟩,show (⟨#[116,101,114,109,115,32]⟩:ByteArray)=tx [116,101,114,109,115,32] from rfl,Bu,Bu,EJ]
 exact Ev.now _
theorem K6 (s:List UInt8):Ev (fun k=>Ci.f k (tx s)) (tx (Lj s)):=by
 unfold Lj Ci.f
 rw [Ba]
 by_cases c:s.length>500
 ·simp only [if_pos c,if_pos (show (s.length:Int)>500 by omega)]
  exact Ev.now _
 simp only [if_neg c,if_neg (show ¬(s.length:Int)>500 by omega)]
 obtain ⟨w,r,e,h1,h2⟩:=EU 10 s.length s (Nat.le_refl _)
 refine (KM s 10 (by omega)).bind ?_
 have hll:(Lib.split s [10]).length=r.length+1:=by rw [e];rfl
 have:=OJ (Lib.split s [10]) (by omega) (fun l hl=>by have:=h2 l (e▸hl);omega) r.length 0 [1] [] (by omega) Je (by simp;omega)
 rw [List.drop_zero] at this
 exact this
theorem L6 {xs:List Int} {v:Int} (h0:0≤v) (h:v<(xs.length:Int)):rd xs v∈xs:=by
 have:=DA (xs:=xs) (j:=v.toNat) (by omega)
 rwa [Int.toNat_of_nonneg h0] at this
theorem xor_yx {X:Int} (h0:0≤X) (h1:X<9223372036854775808):Go.bits .xor .i64 X (X.tdiv 64)=((yx X.toNat:Nat):Int):=by
 obtain ⟨x,rfl⟩:=Int.eq_ofNat_of_zero_le h0
 have e:((x:Int)).tdiv 64=((x/64:Nat):Int):=by rw [Int.tdiv_eq_ediv_of_nonneg (by omega)];omega
 rw [e,IU x (x/64) (by omega) (by omega)]
 rfl
theorem Pd (p l:Int) (j:Nat) (hl:0<l):(p+4*l*j)%l=p%l∧((p+4*l*j)*7+3)%l=(p*7+3)%l∧(p+4*l*j)/l=p/l+4*j:=by
 have e1:p+4*l*j=p+l*(4*j):=by grind
 have e2:(p+4*l*j)*7+3=(p*7+3)+l*(28*j):=by grind
 refine ⟨by rw [e1,Int.add_mul_emod_self_left],by rw [e2,Int.add_mul_emod_self_left],?_⟩
 rw [e1,Int.add_mul_ediv_left _ _ (by omega)]
theorem pv_far {b:List Int} (hb:EF b) (hl:0<b.length) {p:Int} (hp:(b.length:Int)≤p) (hP:p≤980000000000000) :
  ∃x0:Nat,∀j:Nat,j<2 ^ 31→pv b (p+4*(b.length:Int)*j)=((yx (x0+G0 b.length*j):Nat):Int):=by
 have hb2:=hb.2
 have hA:=hb.rd_ (p%b.length)
 have hB:=hb.rd_ ((p*7+3)%b.length)
 have hd0:0≤p/(b.length:Int):=Int.ediv_nonneg (by omega) (by omega)
 have hd1:p/(b.length:Int)≤p:=Int.ediv_le_self _ (by omega)
 refine ⟨(rd b (p%b.length)*131+rd b ((p*7+3)%b.length)*1117+p*29+p/b.length*53).toNat,fun j hj=>?_⟩
 obtain ⟨m1,m2,m3⟩:=Pd p b.length j (by omega)
 have hlj:0≤4*(b.length:Int)*j:=Int.mul_nonneg (by omega) (by omega)
 have hlj2:4*(b.length:Int)*j≤8000*2147483648:=Dx (by omega) (by omega) (by omega) (by omega)
 have e1:(p+4*(b.length:Int)*j).tmod b.length=p%b.length:=by rw [Int.tmod_eq_emod_of_nonneg (by omega),m1]
 have e2:((p+4*(b.length:Int)*j)*7+3).tmod b.length=(p*7+3)%b.length:=by rw [Int.tmod_eq_emod_of_nonneg (by omega),m2]
 have e3:(p+4*(b.length:Int)*j).tdiv b.length=p/b.length+4*j:=by rw [Int.tdiv_eq_ediv_of_nonneg (by omega),m3]
 unfold pv
 rw [if_neg (by omega),if_neg (by omega),e1,e2,e3]
 generalize rd b (p%b.length)=A at hA
 generalize rd b ((p*7+3)%b.length)=B at hB
 generalize p/(b.length:Int)=D at hd0 hd1
 have es:A*131+B*1117+(p+4*(b.length:Int)*j)*29+(D+4*j)*53=(A*131+B*1117+p*29+D*53)+(G0 b.length:Int)*j:=by
  unfold G0
  have:((116*b.length+212:Nat):Int)=116*(b.length:Int)+212:=by omega
  rw [this];grind
 have hs0:0≤(G0 b.length:Int)*j:=Int.mul_nonneg (by omega) (by omega)
 have hs1:(G0 b.length:Int)*j≤232212*2147483648:=Dx (by omega) (by unfold G0;omega) (by omega) (by omega)
 rw [es,xor_yx (by omega) (by omega)]
 congr 2
 generalize hg:(G0 b.length:Int)*j=g at hs0 hs1
 have hg2:((G0 b.length*j:Nat):Int)=g:=by rw [← hg];simp
 omega
theorem Nh {b:List Int} (hb:EF b) {q:Int} (hq:0≤q) (hQ:q≤970000000000000) : ∃j:Nat,j≤4294967298000∧(pv b (q+4*j)).tmod 40≠1:=by
 have hb2:=hb.2
 rcases Nat.eq_zero_or_pos b.length with h0|h0
 ·refine ⟨0,by omega,?_⟩
  unfold pv;rw [if_pos h0];decide
 ·obtain ⟨x0,hx⟩:=pv_far hb h0 (p:=q+8000) (by omega) (by omega)
  obtain ⟨j,hj,hne⟩:=not_stay b.length x0 hb2
  have hbj:b.length*j≤2000*2147483648:=Nat.mul_le_mul hb2 (by omega)
  refine ⟨2000+b.length*j,by omega,?_⟩
  have e:q+4*((2000+b.length*j:Nat):Int)=q+8000+4*(b.length:Int)*j:=by
   have:((2000+b.length*j:Nat):Int)=2000+(b.length:Int)*j:=by simp
   rw [this];grind
  rw [e,hx j hj,Int.tmod_eq_emod_of_nonneg (by omega)]
  intro h
  apply hne
  omega
def OneT (x:Int):Prop:=x.natAbs≤31∧(Sm x→x∈TT)
theorem Jr {b:List Int} (hb:EF b) {q:Int} (hq:0≤q) (hQ:q≤999999999999000) : ∃xs q',Ev (fun k=>Bz.f k b q 1) (xs,q')∧
  ((xs=[]∧q'=q+4∧(pv b (q+3)).tmod 40=1)∨(∃x,xs=[x]∧OneT x∧q+4≤q'∧q'≤q+5)):=by
 obtain ⟨p0,e0⟩:=G6 hb (p:=q) (by omega) (by omega) (n:=1) (by omega)
 obtain ⟨p1,e1⟩:=G6 hb (p:=q+1) (by omega) (by omega) (n:=16) (by omega)
 obtain ⟨p2,e2⟩:=G6 hb (p:=q+1+1) (by omega) (by omega) (n:=5) (by omega)
 obtain ⟨p3,e3⟩:=G6 hb (p:=q+1+1+1) (by omega) (by omega) (n:=40) (by omega)
 obtain ⟨p4,e4⟩:=G6 hb (p:=q+1+1+1+1) (by omega) (by omega) (n:=2) (by omega)
 have r0:=D4 p0 (n:=1) (by omega)
 have r1:=D4 p1 (n:=16) (by omega)
 have r4:=D4 p4 (n:=2) (by omega)
 have z0:(pv b q).tmod 1=0:=by omega
 have e33:q+1+1+1=q+3:=by omega
 rw [z0] at e0
 generalize hv1:(pv b (q+1)).tmod 16=v1 at r1 e1
 generalize (pv b (q+1+1)).tmod 5=v2 at e2
 generalize hv3:(pv b (q+1+1+1)).tmod 40=v3 at e3
 generalize (pv b (q+1+1+1+1)).tmod 2=v4 at r4 e4
 have hlen:v1<((List.length [(1:Int),2,3,5,6,7,1,10,12,3,15,4,21,1,30,8]:Nat):Int):=by simp;omega
 have hm:=L6 (xs:=[1,2,3,5,6,7,1,10,12,3,15,4,21,1,30,8]) r1.1 hlen
 have ht:rd [1,2,3,5,6,7,1,10,12,3,15,4,21,1,30,8] v1∈TT∧ -(rd [1,2,3,5,6,7,1,10,12,3,15,4,21,1,30,8] v1)∈TT:=by
  have : ∀x∈([1,2,3,5,6,7,1,10,12,3,15,4,21,1,30,8]:List Int),x∈TT∧ -x∈TT:=by decide +kernel
  exact this _ hm
 -- one term, and what follows it
 have step : ∀v:List Int×Int,(∀x,x∈TT→Ev (fun k=>Bz.l0 k [x] 1 1 b (q+1+1+1)) v)→True:=fun _ _=>trivial
 have fin : ∀x,x∈TT→∃xs q',Ev (fun k=>Bz.l0 k [x] 1 1 b (q+1+1+1)) (xs,q')∧((xs=[]∧q'=q+4∧(pv b (q+3)).tmod 40=1)∨(∃x,xs=[x]∧OneT x∧q+4≤q'∧q'≤q+5)):=by
  intro x hx
  by_cases c0:v3=0
  ·have hm2:=L6 (xs:=[0,31]) r4.1 (by simp;omega)
   refine ⟨[rd [0,31] v4],q+1+1+1+1+1,?_,Or.inr ⟨_,rfl,?_,by omega,by omega⟩⟩
   ·apply Ev.step
    ·intro k
     simp only [Bz.l0,if_neg (show ¬(1:Int)<1 by omega)]
     exact rfl
    ·refine e3.bind ?_
     simp only [if_pos c0,Option.bind_some]
     refine e4.bind ?_
     simp only [if_pos r4.1,if_pos (show v4<((List.length [(0:Int),31]:Nat):Int) from by simp;omega),if_pos (show 0<((([x]:List Int).length:Nat):Int) from by simp)]
     exact Ev.now _
   ·simp only [List.mem_cons,List.not_mem_nil,or_false] at hm2
    unfold OneT Sm
    refine ⟨by omega,fun h=>by omega⟩
  ·by_cases c1:v3=1
   ·refine ⟨[],q+1+1+1+1,?_,Or.inl ⟨rfl,by omega,by rw [← e33,hv3];exact c1⟩⟩
    apply Ev.step
    ·intro k
     simp only [Bz.l0,if_neg (show ¬(1:Int)<1 by omega)]
     exact rfl
    ·refine e3.bind ?_
     simp only [if_neg c0,if_pos c1];exact Ev.now _
   ·refine ⟨[x],q+1+1+1+1,?_,Or.inr ⟨x,rfl,⟨by have:=(TT_sm hx).2;omega,fun _=>hx⟩,by omega,by omega⟩⟩
    apply Ev.step
    ·intro k
     simp only [Bz.l0,if_neg (show ¬(1:Int)<1 by omega)]
     exact rfl
    ·refine e3.bind ?_
     simp only [if_neg c0,if_neg c1];exact Ev.now _
 generalize hx:rd [1,2,3,5,6,7,1,10,12,3,15,4,21,1,30,8] v1=x at ht
 have hs:=TT_sm ht.1
 unfold Sm at hs
 have hz:wrap64 (-x) = -x:=w64 (by omega) (by omega)
 have go : ∀y,(y=if v2<2 then -x else x)→∀v,Ev (fun k=>Bz.l0 k [y] 1 1 b (q+1+1+1)) v→Ev (fun k=>Bz.f k b q 1) v:=by
  intro y hy v hv
  unfold Bz.f
  refine e0.bind ?_
  rw [show wrap64 (1+0)=1 from w64 (by omega) (by omega)]
  apply Ev.step
  ·intro k
   simp only [Bz.l0,if_pos (show (0:Int)<1 by omega),Option.bind_some]
   exact rfl
  ·refine e1.bind ?_
   simp only [if_pos r1.1,if_pos hlen]
   refine e2.bind ?_
   by_cases c:v2<2
   ·rw [if_pos c] at hy
    subst hy
    simp only [if_pos c,hx,hz,List.length_nil,List.nil_append,if_pos (show 0<17592186044416 by omega),show wrap64 (0+1)=1 from w64 (by omega) (by omega)]
    exact hv
   ·rw [if_neg c] at hy
    subst hy
    simp only [if_neg c,hx,List.length_nil,List.nil_append,if_pos (show 0<17592186044416 by omega),show wrap64 (0+1)=1 from w64 (by omega) (by omega)]
    exact hv
 by_cases c:v2<2
 ·obtain ⟨xs,q',h1,h2⟩:=fin (-x) ht.2
  exact ⟨xs,q',go (-x) (by rw [if_pos c]) _ h1,h2⟩
 ·obtain ⟨xs,q',h1,h2⟩:=fin x ht.1
  exact ⟨xs,q',go x (by rw [if_neg c]) _ h1,h2⟩
theorem one_more {b:List Int} (hb:EF b) (n:Int) (out:List Int) (h0:0<(out.length:Int)) (hn:(out.length:Int)<n) (hn5:n≤5) : ∀(J:Nat) (q:Int),0≤q→q+4*J≤999999999998000→(∃j:Nat,j≤J∧(pv b (q+3+4*j)).tmod 40≠1)→
  ∃x q',OneT x∧q≤q'∧q'≤q+4*J+5∧∀v,Ev (fun k=>Av.l0 k n (out++[x]) b q') v→Ev (fun k=>Av.l0 k n out b q) v:=by
 intro J
 induction J with
 | zero =>
  intro q hq hQ hj
  obtain ⟨j,hj,hne⟩:=hj
  obtain rfl:j=0:=by omega
  obtain ⟨xs,q',e,⟨_,_,h⟩|⟨x,rfl,hx,h1,h2⟩⟩:=Jr hb (q:=q) hq (by omega)
  ·exfalso;apply hne;simpa using h
  ·refine ⟨x,q',hx,by omega,by omega,fun v hv=>?_⟩
   apply Ev.step
   ·intro k
    simp only [Av.l0,if_pos hn,if_pos h0]
    exact rfl
   ·refine e.bind ?_
    simp only [if_pos (show out.length+([x]:List Int).length<17592186044416 by simp;omega)]
    exact hv
 | succ J ih =>
  intro q hq hQ hj
  obtain ⟨j,hj,hne⟩:=hj
  obtain ⟨xs,q',e,⟨rfl,rfl,h⟩|⟨x,rfl,hx,h1,h2⟩⟩:=Jr hb (q:=q) hq (by omega)
  ·have hj1:1≤j:=by
    rcases Nat.eq_zero_or_pos j with h0|h0
    ·exfalso;subst h0;apply hne;simpa using h
    ·omega
   obtain ⟨x,q2,hx,h1,h2,h3⟩:=ih (q+4) (by omega) (by omega) ⟨j-1,by omega,by rw [show q+4+3+4*((j-1:Nat):Int)=q+3+4*(j:Int) by omega];exact hne⟩
   refine ⟨x,q2,hx,by omega,by omega,fun v hv=>?_⟩
   apply Ev.step
   ·intro k
    simp only [Av.l0,if_pos hn,if_pos h0]
    exact rfl
   ·refine e.bind ?_
    simp only [if_pos (show out.length+([]:List Int).length<17592186044416 by simp;omega),List.append_nil]
    exact h3 v hv
  ·refine ⟨x,q',hx,by omega,by omega,fun v hv=>?_⟩
   apply Ev.step
   ·intro k
    simp only [Av.l0,if_pos hn,if_pos h0]
    exact rfl
   ·refine e.bind ?_
    simp only [if_pos (show out.length+([x]:List Int).length<17592186044416 by simp;omega)]
    exact hv
def Mh (n:Nat) (xs:List Int):Prop:=xs.length≤n∧(∀x∈xs,x.natAbs≤31)∧(BK xs=true→(∀x∈xs,x∈TT)∨∃a b c,xs=[a,b,c]∧a∈TT∧b∈TT∧Sm c)
theorem JL {b:List Int} {q:Int} {xs:List Int}:Ev (fun k=>Av.j2 k xs false b q) (xs,q) :=
 Ev.step (f:=fun _=>some (xs,q)) (fun k=>by simp [Av.j2]) (Ev.now _)
theorem Ji {b:List Int} (hb:EF b) {q:Int} (hq:0≤q) (hQ:q≤999999999999000) {n:Nat} {xs:List Int} (hl:xs.length≤n) (hn5:n≤5) (hx : ∀x∈xs,OneT x) :
  ∃ys q',Mh n ys∧q≤q'∧q'≤q+2∧Ev (fun k=>Av.j1 k xs b q) (ys,q'):=by
 have g0:Mh n xs:=⟨hl,fun x h=>(hx x h).1,fun hk=>Or.inl (fun x h=>(hx x h).2 ((BP.1 hk).1 x h))⟩
 by_cases c3:(xs.length:Int)=3
 ·obtain ⟨v1,h1,g1,e1⟩:=EK hb (p:=q) (by omega) (by omega) (n:=2) (by omega)
  have st : ∀v,Ev (fun k=>if v1=0 then (As.f k xs).bind fun t4=>(Av.j2 k xs t4 b (q+1)) else Av.j2 k xs false b (q+1)) v→Ev (fun k=>Av.j1 k xs b q) v:=by
   intro v hv
   apply Ev.step
   ·intro k
    simp only [Av.j1,if_pos c3]
    exact rfl
   ·exact e1.bind hv
  by_cases c0:v1=0
  ·by_cases ck:BK xs=true
   ·obtain ⟨v2,h2,g2,e2⟩:=EK hb (p:=q+1) (by omega) (by omega) (n:=2) (by omega)
    have hk:=BP.1 ck
    obtain ⟨a,bb,c,rfl⟩ : ∃a b c,xs=[a,b,c]:=by
     match xs,c3 with
     | [a,b,c],_=>exact ⟨a,b,c,rfl⟩
     | [],h=>simp at h
     | [_],h=>simp at h
     | [_,_],h=>simp at h
     | _::_::_::_::_,h=>simp only [List.length_cons] at h;omega
    have ha:=hx a (by simp);have hbb:=hx bb (by simp)
    have sa:=hk.1 a (by simp);have sb:=hk.1 bb (by simp)
    have la:=sa.2;have lb:=sb.2
    have ta:=ha.2 sa;have tb:=hbb.2 sb
    have hc:v2=0∨v2=1:=by omega
    have ht : ∃t:Int,t.natAbs≤90∧wrap64 (wrap64 (-(wrap64 (rd [a,bb,c] 0*wrap64 (1+v2))))-rd [a,bb,c] 1)=t:=by
     have r0:rd [a,bb,c] 0=a:=rfl
     have r1:rd [a,bb,c] 1=bb:=rfl
     rw [r0,r1]
     rcases hc with rfl|rfl
     ·refine ⟨-a-bb,by omega,?_⟩
      rw [show wrap64 (1+0)=1 from w64 (by omega) (by omega),Int.mul_one];unfold wrap64;omega
     ·refine ⟨-(a*2)-bb,by omega,?_⟩
      rw [show wrap64 (1+1)=2 from w64 (by omega) (by omega)];unfold wrap64;omega
    obtain ⟨t,ht1,ht2⟩:=ht
    have st2 : ∀v,Ev (fun k=>if t=0 then some ([a,bb,c],q+1+1) else (Bc.f t).bind fun t6=>(if t6≤30 then some (([a,bb,c].set (2:Int).toNat t),q+1+1) else some ([a,bb,c],q+1+1))) v→Ev (fun k=>Av.j1 k [a,bb,c] b q) v:=by
     intro v hv
     apply st
     simp only [if_pos c0]
     refine (BZ (xs:=[a,bb,c]) (by simp)).bind ?_
     rw [ck]
     apply Ev.step
     ·intro k
      simp only [Av.j2,if_true,if_pos (show 0<(([a,bb,c].length:Nat):Int) from by simp),if_pos (show 1<(([a,bb,c].length:Nat):Int) from by simp),if_pos (show 2<(([a,bb,c].length:Nat):Int) from by simp)]
      exact rfl
     ·refine e2.bind ?_
      simp only [ht2]
      exact hv
    by_cases t0:t=0
    ·refine ⟨[a,bb,c],q+1+1,g0,by omega,by omega,st2 _ ?_⟩
     simp only [if_pos t0];exact Ev.now _
    ·by_cases t30:absI t≤30
     ·refine ⟨[a,bb,t],q+1+1,⟨hl,?_,fun _=>Or.inr ⟨a,bb,t,rfl,ta,tb,⟨t0,by unfold absI at t30;omega⟩⟩⟩,by omega,by omega,st2 _ ?_⟩
      ·intro x h
       simp only [List.mem_cons,List.not_mem_nil,or_false] at h
       unfold absI at t30
       rcases h with rfl|rfl|rfl<;>omega
      ·simp only [if_neg t0,Bc.f,Option.bind_some,Int.zero_sub,EL (n:=t) (by omega) (by omega),if_pos t30]
       exact Ev.now _
     ·refine ⟨[a,bb,c],q+1+1,g0,by omega,by omega,st2 _ ?_⟩
      simp only [if_neg t0,Bc.f,Option.bind_some,Int.zero_sub,EL (n:=t) (by omega) (by omega),if_neg t30]
      exact Ev.now _
   ·refine ⟨xs,q+1,g0,by omega,by omega,st _ ?_⟩
    simp only [if_pos c0]
    refine (BZ (xs:=xs) (by omega)).bind ?_
    rw [Bool.eq_false_iff.2 ck]
    exact JL
  ·refine ⟨xs,q+1,g0,by omega,by omega,st _ ?_⟩
   simp only [if_neg c0]
   exact JL
 ·refine ⟨xs,q,g0,by omega,by omega,?_⟩
  refine Ev.step (fun k=>?_) (JL (b:=b) (q:=q) (xs:=xs))
  simp only [Av.j1,if_neg c3]
theorem form92_l {b:List Int} (hb:EF b) (n:Nat) (hn5:n≤5) : ∀(d:Nat) (out:List Int) (q:Int),out.length+d=n→0<out.length→(∀x∈out,OneT x)→0≤q→q+17200000000000*d≤960000000000000→
  ∃ys q',Mh n ys∧q≤q'∧q'≤q+17200000000000*d+2∧Ev (fun k=>Av.l0 k n out b q) (ys,q'):=by
 intro d
 induction d with
 | zero =>
  intro out q hl h0 hx hq hQ
  obtain ⟨ys,q',h1,h2,h3,h4⟩:=Ji hb hq (by omega) (n:=n) (xs:=out) (by omega) hn5 hx
  refine ⟨ys,q',h1,h2,by omega,Ev.step (fun k=>?_) h4⟩
  simp only [Av.l0,if_neg (show ¬(out.length:Int)<(n:Int) by omega)]
 | succ d ih =>
  intro out q hl h0 hx hq hQ
  obtain ⟨j,hj,hne⟩:=Nh hb (q:=q+3) (by omega) (by omega)
  obtain ⟨x,q1,hx1,h1,h2,h3⟩:=one_more hb (n:Int) out (by omega) (by omega) (by omega) 4294967298000 q hq (by omega) ⟨j,hj,hne⟩
  obtain ⟨ys,q',g1,g2,g3,g4⟩:=ih (out++[x]) q1 (by simp;omega) (by simp) (by intro y hy;rcases List.mem_append.1 hy with e|e;exact hx y e;rw [List.mem_singleton.1 e];exact hx1) (by omega) (by omega)
  exact ⟨ys,q',g1,by omega,by omega,h3 _ g4⟩
theorem LW {b:List Int} (hb:EF b) {q:Int} (hq:0≤q) (n:Nat) (hn1:1≤n) (hn5:n≤4) (hQ:q≤800000000000000) : ∃ys q',Mh n ys∧q≤q'∧q'≤q+51700000000000∧Ev (fun k=>Av.f k b q n) (ys,q'):=by
 obtain ⟨xs,q1,e,⟨rfl,rfl,h⟩|⟨x,rfl,hx,h1,h2⟩⟩:=Jr hb (q:=q) hq (by omega)
 ·obtain ⟨ys,q',h1,h2,h3,h4⟩:=Ji hb (q:=q+4) (by omega) (by omega) (n:=n) (xs:=[]) (by simp) (by omega) (by simp)
  refine ⟨ys,q',h1,by omega,by omega,?_⟩
  unfold Av.f
  refine e.bind (Ev.step (fun k=>?_) h4)
  simp [Av.l0]
 ·obtain ⟨d,hd⟩ : ∃d,n=d+1:=⟨n-1,by omega⟩
  obtain ⟨ys,q',g1,g2,g3,g4⟩:=form92_l hb n (by omega) d [x] q1 (by simp;omega) (by simp) (by intro y hy;rw [List.mem_singleton.1 hy];exact hx) (by omega) (by omega)
  refine ⟨ys,q',g1,by omega,by omega,?_⟩
  unfold Av.f
  exact e.bind g4
theorem JU {b:List Int} (hb:EF b) {q:Int} (hq:0≤q) (hQ:q≤999999999999000) (ws:List (List UInt8)) (h1:1≤ws.length) (hs : ∀w∈ws,w.length≤20) :
  ∃s:List UInt8,s.length≤20∧Ev (fun k=>CR.f k b q (ws.map tx)) (tx s,q+1):=by
 obtain ⟨v,h0,g,e⟩:=EK hb (p:=q) hq (by omega) (n:=(ws.length:Int)) (by omega)
 obtain ⟨j,rfl⟩:=Int.eq_ofNat_of_zero_le h0
 have hj:j<ws.length:=by omega
 refine ⟨ws.getD j [],?_,?_⟩
 ·rw [List.getD_eq_getElem?_getD,List.getElem?_eq_getElem hj];exact hs _ (List.getElem_mem hj)
 ·unfold CR.f
  rw [List.length_map]
  refine e.bind ?_
  simp only [if_pos (show 0≤(j:Int) by omega),if_pos (show (j:Int)<(ws.length:Int) by omega),FW hj]
  exact Ev.now _
theorem Fp {n:Int} (h:n.natAbs≤1000) : ∃t:List UInt8,t.length≤21∧Ev (fun k=>AP.f k n) (tx t):=⟨Lib.itoa n,Eb (by omega),EC (by omega) (by omega)⟩
theorem line_l0 {b:List Int} {q:Int} (xs:List Int) (hx : ∀x∈xs,x.natAbs≤31) (hl:xs.length≤10) : ∀(d j:Nat) (s:List UInt8),j+d=xs.length→s.length+22*d≤1000→
  ∃s':List UInt8,s'.length≤s.length+22*d∧Ev (fun k=>AZ.l0 k (tx s) xs (j:Int) b q) (tx s',q):=by
 intro d
 induction d with
 | zero =>
  intro j s hj _
  refine ⟨s,by omega,Ev.step (f:=fun _=>some (tx s,q)) (fun k=>?_) (Ev.now _)⟩
  simp only [AZ.l0]
  rw [if_neg (by omega)]
 | succ d ih =>
  intro j s hj hs
  have hj':j<xs.length:=by omega
  have hm:=hx _ (L6 (xs:=xs) (v:=(j:Int)) (by omega) (by omega))
  obtain ⟨t,ht,e⟩:=Fp (n:=rd xs (j:Int)) (by omega)
  obtain ⟨s',h1,e2⟩:=ih (j+1) (s++[32]++t) (by omega) (by simp only [List.length_append,List.length_cons,List.length_nil];omega)
  simp only [List.length_append,List.length_cons,List.length_nil] at h1
  refine ⟨s',by omega,?_⟩
  apply Ev.step
  ·intro k
   simp only [AZ.l0]
   rw [if_pos (by omega),Ba,if_pos (by omega),if_pos (by omega),w64 (x:=(j:Int)+1) (by omega) (by omega)]
  refine e.bind ?_
  rw [show (⟨#[32]⟩:ByteArray)=tx [32] from rfl,Bu,Bu,Ba,Ba]
  simp only [if_pos (show (s++[32]).length+t.length≤9223372036854775807 by simp only [List.length_append,List.length_cons,List.length_nil];omega)]
  exact e2
theorem j0_form {b:List Int} (hb:EF b) {q:Int} (hq:0≤q) (hQ:q≤700000000000000) (v:Int) :
  ∃(s:List UInt8) (q':Int),s.length≤300∧q≤q'∧q'≤q+51700000000001∧Ev (fun k=>AZ.j0 k v true b q) (tx s,q'):=by
 obtain ⟨u,h0,g,e⟩:=EK hb (p:=q) hq (by omega) (n:=4) (by omega)
 obtain ⟨n,hn⟩ : ∃n:Nat,1+u=(n:Int):=⟨(1+u).toNat,by omega⟩
 obtain ⟨xs,q',hg,h1,h2,e2⟩:=LW hb (q:=q+1) (by omega) n (by omega) (by omega) (by omega)
 have hl:=hg.1
 obtain ⟨s,hs,e3⟩:=line_l0 (b:=b) (q:=q') xs hg.2.1 (by omega) xs.length 0 [102,111,114,109] (by omega) (by simp only [List.length_cons,List.length_nil];omega)
 simp only [List.length_cons,List.length_nil] at hs
 refine ⟨s,q',by omega,by omega,by omega,?_⟩
 apply Ev.step
 ·intro k
  simp only [AZ.j0,if_true]
  rfl
 refine e.bind ?_
 simp only [hn,w64 (x:=(n:Int)) (by omega) (by omega)]
 exact e2.bind e3
theorem j0_rest {b:List Int} (hb:EF b) {q:Int} (hq:0≤q) (hQ:q≤999999999990000) (v:Int) :
  ∃(s:List UInt8) (q':Int),s.length≤300∧q≤q'∧q'≤q+3∧Ev (fun k=>AZ.j0 k v false b q) (tx s,q'):=by
 have st : ∀ {r:ByteArray×Int} (g:Nat→Option (ByteArray×Int)),(∀k,AZ.j0 (k+1) v false b q=g k)→Ev g r→Ev (fun k=>AZ.j0 k v false b q) r:=fun g h e=>Ev.step h e
 by_cases c3:v=3
 ·obtain ⟨u,h0,g,e⟩:=EK hb (p:=q) hq (by omega) (n:=7) (by omega)
  obtain ⟨t,ht,e2⟩:=Fp (n:=u-3) (by omega)
  refine ⟨[116,105,109,101,115,32]++t,q+1,by simp only [List.length_append,List.length_cons,List.length_nil];omega,by omega,by omega,?_⟩
  apply Ev.step
  ·intro k
   simp only [AZ.j0,if_pos c3,Bool.false_eq_true,if_false]
   rfl
  refine e.bind ?_
  simp only [w64 (x:=u-3) (by omega) (by omega)]
  refine e2.bind ?_
  rw [Ba,show (⟨#[116,105,109,101,115,32]⟩:ByteArray)=tx [116,105,109,101,115,32] from rfl,Bu]
  simp only [if_pos (show 6+t.length≤9223372036854775807 by omega)]
  exact Ev.now _
 by_cases c4:v=4
 ·obtain ⟨u,h0,g,e⟩:=EK hb (p:=q) hq (by omega) (n:=21) (by omega)
  obtain ⟨t,ht,e2⟩:=Fp (n:=u-10) (by omega)
  obtain ⟨u3,h3,g3,e3⟩:=EK hb (p:=q+1) (by omega) (by omega) (n:=9) (by omega)
  obtain ⟨t4,ht4,e4⟩:=Fp (n:=1+u3) (by omega)
  obtain ⟨s,hs,e5⟩:=JU hb (q:=q+1+1) (by omega) (by omega) [[114],[50],[51],[53],[48],[52]] (by simp) (by simp)
  refine ⟨[115,121,109,98,111,108,32]++t++[32]++t4++[32]++s,q+1+1+1,by simp only [List.length_append,List.length_cons,List.length_nil];omega,by omega,by omega,?_⟩
  apply Ev.step
  ·intro k
   simp only [AZ.j0,if_pos c4,if_neg c3,Bool.false_eq_true,if_false]
   rfl
  refine e.bind ?_
  simp only [w64 (x:=u-10) (by omega) (by omega)]
  refine e2.bind ?_
  rw [show (⟨#[115,121,109,98,111,108,32]⟩:ByteArray)=tx [115,121,109,98,111,108,32] from rfl,show (⟨#[32]⟩:ByteArray)=tx [32] from rfl,Bu,Bu,Ba,Ba]
  simp only [if_pos (show 7+t.length≤9223372036854775807 by omega),if_pos (show ([115,121,109,98,111,108,32]++t).length+1≤9223372036854775807 by simp only [List.length_append,List.length_cons,List.length_nil];omega)]
  refine e3.bind ?_
  simp only [w64 (x:=1+u3) (by omega) (by omega)]
  refine e4.bind ?_
  simp only [Bu,Ba,if_pos (show ([115,121,109,98,111,108,32]++t++[32]).length+t4.length≤9223372036854775807 by simp only [List.length_append,List.length_cons,List.length_nil];omega),
   if_pos (show ([115,121,109,98,111,108,32]++t++[32]++t4).length+1≤9223372036854775807 by simp only [List.length_append,List.length_cons,List.length_nil];omega)]
  refine e5.bind ?_
  simp only [Bu,Ba,if_pos (show ([115,121,109,98,111,108,32]++t++[32]++t4++[32]).length+s.length≤9223372036854775807 by simp only [List.length_append,List.length_cons,List.length_nil];omega)]
  exact Ev.now _
 by_cases c5:v=5
 ·obtain ⟨s,hs,e5⟩:=JU hb (q:=q) (by omega) (by omega) [[114],[50],[51],[53],[120]] (by simp) (by simp)
  refine ⟨[97,116,32]++s,q+1,by simp only [List.length_append,List.length_cons,List.length_nil];omega,by omega,by omega,?_⟩
  apply Ev.step
  ·intro k
   simp only [AZ.j0,if_pos c5,if_neg c3,if_neg c4,Bool.false_eq_true,if_false]
   rfl
  refine e5.bind ?_
  simp only [Ba,if_pos (show 3+s.length≤9223372036854775807 by omega)]
  rw [show (⟨#[97,116,32]⟩:ByteArray)=tx [97,116,32] from rfl,Bu]
  exact Ev.now _
 by_cases c6:v=6
 ·obtain ⟨u,h0,g,e⟩:=EK hb (p:=q) hq (by omega) (n:=12) (by omega)
  obtain ⟨t,ht,e2⟩:=Fp (n:=u-2) (by omega)
  refine ⟨[118,97,108,117,101,32]++t,q+1,by simp only [List.length_append,List.length_cons,List.length_nil];omega,by omega,by omega,?_⟩
  apply Ev.step
  ·intro k
   simp only [AZ.j0,if_pos c6,if_neg c3,if_neg c4,if_neg c5,Bool.false_eq_true,if_false]
   rfl
  refine e.bind ?_
  simp only [w64 (x:=u-2) (by omega) (by omega)]
  refine e2.bind ?_
  rw [Ba,show (⟨#[118,97,108,117,101,32]⟩:ByteArray)=tx [118,97,108,117,101,32] from rfl,Bu]
  simp only [if_pos (show 6+t.length≤9223372036854775807 by omega)]
  exact Ev.now _
 by_cases c7:v=7
 ·obtain ⟨u,h0,g,e⟩:=EK hb (p:=q) hq (by omega) (n:=100) (by omega)
  obtain ⟨t,ht,e2⟩:=Fp (n:=u) (by omega)
  refine ⟨[115,113,117,97,114,101,115,32]++t,q+1,by simp only [List.length_append,List.length_cons,List.length_nil];omega,by omega,by omega,?_⟩
  apply Ev.step
  ·intro k
   simp only [AZ.j0,if_pos c7,if_neg c3,if_neg c4,if_neg c5,if_neg c6,Bool.false_eq_true,if_false]
   rfl
  refine e.bind (e2.bind ?_)
  rw [Ba,show (⟨#[115,113,117,97,114,101,115,32]⟩:ByteArray)=tx [115,113,117,97,114,101,115,32] from rfl,Bu]
  simp only [if_pos (show 8+t.length≤9223372036854775807 by omega)]
  exact Ev.now _
 by_cases c8:v=8
 ·obtain ⟨s,hs,e5⟩:=JU hb (q:=q) (by omega) (by omega) [[],[122,122,122],[102,111,114,109],[102,111,114,109,32,120],[116,105,109,101,115],[97,116],[115,121,109,98,111,108,32,49,32,50],[115,104,111,119,32,49]] (by simp) (by simp)
  refine ⟨s,q+1,by omega,by omega,by omega,?_⟩
  apply Ev.step
  ·intro k
   simp only [AZ.j0,if_pos c8,if_neg c3,if_neg c4,if_neg c5,if_neg c6,if_neg c7,Bool.false_eq_true,if_false]
   rfl
  exact e5.bind (Ev.now _)
 ·obtain ⟨s,hs,e5⟩:=JU hb (q:=q) (by omega) (by omega) [[115,104,111,119],[100,105,115,99],[98,97,100],[122,101,114,111],[112,108,97,110,101,115],[99,111,114,101,115]] (by simp) (by simp)
  refine ⟨s,q+1,by omega,by omega,by omega,?_⟩
  apply Ev.step
  ·intro k
   simp only [AZ.j0,if_neg c8,if_neg c3,if_neg c4,if_neg c5,if_neg c6,if_neg c7,Bool.false_eq_true,if_false]
   rfl
  exact e5.bind (Ev.now _)
theorem O1 {b:List Int} (hb:EF b) {q:Int} (hq:0≤q) (hQ:q≤690000000000000) :
  ∃(s:List UInt8) (q':Int),s.length≤300∧q≤q'∧q'≤q+51700000000010∧Ev (fun k=>AZ.f k b q) (tx s,q'):=by
 obtain ⟨v,h0,g,e⟩:=EK hb (p:=q) hq (by omega) (n:=11) (by omega)
 by_cases c:v≤2
 ·obtain ⟨s,q',hs,h1,h2,e2⟩:=j0_form hb (q:=q+1) (by omega) (by omega) v
  refine ⟨s,q',hs,by omega,by omega,?_⟩
  unfold AZ.f
  refine e.bind ?_
  obtain rfl|rfl|rfl:v=0∨v=1∨v=2:=by omega
  ·exact e2
  ·exact e2
  ·exact e2
 ·obtain ⟨s,q',hs,h1,h2,e2⟩:=j0_rest hb (q:=q+1) (by omega) (by omega) v
  refine ⟨s,q',hs,by omega,by omega,?_⟩
  unfold AZ.f
  refine e.bind ?_
  simp only [if_neg (show ¬v=0 by omega),if_neg (show ¬v=1 by omega),show (v==2)=false from beq_eq_false_iff_ne.mpr (by omega)]
  exact e2
theorem many_l : ∀(d n:Nat) (s o:List UInt8),n<2 ^ d→n≤1000000→s.length*2 ^ d≤1000000→o.length+s.length*2 ^ d≤2000000+s.length→
  ∃o':List UInt8,o'.length+s.length≤o.length+s.length*2 ^ d∧Ev (fun k=>Cu.l0 k (tx s) (n:Int) (tx o)) (tx o'):=by
 intro d
 induction d with
 | zero =>
  intro n s o hn _ _ _
  refine ⟨o,by simp,Ev.step (f:=fun _=>some (tx o)) (fun k=>?_) (Ev.now _)⟩
  simp only [Cu.l0]
  rw [if_neg (by omega)]
 | succ d ih =>
  intro n s o hn h6 hs ho
  rw [Nat.pow_succ] at hn hs ho
  have hp:1≤2 ^ d:=Nat.one_le_two_pow
  have hm:s.length≤s.length*2 ^ d:=Nat.le_mul_of_pos_right _ hp
  rw [← Nat.mul_assoc] at hs ho
  have e2:(s++s).length*2 ^ d=s.length*2 ^ d*2:=by rw [List.length_append,← Nat.mul_two,Nat.mul_right_comm]
  rw [Nat.pow_succ,← Nat.mul_assoc]
  by_cases c0:n=0
  ·refine ⟨o,by omega,Ev.step (f:=fun _=>some (tx o)) (fun k=>?_) (Ev.now _)⟩
   simp only [Cu.l0]
   rw [if_neg (by omega)]
  have hd:wrap64 (Int.tdiv (n:Int) 2)=((n/2:Nat):Int):=by rw [Int.tdiv_eq_ediv_of_nonneg (by omega),w64 (by omega) (by omega)];rfl
  by_cases c1:(n:Int).tmod 2=1
  ·obtain ⟨o',h1,e⟩:=ih (n/2) (s++s) (o++s) (by omega) (by omega) (by omega) (by rw [List.length_append,List.length_append] at *;omega)
   rw [List.length_append,List.length_append] at h1
   rw [List.length_append] at e2
   refine ⟨o',by omega,Ev.step (fun k=>?_) e⟩
   simp only [Cu.l0]
   rw [if_pos (by omega),if_pos c1,Ba,Ba,if_pos (by omega),if_pos (by omega),hd,Bu,Bu]
  ·obtain ⟨o',h1,e⟩:=ih (n/2) (s++s) o (by omega) (by omega) (by omega) (by rw [List.length_append];rw [List.length_append] at e2;omega)
   rw [List.length_append] at h1 e2
   refine ⟨o',by omega,Ev.step (fun k=>?_) e⟩
   simp only [Cu.l0]
   rw [if_pos (by omega),if_neg c1,Ba,if_pos (by omega),hd,Bu]
theorem draw_l {b:List Int} (hb:EF b) (n:Nat) (hn:n≤11) : ∀(d j:Nat) (s:List UInt8) (q:Int),j+d=n→s.length≤301*j→0≤q→q+51700000000010*d≤600000000000000→
  ∃s':List UInt8,s'.length≤5000∧Ev (fun k=>Bs.l0 k (tx s) (n:Int) (j:Int) b q) (tx s'):=by
 intro d
 induction d with
 | zero =>
  intro j s q hj hs hq hQ
  obtain ⟨v,h0,g,e⟩:=EK hb (p:=q) hq (by omega) (n:=24) (by omega)
  have st : ∀ {r:ByteArray},Ev (fun k=>if v=0 then if (tx s).size+4≤9223372036854775807 then some (tx s++(⟨#[115,104,111,119]⟩:ByteArray)) else none else if v=1 then (Cu.f k (⟨#[115,104,111,119,10]⟩:ByteArray) 110).bind fun t=>(if (tx s).size+t.size≤9223372036854775807 then some (tx s++t) else none) else some (tx s)) r→
    Ev (fun k=>Bs.l0 k (tx s) (n:Int) (j:Int) b q) r:=by
   intro r h
   apply Ev.step
   ·intro k
    simp only [Bs.l0]
    rw [if_neg (by omega)]
   exact e.bind h
  by_cases c0:v=0
  ·refine ⟨s++[115,104,111,119],by simp only [List.length_append,List.length_cons,List.length_nil];omega,st ?_⟩
   simp only [if_pos c0,Ba,if_pos (show s.length+4≤9223372036854775807 by omega)]
   rw [show (⟨#[115,104,111,119]⟩:ByteArray)=tx [115,104,111,119] from rfl,Bu]
   exact Ev.now _
  ·by_cases c1:v=1
   ·obtain ⟨m,hl,h1⟩:=many_l 7 110 [115,104,111,119,10] [] (by omega) (by omega) (by simp) (by simp)
    simp only [List.length_cons,List.length_nil] at hl
    refine ⟨s++m,by rw [List.length_append];omega,st ?_⟩
    simp only [if_neg c0,if_pos c1]
    refine Ev.bind (g:=fun k=>Cu.f k (⟨#[115,104,111,119,10]⟩:ByteArray) 110) h1 ?_
    simp only [Ba,if_pos (show s.length+m.length≤9223372036854775807 by omega),Bu]
    exact Ev.now _
   ·refine ⟨s,by omega,st ?_⟩
    simp only [if_neg c0,if_neg c1]
    exact Ev.now _
 | succ d ih =>
  intro j s q hj hs hq hQ
  obtain ⟨t,q',ht,h1,h2,e⟩:=O1 hb (q:=q) hq (by omega)
  obtain ⟨s',h3,e2⟩:=ih (j+1) (s++t++[10]) q' (by omega) (by simp only [List.length_append,List.length_cons,List.length_nil];omega) (by omega) (by omega)
  refine ⟨s',h3,?_⟩
  apply Ev.step
  ·intro k
   simp only [Bs.l0]
   rw [if_pos (by omega),w64 (x:=(j:Int)+1) (by omega) (by omega)]
  refine e.bind ?_
  rw [show (⟨#[10]⟩:ByteArray)=tx [10] from rfl]
  simp only [Ba,Bu,if_pos (show s.length+t.length≤9223372036854775807 by omega),if_pos (show (s++t).length+1≤9223372036854775807 by rw [List.length_append];omega)]
  exact e2
theorem draw_ev {l:List Int} (h : ∀x∈l,(Lit.int .u8 x).wf=true) : ∃s:List UInt8,s.length≤5000∧Ev (fun k=>Bs.f k l) (tx s):=by
 obtain ⟨b,hb,ho⟩:=open_ev h
 obtain ⟨v,h0,g,e⟩:=EK hb (p:=0) (by omega) (by omega) (n:=12) (by omega)
 obtain ⟨n,rfl⟩:=Int.eq_ofNat_of_zero_le h0
 obtain ⟨s,hs,e2⟩:=draw_l hb n (by omega) n 0 [] (0+1) (by omega) (by simp) (by omega) (by omega)
 refine ⟨s,hs,?_⟩
 simp only [Bs.f,ho,Option.bind_some]
 exact e.bind e2
def flT:List (List UInt8)→List UInt8
 | []=>[]
 | x::r=>x++10::flT r
theorem NQ : ∀a b:List (List UInt8),flT (a++b)=flT a++flT b
 | [],b=>rfl
 | x::a,b=>by simp [flT,NQ a b]
theorem fl_ex : ∀s:List UInt8,∃(ls:List (List UInt8)) (l:List UInt8),s=flT ls++l∧(∀x∈ls,(10:UInt8)∉x)∧(10:UInt8)∉l
 | []=>⟨[],[],rfl,by simp,by simp⟩
 | c::s=>by
  obtain ⟨ls,l,rfl,h1,h2⟩:=fl_ex s
  by_cases e:c=10
  ·exact ⟨[]::ls,l,by rw [e];rfl,by simpa using h1,h2⟩
  ·cases ls with
   | nil=>exact ⟨[],c::l,rfl,by simp,fun m=>(List.mem_cons.1 m).elim (fun k=>e k.symm) h2⟩
   | cons y r =>
    refine ⟨(c::y)::r,l,rfl,fun x hx=>?_,h2⟩
    rcases List.mem_cons.1 hx with rfl|hx
    ·exact fun m=>(List.mem_cons.1 m).elim (fun k=>e k.symm) (h1 y (by simp))
    ·exact h1 x (by simp [hx])
theorem Mu : ∀(ls:List (List UInt8)) (l:List UInt8),(∀x∈ls,(10:UInt8)∉x)→(10:UInt8)∉l→Lib.split (flT ls++l) [10]=ls++[l]
 | [],l,_,h=>Fv h
 | x::r,l,hx,h=>by
  rw [flT,List.append_assoc,List.cons_append,GN _ (hx x (by simp)),Mu r l (fun y hy=>hx y (by simp [hy])) h];rfl
theorem exec_fl {ls:List (List UInt8)} {l:List UInt8} (hx : ∀x∈ls,(10:UInt8)∉x) (hl:(10:UInt8)∉l) (h5:(flT ls++l).length≤500):Lj (flT ls++l)=endT (runT ls [1] []):=by
 unfold Lj
 rw [if_neg (by omega),Mu ls l hx hl,List.dropLast_concat]
def Nl (o:List UInt8):Prop:=o=[]∨∃p,o=p++[10]
theorem fl_nl : ∀ls:List (List UInt8),Nl (flT ls)
 | [] => .inl rfl
 | x::r=>by
  rcases fl_nl r with h|⟨p,h⟩
  ·exact .inr ⟨x,by rw [flT,h]⟩
  ·exact .inr ⟨x++10::p,by rw [flT,h];simp⟩
theorem Lu {p l:List UInt8} (hp:Nl p) (hl:(10:UInt8)∉l) (h9:(p++l).length≤1000000):Ev (fun k=>laws_complete.f k (tx (p++l))) (tx p):=by
 have key : ∀j:Nat,j≤l.length→Ev (fun k=>laws_complete.l0 k (tx (p++l)) ((p.length+j:Nat):Int)) (tx p):=by
  intro j
  induction j with
  | zero =>
   intro _
   rcases hp with rfl|⟨q,rfl⟩
   ·refine Ev.step (f:=fun _=>some (tx [])) (fun k=>?_) (Ev.now _)
    simp only [laws_complete.l0]
    rw [if_neg (by simp)];rfl
   ·simp only [List.length_append,List.length_cons,List.length_nil] at h9 ⊢
    have hq:bt (tx (q++[10]++l)) (q.length:Int)=10:=by
     rw [IE _ _ (by simp only [List.length_append,List.length_cons];omega)]
     simp
    refine Ev.step (f:=fun _=>some (tx (q++[10]))) (fun k=>?_) (Ev.now _)
    simp only [laws_complete.l0,Nat.add_zero,Ba,List.length_append,List.length_cons,List.length_nil]
    rw [if_pos (by omega),w64 (x:=((q.length+1:Nat):Int)-1) (by omega) (by omega),show ((q.length+1:Nat):Int)-1=(q.length:Int) by omega,if_pos (by omega),if_pos (by omega),if_pos hq,if_pos (by omega),if_pos (by omega),
     Ef,show (((q.length+1:Nat):Int)).toNat=(q++[10]).length by simp,List.drop_zero,Nat.sub_zero,List.take_left]
  | succ j ih =>
   intro hj
   have hi:=ih (by omega)
   have hb:bt (tx (p++l)) ((p.length+j:Nat):Int)≠10:=by
    rw [IE _ _ (by simp;omega)]
    intro e
    have:(p++l)[p.length+j]'(by simp;omega)=10:=UInt8.toNat_inj.1 (by have:(10:UInt8).toNat=10:=rfl;omega)
    rw [List.getElem_append_right (by omega)] at this
    exact hl (this▸List.getElem_mem _)
   simp only [List.length_append] at h9
   refine Ev.step (fun k=>?_) hi
   simp only [laws_complete.l0,Ba,List.length_append]
   rw [if_pos (by omega),w64 (x:=((p.length+(j+1):Nat):Int)-1) (by omega) (by omega),show ((p.length+(j+1):Nat):Int)-1=((p.length+j:Nat):Int) by omega,if_pos (by omega),if_pos (by omega),if_neg hb]
 have:=key l.length (Nat.le_refl _)
 simp only [laws_complete.f,Ba,List.length_append]
 exact this
theorem OB : ∀(a b:List (List UInt8)) (form:List Int) (out:List UInt8),runT (a++b) form out=runT b (runT a form out).1 (runT a form out).2
 | [],b,form,out=>rfl
 | l::a,b,form,out=>by
  obtain ⟨w,r,e,_,_⟩:=EU 32 l.length l (Nat.le_refl _)
  simp only [List.cons_append,runT,e]
  exact OB a b _ _
theorem run_nl : ∀(ls:List (List UInt8)) (form:List Int) (out:List UInt8),Nl out→Nl (runT ls form out).2
 | [],_,_,h=>h
 | l::ls,form,out,h=>by
  obtain ⟨w,r,e,_,_⟩:=EU 32 l.length l (Nat.le_refl _)
  simp only [runT,e]
  exact run_nl ls _ _ (.inr ⟨out++(ES form w r).2,by simp⟩)
theorem fl_len : ∀ls:List (List UInt8),ls.length≤(flT ls).length
 | []=>Nat.le_refl _
 | x::r=>by have:=fl_len r;simp only [flT,List.length_append,List.length_cons];omega
theorem last_l {o t:List UInt8} (ho:Nl o) (ht:(10:UInt8)∉t) (h9:o.length+t.length≤2000000) : ∀j:Nat,j≤t.length→Ev (fun k=>laws_lastLine.l0 k (tx (o++(t++[10]))) ((o.length:Int)+j-1)) (tx (t++[10])):=by
 intro j
 induction j with
 | zero =>
  intro _
  rcases ho with rfl|⟨p,rfl⟩
  ·refine Ev.step (f:=fun _=>some (tx (t++[10]))) (fun k=>?_) (Ev.now _)
   simp only [laws_lastLine.l0]
   rw [if_neg (by simp)];rfl
  ·simp only [List.length_append,List.length_cons,List.length_nil] at h9 ⊢
   have hq:bt (tx (p++[10]++(t++[10]))) (p.length:Int)=10:=by
    rw [IE _ _ (by simp only [List.length_append,List.length_cons];omega)]
    simp
   refine Ev.step (f:=fun _=>some (tx (t++[10]))) (fun k=>?_) (Ev.now _)
   simp only [laws_lastLine.l0,Ba,List.length_append,List.length_cons,List.length_nil]
   rw [show ((p.length+(0+1):Nat):Int)+(0:Nat)-1=(p.length:Int) by omega,if_pos (by omega),if_pos (by omega),if_pos (by omega),if_pos hq,w64 (x:=(p.length:Int)+1) (by omega) (by omega),if_pos (by omega),if_pos (by omega),
    Ef,show ((p.length:Int)+1).toNat=(p++[10]).length by simp,List.drop_left,List.take_of_length_le (by simp only [List.length_append,List.length_cons,List.length_nil];omega)]
 | succ j ih =>
  intro hj
  have hb:bt (tx (o++(t++[10]))) ((o.length+j:Nat):Int)≠10:=by
   rw [IE _ _ (by simp only [List.length_append,List.length_cons];omega)]
   intro e
   have:(o++(t++[10]))[o.length+j]'(by simp only [List.length_append,List.length_cons];omega)=10:=UInt8.toNat_inj.1 (by have:(10:UInt8).toNat=10:=rfl;omega)
   rw [List.getElem_append_right (by omega),List.getElem_append_left (by omega)] at this
   exact ht (this▸List.getElem_mem _)
  refine Ev.step (fun k=>?_) (ih (by omega))
  simp only [laws_lastLine.l0,Ba,List.length_append,List.length_cons,List.length_nil]
  rw [show (o.length:Int)+((j+1:Nat):Int)-1=((o.length+j:Nat):Int) by omega,if_pos (by omega),if_pos (by omega),if_pos (by omega),if_neg hb,w64 (x:=((o.length+j:Nat):Int)-1) (by omega) (by omega),show ((o.length+j:Nat):Int)-1=(o.length:Int)+j-1 by omega]
def endW (form:List Int):List UInt8:=[116,101,114,109,115,32]++Lib.itoa (form.length:Int)++[10]
theorem MF {form:List Int} (h:form.length≤1000):7≤(endW form).length∧(endW form).length≤28:=by
 have:=Eb (n:=(form.length:Int)) (by omega)
 simp only [endW,List.length_append,List.length_cons,List.length_nil];omega
theorem last_end {form:List Int} {o:List UInt8} (ho:Nl o) (hl:o.length≤1000000) (hf:form.length≤1000):Ev (fun k=>laws_lastLine.f k (tx (o++endW form))) (tx (endW form)):=by
 have hw:=MF hf
 have key:=last_l (o:=o) (t:=[116,101,114,109,115,32]++Lib.itoa (form.length:Int)) ho
  (fun m=>(List.mem_append.1 m).elim (by decide) (itoa_no _ (by decide)))
  (by have:(endW form).length=([116,101,114,109,115,32]++Lib.itoa (form.length:Int)).length+1:=(by rw [endW,List.length_append];rfl);omega) _ (Nat.le_refl _)
 have e:(([116,101,114,109,115,32]++Lib.itoa (form.length:Int)).length:Int)=((endW form).length:Int)-1:=by
  simp only [endW,List.length_append,List.length_cons,List.length_nil];omega
 unfold laws_lastLine.f
 rw [Ba,List.length_append,w64 (x:=((o.length+(endW form).length:Nat):Int)-2) (by omega) (by omega),show ((o.length+(endW form).length:Nat):Int)-2=(o.length:Int)+(([116,101,114,109,115,32]++Lib.itoa (form.length:Int)).length:Int)-1 by omega]
 exact key
theorem MA {l w:List UInt8} {r:List (List UInt8)} (e:Lib.split l [32]=w::r) (ls:List (List UInt8)) (form:List Int) (out:List UInt8):runT (l::ls) form out=runT ls (ES form w r).1 (out++((ES form w r).2++[10])):=by
 simp only [runT,e]
theorem run_what (form:List Int) (out:List UInt8):runT [[122,122,122],[102,111,114,109,32,48]] form out=(form,out++[119,104,97,116,10,110,111,10]):=by
 have e:Lib.split [102,111,114,109,32,48] [32]=[[102,111,114,109],[48]]:=by
  have h:=GN (c:=32) (a:=[102,111,114,109]) [48] (by decide)
  rw [Fv (c:=32) (a:=[48]) (by decide)] at h
  exact h
 have n0:numT [48]=0:=by simp [numT,okD,isD,valD]
 have h0:BK ([[48]].map numT)=false:=by rw [List.map_cons,n0];rfl
 have a1:ES form [122,122,122] []=(form,whW):=by simp [ES,askT,oneT]
 have a2:ES form [102,111,114,109] [[48]]=(form,noW):=by
  unfold ES
  rw [if_pos ⟨rfl,by decide⟩,FA,if_neg (by rw [h0];decide)]
 rw [MA (Fv (c:=32) (a:=[122,122,122]) (by decide)),a1,MA e,a2,runT,List.append_assoc]
 rfl
theorem KW {ls more:List (List UInt8)} (h1 : ∀x∈ls,(10:UInt8)∉x) (h2 : ∀x∈more,(10:UInt8)∉x) (hl:(flT ls).length+(flT more).length≤500) :
  Lj (flT ls++flT more)=(runT more (runT ls [1] []).1 (runT ls [1] []).2).2++endW (runT more (runT ls [1] []).1 (runT ls [1] []).2).1:=by
 have e:=exec_fl (ls:=ls++more) (l:=[]) (fun x hx=>(List.mem_append.1 hx).elim (h1 x) (h2 x)) (by simp) (by rw [NQ];simp only [List.append_nil,List.length_append];omega)
 rw [List.append_nil,NQ,OB] at e
 exact e
theorem holds:laws_FnExecuteWhat.Pure:=by
 intro l0 _ _ hw
 refine Ev.rounds ?_
 unfold laws_FnExecuteWhat.f
 by_cases big:(l0.length:Int)>1048576
 ·simp only [if_pos big];exact Ev.now _
 simp only [if_neg big]
 obtain ⟨s,hs,e⟩:=draw_ev hw
 refine e.bind ((Gn s).bind ((K6 s).bind ?_))
 simp only [if_true]
 obtain ⟨ls,l,rfl,h1,h2⟩:=fl_ex s
 have hll:(flT ls++l).length=(flT ls).length+l.length:=List.length_append
 refine (Lu (fl_nl ls) h2 (by omega)).bind ?_
 simp only [Ba]
 by_cases c:((flT ls).length:Int)>488
 ·simp only [if_pos c];exact Ev.now _
 simp only [if_neg c,if_pos (show (flT ls).length+11≤9223372036854775807 by omega)]
 have hn:=fl_len ls
 have hb:=LY ls [1] [] Je
 have hf:=(N7 ls [1] [] Je).l4
 have ho:=run_nl ls [1] [] (.inl rfl)
 have a:=KW (more:=[]) h1 (by simp) (by rw [show (flT []).length=0 from rfl];omega)
 have b:=KW (more:=[[122,122,122],[102,111,114,109,32,48]]) h1 (by decide) (by rw [show (flT [[122,122,122],[102,111,114,109,32,48]]).length=11 from rfl];omega)
 rw [run_what] at b
 rw [show flT []=[] from rfl,List.append_nil] at a
 simp only [runT] at a
 refine (Gn (flT ls)).bind ?_
 rw [show (⟨#[122,122,122,10,102,111,114,109,32,48,10]⟩:ByteArray)=tx (flT [[122,122,122],[102,111,114,109,32,48]]) from rfl,Bu]
 refine (Gn _).bind ?_
 rw [a,b]
 generalize runT ls [1] []=q at hb hf ho ⊢
 simp only [List.length_nil] at hb
 have hT:=MF (form:=q.1) (by omega)
 have hL:=last_end (form:=q.1) ho (by omega) (by omega)
 refine hL.bind ?_
 simp only [Ba,List.length_append,w64 (x:=((q.2.length+(endW q.1).length:Nat):Int)-((endW q.1).length:Int)) (by omega) (by omega),show ((q.2.length+(endW q.1).length:Nat):Int)-((endW q.1).length:Int)=(q.2.length:Int) by omega,w64 (x:=(q.2.length:Int)) (by omega) (by omega)]
 simp only [if_pos (show 0≤(q.2.length:Int) by omega),if_pos (show (q.2.length:Int)≤((q.2.length+(endW q.1).length:Nat):Int) by omega),Int.toNat_natCast,Ef,List.drop_zero,Nat.sub_zero,List.take_left,Ba,
  if_pos (show q.2.length+8≤9223372036854775807 by omega)]
 refine hL.bind ?_
 rw [show (⟨#[119,104,97,116,10,110,111,10]⟩:ByteArray)=tx [119,104,97,116,10,110,111,10] from rfl]
 simp only [Bu,Ba,List.length_append,if_pos (show q.2.length+[(119:UInt8),104,97,116,10,110,111,10].length+(endW q.1).length≤9223372036854775807 by simp only [List.length_cons,List.length_nil];omega),C2,beq_self_eq_true]
 exact Ev.now _
end Go.Proofs.YtacfcoilmdhgnaaGreatDoor.QFnExecuteWhat
