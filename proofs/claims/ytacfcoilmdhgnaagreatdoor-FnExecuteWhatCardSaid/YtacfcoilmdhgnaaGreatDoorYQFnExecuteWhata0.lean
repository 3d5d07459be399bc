/- What a script writes, and that unknown lines and wrong forms change nothing. -/
import Derived.Lib.ItoaLen
import Derived.Lib.SplitLaws
import Derived.Test.YtacfcoilmdhgnaaGreatDoorYPFnExecuteWhatx13
import Derived.Test.YtacfcoilmdhgnaaGreatDoorYPlain
set_option linter.unusedVariables false
set_option linter.unusedSimpArgs false
namespace Go.Proofs.YtacfcoilmdhgnaaGreatDoor.QFnExecuteWhat
open Go.RowKit Go.Proofs.YtacfcoilmdhgnaaGreatDoor.PFnExecuteWhat Go.Proofs.YtacfcoilmdhgnaaGreatDoorW.PrintWords Go.Proofs.YtacfcoilmdhgnaaGreatDoorW.PrintLast Go.Proofs.YtacfcoilmdhgnaaGreatDoorW.PrintMore Locg
theorem IU (a b:Nat) (ha:a<9223372036854775808) (hb:b<9223372036854775808):Go.bits .xor .i64 (a:Int) (b:Int)=((a^^^b:Nat):Int):=by
 have hx:a^^^b<2 ^ 63:=Nat.xor_lt_two_pow (by omega) (by omega)
 have h1:(BitVec.ofInt 64 (a:Int)).toNat=a:=by
  rw [BitVec.ofInt_natCast,BitVec.toNat_ofNat];exact Nat.mod_eq_of_lt (by omega)
 have h2:(BitVec.ofInt 64 (b:Int)).toNat=b:=by
  rw [BitVec.ofInt_natCast,BitVec.toNat_ofNat];exact Nat.mod_eq_of_lt (by omega)
 show IntKind.i64.wrap ((BitVec.ofInt 64 (a:Int)^^^BitVec.ofInt 64 (b:Int)).toNat:Int)=_
 rw [BitVec.toNat_xor,h1,h2]
 have hw : ∀n:Int,IntKind.i64.wrap n=wrap64 n:=fun n=>by simp [IntKind.wrap,wrap64,IntKind.bits,IntKind.signed];omega
 rw [hw]
 exact w64' (by omega) (by omega)
theorem MX (a b:Int) (ha:0≤a) (hA:a<9223372036854775808) (hb:0≤b) (hB:b<9223372036854775808):0≤Go.bits .xor .i64 a b:=by
 obtain ⟨a,rfl⟩:=Int.eq_ofNat_of_zero_le ha
 obtain ⟨b,rfl⟩:=Int.eq_ofNat_of_zero_le hb
 rw [IU a b (by omega) (by omega)]
 exact Int.natCast_nonneg _
theorem D4 {x n:Int} (hx:0≤x) (hn:1≤n):0≤x.tmod n∧x.tmod n<n:=by
 rw [Int.tmod_eq_emod_of_nonneg hx];exact ⟨Int.emod_nonneg _ (by omega),Int.emod_lt_of_pos _ (by omega)⟩
def EF (b:List Int):Prop:=(∀x∈b,0≤x∧x≤255)∧b.length≤2000
theorem EF.rd_ {b:List Int} (h:EF b) (i:Int):0≤rd b i∧rd b i≤255:=by
 unfold rd
 by_cases c:i.toNat<b.length
 ·have:=h.1 (b[i.toNat]) (by simp)
  simpa [List.getElem?_eq_getElem c] using this
 ·simp [List.getElem?_eq_none (show b.length≤i.toNat by omega)]
def pv (b:List Int) (p:Int):Int:=if b.length=0 then 0 else if p<(b.length:Int) then rd b p else
 Go.bits .xor .i64 (rd b (p.tmod b.length)*131+rd b ((p*7+3).tmod b.length)*1117+p*29+p.tdiv b.length*53) ((rd b (p.tmod b.length)*131+rd b ((p*7+3).tmod b.length)*1117+p*29+p.tdiv b.length*53).tdiv 64)
theorem G6 {b:List Int} (hb:EF b) {p:Int} (hp:0≤p) (hP:p≤1000000000000000) {n:Int} (hn:1≤n) :
  0≤pv b p∧Ev (fun k=>Aj.f k b p n) ((pv b p).tmod n,p+1):=by
 have hl:=hb.2
 unfold pv
 rcases Nat.eq_zero_or_pos b.length with h0|h0
 ·rw [if_pos h0,Int.zero_tmod]
  refine ⟨by omega,Ev.step (f:=fun _=>some (0,p+1)) (fun k=>?_) (Ev.now _)⟩
  simp only [Aj.f,Aj.j0]
  rw [if_neg (by omega),w64 (x:=p+1) (by omega) (by omega),if_pos (by simp [h0])]
 ·have e : ∀k,Aj.f (k+1) b p n=Aj.j0 (k+1) n false b (p+1):=by
   intro k
   simp only [Aj.f]
   rw [if_neg (by omega),w64 (x:=p+1) (by omega) (by omega)]
   congr 1
   simp;intro h;rw [h] at h0;simp at h0
  have hq:wrap64 (p+1-1)=p:=by rw [w64 (by omega) (by omega)];omega
  rw [if_neg (by omega)]
  by_cases c:p<b.length
  ·rw [if_pos c]
   refine ⟨(hb.rd_ p).1,Ev.step (f:=fun _=>some ((rd b p).tmod n,p+1)) (fun k=>?_) (Ev.now _)⟩
   have:=hb.rd_ p
   rw [e]
   simp only [Aj.j0,hq]
   rw [if_neg (by simp),if_pos c,if_pos hp,if_neg (by omega),w64 (x:=rd b p) (by omega) (by omega)]
  ·rw [if_neg c]
   have hm:=D4 hp (n:=b.length) (by omega)
   have e7:wrap64 (p*7)=p*7:=w64 (by omega) (by omega)
   have e73:wrap64 (p*7+3)=p*7+3:=w64 (by omega) (by omega)
   have e29:wrap64 (p*29)=p*29:=w64 (by omega) (by omega)
   have hm2:=D4 (x:=p*7+3) (by omega) (n:=b.length) (by omega)
   have hA:=hb.rd_ (p.tmod b.length)
   have hB:=hb.rd_ ((p*7+3).tmod b.length)
   have hd:0≤p.tdiv b.length∧p.tdiv b.length≤p:=by
    rw [Int.tdiv_eq_ediv_of_nonneg hp];exact ⟨Int.ediv_nonneg hp (by omega),Int.ediv_le_self _ hp⟩
   generalize hAe:rd b (p.tmod b.length)=A at hA
   generalize hBe:rd b ((p*7+3).tmod b.length)=B at hB
   generalize hDe:p.tdiv b.length=D at hd
   have hx64:0≤(A*131+B*1117+p*29+D*53).tdiv 64∧(A*131+B*1117+p*29+D*53).tdiv 64≤A*131+B*1117+p*29+D*53:=by
    rw [Int.tdiv_eq_ediv_of_nonneg (by omega)];omega
   have hx:=MX (A*131+B*1117+p*29+D*53) ((A*131+B*1117+p*29+D*53).tdiv 64) (by omega) (by omega) (by omega) (by omega)
   refine ⟨hx,Ev.step (f:=fun _=>some (_,p+1)) (fun k=>?_) (Ev.now _)⟩
   rw [e]
   simp only [Aj.j0,hq,e7,e73,hAe,hBe,hDe,e29]
   rw [if_neg (by simp),if_neg c,if_neg (by omega),if_pos hm.1,if_pos hm.2,if_pos hm2.1,if_pos hm2.2,if_neg (by omega)]
   rw [w64 (x:=A) (by omega) (by omega),w64 (x:=B) (by omega) (by omega),w64 (x:=D) (by omega) (by omega),w64 (x:=A*131) (by omega) (by omega),w64 (x:=B*1117) (by omega) (by omega),
    w64 (x:=A*131+B*1117) (by omega) (by omega),w64 (x:=A*131+B*1117+p*29) (by omega) (by omega),w64 (x:=D*53) (by omega) (by omega),
    w64 (x:=A*131+B*1117+p*29+D*53) (by omega) (by omega),w64 (x:=(A*131+B*1117+p*29+D*53).tdiv 64) (by omega) (by omega)]
theorem EK {b:List Int} (hb:EF b) {p:Int} (hp:0≤p) (hP:p≤1000000000000000) {n:Int} (hn:1≤n) :
  ∃v,0≤v∧v<n∧Ev (fun k=>Aj.f k b p n) (v,p+1):=by
 obtain ⟨h,e⟩:=G6 hb hp hP hn
 exact ⟨_,(D4 h hn).1,(D4 h hn).2,e⟩
theorem open_ev {l:List Int} (h : ∀x∈l,(Lit.int .u8 x).wf=true) : ∃b,EF b∧D0.f l=some (b,0):=by
 have h' : ∀x∈l,0≤x∧x≤255:=fun x hx=>by
  have:=h x hx
  simp only [Lit.wf,Bool.and_eq_true,decide_eq_true_eq] at this
  have e1:IntKind.u8.min=0:=by decide
  have e2:IntKind.u8.max=255:=by decide
  omega
 unfold D0.f
 by_cases c:(l.length:Int)>2000
 ·refine ⟨l.take 2000,⟨fun x hx=>h' x (List.mem_of_mem_take hx),by simp;omega⟩,?_⟩
  rw [if_pos c,if_pos (by omega)]
 ·exact ⟨l,⟨h',by omega⟩,by rw [if_neg c]⟩
theorem split_l {p:Int} (hp:2≤p) : ∀(d:Nat) (n j:Int),n≠0→n.natAbs<2 ^ d→d≤63→0≤j→j+d≤1000→
  ∀k,d<k→BX.l0 k n p j=some (j+(spl p d n).1,(spl p d n).2):=by
 intro d
 induction d with
 | zero=>intro n j hn h;simp at h;omega
 | succ d ih =>
  intro n j hn h hd hj hJ k hk
  obtain ⟨k,rfl⟩ : ∃m,k=m+1:=⟨k-1,by omega⟩
  simp only [BX.l0]
  rw [if_neg (by omega)]
  by_cases c:n.tmod p=0
  ·obtain ⟨h0,h1,h2,h3,_⟩:=F4 hp hn c
   have hlt:n.natAbs<2 ^ 63:=Nat.lt_of_lt_of_le h (Nat.pow_le_pow_right (by omega) hd)
   rw [if_pos c,w64 (x:=n.tdiv p) (by omega) (by omega),LV d c,w64 (x:=j+1) (by omega) (by omega),
    ih (n.tdiv p) (j+1) h0 (by rw [Nat.pow_succ] at h;omega) (by omega) (by omega) (by omega) k (by omega)]
   simp only [Option.some.injEq,Prod.mk.injEq,and_true];omega
  ·rw [if_neg c,Jv d c]
   simp
theorem Mn {n p:Int} (hp:2≤p) (hn:n≠0) (h:n.natAbs<2 ^ 63) (k:Nat) (hk:63<k):BX.f k n p=some (val p n,unit p n):=by
 unfold BX.f val unit
 rw [split_l hp 63 n 0 hn h (by omega) (by omega) (by omega) k hk,← JD hp 63 n hn h]
 simp
theorem J2 {n p:Int} (hp:2≤p) (hn:n≠0) (h:n.natAbs<2 ^ 63):Ev (fun k=>BX.f k n p) (val p n,unit p n):=⟨64,fun k hk=>Mn hp hn h k (by omega)⟩
theorem LA {p:Int} (hp:2≤p) : ∀(d:Nat) (n j:Int),n≠0→n.natAbs<2 ^ d→d≤63→0≤j→j+d≤1000→
  ∀k,d<k→AM.l0 k n p j=some (j+(spl p d n).1,(spl p d n).2):=by
 intro d
 induction d with
 | zero=>intro n j hn h;simp at h;omega
 | succ d ih =>
  intro n j hn h hd hj hJ k hk
  obtain ⟨k,rfl⟩ : ∃m,k=m+1:=⟨k-1,by omega⟩
  simp only [AM.l0]
  rw [if_neg (by omega)]
  by_cases c:n.tmod p=0
  ·obtain ⟨h0,h1,h2,h3,_⟩:=F4 hp hn c
   have hlt:n.natAbs<2 ^ 63:=Nat.lt_of_lt_of_le h (Nat.pow_le_pow_right (by omega) hd)
   rw [if_pos c,w64 (x:=n.tdiv p) (by omega) (by omega),LV d c,w64 (x:=j+1) (by omega) (by omega),
    ih (n.tdiv p) (j+1) h0 (by rw [Nat.pow_succ] at h;omega) (by omega) (by omega) (by omega) k (by omega)]
   simp only [Option.some.injEq,Prod.mk.injEq,and_true];omega
  ·rw [if_neg c,Jv d c]
   simp
theorem J7 {n p:Int} (hp:2≤p) (hn:n≠0) (h:n.natAbs<2 ^ 63) (k:Nat) (hk:63<k):AM.f k n p=some (val p n,unit p n):=by
 unfold AM.f val unit
 rw [LA hp 63 n 0 hn h (by omega) (by omega) (by omega) k hk,← JD hp 63 n hn h]
 simp
theorem FZ {n p:Int} (hp:2≤p) (hn:n≠0) (h:n.natAbs<2 ^ 63):Ev (fun k=>AM.f k n p) (val p n,unit p n):=⟨64,fun k hk=>J7 hp hn h k (by omega)⟩
theorem Nk : ∀(d:Nat) (n p:Int) (out:List Int),0<n→n≤1000000000000→2≤p→p≤1000002→n+2-p≤d→1≤d→out.length+d≤17000000000000→
  ∀k,d+64<k→Bw.l0 k n out p=some (out++pl d n p):=by
 intro d
 induction d with
 | zero=>intro n p out hn hN hp hP hd h1;omega
 | succ d ih =>
  intro n p out hn hN hp hP hd h1 hl k hk
  obtain ⟨k,rfl⟩ : ∃m,k=m+1:=⟨k-1,by omega⟩
  simp only [Bw.l0,pl]
  rw [wmul (a:=p) (b:=p) (by omega) (by omega) (by omega) (by omega)]
  by_cases c:p*p≤n
  ·have hpn:2*p≤n:=by have:=Int.mul_le_mul_of_nonneg_right hp (show 0≤p by omega);omega
   have hp6:p≤1000000:=JP (by omega) (by omega)
   rw [if_pos c,if_neg (by omega),if_pos c,w64 (x:=p+1) (by omega) (by omega)]
   by_cases c2:n.tmod p=0
   ·have hv:=D5 hp (show n≠0 by omega) (by omega)
    rw [if_pos c2,if_pos (by omega),Mn hp (by omega) (by omega) k (by omega),if_pos c2]
    simp only [Option.bind_some]
    rw [ih (unit p n) (p+1) (out++[p]) (hv.2.2.2.2.2.2 hn) (by omega) (by omega) (by omega) (by omega) (by omega) (by simp;omega) k (by omega)]
    simp
   ·rw [if_neg c2,if_neg c2]
    exact ih n (p+1) out hn hN (by omega) (by omega) (by omega) (by omega) (by omega) k (by omega)
  ·rw [if_neg c,if_neg c]
   by_cases c2:n>1
   ·rw [if_pos c2,if_pos c2,if_pos (by omega)]
   ·rw [if_neg c2,if_neg c2];simp
theorem Gt {n:Int} (hn:n≠0) (h:n.natAbs≤1000000000000):Ev (fun k=>Bw.f k n) (CZ n):=by
 refine ⟨n.natAbs+67,fun k hk=>?_⟩
 simp only [Bw.f,BB.f,Option.bind_some]
 rw [EL (by omega) (by omega),Nk (n.natAbs+2) (absI n) 2 [] (by unfold absI;omega) (by unfold absI;omega) (by omega) (by omega) (by unfold absI;omega) (by omega) (by simp;omega) k (by omega)]
 rfl
theorem Lw (p:Int) (hp:2≤p) (hP:p≤1000001) (out:List Int) : ∀(d:Nat) (n:Int),0<n→n.natAbs<2 ^ d→d≤63→
  ∀k,AG.l1 (k+d) n out p=(match k+d-(spl p d n).1.toNat with|0=>none|m+1=>AG.l0 m (spl p d n).2 out (p+1)):=by
 intro d
 induction d with
 | zero=>intro n hn h;simp at h;omega
 | succ d ih =>
  intro n hn h hd k
  have hs:=JM hp (d+1) n (by omega) h
  rw [show k+(d+1)=(k+d)+1 from by omega]
  simp only [AG.l1]
  rw [if_neg (by omega)]
  by_cases c:n.tmod p=0
  ·obtain ⟨h0,h1,h2,h3,_⟩:=F4 hp (show n≠0 by omega) c
   have hlt:n.natAbs<2 ^ 63:=Nat.lt_of_lt_of_le h (Nat.pow_le_pow_right (by omega) hd)
   have h4:(n.tdiv p).natAbs<2 ^ d:=by rw [Nat.pow_succ] at h;omega
   have hs':=JM hp d (n.tdiv p) h0 h4
   rw [if_pos c,w64 (x:=n.tdiv p) (by omega) (by omega),LV d c,ih (n.tdiv p) (h3 hn) h4 (by omega) k]
   simp only
   rw [show k+d+1-((spl p d (n.tdiv p)).1+1).toNat=k+d-(spl p d (n.tdiv p)).1.toNat from by omega]
  ·rw [if_neg c,Jv d c,w64 (x:=p+1) (by omega) (by omega)]
   simp
theorem MT : ∀(d:Nat) (n p:Int) (out:List Int),0<n→n≤1000000000000→2≤p→p≤1000002→n+2-p≤d→1≤d→out.length+d≤17000000000000→
  Ev (fun k=>AG.l0 k n out p) (out++pl d n p):=by
 intro d
 induction d with
 | zero=>intro n p out hn hN hp hP hd h1;omega
 | succ d ih =>
  intro n p out hn hN hp hP hd h1 hl
  by_cases c:p*p≤n
  ·have hpn:2*p≤n:=by have:=Int.mul_le_mul_of_nonneg_right hp (show 0≤p by omega);omega
   have hp6:p≤1000000:=JP (by omega) (by omega)
   have hv:=D5 hp (show n≠0 by omega) (by omega)
   have inner : ∀o:List Int,Ev (fun k=>AG.l0 k (unit p n) o (p+1)) (o++pl d (unit p n) (p+1))→Ev (fun k=>AG.j1 k n o p) (o++pl d (unit p n) (p+1)):=by
    intro o ho
    obtain ⟨K,hK⟩:=ho
    refine ⟨K+200,fun k hk=>?_⟩
    obtain ⟨k,rfl⟩ : ∃m,k=m+64+1:=⟨k-65,by omega⟩
    simp only [AG.j1]
    have e:=Lw p hp (by omega) o 63 n hn (by omega) (by omega) (k+1)
    rw [show k+64=k+1+63 from by omega,e,← JD hp 63 n (by omega) (by omega)]
    change (match k+1+63-(val p n).toNat with|0=>none|m+1=>AG.l0 m (unit p n) o (p+1))=_
    have hb:=hv.2.2.2.1
    obtain ⟨m,hm⟩ : ∃m,k+1+63-(val p n).toNat=m+1:=⟨k+63-(val p n).toNat,by omega⟩
    rw [hm]
    exact hK m (by omega)
   by_cases c2:n.tmod p=0
   ·refine Ev.step (f:=fun k=>AG.j1 k n (out++[p]) p) (fun k=>?_) ?_
    ·simp only [AG.l0]
     rw [wmul (a:=p) (b:=p) (by omega) (by omega) (by omega) (by omega),if_pos c,if_neg (by omega),if_pos c2,if_pos (by omega)]
    ·have:=inner (out++[p]) (ih (unit p n) (p+1) (out++[p]) (hv.2.2.2.2.2.2 hn) (by omega) (by omega) (by omega) (by omega) (by omega) (by simp;omega))
     simp only [pl,if_pos c,if_pos c2]
     simpa using this
   ·refine Ev.step (f:=fun k=>AG.j1 k n out p) (fun k=>?_) ?_
    ·simp only [AG.l0]
     rw [wmul (a:=p) (b:=p) (by omega) (by omega) (by omega) (by omega),if_pos c,if_neg (by omega),if_neg c2]
    ·have hu:=(MM c2).2
     have:=inner out (by rw [hu];exact ih n (p+1) out hn hN (by omega) (by omega) (by omega) (by omega) (by omega))
     rw [hu] at this
     simp only [pl,if_pos c,if_neg c2]
     exact this
  ·refine Ev.step (f:=fun _=>some (out++pl (d+1) n p)) (fun k=>?_) (Ev.now _)
   simp only [AG.l0,pl]
   rw [wmul (a:=p) (b:=p) (by omega) (by omega) (by omega) (by omega),if_neg c,if_neg c]
   by_cases c2:n>1
   ·rw [if_pos c2,if_pos c2,if_pos (by omega)]
   ·rw [if_neg c2,if_neg c2];simp
theorem IQ {n:Int} (hn:n≠0) (h:n.natAbs≤1000000000000):Ev (fun k=>AG.f k n) (CZ n):=by
 simp only [AG.f,Bc.f,Option.bind_some]
 rw [EL (by omega) (by omega)]
 have:=MT (n.natAbs+2) (absI n) 2 [] (by unfold absI;omega) (by unfold absI;omega) (by omega) (by omega) (by unfold absI;omega) (by omega) (by simp;omega)
 simpa [CZ] using this
theorem FG {a m:Int} (h:0<m) (hm:m≤5000) (ha:a.natAbs<2 ^ 63):Dn.f a m=some (a%m):=by
 unfold Dn.f
 have h1:=Int.tmod_lt_of_pos a h
 have h2 : -m<Int.tmod a m:=by
  have:=Int.tmod_lt_of_pos (-a) h;rw [Int.neg_tmod] at this;omega
 rw [if_neg (by omega),w64 (by omega) (by omega),Pn a h]
theorem F7 {a m:Int} (h:0<m) (hm:m≤5000) (ha:a.natAbs<2 ^ 63):Db.f a m=some (a%m):=by
 unfold Db.f
 have h1:=Int.tmod_lt_of_pos a h
 have h2 : -m<Int.tmod a m:=by
  have:=Int.tmod_lt_of_pos (-a) h;rw [Int.neg_tmod] at this;omega
 rw [if_neg (by omega),w64 (by omega) (by omega),Pn a h]
theorem J4 {p r:Int} (hp:3≤p) (hP:p≤5000) : ∀(d:Nat) (x:Int),1≤x→p.tdiv 2+2≤x+d→x≤5001→
  Ev (fun k=>BN.l0 k p r x) (resS p r d x):=by
 have e2:p.tdiv 2=p/2:=I0 (by omega)
 intro d
 induction d with
 | zero =>
  intro x h1 h2 h3
  refine Ev.step (f:=fun _=>some (-1)) (fun k=>?_) (Ev.now _)
  simp only [BN.l0]
  rw [w64 (x:=p.tdiv 2) (by omega) (by omega),if_neg (by omega)]
 | succ d ih =>
  intro x h1 h2 h3
  by_cases c:x≤p.tdiv 2
  ·have hxx:=wmul (a:=x) (b:=x) (by omega) (by omega) (by omega) (by omega)
   by_cases c2:(x*x).tmod p=r
   ·refine Ev.step (f:=fun _=>some 1) (fun k=>?_) (by simp only [resS,if_pos c,if_pos c2];exact Ev.now _)
    simp only [BN.l0]
    rw [w64 (x:=p.tdiv 2) (by omega) (by omega),if_pos c,if_neg (by omega),hxx,if_pos c2]
   ·refine Ev.step (fun k=>?_) (by simp only [resS,if_pos c,if_neg c2];exact ih (x+1) (by omega) (by omega) (by omega))
    simp only [BN.l0]
    rw [w64 (x:=p.tdiv 2) (by omega) (by omega),if_pos c,if_neg (by omega),hxx,if_neg c2,w64 (x:=x+1) (by omega) (by omega)]
  ·refine Ev.step (f:=fun _=>some (-1)) (fun k=>?_) (by simp only [resS,if_neg c];exact Ev.now _)
   simp only [BN.l0]
   rw [w64 (x:=p.tdiv 2) (by omega) (by omega),if_neg c]
theorem Fb {p u:Int} (h:OddP p) (hu:u.natAbs<2 ^ 63):Ev (fun k=>BN.f k u p) (res p u):=by
 have hp:=h.2
 unfold BN.f
 simp only [FG (show 0<p by omega) (by omega) hu,Option.bind_some]
 unfold res resR
 by_cases c:u%p=0
 ·simp only [if_pos c];exact Ev.now _
 ·simp only [if_neg c]
  exact J4 (by omega) (by omega) _ 1 (by omega) (by rw [I0 (by omega)];omega) (by omega)
theorem LS {m:Int} (hm:3≤m) (hM:m≤5000) : ∀(d:Nat) (b e acc:Int),0≤b→b<m→0≤acc→acc<m→0≤e→e<2 ^ d→e≤5000→
  Ev (fun k=>B9.l0 k b e m acc) (powS m d b e acc):=by
 intro d
 induction d with
 | zero =>
  intro b e acc h1 h2 h3 h4 h5 h6 h7
  refine Ev.step (f:=fun _=>some acc) (fun k=>?_) (Ev.now _)
  simp only [B9.l0]
  rw [if_neg (by simp at h6;omega)]
 | succ d ih =>
  intro b e acc h1 h2 h3 h4 h5 h6 h7
  by_cases c:e>0
  ·have hbb:=wmul (a:=b) (b:=b) (by omega) (by omega) (by omega) (by omega)
   have hab:=wmul (a:=acc) (b:=b) (by omega) (by omega) (by omega) (by omega)
   have ht:=I0 (n:=e) (by omega)
   have hb2:=D4 (x:=b*b) (n:=m) (sq_nonneg b) (by omega)
   have ha2:=D4 (x:=acc*b) (n:=m) (Int.mul_nonneg h3 h1) (by omega)
   have he2:e.tdiv 2<2 ^ d:=by rw [ht];rw [Int.pow_succ] at h6;omega
   by_cases c2:e.tmod 2=1
   ·refine Ev.step (fun k=>?_) (by simp only [powS,if_pos c,if_pos c2];exact ih ((b*b).tmod m) (e.tdiv 2) ((acc*b).tmod m) hb2.1 hb2.2 ha2.1 ha2.2 (by omega) he2 (by omega))
    simp only [B9.l0]
    rw [if_pos c,if_pos c2,if_neg (by omega),hbb,hab,w64 (x:=e.tdiv 2) (by omega) (by omega)]
   ·refine Ev.step (fun k=>?_) (by simp only [powS,if_pos c,if_neg c2];exact ih ((b*b).tmod m) (e.tdiv 2) acc hb2.1 hb2.2 h3 h4 (by omega) he2 (by omega))
    simp only [B9.l0]
    rw [if_pos c,if_neg c2,if_neg (by omega),hbb,w64 (x:=e.tdiv 2) (by omega) (by omega)]
  ·refine Ev.step (f:=fun _=>some acc) (fun k=>?_) (by simp only [powS,if_neg c];exact Ev.now _)
   simp only [B9.l0]
   rw [if_neg c]
theorem Fg {p u:Int} (h:OddP p) (hu:u.natAbs<2 ^ 63):Ev (fun k=>Cm.f k u p) (res p u):=by
 have hp:=h.2
 rw [res_pow h]
 unfold Cm.f B9.f
 have hr:=Int.emod_nonneg u (show p≠0 by omega)
 have hr2:=Int.emod_lt_of_pos u (show 0<p by omega)
 have h1:=Int.emod_nonneg 1 (show p≠0 by omega)
 have h12:=Int.emod_lt_of_pos 1 (show 0<p by omega)
 have ht:=I0 (n:=p-1) (by omega)
 simp only [if_neg (show ¬p=0 by omega),F7 (show 0<p by omega) (by omega) hu,Option.bind_some,w64 (x:=p-1) (by omega) (by omega),w64 (x:=(p-1).tdiv 2) (by omega) (by omega)]
 refine (LS (by omega) (by omega) 13 (u%p) ((p-1).tdiv 2) (1%p) hr hr2 h1 h12 (by omega) (by omega) (by omega)).bind ?_
 unfold resPR powR
 split<;>exact Ev.now _
theorem HQ {n p:Int} (h:Plc p) (hn:n≠0) (hN:n.natAbs<2 ^ 63):Ev (fun k=>BS.f k n p) (sqAt n p):=by
 unfold BS.f
 rcases h with rfl|h
 ·simp only [if_true,J8 hn];exact Ev.now _
 ·have hp:=P7_bd h
  obtain ⟨_,v2,v3,v4,v5,v6,_⟩:=D5 hp hn hN
  simp only [if_neg (show ¬p=0 by omega)]
  refine (J2 hp hn hN).bind ?_
  simp only
  have hpar:=Fj (val p n)
  have hm:(val p n).tmod 2=val p n%2:=Int.tmod_eq_emod_of_nonneg v3
  by_cases c:(val p n).tmod 2=0
  ·simp only [if_pos c]
   rcases h with rfl|h6
   ·simp only [if_true,FG (a:=unit 2 n) (m:=8) (by omega) (by omega) (by omega),Option.bind_some]
    have:=Kb hn hN
    have e:sqAt n 2=(unit 2 n%8==1):=by
     unfold sqAt code
     simp only [show ¬(2:Int)=0 from by omega,if_false,if_true,show par (val 2 n)=0 from by omega]
     rcases this with h|h|h|h<;>rw [h]<;>rfl
    rw [e];exact Ev.now _
   ·have h2:=h6.2
    simp only [if_neg (show ¬p=2 by omega)]
    refine (Fb h6 (by omega)).bind ?_
    have e:sqAt n p=(res p (unit p n)==1):=by
     unfold sqAt code
     simp only [if_neg (show ¬p=0 by omega),if_neg (show ¬p=2 by omega),show par (val p n)=0 from by omega]
     by_cases c:res p (unit p n)=1
     ·simp [c]
     ·simp [c]
    rw [e];exact Ev.now _
  ·simp only [if_neg c]
   have e:sqAt n p=false:=by
    unfold sqAt code
    simp only [if_neg (show ¬p=0 by omega),show par (val p n)=1 from by omega]
    split
    ·rename_i h2;subst h2;rw [show par (val 2 n)=1 from by omega];simp
    ·simp
   rw [e];exact Ev.now _
theorem Ii {n p:Int} (h:Plc p) (hn:n≠0) (hN:n.natAbs<2 ^ 63):Ev (fun k=>CI.f k n p) (sqAt n p):=by
 unfold CI.f
 rcases h with rfl|h
 ·simp only [if_true,J8 hn];exact Ev.now _
 ·have hp:=P7_bd h
  obtain ⟨_,v2,v3,v4,v5,v6,_⟩:=D5 hp hn hN
  simp only [if_neg (show ¬p=0 by omega)]
  refine (FZ hp hn hN).bind ?_
  simp only
  have hpar:=Fj (val p n)
  have hm:(val p n).tmod 2=val p n%2:=Int.tmod_eq_emod_of_nonneg v3
  by_cases c:(val p n).tmod 2=0
  ·simp only [if_pos c]
   rcases h with rfl|h6
   ·simp only [if_true,F7 (a:=unit 2 n) (m:=8) (by omega) (by omega) (by omega),Option.bind_some]
    have:=Kb hn hN
    have e:sqAt n 2=(unit 2 n%8==1):=by
     unfold sqAt code
     simp only [show ¬(2:Int)=0 from by omega,if_false,if_true,show par (val 2 n)=0 from by omega]
     rcases this with h|h|h|h<;>rw [h]<;>rfl
    rw [e];exact Ev.now _
   ·have h2:=h6.2
    simp only [if_neg (show ¬p=2 by omega)]
    refine (Fg h6 (by omega)).bind ?_
    have e:sqAt n p=(res p (unit p n)==1):=by
     unfold sqAt code
     simp only [if_neg (show ¬p=0 by omega),if_neg (show ¬p=2 by omega),show par (val p n)=0 from by omega]
     by_cases c:res p (unit p n)=1
     ·simp [c]
     ·simp [c]
    rw [e];exact Ev.now _
  ·simp only [if_neg c]
   have e:sqAt n p=false:=by
    unfold sqAt code
    simp only [if_neg (show ¬p=0 by omega),show par (val p n)=1 from by omega]
    split
    ·rename_i h2;subst h2;rw [show par (val 2 n)=1 from by omega];simp
    ·simp
   rw [e]
   split<;>exact Ev.now _
theorem Hz {t e:Int} (he:e=0∨e=1) (ht:t=1∨t = -1):Ev (fun k=>CE.f k t e) (if e=1 then t else 1):=by
 refine ⟨2,fun k hk=>?_⟩
 obtain ⟨m,rfl⟩ : ∃m,k=m+2:=⟨k-2,by omega⟩
 rcases he with rfl|rfl<;>rcases ht with rfl|rfl<;>simp [CE.f,CE.l0,wrap64]
theorem symOdd {p a b:Int} (h:OddP p) (ha:a≠0) (hb:b≠0) (hA:a.natAbs<2 ^ 63) (hB:b.natAbs<2 ^ 63) :
  sym a b p=(if (val p a*val p b)%2=1∧p%4=3 then -1 else 1)*(if val p b%2=1 then res p (unit p a) else 1)*(if val p a%2=1 then res p (unit p b) else 1):=by
 have hp:=h.2
 obtain ⟨_,a2,a3,_⟩:=D5 (p:=p) (by omega) ha hA
 obtain ⟨_,b2,b3,_⟩:=D5 (p:=p) (by omega) hb hB
 have ra:=Jk h (Gq a2)
 have rb:=Jk h (Gq b2)
 have pa:=Fj (val p a)
 have pb:=Fj (val p b)
 unfold sym symC code
 simp only [if_neg (show ¬p=0 by omega),if_neg (show ¬p=2 by omega),Int.mul_emod (val p a) (val p b) 2]
 rcases ra with r|r<;>rcases rb with s|s<;>rcases pa with ⟨q,q'⟩|⟨q,q'⟩<;>rcases pb with ⟨t,t'⟩|⟨t,t'⟩<;>rw [r,s,q,q',t,t']<;>simp
theorem ME {p m:Int} (h:OddP p) (hm:0≤m):((m*(p-1)).tdiv 2).tmod 2=(if m%2=1∧p%4=3 then 1 else 0)∧(m*((p-1).tdiv 2)).tmod 2=(if m%2=1∧p%4=3 then 1 else 0):=by
 have hp:=h.2
 have ho:=KD h.1 hp.1
 have e1:(p-1).tdiv 2=(p-1)/2:=I0 (by omega)
 have e2:m*(p-1)=2*(m*((p-1)/2)):=by
  rw [Int.mul_left_comm];congr 1;omega
 have h1:0≤m*((p-1)/2):=Int.mul_nonneg hm (by omega)
 have e3:(m*(p-1)).tdiv 2=m*((p-1)/2):=by rw [e2];exact Int.mul_tdiv_cancel_left _ (by omega)
 rw [e3,e1,Int.tmod_eq_emod_of_nonneg h1]
 have key:m*((p-1)/2)%2=(if m%2=1∧p%4=3 then 1 else 0):=by
  rw [Int.mul_emod]
  have hm2:m%2=0∨m%2=1:=by omega
  have hq:(p%4=3∧(p-1)/2%2=1)∨(p%4=1∧(p-1)/2%2=0):=by omega
  rcases hm2 with e|e<;>rcases hq with ⟨f,g⟩|⟨f,g⟩<;>rw [e,f,g]<;>rfl
 exact ⟨key,key⟩
theorem two8 {x:Int} (h:x=1∨x=3∨x=5∨x=7):wrap64 (Int.tdiv (wrap64 (x-1)) 2)=(x-1)/2∧wrap64 (wrap64 (x*x)-1)=8*((x*x-1)/8)∧0≤(x-1)/2∧(x-1)/2≤3∧0≤(x*x-1)/8∧(x*x-1)/8≤6:=by
 rcases h with rfl|rfl|rfl|rfl<;>decide +kernel
theorem two16 {u:Int} (h:u%8=1∨u%8=3∨u%8=5∨u%8=7) : ∃X1 X2,wrap64 (Int.tdiv (wrap64 (u%16-1)) 2)=X1∧wrap64 (Int.tdiv (wrap64 (wrap64 (u%16*(u%16))-1)) 8)=X2∧
  0≤X1∧X1≤7∧0≤X2∧X2≤28∧X1%2=(u%8-1)/2%2∧X2%2=(u%8*(u%8)-1)/8%2:=by
 have h2:u%16=u%8∨u%16=u%8+8:=by omega
 rcases h with h|h|h|h<;>rcases h2 with h2|h2<;>rw [h2,h]<;>exact ⟨_,_,rfl,rfl,by decide +kernel⟩
theorem par3 (X1 Y1 X2 Y2 i j:Int):(X1*Y1+i*Y2+j*X2)%2=((X1%2)*(Y1%2)+i*(Y2%2)+j*(X2%2))%2:=by
 have h1:(X1*Y1)%2=((X1%2)*(Y1%2))%2:=Int.mul_emod _ _ _
 have h2:(i*Y2)%2=(i*(Y2%2))%2:=by rw [Int.mul_emod,Int.mul_emod i (Y2%2)];simp
 have h3:(j*X2)%2=(j*(X2%2))%2:=by rw [Int.mul_emod,Int.mul_emod j (X2%2)];simp
 omega
theorem symTwo {a b:Int} (ha:a≠0) (hb:b≠0) (hA:a.natAbs<2 ^ 63) (hB:b.natAbs<2 ^ 63) :
  sym a b 2=(if ((unit 2 a%8-1)/2*((unit 2 b%8-1)/2)+val 2 a*((unit 2 b%8*(unit 2 b%8)-1)/8)+val 2 b*((unit 2 a%8*(unit 2 a%8)-1)/8))%2=1 then -1 else 1):=by
 have ua:=Kb ha hA
 have ub:=Kb hb hB
 have pa:=Fj (val 2 a)
 have pb:=Fj (val 2 b)
 unfold sym code
 simp only [show ¬(2:Int)=0 from by omega,if_false,if_true]
 rcases ua with h|h|h|h<;>rcases ub with h'|h'|h'|h'<;>rw [h,h'] <;>
  rcases pa with ⟨q,q'⟩|⟨q,q'⟩<;>rcases pb with ⟨t,t'⟩|⟨t,t'⟩<;>rw [q,t] <;>
  first
  | (rw [if_pos (by omega)];decide)
  | (rw [if_neg (by omega)];decide)
theorem Em {p a b:Int} (h:Plc p) (ha:a≠0) (hb:b≠0) (hA:a.natAbs<2 ^ 63) (hB:b.natAbs<2 ^ 63):Ev (fun k=>CH.f k a b p) (sym a b p):=by
 unfold CH.f
 rcases h with rfl|h
 ·simp only [if_true]
  unfold sym symC code
  by_cases c1:a<0
  ·by_cases c2:b<0
   ·simp only [if_pos c1,if_pos c2];exact Ev.now _
   ·simp only [if_pos c1,if_neg c2];exact Ev.now _
  ·simp only [if_neg c1]
   by_cases c2:b<0
   ·simp only [if_pos c2];exact Ev.now _
   ·simp only [if_neg c2];exact Ev.now _
 ·have hp:=P7_bd h
  obtain ⟨_,a2,a3,a4,a5,a6,_⟩:=D5 hp ha hA
  obtain ⟨_,b2,b3,b4,b5,b6,_⟩:=D5 hp hb hB
  simp only [if_neg (show ¬p=0 by omega)]
  refine (J2 hp ha hA).bind ((J2 hp hb hB).bind ?_)
  simp only
  rcases h with rfl|h6
  ·simp only [if_true,FG (a:=unit 2 a) (m:=8) (by omega) (by omega) (by omega),FG (a:=unit 2 b) (m:=8) (by omega) (by omega) (by omega),Option.bind_some]
   have ta:=two8 (Kb ha hA)
   have tb:=two8 (Kb hb hB)
   rw [symTwo ha hb hA hB]
   generalize unit 2 a%8=x at ta
   generalize unit 2 b%8=y at tb
   generalize val 2 a=i at a3 a4
   generalize val 2 b=j at b3 b4
   simp only [ta.1,tb.1,ta.2.1,tb.2.1]
   obtain ⟨_,_,x1,x2,x3,x4⟩:=ta
   obtain ⟨_,_,y1,y2,y3,y4⟩:=tb
   generalize (x-1)/2=X1 at x1 x2
   generalize (y-1)/2=Y1 at y1 y2
   generalize (x*x-1)/8=X2 at x3 x4
   generalize (y*y-1)/8=Y2 at y3 y4
   have m0:=Int.mul_nonneg x1 y1
   have M0:=Dx x1 x2 y1 y2
   have m1:=Int.mul_nonneg a3 y3
   have M1:=Dx a3 (show i≤63 by omega) y3 y4
   have m2:=Int.mul_nonneg b3 x3
   have M2:=Dx b3 (show j≤63 by omega) x3 x4
   have d1:i*(8*Y2)=8*(i*Y2):=by rw [Int.mul_left_comm]
   have d2:j*(8*X2)=8*(j*X2):=by rw [Int.mul_left_comm]
   rw [d1,d2]
   generalize X1*Y1=A at m0 M0
   generalize i*Y2=B at m1 M1
   generalize j*X2=C at m2 M2
   have e1:(8*B).tdiv 8=B:=Int.mul_tdiv_cancel_left _ (by omega)
   have e2:(8*C).tdiv 8=C:=Int.mul_tdiv_cancel_left _ (by omega)
   simp only [w64 (x:=A) (by omega) (by omega),w64 (x:=8*B) (by omega) (by omega),w64 (x:=8*C) (by omega) (by omega),e1,e2,w64 (x:=B) (by omega) (by omega),w64 (x:=C) (by omega) (by omega),
    w64 (x:=A+B) (by omega) (by omega),w64 (x:=A+B+C) (by omega) (by omega),Int.tmod_eq_emod_of_nonneg (show 0≤A+B+C by omega)]
   refine (Hz (t := -1) (e:=(A+B+C)%2) (by omega) (by omega)).bind ?_
   exact Ev.now _
  ·have h2:=h6.2
   simp only [if_neg (show ¬p=2 by omega)]
   have ra:=Jk h6 (Gq a2)
   have rb:=Jk h6 (Gq b2)
   have ea:=Fb h6 (u:=unit p a) (by omega)
   have eb:=Fb h6 (u:=unit p b) (by omega)
   rw [symOdd h6 ha hb hA hB]
   generalize res p (unit p a)=r at ra ea
   generalize res p (unit p b)=s at rb eb
   have m1:=Int.mul_nonneg a3 b3
   have M1:=Dx a3 (show val p a≤63 by omega) b3 (show val p b≤63 by omega)
   have m2:=Int.mul_nonneg m1 (show 0≤p-1 by omega)
   have M2:=Dx m1 (show val p a*val p b≤4000 by omega) (show 0≤p-1 by omega) (show p-1≤4999 by omega)
   have hh:=(ME h6 m1).1
   have e1:(val p b).tmod 2=val p b%2:=Int.tmod_eq_emod_of_nonneg b3
   have e2:(val p a).tmod 2=val p a%2:=Int.tmod_eq_emod_of_nonneg a3
   have ht:=I0 m2
   simp only [w64 (x:=val p a*val p b) (by omega) (by omega),w64 (x:=p-1) (by omega) (by omega),w64 (x:=val p a*val p b*(p-1)) (by omega) (by omega),w64 (x:=(val p a*val p b*(p-1)).tdiv 2) (by omega) (by omega),hh,e1,e2]
   refine (Hz (t := -1) (by split<;>simp) (by omega)).bind (ea.bind ((Hz (t:=r) (e:=val p b%2) (by omega) (by omega)).bind (eb.bind ((Hz (t:=s) (e:=val p a%2) (by omega) (by omega)).bind ?_))))
   have w1 : ∀x:Int,x=1∨x = -1→wrap64 x=x:=fun x hx=>w64 (by omega) (by omega)
   have f1 : ∀c:Prop,∀_:Decidable c,(if (if c then (1:Int) else 0)=1 then (-1:Int) else 1)=if c then -1 else 1:=by intro c _;split<;>simp
   rw [f1]
   generalize hX:(if (val p a*val p b)%2=1∧p%4=3 then (-1:Int) else 1)=X
   generalize hY:(if val p b%2=1 then r else 1)=Y
   generalize hZ:(if val p a%2=1 then s else 1)=Z
   have gX:X=1∨X = -1:=by rw [← hX];split<;>simp
   have gY:Y=1∨Y = -1:=by rw [← hY];split<;>omega
   have gZ:Z=1∨Z = -1:=by rw [← hZ];split<;>omega
   have e3:wrap64 (wrap64 (X*Y)*Z)=X*Y*Z:=by rcases gX with rfl|rfl<;>rcases gY with rfl|rfl<;>rcases gZ with rfl|rfl<;>decide +kernel
   rw [e3];exact Ev.now _
theorem Is (e:Int) (h:0≤e):C4.f e=some (if e%2=1 then -1 else 1):=by
 unfold C4.f
 rw [Int.tmod_eq_emod_of_nonneg h]
 by_cases c:e%2=0
 ·rw [if_pos c,if_neg (by omega)]
 ·rw [if_neg c,if_pos (by omega)]
theorem ER {p a b:Int} (h:Plc p) (ha:a≠0) (hb:b≠0) (hA:a.natAbs<2 ^ 63) (hB:b.natAbs<2 ^ 63):Ev (fun k=>Ch.f k a b p) (sym a b p):=by
 unfold Ch.f
 rcases h with rfl|h
 ·simp only [if_true]
  unfold sym symC code
  by_cases c1:a<0
  ·by_cases c2:b<0
   ·simp only [if_pos c1,if_pos c2];exact Ev.now _
   ·simp only [if_pos c1,if_neg c2];exact Ev.now _
  ·simp only [if_neg c1]
   by_cases c2:b<0
   ·simp only [if_pos c2];exact Ev.now _
   ·simp only [if_neg c2];exact Ev.now _
 ·have hp:=P7_bd h
  obtain ⟨_,a2,a3,a4,a5,a6,_⟩:=D5 hp ha hA
  obtain ⟨_,b2,b3,b4,b5,b6,_⟩:=D5 hp hb hB
  simp only [if_neg (show ¬p=0 by omega)]
  refine (FZ hp ha hA).bind ((FZ hp hb hB).bind ?_)
  simp only
  rcases h with rfl|h6
  ·simp only [if_true,F7 (a:=unit 2 a) (m:=16) (by omega) (by omega) (by omega),F7 (a:=unit 2 b) (m:=16) (by omega) (by omega) (by omega),Option.bind_some]
   obtain ⟨X1,X2,f1,f2,x1,x2,x3,x4,x5,x6⟩:=two16 (Kb ha hA)
   obtain ⟨Y1,Y2,g1,g2,y1,y2,y3,y4,y5,y6⟩:=two16 (Kb hb hB)
   rw [symTwo ha hb hA hB,par3,← x5,← x6,← y5,← y6,← par3]
   simp only [f1,f2,g1,g2]
   generalize val 2 a=i at a3 a4
   generalize val 2 b=j at b3 b4
   have m0:=Int.mul_nonneg x1 y1
   have M0:=Dx x1 x2 y1 y2
   have m1:=Int.mul_nonneg a3 y3
   have M1:=Dx a3 (show i≤63 by omega) y3 y4
   have m2:=Int.mul_nonneg b3 x3
   have M2:=Dx b3 (show j≤63 by omega) x3 x4
   simp only [w64 (x:=X1*Y1) (by omega) (by omega),w64 (x:=i*Y2) (by omega) (by omega),w64 (x:=j*X2) (by omega) (by omega),w64 (x:=X1*Y1+i*Y2) (by omega) (by omega),w64 (x:=X1*Y1+i*Y2+j*X2) (by omega) (by omega),
    Is (X1*Y1+i*Y2+j*X2) (by omega),Option.bind_some]
   exact Ev.now _
  ·have h2:=h6.2
   simp only [if_neg (show ¬p=2 by omega)]
   have ra:=Jk h6 (Gq a2)
   have rb:=Jk h6 (Gq b2)
   have ea:=Fg h6 (u:=unit p a) (by omega)
   have eb:=Fg h6 (u:=unit p b) (by omega)
   rw [symOdd h6 ha hb hA hB]
   generalize res p (unit p a)=r at ra ea
   generalize res p (unit p b)=s at rb eb
   have m1:=Int.mul_nonneg a3 b3
   have M1:=Dx a3 (show val p a≤63 by omega) b3 (show val p b≤63 by omega)
   have h3:=I0 (n:=p-1) (by omega)
   have m2:=Int.mul_nonneg m1 (show 0≤(p-1).tdiv 2 by omega)
   have M2:=Dx m1 (show val p a*val p b≤4000 by omega) (show 0≤(p-1).tdiv 2 by omega) (show (p-1).tdiv 2≤2500 by omega)
   have hh:=(ME h6 m1).2
   rw [Int.tmod_eq_emod_of_nonneg m2] at hh
   have e1:(val p b).tmod 2=val p b%2:=Int.tmod_eq_emod_of_nonneg b3
   have e2:(val p a).tmod 2=val p a%2:=Int.tmod_eq_emod_of_nonneg a3
   simp only [w64 (x:=val p a*val p b) (by omega) (by omega),w64 (x:=p-1) (by omega) (by omega),w64 (x:=(p-1).tdiv 2) (by omega) (by omega),w64 (x:=val p a*val p b*(p-1).tdiv 2) (by omega) (by omega),Is _ m2,hh,e1,e2,Option.bind_some]
   have f1 : ∀c:Prop,∀_:Decidable c,(if (if c then (1:Int) else 0)=1 then (-1:Int) else 1)=if c then -1 else 1:=by intro c _;split<;>simp
   rw [f1]
   generalize hX:(if (val p a*val p b)%2=1∧p%4=3 then (-1:Int) else 1)=X
   have gX:X=1∨X = -1:=by rw [← hX];split<;>simp
   have w2 : ∀x y:Int,x=1∨x = -1→y=1∨y = -1→wrap64 (x*y)=x*y∧(x*y=1∨x*y = -1):=by
    intro x y hx hy;rcases hx with rfl|rfl<;>rcases hy with rfl|rfl<;>decide +kernel
   by_cases c1:val p b%2=1
   ·simp only [if_pos c1]
    refine ea.bind ?_
    by_cases c2:val p a%2=1
    ·simp only [if_pos c2]
     refine eb.bind ?_
     rw [(w2 X r gX ra).1,(w2 (X*r) s (w2 X r gX ra).2 rb).1]
     exact Ev.now _
    ·simp only [if_neg c2,(w2 X r gX ra).1,Int.mul_one];exact Ev.now _
   ·simp only [if_neg c1]
    by_cases c2:val p a%2=1
    ·simp only [if_pos c2]
     refine eb.bind ?_
     rw [(w2 X s gX rb).1,Int.mul_one];exact Ev.now _
    ·simp only [if_neg c2,Int.mul_one];exact Ev.now _
theorem Il (xs:List Int) (hx : ∀x∈xs,x.natAbs≤1000000) (hl:xs.length≤1000) : ∀d j:Nat,j+d=xs.length→
  Ev (fun k=>Am.l0 k xs xs (xs.length:Int) j) ((xs.drop j).all (fun x=>decide (x≠0)&&decide (x.natAbs≤30))&&(decide (1≤xs.length)&&decide (xs.length≤4))):=by
 intro d
 induction d with
 | zero =>
  intro j hj
  rw [List.drop_of_length_le (by omega)]
  refine Ev.step (f:=fun _=>some (decide (1≤xs.length)&&decide (xs.length≤4))) (fun k=>?_) (by simpa using Ev.now _)
  simp only [Am.l0]
  rw [if_neg (by omega)]
  by_cases c:1≤xs.length
  ·rw [if_pos (by omega),decide_eq_true c,Bool.true_and];congr 1;exact decide_eq_decide.2 (by omega)
  ·rw [if_neg (by omega),decide_eq_false c,Bool.false_and]
 | succ d ih =>
  intro j hj
  have hm:=hx _ (DA (xs:=xs) (j:=j) (by omega))
  rw [CQ (show j<xs.length by omega)]
  have:=ih (j+1) (by omega)
  generalize hp:rd xs (j:Int)=p at hm
  rw [List.all_cons]
  by_cases c0:p=0
  ·rw [decide_eq_false (by omega : ¬p≠0),Bool.false_and,Bool.false_and,Bool.false_and]
   refine Ev.step (f:=fun _=>some false) (fun k=>?_) (Ev.now _)
   simp only [Am.l0]
   rw [if_pos (by omega),if_pos (by omega),if_pos (by omega),hp,if_pos c0]
  ·have hs:BB.f p=some (absI p):=by simp only [BB.f];rw [EL (by omega) (by omega)]
   by_cases c:p.natAbs≤30
   ·rw [decide_eq_true c0,decide_eq_true c,Bool.true_and,Bool.true_and]
    refine Ev.step (fun k=>?_) this
    simp only [Am.l0]
    rw [if_pos (by omega),if_pos (by omega),if_pos (by omega),hp,if_neg c0,hs,Option.bind_some,if_neg (by unfold absI;omega),w64 (x:=(j:Int)+1) (by omega) (by omega)]
    rfl
   ·rw [decide_eq_false c,Bool.and_false,Bool.false_and,Bool.false_and]
    refine Ev.step (f:=fun _=>some false) (fun k=>?_) (Ev.now _)
    simp only [Am.l0]
    rw [if_pos (by omega),if_pos (by omega),if_pos (by omega),hp,if_neg c0,hs,Option.bind_some,if_pos (by unfold absI;omega)]
theorem BR {xs:List Int} (hx : ∀x∈xs,x.natAbs≤1000000) (hl:xs.length≤1000):Ev (fun k=>Am.f k xs) (BK xs) :=
 Il xs hx hl xs.length 0 (by omega)
theorem E1 (x a b:Int):CC.f x a b=some (decide (a≤x)&&decide (x≤b)):=by
 unfold CC.f
 by_cases c:x≥a
 ·simp [c,show a≤x from c]
 ·simp [c,show ¬a≤x from c]
theorem IP (xs:List Int) (hl:xs.length≤1000) : ∀d j:Nat,j+d=xs.length→
  Ev (fun k=>As.l0 k xs j) ((xs.drop j).all (fun x=>decide (x≠0)&&decide (x.natAbs≤30))&&(decide (1≤xs.length)&&decide (xs.length≤4))):=by
 intro d
 induction d with
 | zero =>
  intro j hj
  rw [List.drop_of_length_le (by omega)]
  refine Ev.step (f:=fun _=>some (decide (1≤xs.length)&&decide (xs.length≤4))) (fun k=>?_) (by simpa using Ev.now _)
  simp only [As.l0,E1,Option.bind_some]
  rw [if_neg (by omega),show decide ((1:Int)≤(xs.length:Int))=decide (1≤xs.length) from decide_eq_decide.2 (by omega),show decide ((xs.length:Int)≤4)=decide (xs.length≤4) from decide_eq_decide.2 (by omega)]
 | succ d ih =>
  intro j hj
  rw [CQ (show j<xs.length by omega)]
  have:=ih (j+1) (by omega)
  generalize hp:rd xs (j:Int)=p
  rw [List.all_cons]
  by_cases c0:p=0
  ·rw [decide_eq_false (by omega : ¬p≠0),Bool.false_and,Bool.false_and,Bool.false_and]
   refine Ev.step (f:=fun _=>some false) (fun k=>?_) (Ev.now _)
   simp only [As.l0]
   rw [if_pos (by omega),if_pos (by omega),hp,if_pos c0]
  ·have hb:(decide (-30≤p)&&decide (p≤30))=decide (p.natAbs≤30):=by
    rw [← Bool.decide_and];exact decide_eq_decide.2 (by omega)
   by_cases c:p.natAbs≤30
   ·rw [decide_eq_true c0,decide_eq_true c,Bool.true_and,Bool.true_and]
    refine Ev.step (fun k=>?_) this
    simp only [As.l0,E1,Option.bind_some]
    rw [if_pos (by omega),if_pos (by omega),hp,if_neg c0,hb,if_pos (decide_eq_true c),w64 (x:=(j:Int)+1) (by omega) (by omega)]
    rfl
   ·rw [decide_eq_false c,Bool.and_false,Bool.false_and,Bool.false_and]
    refine Ev.step (f:=fun _=>some false) (fun k=>?_) (Ev.now _)
    simp only [As.l0,E1,Option.bind_some]
    rw [if_pos (by omega),if_pos (by omega),hp,if_neg c0,hb,decide_eq_false c]
    simp
theorem BZ {xs:List Int} (hl:xs.length≤1000):Ev (fun k=>As.f k xs) (BK xs) :=
 IP xs hl xs.length 0 (by omega)
theorem pow30 {j:Nat} (h:j≤5):30 ^ j≤24300000:=by
 have:30 ^ j≤30 ^ 5:=Nat.pow_le_pow_right (by omega) h
 omega
theorem JV (xs:List Int) (hx : ∀x∈xs,Sm x) (hl:xs.length≤5) : ∀(d j:Nat) (acc:Int),j+d=xs.length→acc.natAbs≤30 ^ j→
  Ev (fun k=>Be.l0 k acc xs (xs.length:Int) j) (I5 (xs.drop j) acc):=by
 intro d
 induction d with
 | zero =>
  intro j acc hj hA
  rw [List.drop_of_length_le (by omega)]
  refine Ev.step (f:=fun _=>some acc) (fun k=>?_) (Ev.now _)
  simp only [Be.l0]
  rw [if_neg (by omega)]
 | succ d ih =>
  intro j acc hj hA
  have hm:=hx _ (DA (xs:=xs) (j:=j) (by omega))
  rw [CQ (show j<xs.length by omega)]
  have h2:(acc*rd xs j).natAbs≤30 ^ (j+1):=by rw [Int.natAbs_mul,Nat.pow_succ];exact Nat.mul_le_mul hA hm.2
  have h3:=pow30 (show j+1≤5 by omega)
  refine Ev.step (fun k=>?_) (ih (j+1) (acc*rd xs j) (by omega) h2)
  simp only [Be.l0]
  rw [if_pos (by omega),if_pos (by omega),if_pos (by omega),w64 (x:=acc*rd xs j) (by omega) (by omega),w64 (x:=(j:Int)+1) (by omega) (by omega)]
  rfl
theorem Ff {xs:List Int} (hx : ∀x∈xs,Sm x) (hl:xs.length≤5):Ev (fun k=>Be.f k xs) (prod xs) :=
 JV xs hx hl xs.length 0 1 (by omega) (by simp)
theorem J1 (xs:List Int) (hx : ∀x∈xs,Sm x) (hl:xs.length≤5) : ∀(d j:Nat) (acc:Int),j+d=xs.length→acc.natAbs≤30 ^ j→
  Ev (fun k=>Bh.l0 k xs acc j) (I5 (xs.drop j) acc):=by
 intro d
 induction d with
 | zero =>
  intro j acc hj hA
  rw [List.drop_of_length_le (by omega)]
  refine Ev.step (f:=fun _=>some acc) (fun k=>?_) (Ev.now _)
  simp only [Bh.l0]
  rw [if_neg (by omega)]
 | succ d ih =>
  intro j acc hj hA
  have hm:=hx _ (DA (xs:=xs) (j:=j) (by omega))
  rw [CQ (show j<xs.length by omega)]
  have h2:(acc*rd xs j).natAbs≤30 ^ (j+1):=by rw [Int.natAbs_mul,Nat.pow_succ];exact Nat.mul_le_mul hA hm.2
  have h3:=pow30 (show j+1≤5 by omega)
  refine Ev.step (fun k=>?_) (ih (j+1) (acc*rd xs j) (by omega) h2)
  simp only [Bh.l0]
  rw [if_pos (by omega),if_pos (by omega),w64 (x:=acc*rd xs j) (by omega) (by omega),w64 (x:=(j:Int)+1) (by omega) (by omega)]
  rfl
theorem EB {xs:List Int} (hx : ∀x∈xs,Sm x) (hl:xs.length≤5):Ev (fun k=>Bh.f k xs) (prod xs) :=
 J1 xs hx hl xs.length 0 1 (by omega) (by simp)
theorem M4 (xs:List Int) (hl:xs.length≤1000) : ∀(d j:Nat) (acc:Int),j+d=xs.length→0≤acc→acc≤j→
  Ev (fun k=>BA.l0 k acc xs (xs.length:Int) j) (GI (xs.drop j) acc):=by
 intro d
 induction d with
 | zero =>
  intro j acc hj h0 hA
  rw [List.drop_of_length_le (by omega)]
  refine Ev.step (f:=fun _=>some acc) (fun k=>?_) (Ev.now _)
  simp only [BA.l0]
  rw [if_neg (by omega)]
 | succ d ih =>
  intro j acc hj h0 hA
  rw [CQ (show j<xs.length by omega)]
  simp only [GI]
  by_cases c:rd xs j<0
  ·simp only [if_pos c]
   refine Ev.step (fun k=>?_) (ih (j+1) (acc+1) (by omega) (by omega) (by omega))
   simp only [BA.l0]
   rw [if_pos (by omega),if_pos (by omega),if_pos (by omega),if_pos c,w64 (x:=acc+1) (by omega) (by omega),w64 (x:=(j:Int)+1) (by omega) (by omega)]
   rfl
  ·simp only [if_neg c]
   refine Ev.step (fun k=>?_) (ih (j+1) acc (by omega) (by omega) (by omega))
   simp only [BA.l0]
   rw [if_pos (by omega),if_pos (by omega),if_pos (by omega),if_neg c,w64 (x:=(j:Int)+1) (by omega) (by omega)]
   rfl
theorem HU {xs:List Int} (hl:xs.length≤1000):Ev (fun k=>BA.f k xs) (less xs):=M4 xs hl xs.length 0 0 (by omega) (by omega) (by omega)
theorem MR (xs:List Int) (hl:xs.length≤1000) : ∀(d j:Nat) (acc:Int),j+d=xs.length→0≤acc→acc≤j→
  Ev (fun k=>BT.l0 k xs acc j) (GI (xs.drop j) acc):=by
 intro d
 induction d with
 | zero =>
  intro j acc hj h0 hA
  rw [List.drop_of_length_le (by omega)]
  refine Ev.step (f:=fun _=>some acc) (fun k=>?_) (Ev.now _)
  simp only [BT.l0]
  rw [if_neg (by omega)]
 | succ d ih =>
  intro j acc hj h0 hA
  rw [CQ (show j<xs.length by omega)]
  simp only [GI]
  by_cases c:rd xs j<0
  ·simp only [if_pos c]
   refine Ev.step (fun k=>?_) (ih (j+1) (acc+1) (by omega) (by omega) (by omega))
   simp only [BT.l0]
   rw [if_pos (by omega),if_pos (by omega),if_pos c,w64 (x:=acc+1) (by omega) (by omega),w64 (x:=(j:Int)+1) (by omega) (by omega)]
   rfl
  ·simp only [if_neg c]
   refine Ev.step (fun k=>?_) (ih (j+1) acc (by omega) (by omega) (by omega))
   simp only [BT.l0]
   rw [if_pos (by omega),if_pos (by omega),if_neg c,w64 (x:=(j:Int)+1) (by omega) (by omega)]
   rfl
theorem FJ {xs:List Int} (hl:xs.length≤1000):Ev (fun k=>BT.f k xs) (less xs):=MR xs hl xs.length 0 0 (by omega) (by omega) (by omega)
theorem Lo {xs:List Int} {i j:Nat} (h:j<i):rd (xs.take i) (j:Int)=rd xs (j:Int):=by
 simp [rd,List.getElem?_take,h]
theorem OI {p:Int} (hp:Plc p) (xs:List Int) (hx : ∀x∈xs,Sm x) (hl:xs.length≤5) (i:Nat) (hi:i<xs.length) (v:Int) : ∀(d j:Nat) (acc:Int),j+d=i→(acc=1∨acc = -1)→
  Ev (fun k=>AV.l0 k xs p (inn p (rd xs i) ((xs.take i).drop j) acc) xs (xs.length:Int) ((i+1:Nat):Int)) v→
  Ev (fun k=>AV.l1 k xs p acc (rd xs i) xs (xs.length:Int) i (xs.take ((i:Nat):Int).toNat) ((xs.take ((i:Nat):Int).toNat).length:Int) j) v:=by
 have hlen:(xs.take ((i:Nat):Int).toNat).length=i:=by simp;omega
 intro d
 induction d with
 | zero =>
  intro j acc hj hA hv
  rw [List.drop_of_length_le (by simp;omega)] at hv
  refine Ev.step (fun k=>?_) hv
  simp only [AV.l1]
  rw [if_neg (by omega),w64 (x:=(i:Int)+1) (by omega) (by omega)]
  rfl
 | succ d ih =>
  intro j acc hj hA hv
  rw [CQ (show j<(xs.take i).length by simp;omega),Lo (by omega)] at hv
  have hm:=hx _ (DA (xs:=xs) (j:=j) (by omega))
  have hm2:=hx _ (DA (xs:=xs) (j:=i) (by omega))
  have hs:=Em hp hm2.1 hm.1 (by have:=hm2.2;omega) (by have:=hm.2;omega)
  have hpm:=NX hA (Mc (rd xs i) (rd xs j) p)
  have:=ih (j+1) (acc*sym (rd xs i) (rd xs j) p) (by omega) hpm.1 hv
  refine Ev.step (f:=fun k=>(CH.f k (rd xs i) (rd xs j) p).bind fun t3=>(AV.l1 k xs p (wrap64 (acc*t3)) (rd xs i) xs (xs.length:Int) i (xs.take ((i:Nat):Int).toNat) ((xs.take ((i:Nat):Int).toNat).length:Int) ((j+1:Nat):Int))) (fun k=>?_) ?_
  ·simp only [AV.l1]
   rw [if_pos (by omega),if_pos (by omega),if_pos (by omega),show rd (xs.take ((i:Nat):Int).toNat) (j:Int)=rd xs (j:Int) from Lo (by omega),w64 (x:=(j:Int)+1) (by omega) (by omega)]
   rfl
  ·refine hs.bind ?_
   rw [hpm.2]
   exact this
theorem OK {xs:List Int} {i:Nat} (h:i<xs.length):xs.take (i+1)=xs.take i++[rd xs (i:Int)]:=by
 rw [List.take_add_one];simp [rd,List.getElem?_eq_getElem h]
theorem NG {p:Int} (hp:Plc p) (xs:List Int) (hx : ∀x∈xs,Sm x) (hl:xs.length≤5) : ∀(d i:Nat) (acc:Int),i+d=xs.length→(acc=1∨acc = -1)→
  Ev (fun k=>AV.l0 k xs p acc xs (xs.length:Int) i) (outr p (xs.take i) (xs.drop i) acc):=by
 intro d
 induction d with
 | zero =>
  intro i acc hi hA
  rw [List.drop_of_length_le (by omega)]
  refine Ev.step (f:=fun _=>some acc) (fun k=>?_) (Ev.now _)
  simp only [AV.l0]
  rw [if_neg (by omega)]
 | succ d ih =>
  intro i acc hi hA
  rw [CQ (show i<xs.length by omega)]
  simp only [outr]
  rw [← OK (by omega)]
  have h1:=ih (i+1) (inn p (rd xs i) (xs.take i) acc) (by omega) (OH _ _ _ _ hA)
  have h2:=OI hp xs hx hl i (by omega) _ i 0 acc (by omega) hA h1
  refine Ev.step (fun k=>?_) h2
  simp only [AV.l0]
  rw [if_pos (by omega),if_pos (by omega),if_pos (by omega),if_pos (by omega)]
  rfl
theorem GV {p:Int} (hp:Plc p) {xs:List Int} (hx : ∀x∈xs,Sm x) (hl:xs.length≤5):Ev (fun k=>AV.f k xs p) (inv xs p) :=
 NG hp xs hx hl xs.length 0 1 (by omega) (by omega)
theorem Pk {p:Int} (hp:Plc p) (xs:List Int) (hx : ∀x∈xs,Sm x) (hl:xs.length≤5) (i:Nat) (hi:i<xs.length) (v:Int) : ∀(d j:Nat) (acc:Int),j+d=i→(acc=1∨acc = -1)→
  Ev (fun k=>AQ.l0 k xs p (inn p (rd xs i) ((xs.take i).drop j) acc) ((i+1:Nat):Int)) v→
  Ev (fun k=>AQ.l1 k xs p acc i j) v:=by
 intro d
 induction d with
 | zero =>
  intro j acc hj hA hv
  rw [List.drop_of_length_le (by simp;omega)] at hv
  refine Ev.step (fun k=>?_) hv
  simp only [AQ.l1]
  rw [if_neg (by omega),w64 (x:=(i:Int)+1) (by omega) (by omega)]
  rfl
 | succ d ih =>
  intro j acc hj hA hv
  rw [CQ (show j<(xs.take i).length by simp;omega),Lo (by omega)] at hv
  have hm:=hx _ (DA (xs:=xs) (j:=j) (by omega))
  have hm2:=hx _ (DA (xs:=xs) (j:=i) (by omega))
  have hs:=ER hp hm.1 hm2.1 (by have:=hm.2;omega) (by have:=hm2.2;omega)
  rw [sym_comm] at hs
  have hpm:=NX hA (Mc (rd xs i) (rd xs j) p)
  have:=ih (j+1) (acc*sym (rd xs i) (rd xs j) p) (by omega) hpm.1 hv
  refine Ev.step (f:=fun k=>(Ch.f k (rd xs j) (rd xs i) p).bind fun t3=>(AQ.l1 k xs p (wrap64 (acc*t3)) i ((j+1:Nat):Int))) (fun k=>?_) ?_
  ·simp only [AQ.l1]
   rw [if_pos (by omega),if_pos (by omega),if_pos (by omega),if_pos (by omega),if_pos (by omega),w64 (x:=(j:Int)+1) (by omega) (by omega)]
   rfl
  ·refine hs.bind ?_
   rw [hpm.2]
   exact this
theorem NJ {p:Int} (hp:Plc p) (xs:List Int) (hx : ∀x∈xs,Sm x) (hl:xs.length≤5) : ∀(d i:Nat) (acc:Int),i+d=xs.length→(acc=1∨acc = -1)→
  Ev (fun k=>AQ.l0 k xs p acc i) (outr p (xs.take i) (xs.drop i) acc):=by
 intro d
 induction d with
 | zero =>
  intro i acc hi hA
  rw [List.drop_of_length_le (by omega)]
  refine Ev.step (f:=fun _=>some acc) (fun k=>?_) (Ev.now _)
  simp only [AQ.l0]
  rw [if_neg (by omega)]
 | succ d ih =>
  intro i acc hi hA
  rw [CQ (show i<xs.length by omega)]
  simp only [outr]
  rw [← OK (by omega)]
  have h1:=ih (i+1) (inn p (rd xs i) (xs.take i) acc) (by omega) (OH _ _ _ _ hA)
  have h2:=Pk hp xs hx hl i (by omega) _ i 0 acc (by omega) hA h1
  refine Ev.step (fun k=>?_) h2
  simp only [AQ.l0]
  rw [if_pos (by omega)]
  rfl
theorem Jg {p:Int} (hp:Plc p) {xs:List Int} (hx : ∀x∈xs,Sm x) (hl:xs.length≤5):Ev (fun k=>AQ.f k xs p) (inv xs p) :=
 NJ hp xs hx hl xs.length 0 1 (by omega) (by omega)
theorem OP {n:Int} (h:n≠0∧n.natAbs≤24300000):wrap64 (-n) = -n∧ -n≠0∧(-n).natAbs<2 ^ 63:=⟨w64 (by omega) (by omega),by omega,by omega⟩
theorem Ha {p:Int} (hp:Plc p) {xs:List Int} (hx : ∀x∈xs,Sm x) (hl:xs.length≤5):Ev (fun k=>Ce.f k xs p) (van xs p):=by
 unfold Ce.f van
 have hb:=EP hx hl
 have hn:=OP hb
 refine (Ff hx hl).bind ?_
 by_cases c0:p=0
 ·simp only [if_pos c0]
  refine (HU (by omega)).bind ?_
  by_cases c:less xs>0
  ·simp only [if_pos c,decide_eq_true c,Bool.true_and];exact Ev.now _
  ·simp only [if_neg c,decide_eq_false c,Bool.false_and];exact Ev.now _
 ·simp only [if_neg c0,hn.1]
  by_cases c2:(xs.length:Int)=2
  ·simp only [if_pos c2]
   refine (HQ hp hn.2.1 hn.2.2).bind ?_
   exact Ev.now _
  ·simp only [if_neg c2]
   by_cases c3:(xs.length:Int)=3
   ·simp only [if_pos c3]
    refine (GV hp hx hl).bind ((Em hp (by omega) hn.2.1 (by omega) hn.2.2).bind ?_)
    exact Ev.now _
   ·simp only [if_neg c3]
    by_cases c4:(xs.length:Int)=4
    ·simp only [if_pos c4]
     refine (HQ hp hb.1 (by omega)).bind ?_
     by_cases c5:sqAt (prod xs) p=true
     ·simp only [c5,if_true,Bool.not_true,Bool.false_or]
      refine (GV hp hx hl).bind ((Em hp (by omega) (by omega) (by omega) (by omega)).bind ?_)
      exact Ev.now _
     ·simp only [Bool.eq_false_iff.2 c5,Bool.false_eq_true,if_false,Bool.not_false,Bool.true_or];exact Ev.now _
    ·simp only [if_neg c4];exact Ev.now _
theorem Hb {p:Int} (hp:Plc p) {xs:List Int} (hx : ∀x∈xs,Sm x) (h1:1≤xs.length) (hl:xs.length≤5) (h5:xs.length=5→p=0):Ev (fun k=>BO.f k xs p) (van xs p):=by
 unfold BO.f van
 have hb:=EP hx hl
 have hn:=OP hb
 by_cases c0:p=0
 ·simp only [if_pos c0]
  refine (FJ (by omega)).bind ?_
  by_cases c:less xs>0
  ·simp only [if_pos c,decide_eq_true c,Bool.true_and]
   refine (FJ (by omega)).bind ?_
   exact Ev.now _
  ·simp only [if_neg c,decide_eq_false c,Bool.false_and];exact Ev.now _
 ·simp only [if_neg c0,hn.1]
  refine (EB hx hl).bind ?_
  simp only [hn.1]
  by_cases c1:(xs.length:Int)=1
  ·simp only [if_pos c1,if_neg (show ¬(xs.length:Int)=2 by omega),if_neg (show ¬(xs.length:Int)=3 by omega),if_neg (show ¬(xs.length:Int)=4 by omega)];exact Ev.now _
  simp only [if_neg c1]
  by_cases c2:(xs.length:Int)=2
  ·simp only [if_pos c2]
   refine (Ii hp hn.2.1 hn.2.2).bind ?_
   exact Ev.now _
  ·simp only [if_neg c2]
   by_cases c3:(xs.length:Int)=3
   ·simp only [if_pos c3]
    refine (Jg hp hx hl).bind ((ER hp (by omega) hn.2.1 (by omega) hn.2.2).bind ?_)
    exact Ev.now _
   ·simp only [if_neg c3,if_pos (show (xs.length:Int)=4 by omega)]
    refine (Ii hp hb.1 (by omega)).bind ?_
    by_cases c5:sqAt (prod xs) p=true
    ·simp only [c5,if_true,Bool.not_true,Bool.false_or]
     refine (Jg hp hx hl).bind ((ER hp (by omega) (by omega) (by omega) (by omega)).bind ?_)
     exact Ev.now _
    ·simp only [Bool.eq_false_iff.2 c5,Bool.false_eq_true,if_false,Bool.not_false,Bool.true_or];exact Ev.now _
theorem J5 {p:Int} (hp:Plc p) {xs:List Int} (hx : ∀x∈xs,Sm x) (hl:xs.length≤4):Ev (fun k=>DZ.f k xs p) (Es xs p):=by
 unfold DZ.f Es
 have hb:=EP hx (by omega)
 have hn:=OP hb
 have hs:=IB xs
 by_cases c0:p=0
 ·simp only [if_pos c0]
  refine (HU (by omega)).bind ?_
  rw [w64 (x:=(xs.length:Int)-less xs) (by omega) (by omega)]
  exact Ev.now _
 ·simp only [if_neg c0]
  refine (Ha hp hx (by omega)).bind ?_
  by_cases cv:van xs p=true
  ·simp only [if_pos cv]
   by_cases c4:(xs.length:Int)=4
   ·simp only [c4,if_true,true_and]
    refine (Ff hx (by omega)).bind ((HQ hp hb.1 (by omega)).bind ?_)
    by_cases c5:sqAt (prod xs) p=true
    ·simp only [c5,if_true]
     refine (GV hp hx (by omega)).bind ((Em hp (by omega) (by omega) (by omega) (by omega)).bind ?_)
     have:inv xs p=sym (-1) (-1) p:=by
      unfold van at cv
      rw [if_neg c0,if_neg (by omega),if_neg (by omega),if_pos c4,c5] at cv
      simpa using cv
     simp only [if_pos this];exact Ev.now _
    ·simp only [if_neg c5];exact Ev.now _
   ·simp only [c4,false_and,if_false];exact Ev.now _
  ·simp only [if_neg cv];exact Ev.now _
theorem GC {p:Int} (hp:Plc p) {xs:List Int} (hx : ∀x∈xs,Sm x) (h1:1≤xs.length) (hl:xs.length≤4):Ev (fun k=>C7.f k xs p) (Es xs p):=by
 unfold C7.f Es
 have hb:=EP hx (by omega)
 have hs:=IB xs
 by_cases c0:p=0
 ·simp only [if_pos c0]
  refine (FJ (by omega)).bind ((FJ (by omega)).bind ?_)
  rw [w64 (x:=(xs.length:Int)-less xs) (by omega) (by omega)]
  exact Ev.now _
 ·simp only [if_neg c0]
  refine (Hb hp hx h1 (by omega) (by omega)).bind ?_
  by_cases cv:van xs p=true
  ·simp only [if_pos cv]
   by_cases c4:(xs.length:Int)=4
   ·simp only [c4,if_true,true_and]
    refine (EB hx (by omega)).bind ((Ii hp hb.1 (by omega)).bind ?_)
    by_cases c5:sqAt (prod xs) p=true
    ·simp only [c5,if_true];exact Ev.now _
    ·simp only [if_neg c5];exact Ev.now _
   ·simp only [c4,false_and,if_false];exact Ev.now _
  ·simp only [if_neg cv];exact Ev.now _
theorem Lb {n:Int} (hn:n≤5000) : ∀(d:Nat) (x:Int),2≤x→72≤x+d→x≤100→
  Ev (fun k=>CS.l0 k n x) (Gd n d x&&decide (n≥2)):=by
 intro d
 induction d with
 | zero =>
  intro x h1 h2 h3
  have hh:=EM (show (0:Int)≤72 by omega) (show 72≤x by omega)
  refine Ev.step (f:=fun _=>some (decide (n≥2))) (fun k=>?_) (by simpa [Gd] using Ev.now _)
  simp only [CS.l0]
  rw [wmul (a:=x) (b:=x) (by omega) (by omega) (by omega) (by omega),if_neg (by omega)]
 | succ d ih =>
  intro x h1 h2 h3
  have hm:=wmul (a:=x) (b:=x) (by omega) (by omega) (by omega) (by omega)
  by_cases c:x*x≤n
  ·have hx:x≤70:=by
    rcases Int.lt_or_le 70 x with h|h
    ·have:=EM (show (0:Int)≤71 by omega) (show 71≤x by omega);omega
    ·exact h
   by_cases c2:n.tmod x=0
   ·refine Ev.step (f:=fun _=>some false) (fun k=>?_) (by simp only [Gd,if_pos c,if_pos c2,Bool.false_and];exact Ev.now _)
    simp only [CS.l0]
    rw [hm,if_pos c,if_neg (by omega),if_pos c2]
   ·refine Ev.step (fun k=>?_) (by simp only [Gd,if_pos c,if_neg c2];exact ih (x+1) (by omega) (by omega) (by omega))
    simp only [CS.l0]
    rw [hm,if_pos c,if_neg (by omega),if_neg c2,w64 (x:=x+1) (by omega) (by omega)]
  ·refine Ev.step (f:=fun _=>some (decide (n≥2))) (fun k=>?_) (by simp only [Gd,if_neg c,Bool.true_and];exact Ev.now _)
   simp only [CS.l0]
   rw [hm,if_neg c]
theorem Lc {n:Int} (hn:n≤5000) : ∀(d:Nat) (x:Int),2≤x→72≤x+d→x≤100→
  Ev (fun k=>Cp.l0 k n x) (Gd n d x):=by
 intro d
 induction d with
 | zero =>
  intro x h1 h2 h3
  have hh:=EM (show (0:Int)≤72 by omega) (show 72≤x by omega)
  refine Ev.step (f:=fun _=>some true) (fun k=>?_) (by simpa [Gd] using Ev.now _)
  simp only [Cp.l0]
  rw [wmul (a:=x) (b:=x) (by omega) (by omega) (by omega) (by omega),if_neg (by omega)]
 | succ d ih =>
  intro x h1 h2 h3
  have hm:=wmul (a:=x) (b:=x) (by omega) (by omega) (by omega) (by omega)
  by_cases c:x*x≤n
  ·have hx:x≤70:=by
    rcases Int.lt_or_le 70 x with h|h
    ·have:=EM (show (0:Int)≤71 by omega) (show 71≤x by omega);omega
    ·exact h
   by_cases c2:n.tmod x=0
   ·refine Ev.step (f:=fun _=>some false) (fun k=>?_) (by simp only [Gd,if_pos c,if_pos c2];exact Ev.now _)
    simp only [Cp.l0]
    rw [hm,if_pos c,if_neg (by omega),if_pos c2]
   ·refine Ev.step (fun k=>?_) (by simp only [Gd,if_pos c,if_neg c2];exact ih (x+1) (by omega) (by omega) (by omega))
    simp only [Cp.l0]
    rw [hm,if_pos c,if_neg (by omega),if_neg c2,w64 (x:=x+1) (by omega) (by omega)]
  ·refine Ev.step (f:=fun _=>some true) (fun k=>?_) (by simp only [Gd,if_neg c];exact Ev.now _)
   simp only [Cp.l0]
   rw [hm,if_neg c]
theorem Ew (p:Int):Ev (fun k=>BD.f k p) (DB p):=by
 unfold BD.f DX.f DB
 by_cases c:p=0
 ·subst c;simp only [if_true];exact Ev.now _
 ·simp only [if_neg c,decide_eq_false c,Bool.false_or]
  by_cases c5:p≤5000
  ·simp only [if_pos c5,decide_eq_true c5,Bool.true_and]
   have:=Lb (n:=p) (by omega) 70 2 (by omega) (by omega) (by omega)
   unfold CS.f
   rw [Bool.and_comm]
   exact (this.bind (f:=fun _ t=>some t) (Ev.now _)).bind (f:=fun _ t=>some t) (Ev.now _)
  ·simp only [if_neg c5,decide_eq_false c5,Bool.false_and]
   exact (Ev.now _)
theorem Fq (p:Int):Ev (fun k=>Cs.f k p) (DB p):=by
 unfold Cs.f Cp.f DB
 by_cases c:p=0
 ·subst c;simp only [if_true];exact Ev.now _
 ·simp only [if_neg c,decide_eq_false c,Bool.false_or,E1,Option.bind_some]
  by_cases c2:2≤p
  ·by_cases c5:p≤5000
   ·simp only [decide_eq_true c2,decide_eq_true c5,decide_eq_true (show p≥2 from c2),Bool.true_and,if_true]
    have:=Lc (n:=p) (by omega) 70 2 (by omega) (by omega) (by omega)
    exact this.bind (f:=fun _ t=>some t) (Ev.now _)
   ·simp only [decide_eq_true c2,decide_eq_false c5,Bool.and_false,Bool.false_and,Bool.false_eq_true,if_false,Option.bind_some]
    exact Ev.now _
  ·simp only [decide_eq_false c2,decide_eq_false (show ¬p≥2 from c2),Bool.false_and,Bool.and_false,Bool.false_eq_true,if_false,Option.bind_some]
   exact Ev.now _
theorem I3 (t:Int):DG.f t=some (tOk t):=by
 unfold DG.f tOk
 by_cases c:t=0
 ·simp [c]
 ·rw [if_neg c]
  by_cases c2:t≥ -30
  ·rw [if_pos c2,decide_eq_true c,Bool.true_and];congr 1;exact decide_eq_decide.2 (by omega)
  ·rw [if_neg c2,decide_eq_false (show ¬t.natAbs≤30 by omega),Bool.and_false]
theorem JT (t:Int):Dv.f t=some (tOk t):=by
 unfold Dv.f tOk
 by_cases c:t=0
 ·simp [c]
 ·rw [if_neg c,E1,Option.bind_some,decide_eq_true c,Bool.true_and,← Bool.decide_and];congr 1;exact decide_eq_decide.2 (by omega)
theorem Kf {q:Int} (hq:2≤q) (hQ:q≤1000000000) (qs:List Int) (i:Nat) (hi:i≤1000000000) (v:Int×Int) : ∀(d:Nat) (n r:Int),n≠0→n.natAbs<2 ^ d→d≤63→1≤r→(n*(r*r)).natAbs≤1000000000→
  Ev (fun k=>AW.l0 k (Ez q d n r).1 (Ez q d n r).2 qs (qs.length:Int) ((i+1:Nat):Int)) v→
  Ev (fun k=>AW.l1 k n r q qs (qs.length:Int) i) v:=by
 intro d
 have hqq:4≤q*q:=by have:=EM (show (0:Int)≤2 by omega) hq;omega
 have hqQ:q*q≤1000000000*1000000000:=EM (by omega) hQ
 induction d with
 | zero=>intro n r hn h;simp at h;omega
 | succ d ih =>
  intro n r hn h hd hr hb hv
  have hnb:n.natAbs≤1000000000:=by
   have h1:r*r≠0:=Int.mul_ne_zero (by omega) (by omega)
   have:=Df (a:=n) h1;omega
  simp only [Ez] at hv
  by_cases c:n.tmod (q*q)=0
  ·rw [if_pos c] at hv
   obtain ⟨h1,h2,h3⟩:=Mk hq hn c
   have hrq:1≤r*q:=by have:=Int.mul_le_mul hr (show (1:Int)≤q by omega) (by omega) (by omega);omega
   have e:n*(r*r)=n.tdiv (q*q)*((r*q)*(r*q)):=by
    conv=>lhs;rw [h2]
    grind
   have hrqb:(r*q).natAbs≤1000000000:=by
    have h4:(n.tdiv (q*q)*((r*q)*(r*q))).natAbs≤1000000000:=by rw [← e];exact hb
    rw [Int.natAbs_mul,Int.natAbs_mul] at h4
    have h5:1≤(n.tdiv (q*q)).natAbs:=by omega
    have h6:(r*q).natAbs≤(r*q).natAbs*(r*q).natAbs:=Nat.le_mul_of_pos_left _ (by omega)
    have h7:=Nat.le_mul_of_pos_left ((r*q).natAbs*(r*q).natAbs) h5
    omega
   refine Ev.step (fun k=>?_) (ih (n.tdiv (q*q)) (r*q) h1 (by rw [Nat.pow_succ] at h;omega) (by omega) hrq (by rw [← e];exact hb) hv)
   simp only [AW.l1]
   rw [w64 (x:=q*q) (by omega) (by omega),if_neg (by omega),if_pos c,w64 (x:=n.tdiv (q*q)) (by omega) (by omega),w64 (x:=r*q) (by omega) (by omega)]
  ·rw [if_neg c] at hv
   refine Ev.step (fun k=>?_) hv
   simp only [AW.l1]
   rw [w64 (x:=q*q) (by omega) (by omega),if_neg (by omega),if_neg c,w64 (x:=(i:Int)+1) (by omega) (by omega)]
   rfl
theorem Na {q:Int} (hq:2≤q) : ∀(d e:Nat) (n r:Int),n≠0→n.natAbs<2 ^ d→d≤e→Ez q e n r=Ez q d n r:=by
 intro d
 induction d with
 | zero=>intro e n r hn h;simp at h;omega
 | succ d ih =>
  intro e n r hn h he
  obtain ⟨e,rfl⟩ : ∃m,e=m+1:=⟨e-1,by omega⟩
  simp only [Ez]
  by_cases c:n.tmod (q*q)=0
  ·rw [if_pos c,if_pos c]
   obtain ⟨h1,h2,h3⟩:=Mk hq hn c
   exact ih e _ _ h1 (by rw [Nat.pow_succ] at h;omega) (by omega)
  ·rw [if_neg c,if_neg c]
theorem MO (qs:List Int) (hq : ∀q∈qs,2≤q∧q≤1000000000) (hl:qs.length≤1000000000) : ∀(d j:Nat) (n r:Int),j+d=qs.length→n≠0→1≤r→(n*(r*r)).natAbs≤1000000000→
  Ev (fun k=>AW.l0 k n r qs (qs.length:Int) j) (Fu (qs.drop j) n r):=by
 intro d
 induction d with
 | zero =>
  intro j n r hj hn hr hb
  rw [List.drop_of_length_le (by omega)]
  refine Ev.step (f:=fun _=>some (n,r)) (fun k=>?_) (Ev.now _)
  simp only [AW.l0]
  rw [if_neg (by omega)]
 | succ d ih =>
  intro j n r hj hn hr hb
  have hm:=hq _ (DA (xs:=qs) (j:=j) (by omega))
  rw [CQ (show j<qs.length by omega)]
  simp only [Fu]
  have hnb:n.natAbs≤1000000000:=by
   have h1:r*r≠0:=Int.mul_ne_zero (by omega) (by omega)
   have:=Df (a:=n) h1;omega
  obtain ⟨g1,g2,g3,g4,g5⟩:=G7 hm.1 64 n r hn (by omega) hr
  have h63:n.natAbs<2 ^ 63:=by omega
  have e:=Na hm.1 63 64 n r hn h63 (by omega)
  have:=Kf hm.1 hm.2 qs j (by omega) (Fu (qs.drop (j+1)) (Ez (rd qs (j:Int)) 64 n r).1 (Ez (rd qs (j:Int)) 64 n r).2) 63 n r hn h63 (by omega) hr hb (by
   rw [← e]
   exact ih (j+1) _ _ (by omega) g1 g2 (by rw [← g3];exact hb))
  refine Ev.step (fun k=>?_) this
  simp only [AW.l0]
  rw [if_pos (by omega),if_pos (by omega),if_pos (by omega)]
theorem NV {n q:Int} (hn:n≠0) (h:n.natAbs<2 ^ 63) (hq:q∈CZ n):2≤q∧q.natAbs≤n.natAbs:=by
 obtain ⟨h1,h2⟩:=(Ex hn h).1 hq
 exact ⟨h1.1,Nat.le_of_dvd (by omega) (Int.natAbs_dvd_natAbs.2 h2)⟩
theorem DI {n:Int} (hn:n≠0) (h:n.natAbs≤100000000):Ev (fun k=>AW.f k n) (Bv n):=by
 unfold AW.f
 refine (Gt hn (by omega)).bind ?_
 have hp:=F6 n
 exact MO (CZ n) (fun q hq=>by have:=NV hn (by omega) hq;omega) (by omega) (CZ n).length 0 n 1 (by omega) hn (by omega) (by simpa using by omega)
theorem Kq {q:Int} (hq:2≤q) (hQ:q≤1000000) (v:Int×Int) : ∀(d:Nat) (n r:Int),n≠0→n.natAbs<2 ^ d→d≤63→1≤r→(n*(r*r)).natAbs≤1000000000→
  Ev (fun k=>AX.l0 k (Ez q d n r).1 (Ez q d n r).2 (q+1)) v→
  Ev (fun k=>AX.l1 k n r q) v:=by
 intro d
 have hqq:4≤q*q:=by have:=EM (show (0:Int)≤2 by omega) hq;omega
 have hqQ:q*q≤1000000*1000000:=EM (by omega) hQ
 induction d with
 | zero=>intro n r hn h;simp at h;omega
 | succ d ih =>
  intro n r hn h hd hr hb hv
  have hnb:n.natAbs≤1000000000:=by
   have h1:r*r≠0:=Int.mul_ne_zero (by omega) (by omega)
   have:=Df (a:=n) h1;omega
  simp only [Ez] at hv
  by_cases c:n.tmod (q*q)=0
  ·rw [if_pos c] at hv
   obtain ⟨h1,h2,h3⟩:=Mk hq hn c
   have hrq:1≤r*q:=by have:=Int.mul_le_mul hr (show (1:Int)≤q by omega) (by omega) (by omega);omega
   have e:n*(r*r)=n.tdiv (q*q)*((r*q)*(r*q)):=by
    conv=>lhs;rw [h2]
    grind
   have hrqb:(r*q).natAbs≤1000000000:=by
    have h4:(n.tdiv (q*q)*((r*q)*(r*q))).natAbs≤1000000000:=by rw [← e];exact hb
    rw [Int.natAbs_mul,Int.natAbs_mul] at h4
    have h5:1≤(n.tdiv (q*q)).natAbs:=by omega
    have h6:(r*q).natAbs≤(r*q).natAbs*(r*q).natAbs:=Nat.le_mul_of_pos_left _ (by omega)
    have h7:=Nat.le_mul_of_pos_left ((r*q).natAbs*(r*q).natAbs) h5
    omega
   refine Ev.step (fun k=>?_) (ih (n.tdiv (q*q)) (r*q) h1 (by rw [Nat.pow_succ] at h;omega) (by omega) hrq (by rw [← e];exact hb) hv)
   simp only [AX.l1]
   rw [w64 (x:=q*q) (by omega) (by omega),if_neg (by omega),if_pos c,w64 (x:=n.tdiv (q*q)) (by omega) (by omega),w64 (x:=r*q) (by omega) (by omega)]
  ·rw [if_neg c] at hv
   refine Ev.step (fun k=>?_) hv
   simp only [AX.l1]
   rw [w64 (x:=q*q) (by omega) (by omega),if_neg (by omega),if_neg c,w64 (x:=q+1) (by omega) (by omega)]
theorem Im {n:Int} (h:n.natAbs<2 ^ 63):Bc.f n=some (absI n):=by
 unfold Bc.f
 first
 | rw [EL (n:=n) (by omega) (by omega)]
 | rw [Int.zero_sub,EL (n:=n) (by omega) (by omega)]
theorem Nu : ∀(d:Nat) (n r p:Int),n≠0→1≤r→(n*(r*r)).natAbs≤1000000000→2≤p→40000≤p+d→p≤50000→(∀q:Int,2≤q→q<p→¬q*q∣n)→
  ∃c s,Hj (n*(r*r)) c s∧Ev (fun k=>AX.l0 k n r p) (c,s):=by
 intro d
 have fin : ∀n r p:Int,n≠0→1≤r→n.natAbs≤1000000000→2≤p→p≤50000→(∀q:Int,2≤q→q<p→¬q*q∣n)→¬p*p≤absI n→
   ∃c s,Hj (n*(r*r)) c s∧Ev (fun k=>AX.l0 k n r p) (c,s):=by
  intro n r p hn hr hnb hp hP hq c
  have hpp:p*p≤50000*50000:=EM (by omega) hP
  have hp0:=sq_nonneg p
  refine ⟨n,r,⟨rfl,hr,hn,fun e he hd=>?_⟩,?_⟩
  ·rcases Int.lt_or_le e p with h|h
   ·exact hq e he h hd
   ·have h1:=EM (by omega) h
    have h2:(e*e).natAbs≤n.natAbs:=Nat.le_of_dvd (by omega) (Int.natAbs_dvd_natAbs.2 hd)
    unfold absI at c;omega
  ·refine Ev.step (f:=fun _=>some (n,r)) (fun k=>?_) (Ev.now _)
   simp only [AX.l0,Im (n:=n) (by omega),Option.bind_some]
   rw [w64 (x:=p*p) (by omega) (by omega),if_neg c]
 have bd : ∀n r:Int,n≠0→1≤r→(n*(r*r)).natAbs≤1000000000→n.natAbs≤1000000000:=by
  intro n r hn hr hb
  have h1:r*r≠0:=Int.mul_ne_zero (by omega) (by omega)
  have:=Df (a:=n) h1;omega
 induction d with
 | zero =>
  intro n r p hn hr hb hp hd hP hq
  have hnb:=bd n r hn hr hb
  have:=EM (show (0:Int)≤40000 by omega) (show 40000≤p by omega)
  exact fin n r p hn hr hnb hp hP hq (by unfold absI;omega)
 | succ d ih =>
  intro n r p hn hr hb hp hd hP hq
  have hnb:=bd n r hn hr hb
  by_cases c:p*p≤absI n
  ·have hpp:p*p≤50000*50000:=EM (by omega) hP
   have hp0:=sq_nonneg p
   have hp4:p<40000:=by
    rcases Int.lt_or_le p 40000 with h|h
    ·exact h
    ·have:=EM (show (0:Int)≤40000 by omega) h
     unfold absI at c;omega
   have h63:n.natAbs<2 ^ 63:=by omega
   obtain ⟨g1,g2,g3,g4,g5⟩:=G7 hp 63 n r hn h63 hr
   obtain ⟨cc,s,hc,he⟩:=ih (Ez p 63 n r).1 (Ez p 63 n r).2 (p+1) g1 g2 (by rw [← g3];exact hb) (by omega) (by omega) (by omega) (fun q q1 q2 hqd=>by
    rcases Int.lt_or_eq_of_le (show q≤p by omega) with h|h
    ·exact hq q q1 h (Int.dvd_trans hqd g4)
    ·subst h;exact g5 hqd)
   refine ⟨cc,s,by rw [g3];exact hc,?_⟩
   refine Ev.step (fun k=>?_) (Kq hp (by omega) (cc,s) 63 n r hn h63 (by omega) hr hb he)
   simp only [AX.l0,Im (n:=n) (by omega),Option.bind_some]
   rw [w64 (x:=p*p) (by omega) (by omega),if_pos c]
  ·exact fin n r p hn hr hnb hp hP hq c
theorem DT {n:Int} (hn:n≠0) (h:n.natAbs≤100000000):Ev (fun k=>AX.f k n) (Bv n):=by
 unfold AX.f
 obtain ⟨c,s,hc,he⟩:=Nu 40000 n 1 2 hn (by omega) (by simpa using by omega) (by omega) (by omega) (by omega) (fun q q1 q2=>by omega)
 have e:=Pw hn (by omega) (show Hj n c s by have:=hc;simp only [Int.mul_one] at this;exact this)
 rw [e];exact he
def disc (xs:List Int):Int:=(Bv (prod xs)).1
theorem LB {xs:List Int} (h31 : ∀x∈xs,x.natAbs≤1000000) (hl:xs.length≤100):Ev (fun k=>C5.f k xs) (if BK xs=true then disc xs else 0):=by
 unfold C5.f
 refine (BR (xs:=xs) h31 (by omega)).bind ?_
 by_cases c:BK xs=true
 ·have hk:=BP.1 c
  have hb:=EP hk.1 (by omega)
  simp only [if_pos c]
  refine (Ff hk.1 (by omega)).bind ((DI hb.1 (by omega)).bind ?_)
  exact Ev.now _
 ·simp only [if_neg c];exact Ev.now _
theorem Lf {xs:List Int} (hl:xs.length≤100):Ev (fun k=>Dw.f k xs) (if BK xs=true then disc xs else 0):=by
 unfold Dw.f
 refine (BZ (xs:=xs) (by omega)).bind ?_
 by_cases c:BK xs=true
 ·have hk:=BP.1 c
  have hb:=EP hk.1 (by omega)
  simp only [if_pos c]
  refine (EB hk.1 (by omega)).bind ((DT hb.1 (by omega)).bind ?_)
  exact Ev.now _
 ·simp only [if_neg c];exact Ev.now _
theorem Gi {xs:List Int} {p:Int} (hx : ∀x∈xs,x.natAbs≤31) (hl:xs.length≤5) :
  Ev (fun k=>Ct.f k xs p) (BK xs&&(DB p&&van xs p)):=by
 unfold Ct.f
 refine (BR (xs:=xs) (fun x h=>by have:=hx x h;omega) (by omega)).bind ?_
 by_cases c1:BK xs=true
 ·simp only [c1,if_true,Bool.true_and]
  refine (Ew p).bind ?_
  by_cases c2:DB p=true
  ·have hk:=BP.1 c1
   simp only [c2,if_true,Bool.true_and]
   exact (Ha (Ed.1 c2) hk.1 (by omega)).bind (f:=fun _ t=>some t) (Ev.now _)
  ·simp only [c2,Bool.false_eq_true,if_false,Bool.false_and];exact Ev.now _
 ·simp only [c1,Bool.false_eq_true,if_false,Bool.false_and];exact Ev.now _
theorem index_l (xs:List Int) (v:Int) (hl:xs.length≤1000000) : ∀d j:Nat,j+d=xs.length→
  Ev (fun k=>Bi.l0 k xs v (xs.length:Int) j) (if (xs.drop j).contains v then (j+(xs.drop j).findIdx (· == v):Int) else -1):=by
 intro d
 induction d with
 | zero =>
  intro j hj
  rw [List.drop_of_length_le (by omega)]
  refine Ev.step (f:=fun _=>some (-1)) (fun k=>?_) (by simpa using Ev.now _)
  simp only [Bi.l0]
  rw [if_neg (by omega)]
 | succ d ih =>
  intro j hj
  rw [CQ (show j<xs.length by omega)]
  by_cases c:v=rd xs (j:Int)
  ·have e:(if (rd xs (j:Int)::xs.drop (j+1)).contains v then ((j:Int)+((rd xs (j:Int)::xs.drop (j+1)).findIdx (· == v):Int)) else -1)=(j:Int):=by
    rw [← c,List.findIdx_cons,beq_self_eq_true];simp
   rw [e]
   refine Ev.step (f:=fun _=>some (j:Int)) (fun k=>?_) (Ev.now _)
   simp only [Bi.l0]
   rw [if_pos (by omega),if_pos (by omega),if_pos (by omega),if_pos c]
  ·have h2:=ih (j+1) (by omega)
   have e:(if (rd xs (j:Int)::xs.drop (j+1)).contains v then ((j:Int)+((rd xs (j:Int)::xs.drop (j+1)).findIdx (· == v):Int)) else -1)=(if (xs.drop (j+1)).contains v then (((j+1:Nat):Int)+((xs.drop (j+1)).findIdx (· == v):Int)) else -1):=by
    rw [List.contains_cons,List.findIdx_cons,show (v==rd xs (j:Int))=false from by simpa using c,show (rd xs (j:Int)==v)=false from by simpa using fun h=>c h.symm]
    simp only [Bool.false_or,cond_false]
    split
    ·omega
    ·rfl
   rw [e]
   refine Ev.step (fun k=>?_) h2
   simp only [Bi.l0]
   rw [if_pos (by omega),if_pos (by omega),if_pos (by omega),if_neg c,w64 (x:=(j:Int)+1) (by omega) (by omega)]
   rfl
theorem Ld (xs:List Int) (v:Int) (hl:xs.length≤1000000):Ev (fun k=>BU.f k xs v) (xs.contains v):=by
 unfold BU.f Bi.f
 refine (index_l xs v hl xs.length 0 (by omega)).bind ?_
 rw [List.drop_zero]
 by_cases c:xs.contains v=true
 ·rw [if_pos c,c]
  have:decide ((((0:Nat):Int)+((xs.findIdx (· == v):Nat):Int))≥0)=true:=decide_eq_true (by omega)
  rw [this];exact Ev.now _
 ·rw [if_neg c,Bool.eq_false_iff.2 c];exact Ev.now _
theorem MZ (xs:List Int) (i:Nat) (hi:i<xs.length) (hx5:xs.length≤100) (ps:List Int) (hp:ps.length≤1000) (v:List Int) : ∀(d j:Nat) (out:List Int),j+d=ps.length→out.length≤5000+j→
  Ev (fun k=>Bk.l0 k (addP out (ps.drop j)) xs (xs.length:Int) ((i+1:Nat):Int)) v→
  Ev (fun k=>Bk.l1 k out xs (xs.length:Int) i ps (ps.length:Int) j) v:=by
 intro d
 induction d with
 | zero =>
  intro j out hj ho hv
  rw [List.drop_of_length_le (by omega)] at hv
  refine Ev.step (fun k=>?_) hv
  simp only [Bk.l1]
  rw [if_neg (by omega),w64 (x:=(i:Int)+1) (by omega) (by omega)]
  rfl
 | succ d ih =>
  intro j out hj ho hv
  rw [CQ (show j<ps.length by omega)] at hv
  simp only [addP] at hv
  apply Ev.step
  ·intro k
   simp only [Bk.l1]
   rw [if_pos (by omega),if_pos (by omega),if_pos (by omega),w64 (x:=(j:Int)+1) (by omega) (by omega)]
  ·refine (Ld out (rd ps (j:Int)) (by omega)).bind ?_
   by_cases c:out.contains (rd ps (j:Int))=true
   ·rw [if_pos c] at hv
    simp only [if_pos c]
    exact ih (j+1) out (by omega) (by omega) hv
   ·rw [if_neg c] at hv
    simp only [if_neg c,if_pos (show out.length<17592186044416 by omega)]
    exact ih (j+1) (out++[rd ps (j:Int)]) (by omega) (by simp;omega) hv
theorem sort_eq (l:List Int) (h1:1≤l.length) (h2:l.length≤1000000):CL.f l=some (Nv l):=by
 unfold CL.f Nv;rw [if_pos ⟨h1,by omega⟩]
theorem Jf : ∀xs out:List Int,(∀x∈xs,Sm x)→out.Nodup→out.length≤(EO out xs).length∧(EO out xs).length≤out.length+40*xs.length
 | [],out,_,_=>by simp [EO]
 | x::xs,out,hx,h=>by
  simp only [EO,List.length_cons]
  obtain ⟨h1,h2,h3⟩:=FT (CZ x) out h
  have ih:=Jf xs (addP out (CZ x)) (fun y hy=>hx y (by simp [hy])) h1
  have hp:=F6 x
  have hs:=(hx x (by simp)).2
  have hle:out.length≤(addP out (CZ x)).length:=by
   have : ∀qs o:List Int,o.length≤(addP o qs).length:=by
    intro qs
    induction qs with
    | nil=>intro o;simp [addP]
    | cons q qs ih=>intro o;simp only [addP];split;exact ih o;have:=ih (o++[q]);simp at this;omega
   exact this _ _
  omega
theorem LX (xs:List Int) (hx : ∀x∈xs,Sm x) (hl:xs.length≤100) : ∀(d i:Nat) (out:List Int),i+d=xs.length→out.Nodup→1≤out.length→out.length≤10+40*i→
  Ev (fun k=>Bk.l0 k out xs (xs.length:Int) i) (Nv (EO out (xs.drop i))):=by
 intro d
 induction d with
 | zero =>
  intro i out hi hn h1 h2
  rw [List.drop_of_length_le (by omega)]
  refine Ev.step (f:=fun _=>some (Nv out)) (fun k=>?_) (Ev.now _)
  simp only [Bk.l0]
  rw [if_neg (by omega),sort_eq out h1 (by omega)];rfl
 | succ d ih =>
  intro i out hi hn h1 h2
  have hm:=hx _ (DA (xs:=xs) (j:=i) (by omega))
  rw [CQ (show i<xs.length by omega)]
  simp only [EO]
  have hs:=hm.2
  have hpl:=F6 (rd xs (i:Int))
  obtain ⟨a1,a2,a3⟩:=FT (CZ (rd xs (i:Int))) out hn
  have a4:=(Jf [rd xs (i:Int)] out (by intro x hx;rw [List.mem_singleton.1 hx];exact hm) hn)
  simp only [EO,List.length_cons,List.length_nil] at a4
  apply Ev.step
  ·intro k
   simp only [Bk.l0]
   rw [if_pos (by omega),if_pos (by omega),if_pos (by omega)]
  ·refine (Gt hm.1 (by omega)).bind ?_
   refine MZ xs i (by omega) (by omega) (CZ (rd xs (i:Int))) (by omega) _ (CZ (rd xs (i:Int))).length 0 out (by omega) (by omega) ?_
   rw [List.drop_zero]
   exact ih (i+1) _ (by omega) a1 (by omega) (by omega)
theorem Iv {xs:List Int} (hx : ∀x∈xs,Sm x) (hl:xs.length≤100):Ev (fun k=>Bk.f k xs) (plc xs):=by
 rw [← Ox hx]
 exact LX xs hx hl xs.length 0 [0,2] (by omega) (by decide) (by simp) (by simp)
theorem Nb (ps:List Int) (hl:ps.length≤100000100) : ∀(d j:Nat) (out:List Int),j+d=ps.length→out.length≤2+j→
  Ev (fun k=>BV.l0 k out ps j) (out++(ps.drop j).filter (fun x=>decide (x>2))):=by
 intro d
 induction d with
 | zero =>
  intro j out hj ho
  rw [List.drop_of_length_le (by omega)]
  refine Ev.step (f:=fun _=>some out) (fun k=>?_) (by simpa using Ev.now _)
  simp only [BV.l0]
  rw [if_neg (by omega)]
 | succ d ih =>
  intro j out hj ho
  rw [CQ (show j<ps.length by omega)]
  by_cases c:rd ps (j:Int)>2
  ·rw [List.filter_cons_of_pos (by simpa using c)]
   have:=ih (j+1) (out++[rd ps (j:Int)]) (by omega) (by simp;omega)
   rw [List.append_assoc,List.singleton_append] at this
   refine Ev.step (fun k=>?_) this
   simp only [BV.l0]
   rw [if_pos (by omega),if_pos (by omega),if_pos c,if_pos (by omega),w64 (x:=(j:Int)+1) (by omega) (by omega)]
   rfl
  ·rw [List.filter_cons_of_neg (by simpa using c)]
   refine Ev.step (fun k=>?_) (ih (j+1) out (by omega) (by omega))
   simp only [BV.l0]
   rw [if_pos (by omega),if_pos (by omega),if_neg c,w64 (x:=(j:Int)+1) (by omega) (by omega)]
   rfl
theorem Le {n:Int} (hn:n≠0) (h:n.natAbs≤100000000):Ev (fun k=>BV.f k n) (H6 n):=by
 unfold BV.f
 refine (IQ hn (by omega)).bind ?_
 have:=F6 n
 exact Nb (CZ n) (by omega) (CZ n).length 0 [0,2] (by omega) (by simp)
theorem Fs {xs:List Int} (hl:xs.length≤100):Ev (fun k=>CB.f k xs) (if BK xs=true then plc xs else []):=by
 unfold CB.f
 refine (BZ (xs:=xs) (by omega)).bind ?_
 by_cases c:BK xs=true
 ·simp only [if_pos c]
  have hk:=BP.1 c
  have hb:=EP hk.1 (by omega)
  refine (EB hk.1 (by omega)).bind ((Le hb.1 (by omega)).bind ?_)
  rw [La hk.1 (by omega)]
  exact Ev.now _
 ·simp only [if_neg c];exact Ev.now _
theorem Iq (xs:List Int):(plc xs).length≤11:=by unfold plc;exact List.length_filter_le _ _
theorem GS {xs:List Int} (h31 : ∀x∈xs,x.natAbs≤1000000) (hl:xs.length≤100):Ev (fun k=>CY.f k xs) (if BK xs=true then plc xs else []):=by
 unfold CY.f
 refine (BR (xs:=xs) h31 (by omega)).bind ?_
 by_cases c:BK xs=true
 ·simp only [if_pos c]
  have hk:=BP.1 c
  exact (Iv hk.1 (by omega)).bind (f:=fun _ t=>some t) (Ev.now _)
 ·simp only [if_neg c];exact Ev.now _
theorem KE {xs:List Int} (hx : ∀x∈xs,Sm x) (hl:xs.length≤5) (ps:List Int) (hp : ∀p∈ps,Plc p) (h11:ps.length≤100) : ∀(d j:Nat) (out:List Int),j+d=ps.length→out.length≤j→
  Ev (fun k=>BM.l0 k xs out ps (ps.length:Int) j) (out++(ps.drop j).filter (fun p => !van xs p)):=by
 intro d
 induction d with
 | zero =>
  intro j out hj ho
  rw [List.drop_of_length_le (by omega)]
  refine Ev.step (f:=fun _=>some out) (fun k=>?_) (by simpa using Ev.now _)
  simp only [BM.l0]
  rw [if_neg (by omega)]
 | succ d ih =>
  intro j out hj ho
  have hP:=hp _ (DA (xs:=ps) (j:=j) (by omega))
  rw [CQ (show j<ps.length by omega)]
  apply Ev.step
  ·intro k
   simp only [BM.l0]
   rw [if_pos (by omega),if_pos (by omega),if_pos (by omega),w64 (x:=(j:Int)+1) (by omega) (by omega)]
  ·refine (Ha hP hx hl).bind ?_
   by_cases c:van xs (rd ps (j:Int))=true
   ·rw [List.filter_cons_of_neg (by simp [c])]
    simp only [if_pos c]
    exact ih (j+1) out (by omega) (by omega)
   ·have:=ih (j+1) (out++[rd ps (j:Int)]) (by omega) (by simp;omega)
    rw [List.append_assoc,List.singleton_append] at this
    rw [List.filter_cons_of_pos (by simp [c])]
    simp only [if_neg c,if_pos (show out.length<17592186044416 by omega)]
    exact this
theorem IX {xs:List Int} (h31 : ∀x∈xs,x.natAbs≤1000000) (hl:xs.length≤100):Ev (fun k=>BM.f k xs) (if BK xs=true then bad xs else []):=by
 unfold BM.f
 have e1:=GS h31 hl
 by_cases c:BK xs=true
 ·have hk:=BP.1 c
  rw [if_pos c] at e1 ⊢
  have:=Iq xs
  first
  | exact e1.bind (KE hk.1 (by omega) (plc xs) (fun p hp=>GR hp) (by omega) (plc xs).length 0 [] (by omega) (by simp))
  | (simp only [Option.bind_some];exact e1.bind (KE hk.1 (by omega) (plc xs) (fun p hp=>GR hp) (by omega) (plc xs).length 0 [] (by omega) (by simp)))
 ·rw [if_neg c] at e1 ⊢
  have z:Ev (fun k=>BM.l0 k xs [] [] (([]:List Int).length:Int) 0) ([]:List Int):=Ev.step (f:=fun _=>some []) (fun k=>by simp [BM.l0]) (Ev.now _)
  first
  | exact e1.bind z
  | (simp only [Option.bind_some];exact e1.bind z)
theorem Ng {xs:List Int} (hx : ∀x∈xs,Sm x) (hl:xs.length≤4) (ps:List Int) (hp : ∀p∈ps,Plc p) (h11:ps.length≤100) : ∀(d j:Nat) (acc:Int),j+d=ps.length→
  Ev (fun k=>BC.l0 k xs acc ps (ps.length:Int) j) (minL (Es xs) (ps.drop j) acc):=by
 intro d
 induction d with
 | zero =>
  intro j acc hj
  rw [List.drop_of_length_le (by omega)]
  refine Ev.step (f:=fun _=>some acc) (fun k=>?_) (Ev.now _)
  simp only [BC.l0]
  rw [if_neg (by omega)]
 | succ d ih =>
  intro j acc hj
  have hP:=hp _ (DA (xs:=ps) (j:=j) (by omega))
  rw [CQ (show j<ps.length by omega)]
  apply Ev.step
  ·intro k
   simp only [BC.l0]
   rw [if_pos (by omega),if_pos (by omega),if_pos (by omega),w64 (x:=(j:Int)+1) (by omega) (by omega)]
  ·refine (J5 hP hx hl).bind ?_
   exact ih (j+1) _ (by omega)
theorem Hs {xs:List Int} (h31 : ∀x∈xs,x.natAbs≤1000000) (hl:xs.length≤100):Ev (fun k=>BC.f k xs) (if BK xs=true then pall xs else -1):=by
 unfold BC.f
 refine (BR (xs:=xs) h31 (by omega)).bind ?_
 by_cases c:BK xs=true
 ·have hk:=BP.1 c
  have:=Iq xs
  simp only [if_pos c]
  exact (Iv hk.1 (by omega)).bind (Ng hk.1 hk.2.2 (plc xs) (fun p hp=>GR hp) (by omega) (plc xs).length 0 _ (by omega))
 ·simp only [if_neg c];exact Ev.now _
theorem Ns {xs:List Int} (hx : ∀x∈xs,Sm x) (h1:1≤xs.length) (hl:xs.length≤4) (ps:List Int) (hp : ∀p∈ps,Plc p) (h11:ps.length≤100) : ∀(d j:Nat) (acc:Int),j+d=ps.length→
  Ev (fun k=>BQ.l0 k xs ps acc j) (minL (Es xs) (ps.drop j) acc):=by
 intro d
 induction d with
 | zero =>
  intro j acc hj
  rw [List.drop_of_length_le (by omega)]
  refine Ev.step (f:=fun _=>some acc) (fun k=>?_) (Ev.now _)
  simp only [BQ.l0]
  rw [if_neg (by omega)]
 | succ d ih =>
  intro j acc hj
  have hP:=hp _ (DA (xs:=ps) (j:=j) (by omega))
  rw [CQ (show j<ps.length by omega)]
  apply Ev.step
  ·intro k
   simp only [BQ.l0]
   rw [if_pos (by omega),if_pos (by omega),w64 (x:=(j:Int)+1) (by omega) (by omega)]
  ·refine (GC hP hx h1 hl).bind ?_
   exact ih (j+1) _ (by omega)
theorem plc_cons (xs:List Int) : ∃l,plc xs=0::l:=by
 unfold plc PP
 exact ⟨_,List.filter_cons_of_pos (by simp [plOf])⟩
theorem N1 {f:Int→Int} {a b p:Int} {ps:List Int} (ha:f p≤a) (hb:b=f p):minL f (p::ps) a=minL f (p::ps) b:=by
 simp only [minL]
 congr 1
 unfold mn;split<;>split<;>omega
theorem Ht {xs:List Int} (hl:xs.length≤100):Ev (fun k=>BQ.f k xs) (if BK xs=true then pall xs else -1):=by
 unfold BQ.f
 refine (Fs (xs:=xs) (by omega)).bind ?_
 by_cases c:BK xs=true
 ·have hk:=BP.1 c
  have hln:=Iq xs
  obtain ⟨l,he⟩:=plc_cons xs
  have hne : ¬((plc xs).length:Int)=0:=by rw [he];simp;omega
  simp only [if_pos c,if_neg hne]
  refine (GC (p:=0) (Or.inl rfl) hk.1 hk.2.1 hk.2.2).bind ?_
  have e:pall xs=minL (Es xs) (plc xs) (Es xs 0):=by
   unfold pall
   rw [he]
   exact N1 (by have:=LL xs 0;omega) rfl
  rw [e]
  exact Ns hk.1 hk.2.1 hk.2.2 (plc xs) (fun p hp=>GR hp) (by omega) (plc xs).length 0 _ (by omega)
 ·simp only [if_neg c]
  simp only [List.length_nil,Int.natCast_zero,if_true]
  exact Ev.now _
theorem l5Root_l (n:Int) (h0:0≤n) : ∀(d:Nat) (lo hi:Int) (k:Nat),0≤lo→lo≤hi→hi≤1048576→(hi-lo).toNat≤d→d<k→n≤hi*hi→(lo=0∨(lo-1)*(lo-1)<n)→
  B0.l0 k n lo hi=some (if isq n*isq n=n then isq n else -1):=by
 intro d
 induction d with
 | zero =>
  intro k_ hi k hlo hle hhi hd hk hn hl
  obtain ⟨k,rfl⟩ : ∃m,k=m+1:=⟨k-1,by omega⟩
  obtain rfl:k_=hi:=by omega
  simp only [B0.l0]
  rw [if_neg (by omega),wmul hlo (by omega) hlo (by omega)]
  by_cases e:k_*k_=n
  ·have hq:isq n=k_:=by rw [← e];exact isq_sq hlo
   rw [if_pos e,hq,if_pos e]
  ·rw [if_neg e]
   have h1:(k_-1)*(k_-1)<n:=by
    rcases hl with h|h
    ·subst h;omega
    ·exact h
   have hp:0<k_:=by
    rcases Int.lt_or_le 0 k_ with h|h
    ·exact h
    ·obtain rfl:k_=0:=by omega
     omega
   have hq:isq n=k_-1:=Ft (by omega) (by omega) (by rw [show k_-1+1=k_ from by omega];omega)
   rw [hq,if_neg (by omega)]
 | succ d ih =>
  intro lo hi k hlo hle hhi hd hk hn hl
  rcases Int.lt_or_le lo hi with hlt|hge
  ·obtain ⟨k,rfl⟩ : ∃m,k=m+1:=⟨k-1,by omega⟩
   simp only [B0.l0]
   rw [if_pos hlt]
   have e1:wrap64 (lo+hi)=lo+hi:=w64 (by omega) (by omega)
   have e2:Int.tdiv (lo+hi) 2=(lo+hi)/2:=I0 (by omega)
   have e3:wrap64 ((lo+hi)/2)=(lo+hi)/2:=w64 (by omega) (by omega)
   rw [e1,e2,e3,wmul (a:=(lo+hi)/2) (b:=(lo+hi)/2) (by omega) (by omega) (by omega) (by omega)]
   by_cases c:(lo+hi)/2*((lo+hi)/2)<n
   ·rw [if_pos c,w64 (x:=(lo+hi)/2+1) (by omega) (by omega)]
    exact ih _ _ _ (by omega) (by omega) (by omega) (by omega) (by omega) hn (.inr (by rw [show (lo+hi)/2+1-1=(lo+hi)/2 from by omega];exact c))
   ·rw [if_neg c]
    exact ih _ _ _ (by omega) (by omega) (by omega) (by omega) (by omega) (by omega) hl
  ·exact ih _ _ _ hlo hle hhi (by omega) (by omega) hn hl
theorem l5Root (n:Int) (h0:0≤n) (hn:n≤1099511627776) (k:Nat) (hk:1048577<k):B0.f k n=some (if isq n*isq n=n then isq n else -1) :=
 l5Root_l n h0 1048576 0 1048576 k (by omega) (by omega) (by omega) (by omega) (by omega) (by omega) (.inl rfl)
theorem J6 (n:Int) (h0:0≤n) (hn:n≤1099511627776):Ev (fun k=>B0.f k n) (if isq n*isq n=n then isq n else -1):=⟨1048578,fun k hk=>l5Root n h0 hn k (by omega)⟩
theorem FV (n:Int) (h0:0≤n) (hn:n<4611686018427387904) : ∀(d:Nat) (x bit:Int) (k:Nat),0≤x→x*x≤n→n<(x+2*bit)*(x+2*bit)→x+2*bit≤2147483648→bit=2 ^ d→d+1<k→
  AJ.l0 k n x bit=some (isq n,isq n*isq n==n):=by
 intro d
 have stop : ∀(x:Int) (k:Nat),0≤x→x*x≤n→n<(x+1)*(x+1)→0<k→AJ.l0 k n x 0=some (isq n,isq n*isq n==n):=by
  intro x k hx hl hg hk
  obtain ⟨k,rfl⟩ : ∃m,k=m+1:=⟨k-1,by omega⟩
  simp only [AJ.l0]
  have hb:x<2147483648:=by
   rcases Int.lt_or_le x 2147483648 with h|h
   ·exact h
   ·have:=EM (by omega) h;omega
  have hm:wrap64 (x*x)=x*x:=w64' (sq_nonneg x) (by omega)
  rw [if_neg (by omega),hm,Ft hx hl hg]
 induction d with
 | zero =>
  intro x bit k hx hl hg hB hb hk
  obtain ⟨k,rfl⟩ : ∃m,k=m+1:=⟨k-1,by omega⟩
  obtain rfl:bit=1:=by simpa using hb
  simp only [AJ.l0]
  have hs:=EM (a:=x+1) (b:=2147483648) (by omega) (by omega)
  rw [if_pos (by omega),w64 (x:=x+1) (by omega) (by omega),w64' (x:=(x+1)*(x+1)) (sq_nonneg _) (by omega)]
  have e:wrap64 (Int.tdiv 1 2)=0:=by decide +kernel
  rw [e]
  by_cases c:(x+1)*(x+1)≤n
  ·rw [if_pos c]
   exact stop _ _ (by omega) c (by rw [show x+1+1=x+2*1 from by omega];exact hg) (by omega)
  ·rw [if_neg c]
   exact stop _ _ hx hl (by omega) (by omega)
 | succ d ih =>
  intro x bit k hx hl hg hB hb hk
  obtain ⟨k,rfl⟩ : ∃m,k=m+1:=⟨k-1,by omega⟩
  have hp:(0:Int)<2 ^ d:=Int.pow_pos (by omega)
  obtain ⟨c2,hc2⟩ : ∃c2:Int,c2=2 ^ d:=⟨_,rfl⟩
  have hb2:bit=2*c2:=by rw [hb,Int.pow_succ,hc2];omega
  subst hb2
  simp only [AJ.l0]
  have hs:=EM (a:=x+2*c2) (b:=2147483648) (by omega) (by omega)
  have e:wrap64 (Int.tdiv (2*c2) 2)=c2:=by rw [I0 (by omega),w64 (by omega) (by omega)];omega
  rw [if_pos (by omega),w64 (x:=x+2*c2) (by omega) (by omega),w64' (x:=(x+2*c2)*(x+2*c2)) (sq_nonneg _) (by omega),e]
  by_cases c:(x+2*c2)*(x+2*c2)≤n
  ·rw [if_pos c]
   exact ih _ _ _ (by omega) c (by rw [show x+2*c2+2*c2=x+2*(2*c2) from by omega];exact hg) (by omega) hc2 (by omega)
  ·rw [if_neg c]
   exact ih _ _ _ hx hl (by omega) (by omega) hc2 (by omega)
theorem G5 (n:Int) (h0:0≤n) (hn:n<4611686018427387904) (k:Nat) (hk:31<k):AJ.f k n=some (isq n,isq n*isq n==n):=by
 unfold AJ.f
 rw [if_neg (by omega)]
 exact FV n h0 hn 30 0 1073741824 k (by omega) (by omega) (by omega) (by omega) (by decide) (by omega)
theorem JK (n:Int) (h0:0≤n) (hn:n<4611686018427387904):Ev (fun k=>AJ.f k n) (isq n,isq n*isq n==n):=⟨32,fun k hk=>G5 n h0 hn k (by omega)⟩
theorem NA {x left:Int} (h:isq left*isq left=left) (h2:x*x≤left) (hx:0≤x):sqs 0 x left=some [isq left]:=by
 have:x≤isq left:=JP (EW _) (by omega)
 simp only [sqs];rw [if_pos ⟨h,this⟩]
theorem Nx {x left:Int} (h : ¬isq left*isq left=left):sqs 0 x left=none:=by
 simp only [sqs];rw [if_neg (fun h'=>h h'.1)]
def ans (x:Int) (R0:List Int×Bool):Option (List Int)→List Int×Bool
 | some r=>(x::r,true)
 | none=>R0
def fin (o:Option (List Int)):List Int×Bool:=match o with|some r=>(r,true)|none=>([],false)
theorem wc {c x:Int} (hc:0≤c) (hC:c≤4) (hx:0≤x) (hX:x≤3000):wrap64 (wrap64 (c*x)*x)=x*x*c:=by
 have h1:=Dx hc hC hx hX
 have h0:=Int.mul_nonneg hc hx
 have h2:=Dx h0 h1 hx hX
 have h3:=Int.mul_nonneg h0 hx
 rw [w64 (x:=c*x) (by omega) (by omega),w64 (by omega) (by omega)]
 rw [Int.mul_assoc,Int.mul_comm]
theorem sq3000 {x:Int} (hx:0≤x) (hX:x≤3000):0≤x*x∧x*x≤9000000:=⟨sq_nonneg x,by have:=EM hx hX;omega⟩
theorem four2 (n w x:Int) (hn0:0≤n) (hn:n≤2000) (hw:0≤w) (hw2:w*w≤n) (hx:0≤x) (hx2:x*x≤n-w*w) (R0:List Int×Bool) (h:Ev (fun k=>Ar.l1 k n w (x+1)) R0) : ∀(d:Nat) (y:Int),0≤y→y≤2100→(n-w*w-x*x+2-y).toNat=d→
  Ev (fun k=>Ar.l2 k n w x y) (match D7 (fun y=>sqs 0 y (n-w*w-x*x-y*y)) 2 (n-w*w-x*x) (n-w*w-x*x+2-y).toNat y with|some r=>(w::x::r,true)|none=>R0):=by
 have hs:=sq_nonneg x
 have hsw:=sq_nonneg w
 have hxb:=(Ek (c:=1) (left:=n) (x:=x) (by omega) hx (by omega)).2
 have ex:wrap64 (x*x)=x*x:=w64 (by omega) (by omega)
 have ew:wrap64 (w*w)=w*w:=w64 (by omega) (by omega)
 have en:wrap64 (n-w*w)=n-w*w:=w64 (by omega) (by omega)
 have en2:wrap64 (n-w*w-x*x)=n-w*w-x*x:=w64 (by omega) (by omega)
 have e1:wrap64 (x+1)=x+1:=w64 (by omega) (by omega)
 intro d
 induction d with
 | zero =>
  intro y hy hY hd
  have : ¬y*y*2≤n-w*w-x*x:=fun c=>by have:=Ek (c:=2) (by omega) hy c;omega
  rw [Ec _ this]
  refine Ev.step (fun k=>?_) h
  simp only [Ar.l2]
  rw [wc (by omega) (by omega) hy (by omega),ew,en,ex,en2,if_neg this,e1]
 | succ d ih =>
  intro y hy hY hd
  by_cases c:y*y*2≤n-w*w-x*x
  ·have hb:=Ek (c:=2) (by omega) hy c
   have ey:=sq3000 hy (by omega)
   refine Ev.step (f:=fun k=>(B0.f k (n-w*w-x*x-y*y)).bind fun t=>if t≥0 then some ([w,x,y,t],true) else Ar.l2 k n w x (y+1)) (fun k=>?_) ?_
   ·simp only [Ar.l2]
    rw [wc (by omega) (by omega) hy (by omega),ew,en,ex,en2,if_pos c,w64 (x:=y*y) (by omega) (by omega),w64 (x:=n-w*w-x*x-y*y) (by omega) (by omega),w64 (x:=y+1) (by omega) (by omega)]
   ·refine (J6 (n-w*w-x*x-y*y) (by omega) (by omega)).bind ?_
    have hi:=EW (n-w*w-x*x-y*y)
    by_cases c2:isq (n-w*w-x*x-y*y)*isq (n-w*w-x*x-y*y)=n-w*w-x*x-y*y
    ·simp only [if_pos c2,if_pos (show isq (n-w*w-x*x-y*y)≥0 from hi)]
     rw [F5 (f:=fun y=>sqs 0 y (n-w*w-x*x-y*y)) (by omega) hy c (NA c2 (by omega) hy)]
     exact Ev.now _
    ·simp only [if_neg c2,if_neg (show ¬(-1:Int)≥0 by decide)]
     rw [FC (f:=fun y=>sqs 0 y (n-w*w-x*x-y*y)) (by omega) hy c (Nx c2)]
     exact ih (y+1) (by omega) (by omega) (by omega)
  ·rw [Ec _ c]
   refine Ev.step (fun k=>?_) h
   simp only [Ar.l2]
   rw [wc (by omega) (by omega) hy (by omega),ew,en,ex,en2,if_neg c,e1]
theorem four1 (n w:Int) (hn0:0≤n) (hn:n≤2000) (hw:0≤w) (hw2:w*w≤n) (R0:List Int×Bool) (h:Ev (fun k=>Ar.l0 k n (w+1)) R0) : ∀(d:Nat) (x:Int),0≤x→x≤2100→(n-w*w+2-x).toNat=d→
  Ev (fun k=>Ar.l1 k n w x) (ans w R0 (D7 (fun x=>sqs 1 x (n-w*w-x*x)) 3 (n-w*w) (n-w*w+2-x).toNat x)):=by
 have hsw:=sq_nonneg w
 have hwb:=(Ek (c:=1) (left:=n) (x:=w) (by omega) hw (by omega)).2
 have ew:wrap64 (w*w)=w*w:=w64 (by omega) (by omega)
 have en:wrap64 (n-w*w)=n-w*w:=w64 (by omega) (by omega)
 have e1:wrap64 (w+1)=w+1:=w64 (by omega) (by omega)
 have stop : ∀x:Int,0≤x→x≤2100→¬x*x*3≤n-w*w→Ev (fun k=>Ar.l1 k n w x) R0:=by
  intro x hx hX c
  refine Ev.step (fun k=>?_) h
  simp only [Ar.l1]
  rw [wc (by omega) (by omega) hx (by omega),ew,en,if_neg c,e1]
 intro d
 induction d with
 | zero =>
  intro x hx hX hd
  have : ¬x*x*3≤n-w*w:=fun c=>by have:=Ek (c:=3) (by omega) hx c;omega
  rw [Ec _ this]
  exact stop x hx hX this
 | succ d ih =>
  intro x hx hX hd
  by_cases c:x*x*3≤n-w*w
  ·have hb:=Ek (c:=3) (by omega) hx c
   have IH:=ih (x+1) (by omega) (by omega) (by omega)
   have h1:=four2 n w x hn0 hn hw hw2 hx hb.1 _ IH (n-w*w-x*x+2-x).toNat x hx (by omega) rfl
   have e:D7 (fun y=>sqs 0 y (n-w*w-x*x-y*y)) 2 (n-w*w-x*x) (n-w*w-x*x+2-x).toNat x=sqs 1 x (n-w*w-x*x):=by simp only [sqs];rfl
   rw [e] at h1
   refine Ev.step (f:=fun k=>Ar.l2 k n w x x) (fun k=>?_) ?_
   ·simp only [Ar.l1]
    rw [wc (by omega) (by omega) hx (by omega),ew,en,if_pos c]
   ·cases hq:sqs 1 x (n-w*w-x*x) with
    | some r=>rw [F5 (f:=fun x=>sqs 1 x (n-w*w-x*x)) (by omega) hx c hq];rw [hq] at h1;exact h1
    | none=>rw [FC (f:=fun x=>sqs 1 x (n-w*w-x*x)) (by omega) hx c hq];rw [hq] at h1;exact h1
  ·rw [Ec _ c]
   exact stop x hx hX c
theorem four0 (n:Int) (hn0:0≤n) (hn:n≤2000) : ∀(d:Nat) (x:Int),0≤x→x≤2100→(n+2-x).toNat=d→
  Ev (fun k=>Ar.l0 k n x) (fin (D7 (fun x=>sqs 2 x (n-x*x)) 4 n (n+2-x).toNat x)):=by
 have stop : ∀x:Int,0≤x→x≤2100→¬x*x*4≤n→Ev (fun k=>Ar.l0 k n x) ([],false):=by
  intro x hx hX c
  refine Ev.step (f:=fun k=>Ar.j1 k n x false) (fun k=>?_) (Ev.step (f:=fun _=>some ([],false)) (fun k=>?_) (Ev.now _))
  ·simp only [Ar.l0]
   rw [wc (by omega) (by omega) hx (by omega),if_neg c]
  ·simp [Ar.j1]
 intro d
 induction d with
 | zero =>
  intro x hx hX hd
  have : ¬x*x*4≤n:=fun c=>by have:=Ek (c:=4) (by omega) hx c;omega
  rw [Ec _ this]
  exact stop x hx hX this
 | succ d ih =>
  intro x hx hX hd
  by_cases c:x*x*4≤n
  ·have hb:=Ek (c:=4) (by omega) hx c
   have IH:=ih (x+1) (by omega) (by omega) (by omega)
   have h1:=four1 n x hn0 hn hx hb.1 _ IH (n-x*x+2-x).toNat x hx (by omega) rfl
   have e:D7 (fun y=>sqs 1 y (n-x*x-y*y)) 3 (n-x*x) (n-x*x+2-x).toNat x=sqs 2 x (n-x*x):=by simp only [sqs];rfl
   rw [e] at h1
   refine Ev.step (f:=fun k=>Ar.j1 k n x true) (fun k=>?_) (Ev.step (f:=fun k=>Ar.l1 k n x x) (fun k=>?_) ?_)
   ·simp only [Ar.l0,Eh.f,CC.f]
    rw [wc (by omega) (by omega) hx (by omega),if_pos c,if_pos hn0,decide_eq_true hn]
    simp
   ·simp [Ar.j1]
   ·cases hq:sqs 2 x (n-x*x) with
    | some r=>rw [F5 (f:=fun x=>sqs 2 x (n-x*x)) (by omega) hx c hq];rw [hq] at h1;exact h1
    | none=>rw [FC (f:=fun x=>sqs 2 x (n-x*x)) (by omega) hx c hq];rw [hq] at h1;exact h1
  ·rw [Ec _ c]
   exact stop x hx hX c
theorem IK (n:Int) (hw : -9223372036854775808≤n):Ev (fun k=>Ar.f k n) (if 0≤n∧n≤2000 then fin (sqs 3 0 n) else ([],false)):=by
 unfold Ar.f
 by_cases h:0≤n∧n≤2000
 ·rw [if_pos h]
  have:=four0 n h.1 h.2 (n+2).toNat 0 (by omega) (by omega) (by simp)
  have e:sqs 3 0 n=D7 (fun x=>sqs 2 x (n-x*x)) 4 n (n+2-0).toNat 0:=by simp only [sqs];rfl
  rw [e];exact this
 ·rw [if_neg h]
  refine Ev.step (f:=fun k=>Ar.j1 k n 0 false) (fun k=>?_) (Ev.step (f:=fun _=>some ([],false)) (fun k=>?_) (Ev.now _))
  ·simp only [Ar.l0,Eh.f,CC.f]
   have e:wrap64 (wrap64 (4*0)*0)=0:=by decide +kernel
   rw [e]
   by_cases h0:0≤n
   ·rw [if_pos h0,if_pos h0,decide_eq_false (by omega)];simp
   ·rw [if_neg h0]
  ·simp [Ar.j1]
theorem IL (n:Int):Da.f n=some (if 0≤n∧n≤2000 then fin (sqs 3 0 n) else ([],false)):=by
 unfold Da.f Dy.f
 rw [if_pos (by omega)]
 by_cases h:0≤n∧n≤2000
 ·rw [if_neg (by omega),if_pos h,show ((4:Int)-1).toNat=3 from rfl]
  cases hq:sqs 3 0 n<;>simp [fin]
 ·rw [if_pos (by omega),if_neg h];simp
theorem Jp {f:Int→Option (List Int)} {c left:Int} {m:Nat} (hf : ∀x r,f x=some r→r.length=m) : ∀(d:Nat) (x:Int) (r:List Int),D7 f c left d x=some r→r.length=m+1
 | 0,_,_,h=>by simp [D7] at h
 | d+1,x,r,h=>by
  simp only [D7] at h
  split at h
  ·split at h
   ·rename_i r' hr
    injection h with h
    rw [← h,List.length_cons,hf x r' hr]
   ·exact Jp hf d (x+1) r h
  ·cases h
theorem L0 : ∀(m:Nat) (low left:Int) (r:List Int),sqs m low left=some r→r.length=m+1
 | 0,low,left,r,h=>by
  simp only [sqs] at h
  split at h
  ·injection h with h;rw [← h];rfl
  ·cases h
 | m+1,low,left,r,h=>by
  simp only [sqs] at h
  exact Jp (fun x r hr=>L0 m _ _ r hr) _ _ _ h
theorem fin_len (m:Nat) (n:Int):(if 0≤n∧n≤2000 then fin (sqs m 0 n) else ([],false)).1.length≤m+1:=by
 split
 ·cases hq:sqs m 0 n with
  | none=>simp [fin]
  | some r=>have:=L0 m 0 n r hq;simp [fin,this]
 ·simp
theorem OD {a n:Int}:gI a n=gI n (a.tmod n):=by
 have e:=Int.mul_tdiv_add_tmod a n
 refine MI (DD _ _) (DD _ _) (OU (FX a n).2 ?_) (OU ?_ (FX n _).1)
 ·have h1:=(FX a n).1
  have h2:gI a n∣n*a.tdiv n:=Int.dvd_trans (FX a n).2 (Int.dvd_mul_right _ _)
  have h3:=Int.dvd_sub h1 h2
  rw [show a-n*a.tdiv n=a.tmod n by omega] at h3
  exact h3
 ·have h1:=(FX n (a.tmod n)).2
  have h2:gI n (a.tmod n)∣n*a.tdiv n:=Int.dvd_trans (FX n (a.tmod n)).1 (Int.dvd_mul_right _ _)
  have h3:=Int.dvd_add h2 h1
  rw [e] at h3
  exact h3
theorem N6 (a b:Int):gI a (absI b)=gI a b:=by unfold gI absI;simp [Int.gcd]
theorem LF (a b:Int):gI (absI a) b=gI a b:=by rw [Gh,N6,Gh]
theorem JW {a:Int} (h:0≤a):gI a 0=a:=by unfold gI;rw [Int.gcd_zero_right];omega
theorem OM {a n:Int} (ha:0≤a) (hn:0<n):0≤a.tmod n∧a.tmod n<n:=⟨Int.tmod_nonneg n ha,by rw [Int.tmod_eq_emod_of_nonneg ha];exact Int.emod_lt_of_pos a hn⟩
theorem gcdIn_l (xs:List Int) (j:Nat) (hj:j<1000000) (v:Int) : ∀(d:Nat) (a n:Int),0≤a→0≤n→n.toNat≤d→
  Ev (fun k=>Cj.l0 k (gI a n) xs (xs.length:Int) ((j+1:Nat):Int)) v→Ev (fun k=>Cj.l1 k a n xs (xs.length:Int) j) v:=by
 intro d
 induction d with
 | zero =>
  intro a n ha hn hd hv
  obtain rfl:n=0:=by omega
  rw [JW ha] at hv
  refine Ev.step (fun k=>?_) hv
  simp only [Cj.l1]
  rw [if_pos trivial,w64 (x:=(j:Int)+1) (by omega) (by omega)]
  rfl
 | succ d ih =>
  intro a n ha hn hd hv
  by_cases c:n=0
  ·subst c
   rw [JW ha] at hv
   refine Ev.step (fun k=>?_) hv
   simp only [Cj.l1]
   rw [if_pos trivial,w64 (x:=(j:Int)+1) (by omega) (by omega)]
   rfl
  ·have hb:=OM ha (show 0<n by omega)
   rw [OD] at hv
   refine Ev.step (fun k=>?_) (ih n (a.tmod n) hn hb.1 (by omega) hv)
   simp only [Cj.l1]
   rw [if_neg c]
theorem gcd_l (xs:List Int) (hx : ∀x∈xs,x.natAbs≤4000000000000000000) (hl:xs.length≤100000) : ∀(d j:Nat) (g:Int),j+d=xs.length→0≤g→
  Ev (fun k=>Cj.l0 k g xs (xs.length:Int) j) (gcdL (xs.drop j) g):=by
 intro d
 induction d with
 | zero =>
  intro j g hj hg
  rw [List.drop_of_length_le (by omega)]
  refine Ev.step (f:=fun _=>some g) (fun k=>?_) (Ev.now _)
  simp only [Cj.l0]
  rw [if_neg (by omega)]
 | succ d ih =>
  intro j g hj hg
  rw [CQ (show j<xs.length by omega)]
  have hm:=hx _ (DA (xs:=xs) (j:=j) (by omega))
  refine Ev.step (f:=fun k=>Cj.l1 k g (absI (rd xs (j:Int))) xs (xs.length:Int) j) (fun k=>?_) ?_
  ·simp only [Cj.l0]
   rw [if_pos (by omega),if_pos (by omega),if_pos (by omega)]
   simp only [BB.f,Option.bind_some]
   rw [EL (n:=rd xs (j:Int)) (by omega) (by omega)]
  ·refine gcdIn_l xs j (by omega) _ (absI (rd xs (j:Int))).toNat g (absI (rd xs (j:Int))) hg (LC _) (by omega) ?_
   rw [N6]
   exact ih (j+1) (gI g (rd xs (j:Int))) (by omega) (DD _ _)
theorem Pu (xs:List Int) (hx : ∀x∈xs,x.natAbs≤4000000000000000000) (hl:xs.length≤100000):Ev (fun k=>Cj.f k xs) (gcdF xs):=by
 unfold Cj.f
 have:=gcd_l xs hx hl xs.length 0 0 (by omega) (by omega)
 rw [List.drop_zero] at this
 exact this
theorem l1Gcd_l : ∀(d:Nat) (a n:Int),0≤a→0≤n→n.toNat≤d→Ev (fun k=>Cd.l0 k a n) (gI a n):=by
 intro d
 induction d with
 | zero =>
  intro a n ha hn hd
  obtain rfl:n=0:=by omega
  rw [JW ha]
  refine Ev.step (f:=fun _=>some a) (fun k=>?_) (Ev.now _)
  simp only [Cd.l0]
  rw [if_pos trivial]
 | succ d ih =>
  intro a n ha hn hd
  by_cases c:n=0
  ·subst c
   rw [JW ha]
   refine Ev.step (f:=fun _=>some a) (fun k=>?_) (Ev.now _)
   simp only [Cd.l0]
   rw [if_pos trivial]
  ·have hb:=OM ha (show 0<n by omega)
   rw [OD]
   refine Ev.step (fun k=>?_) (ih n (a.tmod n) hn hb.1 (by omega))
   simp only [Cd.l0]
   rw [if_neg c]
theorem JE {a b:Int} (ha:a.natAbs≤4000000000000000000) (hb:b.natAbs≤4000000000000000000):Ev (fun k=>Cd.f k a b) (gI a b):=by
 simp only [Cd.f,Bc.f,Option.bind_some]
 rw [EL (by omega) (by omega),EL (by omega) (by omega),← N6 a b,← LF a]
 exact l1Gcd_l _ _ _ (LC _) (LC _) (Nat.le_refl _)
theorem Gk {x d:Int} (h:x.natAbs≤4000000000000000000):wrap64 (x.tdiv d)=x.tdiv d:=by
 have:=EZ (x:=x) (d:=d)
 exact w64 (by omega) (by omega)
theorem plain1_l {d:Int} (hd:d≠0) (xs:List Int) (hx : ∀x∈xs,x.natAbs≤4000000000000000000) (hl:xs.length≤100000) : ∀(m j:Nat) (out:List Int),j+m=xs.length→out.length≤5000+j→
  Ev (fun k=>Bf.l1 k d out xs (xs.length:Int) j) (out++(xs.drop j).map fun x=>x.tdiv d):=by
 intro m
 induction m with
 | zero =>
  intro j out hj ho
  rw [List.drop_of_length_le (by omega)]
  refine Ev.step (f:=fun _=>some out) (fun k=>?_) (by simpa using Ev.now _)
  simp only [Bf.l1]
  rw [if_neg (by omega)]
 | succ m ih =>
  intro j out hj ho
  rw [CQ (show j<xs.length by omega),List.map_cons]
  have hm:=hx _ (DA (xs:=xs) (j:=j) (by omega))
  have h2:=ih (j+1) (out++[(rd xs (j:Int)).tdiv d]) (by omega) (by simp;omega)
  rw [List.append_assoc] at h2
  refine Ev.step (fun k=>?_) h2
  simp only [Bf.l1]
  rw [if_pos (by omega),if_pos (by omega),if_pos (by omega),if_neg hd,if_pos (by omega),Gk hm,w64 (x:=(j:Int)+1) (by omega) (by omega)]
  rfl
theorem plain0_l (xs:List Int) (hx : ∀x∈xs,x.natAbs≤4000000000000000000) (hl:xs.length≤100000) (g:Int) (hg:0≤g) (hG:g≤4000000000000000000) (v:List Int) : ∀m j:Nat,j+m=xs.length→
  Ev (fun k=>Bf.j1 k xs (Fc (xs.drop j) g)) v→Ev (fun k=>Bf.l0 k xs g xs (xs.length:Int) j) v:=by
 intro m
 induction m with
 | zero =>
  intro j hj hv
  rw [List.drop_of_length_le (by omega)] at hv
  refine Ev.step (fun k=>?_) hv
  simp only [Bf.l0,Fc]
  rw [if_neg (by omega)]
 | succ m ih =>
  intro j hj hv
  rw [CQ (show j<xs.length by omega)] at hv
  simp only [Fc] at hv
  by_cases c:rd xs (j:Int)=0
  ·rw [if_pos c] at hv
   refine Ev.step (fun k=>?_) (ih (j+1) (by omega) hv)
   simp only [Bf.l0]
   rw [if_pos (by omega),if_pos (by omega),if_pos (by omega),if_pos c,w64 (x:=(j:Int)+1) (by omega) (by omega)]
   rfl
  ·rw [if_neg c] at hv
   refine Ev.step (fun k=>?_) hv
   simp only [Bf.l0]
   rw [if_pos (by omega),if_pos (by omega),if_pos (by omega),if_neg c]
   by_cases c2:rd xs (j:Int)<0
   ·rw [if_pos c2,if_pos c2,w64 (x := -g) (by omega) (by omega)]
   ·rw [if_neg c2,if_neg c2]
theorem LI {xs:List Int} {M:Nat} (h : ∃x∈xs,x≠0) (hx : ∀x∈xs,x.natAbs≤M):gcdF xs≤M:=by
 obtain ⟨x,hm,h0⟩:=h
 have h1:=(Eo xs).2.1 x hm
 have h2:=Nat.le_of_dvd (by omega) (Int.natAbs_dvd_natAbs.2 h1)
 have h3:=hx x hm
 have:=(Eo xs).1
 omega
theorem Hv {xs:List Int} (h : ∃x∈xs,x≠0) (hx : ∀x∈xs,x.natAbs≤4000000000000000000) (hl:xs.length≤100000):Ev (fun k=>Bf.f k xs) (DM xs):=by
 unfold Bf.f
 refine (Pu xs hx hl).bind ?_
 refine plain0_l xs hx hl _ (Eo xs).1 (by have:=LI h hx;omega) _ xs.length 0 (by omega) ?_
 rw [List.drop_zero]
 refine Ev.step (f:=fun k=>Bf.l1 k (Fc xs (gcdF xs)) [] xs (xs.length:Int) (0:Nat)) (fun k=>by simp only [Bf.j1];rfl) ?_
 have:=plain1_l (Mq h) xs hx hl xs.length 0 [] (by omega) (by simp)
 rw [List.drop_zero,List.nil_append] at this
 exact this
theorem KT : ∀(xs:List Int) (d:Int),Fc xs d=Fc xs 1*d
 | [],d=>by simp [Fc]
 | x::xs,d=>by
  simp only [Fc]
  split
  ·exact KT xs d
  ·split<;>omega
theorem sign_tdiv {s x g:Int} (hs:s=1∨s = -1):(s*x).tdiv g=x.tdiv (s*g):=by
 rcases hs with rfl|rfl
 ·rw [Int.one_mul,Int.one_mul]
 ·rw [Int.neg_mul,Int.one_mul,Int.neg_mul,Int.one_mul,Int.neg_tdiv,Int.tdiv_neg]
theorem Np {g s:Int} (hg:g≠0) (hs:s=1∨s = -1) (xs:List Int) (hx : ∀x∈xs,x.natAbs≤4000000000000000000) (hl:xs.length≤100000) : ∀(m j:Nat) (out:List Int),j+m=xs.length→out.length≤5000+j→
  Ev (fun k=>AL.l1 k xs g s out j) (out++(xs.drop j).map fun x=>x.tdiv (s*g)):=by
 intro m
 induction m with
 | zero =>
  intro j out hj ho
  rw [List.drop_of_length_le (by omega)]
  refine Ev.step (f:=fun _=>some out) (fun k=>?_) (by simpa using Ev.now _)
  simp only [AL.l1]
  rw [if_neg (by omega)]
 | succ m ih =>
  intro j out hj ho
  rw [CQ (show j<xs.length by omega),List.map_cons]
  have hm:=hx _ (DA (xs:=xs) (j:=j) (by omega))
  have h2:=ih (j+1) (out++[(rd xs (j:Int)).tdiv (s*g)]) (by omega) (by simp;omega)
  rw [List.append_assoc] at h2
  have e1:wrap64 (s*rd xs (j:Int))=s*rd xs (j:Int):=w64 (by rcases hs with rfl|rfl<;>omega) (by rcases hs with rfl|rfl<;>omega)
  refine Ev.step (fun k=>?_) h2
  simp only [AL.l1]
  rw [if_pos (by omega),if_pos (by omega),if_neg hg,if_pos (by omega),e1,sign_tdiv hs,Gk hm,w64 (x:=(j:Int)+1) (by omega) (by omega)]
  rfl
theorem gcdL_bd : ∀(xs:List Int) (g:Int),0≤g→g≤4000000000000000000→(∀x∈xs,x.natAbs≤4000000000000000000)→gI g (xs.headD 0)≤4000000000000000000:=by
 intro xs g h0 h1 hx
 by_cases c:g=0
 ·subst c
  by_cases c2:xs.headD 0=0
  ·rw [c2];unfold gI;simp
  ·have h2:=L9 (b:=0) c2
   rw [Gh] at h2
   cases xs with
   | nil=>simp at c2
   | cons x xs =>
    have:=hx x (by simp)
    simp only [List.headD_cons] at h2 ⊢
    omega
 ·have:=L9 (b:=xs.headD 0) c;omega
theorem Nq (xs:List Int) (hx : ∀x∈xs,x.natAbs≤4000000000000000000) (hl:xs.length≤100000) (v:List Int) : ∀(m j:Nat) (g s:Int) (b:Bool),j+m=xs.length→0≤g→g≤4000000000000000000→(b=true→s=1)→
  Ev (fun k=>AL.l1 k xs (gcdL (xs.drop j) g) (if b then Fc (xs.drop j) 1 else s) [] 0) v→Ev (fun k=>AL.l0 k xs g s b j) v:=by
 intro m
 induction m with
 | zero =>
  intro j g s b hj h0 h1 hb hv
  rw [List.drop_of_length_le (by omega)] at hv
  refine Ev.step (fun k=>?_) hv
  simp only [AL.l0,gcdL,Fc]
  rw [if_neg (by omega)]
  cases b with
  | true=>rw [hb rfl];rfl
  | false=>rfl
 | succ m ih =>
  intro j g s b hj h0 h1 hb hv
  have hm:=hx _ (DA (xs:=xs) (j:=j) (by omega))
  have hG:=gcdL_bd (xs.drop j) g h0 h1 (fun x hx'=>hx x (List.mem_of_mem_drop hx'))
  rw [CQ (show j<xs.length by omega)] at hv hG
  simp only [gcdL,Fc,List.headD_cons] at hv hG
  apply Ev.step
  ·intro k
   simp only [AL.l0]
   rw [if_pos (by omega),if_pos (by omega)]
  ·refine (JE (a:=g) (b:=rd xs (j:Int)) (by omega) (by omega)).bind ?_
   by_cases c:rd xs (j:Int)=0
   ·simp only [if_pos c] at hv ⊢
    refine Ev.step (fun k=>?_) (ih (j+1) _ s b (by omega) (DD _ _) hG hb hv)
    simp only [AL.j1]
    rw [if_neg (by simp),w64 (x:=(j:Int)+1) (by omega) (by omega)]
    rfl
   ·simp only [if_neg c] at hv ⊢
    cases b with
    | false =>
     refine Ev.step (fun k=>?_) (ih (j+1) _ s false (by omega) (DD _ _) hG hb hv)
     simp only [AL.j1]
     rw [if_neg (by simp),w64 (x:=(j:Int)+1) (by omega) (by omega)]
     rfl
    | true =>
     obtain rfl:=hb rfl
     by_cases c2:rd xs (j:Int)<0
     ·simp only [if_pos c2,if_true] at hv
      refine Ev.step (fun k=>?_) (ih (j+1) _ (-1) false (by omega) (DD _ _) hG (by simp) (by simpa using hv))
      simp only [AL.j1]
      rw [if_pos trivial,if_pos (by omega),if_pos (by omega),if_pos c2,w64 (x:=(j:Int)+1) (by omega) (by omega)]
      rfl
     ·simp only [if_neg c2,if_true] at hv
      refine Ev.step (fun k=>?_) (ih (j+1) _ 1 false (by omega) (DD _ _) hG (by simp) (by simpa using hv))
      simp only [AL.j1]
      rw [if_pos trivial,if_pos (by omega),if_pos (by omega),if_neg c2,w64 (x:=(j:Int)+1) (by omega) (by omega)]
      rfl
theorem Ga {xs:List Int} (h : ∃x∈xs,x≠0) (hx : ∀x∈xs,x.natAbs≤4000000000000000000) (hl:xs.length≤100000):Ev (fun k=>AL.f k xs) (DM xs):=by
 unfold AL.f
 refine Nq xs hx hl _ xs.length 0 0 1 true (by omega) (by omega) (by omega) (fun _=>rfl) ?_
 rw [List.drop_zero]
 simp only [if_true]
 have h1:Fc xs 1=1∨Fc xs 1 = -1:=Hu xs 1
 have:=Np (g:=gcdF xs) (J0 h) h1 xs hx hl xs.length 0 [] (by omega) (by simp)
 rw [List.drop_zero,List.nil_append,← KT] at this
 exact this
theorem Cn {α:Type} {f g:Nat→Option α} {v:α} (h : ∀k,f k=g k) (hg:Ev g v):Ev f v:=by
 have:f=g:=funext h
 rw [this];exact hg
def shP (a b c:Int):Int×Int×Int:=if 1<gI a b then (0,1,minP (gI a b)) else if 1<gI a c then (0,2,minP (gI a c)) else if 1<gI b c then (1,2,minP (gI b c)) else (0,0,0)
theorem gcdF_two (a b:Int):gcdF [a,b]=gI a b:=by
 unfold gcdF
 simp only [gcdL]
 have:gI 0 a=absI a:=by unfold gI absI;rw [Int.gcd_zero_left]
 rw [this,LF]
theorem I9 {d:Int} (h:1<d) (hN:d.natAbs<2 ^ 63):0<(CZ d).length:=(KS h hN).2.2
theorem Lz {l0:List Int} {p q a b:Int} {next:Nat→Option (Int×Int×Int)} {v:Int×Int×Int} (hp:rd l0 p=a) (hq:rd l0 q=b) (ha:a≠0) (hA:a.natAbs≤1000000000) (hB:b.natAbs≤1000000000)
  (hn : ¬1<gI a b→Ev next v) (hv:1<gI a b→v=(p,q,minP (gI a b))):Ev (fun k=>shAt l0 k p q (next k)) v:=by
 unfold shAt
 rw [hp,hq]
 refine (Pu [a,b] (by intro x hx;simp at hx;rcases hx with rfl|rfl<;>omega) (by simp)).bind ?_
 rw [gcdF_two]
 have h1:=L9 (b:=b) ha
 have h2:=DD a b
 by_cases c:1<gI a b
 ·refine Cn (g:=fun k=>(Bw.f k (gI a b)).bind fun ps=>if 0<ps.length then some (p,q,rd ps 0) else none) (fun k=>if_pos c) ?_
  refine (Gt (n:=gI a b) (by omega) (by omega)).bind ?_
  refine Cn (g:=fun _=>some (p,q,rd (CZ (gI a b)) 0)) (fun k=>if_pos (I9 c (by omega))) ?_
  rw [hv c];exact Ev.now _
 ·exact Cn (fun k=>if_neg c) (hn c)
theorem Kx {a b c:Int} (ha:a≠0) (hb:b≠0) (hA:a.natAbs≤1000000000) (hB:b.natAbs≤1000000000) (hC:c.natAbs≤1000000000):Ev (fun k=>Cq.f k [a,b,c]) (shP a b c):=by
 refine Cn (g:=fun k=>shAt [a,b,c] k 0 1 (shAt [a,b,c] k 0 2 (shAt [a,b,c] k 1 2 (some (0,0,0))))) (fun k=>by unfold Cq.f shF;exact if_pos (by simp)) ?_
 unfold shP
 refine Lz (a:=a) (b:=b) rfl rfl ha hA hB (fun h1=>?_) (fun h1=>if_pos h1)
 rw [if_neg h1]
 refine Lz (a:=a) (b:=c) rfl rfl ha hA hC (fun h2=>?_) (fun h2=>if_pos h2)
 rw [if_neg h2]
 refine Lz (a:=b) (b:=c) rfl rfl hb hB hC (fun h3=>?_) (fun h3=>if_pos h3)
 rw [if_neg h3]
 exact Ev.now _
def twoP (a b c:Int):Int×Int:=if 1<gI a b then (minP (gI a b),2) else if 1<gI a c then (minP (gI a c),1) else if 1<gI b c then (minP (gI b c),0) else (1,0)
theorem Ll {xs:List Int} {t p q a b:Int} {v:Int×Int} (ht:0≤t) (ht2:t≤2) (hp:(wrap64 (t+1)).tmod 3=p) (hq:(wrap64 (t+2)).tmod 3=q) (hp0:0≤p) (hp1:p<xs.length) (hq0:0≤q) (hq1:q<xs.length)
  (hpa:rd xs p=a) (hqb:rd xs q=b) (ha:a≠0) (hA:a.natAbs≤1000000000) (hB:b.natAbs≤1000000000)
  (hn : ¬1<gI a b→Ev (fun k=>Bq.l0 k xs (t-1)) v) (hv:1<gI a b→v=(minP (gI a b),t)):Ev (fun k=>Bq.l0 k xs t) v:=by
 apply Ev.step
 ·intro k
  simp only [Bq.l0]
  rw [if_pos ht,hp,hq,if_pos hp0,if_pos hp1,if_pos hq0,if_pos hq1,hpa,hqb,w64 (x:=t-1) (by omega) (by omega)]
 ·refine (JE (a:=a) (b:=b) (by omega) (by omega)).bind ?_
  have h1:=L9 (b:=b) ha
  have h2:=DD a b
  by_cases c:1<gI a b
  ·refine Cn (g:=fun k=>(AG.f k (gI a b)).bind fun ps=>if 0<(ps.length:Int) then some (rd ps 0,t) else none) (fun k=>if_pos c) ?_
   refine (IQ (n:=gI a b) (by omega) (by omega)).bind ?_
   refine Cn (g:=fun _=>some (rd (CZ (gI a b)) 0,t)) (fun k=>if_pos (by have:=I9 c (by omega);omega)) ?_
   rw [hv c];exact Ev.now _
  ·exact Cn (fun k=>if_neg c) (hn c)
theorem Mo {a b c:Int} (ha:a≠0) (hb:b≠0) (hc:c≠0) (hA:a.natAbs≤1000000000) (hB:b.natAbs≤1000000000) (hC:c.natAbs≤1000000000):Ev (fun k=>Bq.f k [a,b,c]) (twoP a b c):=by
 unfold Bq.f twoP
 refine Ll (p:=0) (q:=1) (a:=a) (b:=b) (by omega) (by omega) (by decide +kernel) (by decide +kernel) (by omega) (by simp) (by omega) (by simp) rfl rfl ha hA hB (fun h1=>?_) (fun h1=>if_pos h1)
 rw [if_neg h1]
 refine Ll (t:=1) (p:=2) (q:=0) (a:=c) (b:=a) (by omega) (by omega) (by decide +kernel) (by decide +kernel) (by omega) (by simp) (by omega) (by simp) rfl rfl hc hC hA (fun h2=>?_) (fun h2=>?_)
 ·rw [Gh] at h2
  rw [if_neg h2]
  refine Ll (t:=0) (p:=1) (q:=2) (a:=b) (b:=c) (by omega) (by omega) (by decide +kernel) (by decide +kernel) (by omega) (by simp) (by omega) (by simp) rfl rfl hb hB hC (fun h3=>?_) (fun h3=>if_pos h3)
  rw [if_neg h3]
  refine Ev.step (f:=fun _=>some (1,0)) (fun k=>?_) (Ev.now _)
  simp only [Bq.l0]
  rw [if_neg (by omega)]
 ·rw [if_pos (show 1<gI a c by rw [Gh];exact h2),Gh c a]
theorem rd0 (a b c:Int):rd [a,b,c] 0=a:=rfl
theorem rd1 (a b c:Int):rd [a,b,c] 1=b:=rfl
theorem rd2 (a b c:Int):rd [a,b,c] 2=c:=rfl
theorem st0 (a b c v:Int):[a,b,c].set ((0:Int)).toNat v=[v,b,c]:=rfl
theorem st1 (a b c v:Int):[a,b,c].set ((1:Int)).toNat v=[a,v,c]:=rfl
theorem st2 (a b c v:Int):[a,b,c].set ((2:Int)).toNat v=[a,b,v]:=rfl
def outN (s:T6):List Int×List Int:=([s.1.1,s.1.2.1,s.1.2.2],[s.2.1,s.2.2.1,s.2.2.2])
def outN3 (s:T6):List Int×List Int×Bool:=([s.1.1,s.1.2.1,s.1.2.2],[s.2.1,s.2.2.1,s.2.2.2],true)
theorem ED {A B C l a b c x y z:Int} {M:Nat} (h:NI A B C M l a b c x y z) (hM:M≤1000000000):a.natAbs≤1000000000∧b.natAbs≤1000000000∧c.natAbs≤1000000000∧x≤40000∧y≤40000∧z≤40000:=by
 have h1:=h.bd
 have h2:=h.turn.bd
 have h3:=h.back.bd
 have lt : ∀ {t:Int},1≤t→t*t≤(M:Int)→t≤40000:=fun {t} p q=>by have:=D3 (a:=t) (b:=40001) (by omega) (by omega);omega
 exact ⟨by omega,by omega,by omega,lt h.hx h1.2.1,lt h.hy h2.2.1,lt h.hz h3.2.1⟩
theorem Dp {a p:Int} (h:a.natAbs≤1000000000):wrap64 (a.tdiv p)=a.tdiv p:=Gk (by omega)
theorem Pc {A B C:Int} {M:Nat} (hM:M≤1000000000) : ∀(m:Nat) (l a b c x y z:Int),NI A B C M l a b c x y z→(a*b*c).natAbs<2 ^ m→
  Ev (fun k=>Aw.l1 k [a,b,c] [x,y,z]) (outN3 (nrm m a b c x y z)):=by
 intro m
 induction m with
 | zero =>
  intro l a b c x y z h hk
  have:=Int.mul_ne_zero (Int.mul_ne_zero h.sa.1 h.sb.1) h.sc.1
  omega
 | succ m ih =>
  intro l a b c x y z h hk
  rw [Nat.pow_succ] at hk
  obtain ⟨b1,b2,b3,b4,b5,b6⟩:=ED h hM
  apply Ev.step
  ·intro k
   simp only [Aw.l1]
   rfl
  refine (Kx h.sa.1 h.sb.1 b1 b2 b3).bind ?_
  simp only [nrm]
  by_cases g1:1<gI a b
  ·simp only [shP,if_pos g1]
   obtain ⟨pp,pa,pb,_⟩:=gp h (by omega) g1
   have p2:=pp.1
   generalize minP (gI a b)=p at *
   have e3:wrap64 (wrap64 (3-0)-1)=2:=by decide +kernel
   by_cases c1:c.tmod p=0
   ·simp only [if_pos c1]
    obtain ⟨h1,h2⟩:=h.div3 pp pa pb (Dg.1 c1)
    refine Cn (fun k=>?_) (ih _ _ _ _ _ _ _ h1 (by omega))
    rw [if_neg (by omega),if_pos (by omega),if_pos (by simp),Option.bind_some,if_pos (by omega),if_pos (by simp),Option.bind_some,e3,if_pos (by omega),if_pos (by simp)]
    simp only [rd0,rd1,rd2,st0,st1,st2,Dp b1,Dp b2,Dp b3]
    rw [if_pos c1]
   ·simp only [if_neg c1]
    obtain ⟨h1,h2⟩:=h.div2 pp pa pb (fun e=>c1 (Dg.2 e))
    obtain ⟨s1,s2,s3,s4,s5,s6⟩:=ED h1 hM
    refine Cn (fun k=>?_) (ih _ _ _ _ _ _ _ h1 (by omega))
    rw [if_neg (by omega),if_pos (by omega),if_pos (by simp),Option.bind_some,if_pos (by omega),if_pos (by simp),Option.bind_some,e3,if_pos (by omega),if_pos (by simp)]
    have hz:=h1.hz
    simp only [rd0,rd1,rd2,st0,st1,st2,Dp b1,Dp b2]
    rw [if_neg c1,if_pos (by simp),w64 (x:=c*p) (by omega) (by omega),w64 (x:=z*p) (by omega) (by omega)]
  ·simp only [shP,if_neg g1]
   by_cases g2:1<gI a c
   ·simp only [if_pos g2]
    obtain ⟨pp,pa,pb,_⟩:=gp h.swap (by omega) g2
    have p2:=pp.1
    generalize minP (gI a c)=p at *
    have e3:wrap64 (wrap64 (3-0)-2)=1:=by decide +kernel
    by_cases c1:b.tmod p=0
    ·simp only [if_pos c1]
     obtain ⟨h1,h2⟩:=h.div3 pp pa (Dg.1 c1) pb
     refine Cn (fun k=>?_) (ih _ _ _ _ _ _ _ h1 (by omega))
     rw [if_neg (by omega),if_pos (by omega),if_pos (by simp),Option.bind_some,if_pos (by omega),if_pos (by simp),Option.bind_some,e3,if_pos (by omega),if_pos (by simp)]
     simp only [rd0,rd1,rd2,st0,st1,st2,Dp b1,Dp b2,Dp b3]
     rw [if_pos c1]
    ·simp only [if_neg c1]
     obtain ⟨h1,h2⟩:=h.swap.div2 pp pa pb (fun e=>c1 (Dg.2 e))
     obtain ⟨s1,s2,s3,s4,s5,s6⟩:=ED h1 hM
     refine Cn (fun k=>?_) (ih _ _ _ _ _ _ _ h1.swap ?_)
     ·rw [if_neg (by omega),if_pos (by omega),if_pos (by simp),Option.bind_some,if_pos (by omega),if_pos (by simp),Option.bind_some,e3,if_pos (by omega),if_pos (by simp)]
      have hz:=h1.hz
      simp only [rd0,rd1,rd2,st0,st1,st2,Dp b1,Dp b3]
      rw [if_neg c1,if_pos (by simp),w64 (x:=b*p) (by omega) (by omega),w64 (x:=y*p) (by omega) (by omega)]
     ·rw [show a.tdiv p*(b*p)*c.tdiv p=a.tdiv p*c.tdiv p*(b*p) by grind]
      rw [show a*c*b=a*b*c by grind] at h2
      omega
   ·simp only [if_neg g2]
    by_cases g3:1<gI b c
    ·simp only [if_pos g3]
     obtain ⟨pp,pa,pb,_⟩:=gp h.turn (by omega) g3
     have p2:=pp.1
     generalize minP (gI b c)=p at *
     have e3:wrap64 (wrap64 (3-1)-2)=0:=by decide +kernel
     by_cases c1:a.tmod p=0
     ·simp only [if_pos c1]
      obtain ⟨h1,h2⟩:=h.div3 pp (Dg.1 c1) pa pb
      refine Cn (fun k=>?_) (ih _ _ _ _ _ _ _ h1 (by omega))
      rw [if_neg (by omega),if_pos (by omega),if_pos (by simp),Option.bind_some,if_pos (by omega),if_pos (by simp),Option.bind_some,e3,if_pos (by omega),if_pos (by simp)]
      simp only [rd0,rd1,rd2,st0,st1,st2,Dp b1,Dp b2,Dp b3]
      rw [if_pos c1]
     ·simp only [if_neg c1]
      obtain ⟨h1,h2⟩:=h.turn.div2 pp pa pb (fun e=>c1 (Dg.2 e))
      obtain ⟨s1,s2,s3,s4,s5,s6⟩:=ED h1 hM
      refine Cn (fun k=>?_) (ih _ _ _ _ _ _ _ h1.back ?_)
      ·rw [if_neg (by omega),if_pos (by omega),if_pos (by simp),Option.bind_some,if_pos (by omega),if_pos (by simp),Option.bind_some,e3,if_pos (by omega),if_pos (by simp)]
       have hz:=h1.hz
       simp only [rd0,rd1,rd2,st0,st1,st2,Dp b2,Dp b3]
       rw [if_neg c1,if_pos (by simp),w64 (x:=a*p) (by omega) (by omega),w64 (x:=x*p) (by omega) (by omega)]
      ·rw [show a*p*b.tdiv p*c.tdiv p=b.tdiv p*c.tdiv p*(a*p) by grind]
       rw [show b*c*a=a*b*c by grind] at h2
       omega
    ·simp only [if_neg g3]
     refine Cn (g:=fun _=>some ([a,b,c],[x,y,z],true)) (fun k=>if_pos trivial) (Ev.now _)
theorem E4 {a:Int} (h:Sm a):1≤(Bv a).2∧(Bv a).2≤5∧(Bv a).1≠0∧(Bv a).1.natAbs≤30:=by
 have h1:=D2 h.1 (by have:=h.2;omega)
 have h2:=H7 h1
 have:=h.2
 refine ⟨h1.2.1,?_,h1.2.2.1,by omega⟩
 rw [← Int.natAbs_mul] at h2
 have:=sq_nonneg (Bv a).2
 have:=D3 (a:=(Bv a).2) (b:=6) (by omega) (by omega);omega
theorem rr {r s:Int} (h:1≤r∧r≤5) (h':1≤s∧s≤5):wrap64 (wrap64 (1*r)*s)=r*s:=by
 rw [Int.one_mul,w64 (x:=r) (by omega) (by omega)]
 have:=Dx (show 0≤r by omega) h.2 (show 0≤s by omega) h'.2
 have:=Int.mul_nonneg (show 0≤r by omega) (show 0≤s by omega)
 exact w64 (by omega) (by omega)
theorem MH {a b c:Int} (ha:Sm a) (hb:Sm b) (hc:Sm c):bd3 a b c≤27000:=by
 unfold bd3
 rw [Int.natAbs_mul,Int.natAbs_mul]
 have:=Nat.mul_le_mul (Nat.mul_le_mul ha.2 hb.2) hc.2
 omega
theorem JO {a b c:Int} (ha:Sm a) (hb:Sm b) (hc:Sm c):Ev (fun k=>Aw.f k [a,b,c]) (outN3 (nrm3 a b c)):=by
 have hs : ∀x∈[a,b,c],Sm x:=by intro x hx;simp at hx;rcases hx with rfl|rfl|rfl<;>assumption
 have hf:BK [a,b,c]=true:=BP.2 ⟨hs,by simp,by simp⟩
 unfold Aw.f
 refine (BR (xs:=[a,b,c]) (fun x hx=>by have:=(hs x hx).2;omega) (by simp)).bind ?_
 rw [hf]
 refine Cn (g:=fun k=>Aw.j0 k [a,b,c] false) (fun k=>if_pos rfl) ?_
 refine Ev.step (f:=fun k=>Aw.l0 k [a,b,c] [1,1,1] [a,b,c] 3 0) (fun k=>?_) ?_
 ·simp only [Aw.j0]
  rw [if_neg (by simp)]
  unfold Bn.f
  rw [if_pos (by simp),Option.bind_some]
  rfl
 obtain ⟨a1,a2,a3,a4⟩:=E4 ha
 obtain ⟨b1,b2,b3,b4⟩:=E4 hb
 obtain ⟨c1,c2,c3,c4⟩:=E4 hc
 have bound:=MH ha hb hc
 obtain ⟨l,hni⟩:=Ly ha.1 hb.1 hc.1 (by omega)
 have fin:=Pc (by omega) 62 _ _ _ _ _ _ _ hni (by have:=hni.bd.2.2.1;omega)
 have A:=DI ha.1 (by have:=ha.2;omega)
 have B:=DI hb.1 (by have:=hb.2;omega)
 have C:=DI hc.1 (by have:=hc.2;omega)
 have m1:(wrap64 (0+1)).tmod 3=1:=by decide +kernel
 have m2:(wrap64 (0+2)).tmod 3=2:=by decide +kernel
 have m3:(wrap64 (1+1)).tmod 3=2:=by decide +kernel
 have m4:(wrap64 (1+2)).tmod 3=0:=by decide +kernel
 have m5:(wrap64 (2+1)).tmod 3=0:=by decide +kernel
 have m6:(wrap64 (2+2)).tmod 3=1:=by decide +kernel
 have w1:wrap64 (0+1)=1:=by decide +kernel
 have w2:wrap64 (1+1)=2:=by decide +kernel
 have w3:wrap64 (2+1)=3:=by decide +kernel
 unfold nrm3
 generalize Bv a=ca at *
 generalize Bv b=cb at *
 generalize Bv c=cc at *
 apply Ev.step
 ·intro k
  simp only [Aw.l0]
  rw [if_pos (by omega),if_pos (by omega),if_pos (by simp),rd0]
 refine A.bind ?_
 refine Cn (g:=fun k=>Aw.l0 k [ca.1,b,c] [1,wrap64 (1*ca.2),wrap64 (1*ca.2)] [a,b,c] 3 1) (fun k=>?_) ?_
 ·rw [if_pos (by simp),m1,if_pos (by omega),if_pos (by simp),Option.bind_some,m2,if_pos (by omega),if_pos (by simp),w1]
  rfl
 apply Ev.step
 ·intro k
  simp only [Aw.l0]
  rw [if_pos (by omega),if_pos (by omega),if_pos (by simp),rd1]
 refine B.bind ?_
 refine Cn (g:=fun k=>Aw.l0 k [ca.1,cb.1,c] [wrap64 (1*cb.2),wrap64 (1*ca.2),ca.2*cb.2] [a,b,c] 3 2) (fun k=>?_) ?_
 ·rw [if_pos (by simp),m3,if_pos (by omega),if_pos (by simp),Option.bind_some,m4,if_pos (by omega),if_pos (by simp),w2]
  have:=rr ⟨a1,a2⟩ ⟨b1,b2⟩
  rw [← this]
  rfl
 apply Ev.step
 ·intro k
  simp only [Aw.l0]
  rw [if_pos (by omega),if_pos (by omega),if_pos (by simp),rd2]
 refine C.bind ?_
 refine Cn (g:=fun k=>Aw.l0 k [ca.1,cb.1,cc.1] [cb.2*cc.2,ca.2*cc.2,ca.2*cb.2] [a,b,c] 3 3) (fun k=>?_) ?_
 ·rw [if_pos (by simp),m5,if_pos (by omega),if_pos (by simp),Option.bind_some,m6,if_pos (by omega),if_pos (by simp),w3]
  rw [← rr ⟨b1,b2⟩ ⟨c1,c2⟩,← rr ⟨a1,a2⟩ ⟨c1,c2⟩]
  rfl
 refine Ev.step (fun k=>?_) fin
 simp only [Aw.l0]
 rw [if_neg (by omega)]
theorem L5 {A B C:Int} {M:Nat} (hM:M≤1000000000) : ∀(m:Nat) (l a b c x y z:Int),NI A B C M l a b c x y z→(a*b*c).natAbs<2 ^ m→
  Ev (fun k=>AF.l1 k [a,b,c] [x,y,z] (twoP a b c).1 (twoP a b c).2) (outN (nrm m a b c x y z)):=by
 intro m
 induction m with
 | zero =>
  intro l a b c x y z h hk
  have:=Int.mul_ne_zero (Int.mul_ne_zero h.sa.1 h.sb.1) h.sc.1
  omega
 | succ m ih =>
  intro l a b c x y z h hk
  rw [Nat.pow_succ] at hk
  obtain ⟨b1,b2,b3,b4,b5,b6⟩:=ED h hM
  have m1:(wrap64 (2+1)).tmod 3=0:=by decide +kernel
  have m2:(wrap64 (2+2)).tmod 3=1:=by decide +kernel
  have m3:(wrap64 (1+1)).tmod 3=2:=by decide +kernel
  have m4:(wrap64 (1+2)).tmod 3=0:=by decide +kernel
  have m5:(wrap64 (0+1)).tmod 3=1:=by decide +kernel
  have m6:(wrap64 (0+2)).tmod 3=2:=by decide +kernel
  simp only [nrm]
  have next : ∀ {l' a' b' c' x' y' z':Int},NI A B C M l' a' b' c' x' y' z'→(a'*b'*c').natAbs<2 ^ m→Ev (fun k=>(Bq.f k [a',b',c']).bind fun t=>AF.l1 k [a',b',c'] [x',y',z'] t.1 t.2) (outN (nrm m a' b' c' x' y' z')):=by
   intro l' a' b' c' x' y' z' h1 hk1
   obtain ⟨s1,s2,s3,_⟩:=ED h1 hM
   exact (Mo h1.sa.1 h1.sb.1 h1.sc.1 s1 s2 s3).bind (ih _ _ _ _ _ _ _ h1 hk1)
  by_cases g1:1<gI a b
  ·simp only [twoP,if_pos g1]
   obtain ⟨pp,pa,pb,_⟩:=gp h (by omega) g1
   have p2:=pp.1
   generalize minP (gI a b)=p at *
   by_cases c1:c.tmod p=0
   ·simp only [if_pos c1]
    obtain ⟨h1,h2⟩:=h.div3 pp pa pb (Dg.1 c1)
    refine Ev.step (fun k=>?_) (next h1 (by omega))
    simp only [AF.l1]
    rw [if_pos (by omega),m1,if_pos (by omega),if_pos (by simp),if_neg (by omega),Option.bind_some,m2,if_pos (by omega),if_pos (by simp),Option.bind_some,if_pos (by omega),if_pos (by simp)]
    simp only [rd0,rd1,rd2,st0,st1,st2,Dp b1,Dp b2,Dp b3]
    rw [if_pos c1,Option.bind_some]
   ·simp only [if_neg c1]
    obtain ⟨h1,h2⟩:=h.div2 pp pa pb (fun e=>c1 (Dg.2 e))
    obtain ⟨s1,s2,s3,s4,s5,s6⟩:=ED h1 hM
    have hz:=h1.hz
    refine Ev.step (fun k=>?_) (next h1 (by omega))
    simp only [AF.l1]
    rw [if_pos (by omega),m1,if_pos (by omega),if_pos (by simp),if_neg (by omega),Option.bind_some,m2,if_pos (by omega),if_pos (by simp),Option.bind_some,if_pos (by omega),if_pos (by simp)]
    simp only [rd0,rd1,rd2,st0,st1,st2,Dp b1,Dp b2]
    rw [if_neg c1,Option.bind_some,if_pos (by simp),w64 (x:=c*p) (by omega) (by omega),w64 (x:=z*p) (by omega) (by omega)]
  ·simp only [twoP,if_neg g1]
   by_cases g2:1<gI a c
   ·simp only [if_pos g2]
    obtain ⟨pp,pa,pb,_⟩:=gp h.swap (by omega) g2
    have p2:=pp.1
    generalize minP (gI a c)=p at *
    by_cases c1:b.tmod p=0
    ·simp only [if_pos c1]
     obtain ⟨h1,h2⟩:=h.div3 pp pa (Dg.1 c1) pb
     refine Ev.step (fun k=>?_) (next h1 (by omega))
     simp only [AF.l1]
     rw [if_pos (by omega),m3,if_pos (by omega),if_pos (by simp),if_neg (by omega),Option.bind_some,m4,if_pos (by omega),if_pos (by simp),Option.bind_some,if_pos (by omega),if_pos (by simp)]
     simp only [rd0,rd1,rd2,st0,st1,st2,Dp b1,Dp b2,Dp b3]
     rw [if_pos c1,Option.bind_some]
    ·simp only [if_neg c1]
     obtain ⟨h1,h2⟩:=h.swap.div2 pp pa pb (fun e=>c1 (Dg.2 e))
     obtain ⟨s1,s2,s3,s4,s5,s6⟩:=ED h1 hM
     have hz:=h1.hz
     refine Ev.step (fun k=>?_) (next h1.swap ?_)
     ·simp only [AF.l1]
      rw [if_pos (by omega),m3,if_pos (by omega),if_pos (by simp),if_neg (by omega),Option.bind_some,m4,if_pos (by omega),if_pos (by simp),Option.bind_some,if_pos (by omega),if_pos (by simp)]
      simp only [rd0,rd1,rd2,st0,st1,st2,Dp b1,Dp b3]
      rw [if_neg c1,Option.bind_some,if_pos (by simp),w64 (x:=b*p) (by omega) (by omega),w64 (x:=y*p) (by omega) (by omega)]
     ·rw [show a.tdiv p*(b*p)*c.tdiv p=a.tdiv p*c.tdiv p*(b*p) by grind]
      rw [show a*c*b=a*b*c by grind] at h2
      omega
   ·simp only [if_neg g2]
    by_cases g3:1<gI b c
    ·simp only [if_pos g3]
     obtain ⟨pp,pa,pb,_⟩:=gp h.turn (by omega) g3
     have p2:=pp.1
     generalize minP (gI b c)=p at *
     by_cases c1:a.tmod p=0
     ·simp only [if_pos c1]
      obtain ⟨h1,h2⟩:=h.div3 pp (Dg.1 c1) pa pb
      refine Ev.step (fun k=>?_) (next h1 (by omega))
      simp only [AF.l1]
      rw [if_pos (by omega),m5,if_pos (by omega),if_pos (by simp),if_neg (by omega),Option.bind_some,m6,if_pos (by omega),if_pos (by simp),Option.bind_some,if_pos (by omega),if_pos (by simp)]
      simp only [rd0,rd1,rd2,st0,st1,st2,Dp b1,Dp b2,Dp b3]
      rw [if_pos c1,Option.bind_some]
     ·simp only [if_neg c1]
      obtain ⟨h1,h2⟩:=h.turn.div2 pp pa pb (fun e=>c1 (Dg.2 e))
      obtain ⟨s1,s2,s3,s4,s5,s6⟩:=ED h1 hM
      have hz:=h1.hz
      refine Ev.step (fun k=>?_) (next h1.back ?_)
      ·simp only [AF.l1]
       rw [if_pos (by omega),m5,if_pos (by omega),if_pos (by simp),if_neg (by omega),Option.bind_some,m6,if_pos (by omega),if_pos (by simp),Option.bind_some,if_pos (by omega),if_pos (by simp)]
       simp only [rd0,rd1,rd2,st0,st1,st2,Dp b2,Dp b3]
       rw [if_neg c1,Option.bind_some,if_pos (by simp),w64 (x:=a*p) (by omega) (by omega),w64 (x:=x*p) (by omega) (by omega)]
      ·rw [show a*p*b.tdiv p*c.tdiv p=b.tdiv p*c.tdiv p*(a*p) by grind]
       rw [show b*c*a=a*b*c by grind] at h2
       omega
    ·simp only [if_neg g3]
     refine Ev.step (f:=fun _=>some ([a,b,c],[x,y,z])) (fun k=>?_) (Ev.now _)
     simp only [AF.l1]
     rw [if_neg (by omega)]
theorem Jz {a b c:Int} (ha:Sm a) (hb:Sm b) (hc:Sm c):Ev (fun k=>AF.f k [a,b,c]) (outN (nrm3 a b c)):=by
 unfold AF.f
 obtain ⟨a1,a2,a3,a4⟩:=E4 ha
 obtain ⟨b1,b2,b3,b4⟩:=E4 hb
 obtain ⟨c1,c2,c3,c4⟩:=E4 hc
 have bound:=MH ha hb hc
 obtain ⟨l,hni⟩:=Ly ha.1 hb.1 hc.1 (by omega)
 have fin:=L5 (by omega) 62 _ _ _ _ _ _ _ hni (by have:=hni.bd.2.2.1;omega)
 have A:=DT ha.1 (by have:=ha.2;omega)
 have B:=DT hb.1 (by have:=hb.2;omega)
 have C:=DT hc.1 (by have:=hc.2;omega)
 have m1:(wrap64 (0+1)).tmod 3=1:=by decide +kernel
 have m2:(wrap64 (0+2)).tmod 3=2:=by decide +kernel
 have m3:(wrap64 (1+1)).tmod 3=2:=by decide +kernel
 have m4:(wrap64 (1+2)).tmod 3=0:=by decide +kernel
 have m5:(wrap64 (2+1)).tmod 3=0:=by decide +kernel
 have m6:(wrap64 (2+2)).tmod 3=1:=by decide +kernel
 have w1:wrap64 (0+1)=1:=by decide +kernel
 have w2:wrap64 (1+1)=2:=by decide +kernel
 have w3:wrap64 (2+1)=3:=by decide +kernel
 unfold nrm3
 generalize Bv a=ca at *
 generalize Bv b=cb at *
 generalize Bv c=cc at *
 apply Ev.step
 ·intro k
  simp only [AF.l0]
  rw [if_pos (by omega),if_pos (by omega),if_pos (by simp),rd0]
 refine A.bind ?_
 refine Cn (g:=fun k=>AF.l0 k [a,b,c] [ca.1] [1,wrap64 (1*ca.2),wrap64 (1*ca.2)] 1) (fun k=>?_) ?_
 ·rw [if_pos (by simp),m1,if_pos (by omega),if_pos (by simp),Option.bind_some,m2,if_pos (by omega),if_pos (by simp),w1]
  rfl
 apply Ev.step
 ·intro k
  simp only [AF.l0]
  rw [if_pos (by omega),if_pos (by omega),if_pos (by simp),rd1]
 refine B.bind ?_
 refine Cn (g:=fun k=>AF.l0 k [a,b,c] [ca.1,cb.1] [wrap64 (1*cb.2),wrap64 (1*ca.2),ca.2*cb.2] 2) (fun k=>?_) ?_
 ·rw [if_pos (by simp),m3,if_pos (by omega),if_pos (by simp),Option.bind_some,m4,if_pos (by omega),if_pos (by simp),w2]
  have:=rr ⟨a1,a2⟩ ⟨b1,b2⟩
  rw [← this]
  rfl
 apply Ev.step
 ·intro k
  simp only [AF.l0]
  rw [if_pos (by omega),if_pos (by omega),if_pos (by simp),rd2]
 refine C.bind ?_
 refine Cn (g:=fun k=>AF.l0 k [a,b,c] [ca.1,cb.1,cc.1] [cb.2*cc.2,ca.2*cc.2,ca.2*cb.2] 3) (fun k=>?_) ?_
 ·rw [if_pos (by simp),m5,if_pos (by omega),if_pos (by simp),Option.bind_some,m6,if_pos (by omega),if_pos (by simp),w3]
  rw [← rr ⟨b1,b2⟩ ⟨c1,c2⟩,← rr ⟨a1,a2⟩ ⟨c1,c2⟩]
  rfl
 apply Ev.step
 ·intro k
  simp only [AF.l0]
  rw [if_neg (by omega)]
 obtain ⟨s1,s2,s3,_⟩:=ED hni (by omega)
 exact (Mo hni.sa.1 hni.sb.1 hni.sc.1 s1 s2 s3).bind fin
def orS (w:List Int×Bool):Option (List Int)→List Int×Bool
 | some v=>(v,true)
 | none=>w
def resS (o:Option (List Int)):List Int×Bool:=match o with|some v=>(v,true)|none=>([],false)
structure SB (a b c:Int):Prop where
 ha:a.natAbs≤27000
 hb:b.natAbs≤27000
 hc:c.natAbs≤27000
 h0:c≠0
 hbc:(b*c).natAbs≤27000
 hac:(a*c).natAbs≤27000
theorem E0 {a x:Int} {A X:Nat} (h:a.natAbs≤A) (h':x.natAbs≤X):(a*x).natAbs≤A*X:=by rw [Int.natAbs_mul];exact Nat.mul_le_mul h h'
theorem nmr_bd {a b c x y:Int} (h:SB a b c) (hx:0≤x) (hx2:x≤200) (hy:0≤y) (hy2:y≤200) :
  wrap64 (wrap64 (wrap64 (wrap64 (-a)*x)*x)-wrap64 (wrap64 (b*y)*y))=nmr a b x y∧wrap64 (wrap64 (-(wrap64 (wrap64 (a*x)*x)))-wrap64 (wrap64 (b*y)*y))=nmr a b x y∧(nmr a b x y).natAbs≤3000000000:=by
 have ha:=h.ha
 have hb:=h.hb
 have e1:=E0 (a := -a) (x:=x) (A:=27000) (X:=200) (by omega) (by omega)
 have e2:=E0 (a := -a*x) (x:=x) (A:=5400000) (X:=200) (by omega) (by omega)
 have e3:=E0 (a:=b) (x:=y) (A:=27000) (X:=200) (by omega) (by omega)
 have e4:=E0 (a:=b*y) (x:=y) (A:=5400000) (X:=200) (by omega) (by omega)
 have e5:=E0 (a:=a) (x:=x) (A:=27000) (X:=200) (by omega) (by omega)
 have e6:=E0 (a:=a*x) (x:=x) (A:=5400000) (X:=200) (by omega) (by omega)
 unfold nmr
 refine ⟨?_,?_,by omega⟩
 ·rw [w64 (x := -a) (by omega) (by omega),w64 (x := -a*x) (by omega) (by omega),w64 (x := -a*x*x) (by omega) (by omega),w64 (x:=b*y) (by omega) (by omega),w64 (x:=b*y*y) (by omega) (by omega),w64 (by omega) (by omega)]
 ·rw [w64 (x:=a*x) (by omega) (by omega),w64 (x:=a*x*x) (by omega) (by omega),w64 (x := -(a*x*x)) (by omega) (by omega),w64 (x:=b*y) (by omega) (by omega),w64 (x:=b*y*y) (by omega) (by omega)]
  have : -a*x*x = -(a*x*x):=by grind
  rw [this]
  rw [this] at e2
  rw [w64 (by omega) (by omega)]
theorem F8 {n:Int} (h:n.natAbs≤27000):mx n (wrap64 (-n))=absI n:=EL (by omega) (by omega)
theorem nmr_zero (a b:Int):nmr a b 0 0=0:=by unfold nmr;grind
theorem isq_zero:isq 0=0:=Ft (by omega) (by omega) (by omega)
theorem K7 {a b c x:Int} (h:SB a b c) (hx:0≤x) (hx2:x≤200) {w:List Int×Bool} (hw:Ev (fun k=>Ae.l1 k a b c (x+1)) w) : ∀(n:Nat) (y:Int),0≤y→y+n=200→
  Ev (fun k=>Ae.l2 k a b c x y) (orS w (sY a b c x n y)):=by
 have hac:=h.hac
 have start : ∀y:Int,BB.f (wrap64 (a*c))=some (absI (a*c)):=fun y=>by
  rw [w64 (x:=a*c) (by omega) (by omega)];simp only [BB.f];rw [F8 hac]
 intro n
 induction n with
 | zero =>
  intro y hy hn
  simp only [sY]
  obtain rfl:y=200:=by omega
  refine Ev.step (fun k=>?_) hw
  simp only [Ae.l2]
  rw [start 0,Option.bind_some,w64 (x:=(200:Int)*200) (by omega) (by omega),if_neg (by unfold absI;omega),w64 (x:=x+1) (by omega) (by omega)]
 | succ n ih =>
  intro y hy hn
  simp only [sY]
  have hyy:y*y≤200*200:=Dx hy (by omega) hy (by omega)
  have hy0:=sq_nonneg y
  by_cases c0:y*y≤absI (a*c)
  ·rw [if_pos c0]
   have next:=ih (y+1) (by omega) (by omega)
   obtain ⟨n1,_,n3⟩:=nmr_bd h hx hx2 hy (show y≤200 by omega)
   have hh:=h.h0
   have qb:((nmr a b x y).tdiv c).natAbs≤3000000000:=Nat.le_trans EZ n3
   by_cases c1:(nmr a b x y).tmod c=0
   ·by_cases c2:0≤(nmr a b x y).tdiv c
    ·apply Ev.step
     ·intro k
      simp only [Ae.l2]
      rw [start 0,Option.bind_some,w64 (x:=y*y) (by omega) (by omega),if_pos c0,if_neg hh,n1,if_pos c1,w64 (x:=(nmr a b x y).tdiv c) (by omega) (by omega),w64 (x:=y+1) (by omega) (by omega)]
     refine (JK _ c2 (by omega)).bind ?_
     by_cases c3:isq ((nmr a b x y).tdiv c)*isq ((nmr a b x y).tdiv c)=(nmr a b x y).tdiv c
     ·by_cases c4:x=0∧y=0
      ·have hit0:hit a b c x y=none:=by unfold hit;rw [if_neg (fun e=>e.2.2.2 c4)]
       rw [hit0]
       obtain ⟨rfl,rfl⟩:=c4
       have z:(nmr a b 0 0).tdiv c=0:=by rw [nmr_zero];exact Int.zero_tdiv _
       rw [z,isq_zero]
       refine Cn (fun k=>?_) next
       rw [if_pos (by simp),if_pos rfl,if_pos rfl,if_pos rfl]
      ·have hit1:hit a b c x y=some [x,y,isq ((nmr a b x y).tdiv c)]:=by unfold hit;rw [if_pos ⟨c1,c2,c3,c4⟩]
       rw [hit1]
       refine Cn (g:=fun _=>some ([x,y,isq ((nmr a b x y).tdiv c)],true)) (fun k=>?_) (Ev.now _)
       rw [if_pos (by simp [c3])]
       by_cases x0:x=0
       ·rw [if_pos x0,if_neg (fun e=>c4 ⟨x0,e⟩)]
       ·rw [if_neg x0]
     ·have hit0:hit a b c x y=none:=by unfold hit;rw [if_neg (fun e=>c3 e.2.2.1)]
      rw [hit0]
      refine Cn (fun k=>?_) next
      rw [if_neg (by simp [c3])]
    ·have hit0:hit a b c x y=none:=by unfold hit;rw [if_neg (fun e=>c2 e.2.1)]
     rw [hit0]
     refine Ev.step (fun k=>?_) next
     simp only [Ae.l2]
     rw [start 0,Option.bind_some,w64 (x:=y*y) (by omega) (by omega),if_pos c0,if_neg hh,n1,if_pos c1,w64 (x:=(nmr a b x y).tdiv c) (by omega) (by omega),w64 (x:=y+1) (by omega) (by omega)]
     unfold AJ.f
     rw [if_pos (by omega),Option.bind_some,if_neg (by simp)]
   ·have hit0:hit a b c x y=none:=by unfold hit;rw [if_neg (fun e=>c1 e.1)]
    rw [hit0]
    refine Ev.step (fun k=>?_) next
    simp only [Ae.l2]
    rw [start 0,Option.bind_some,w64 (x:=y*y) (by omega) (by omega),if_pos c0,if_neg hh,n1,if_neg c1,w64 (x:=y+1) (by omega) (by omega)]
  ·rw [if_neg c0]
   refine Ev.step (fun k=>?_) hw
   simp only [Ae.l2]
   rw [start 0,Option.bind_some,w64 (x:=y*y) (by omega) (by omega),if_neg c0,w64 (x:=x+1) (by omega) (by omega)]
theorem K9 {a b c:Int} (h:SB a b c) : ∀(n:Nat) (x:Int),0≤x→x+n=200→Ev (fun k=>Ae.l1 k a b c x) (resS (sX a b c n x)):=by
 have hbc:=h.hbc
 have start:BB.f (wrap64 (b*c))=some (absI (b*c)):=by
  rw [w64 (x:=b*c) (by omega) (by omega)];simp only [BB.f];rw [F8 hbc]
 intro n
 induction n with
 | zero =>
  intro x hx hn
  simp only [sX]
  obtain rfl:x=200:=by omega
  refine Ev.step (f:=fun _=>some ([],false)) (fun k=>?_) (Ev.now _)
  simp only [Ae.l1]
  rw [start,Option.bind_some,w64 (x:=(200:Int)*200) (by omega) (by omega),if_neg (by unfold absI;omega)]
 | succ n ih =>
  intro x hx hn
  simp only [sX]
  have hxx:x*x≤200*200:=Dx hx (by omega) hx (by omega)
  have hx0:=sq_nonneg x
  by_cases c0:x*x≤absI (b*c)
  ·rw [if_pos c0]
   have:=K7 h hx (show x≤200 by omega) (ih (x+1) (by omega) (by omega)) 200 0 (by omega) (by omega)
   refine Ev.step (f:=fun k=>Ae.l2 k a b c x 0) (fun k=>?_) ?_
   ·simp only [Ae.l1]
    rw [start,Option.bind_some,w64 (x:=x*x) (by omega) (by omega),if_pos c0]
   ·cases hh:sY a b c x 200 0 with
    | some v=>rw [hh] at this;exact this
    | none=>rw [hh] at this;exact this
  ·rw [if_neg c0]
   refine Ev.step (f:=fun _=>some ([],false)) (fun k=>?_) (Ev.now _)
   simp only [Ae.l1]
   rw [start,Option.bind_some,w64 (x:=x*x) (by omega) (by omega),if_neg c0]
structure SN (a b c:Int):Prop where
 sa:EN a
 sb:EN b
 sc:EN c
 hm:(a*b*c).natAbs≤27000
 g1:gI a b≤1
 g2:gI a c≤1
 g3:gI b c≤1
theorem SN.bd {a b c:Int} (h:SN a b c):SB a b c∧SB b a c:=by
 have hm:=h.hm
 have a0:=h.sa.1
 have b0:=h.sb.1
 have c0:=h.sc.1
 have e1:(a*b*c).natAbs=a.natAbs*(b*c).natAbs:=by rw [← Int.natAbs_mul];congr 1;grind
 have e2:(a*b*c).natAbs=b.natAbs*(a*c).natAbs:=by rw [← Int.natAbs_mul];congr 1;grind
 have e3:(a*b*c).natAbs=c.natAbs*(a*b).natAbs:=by rw [← Int.natAbs_mul];congr 1;grind
 have hbc:=Int.mul_ne_zero b0 c0
 have hac:=Int.mul_ne_zero a0 c0
 have hab:=Int.mul_ne_zero a0 b0
 have f1:=Nat.le_mul_of_pos_right a.natAbs (show 0<(b*c).natAbs by omega)
 have f2:=Nat.le_mul_of_pos_left (b*c).natAbs (show 0<a.natAbs by omega)
 have f3:=Nat.le_mul_of_pos_right b.natAbs (show 0<(a*c).natAbs by omega)
 have f4:=Nat.le_mul_of_pos_left (a*c).natAbs (show 0<b.natAbs by omega)
 have f5:=Nat.le_mul_of_pos_right c.natAbs (show 0<(a*b).natAbs by omega)
 exact ⟨⟨by omega,by omega,by omega,c0,by omega,by omega⟩,⟨by omega,by omega,by omega,c0,by omega,by omega⟩⟩
theorem sq_core {a:Int} (h:EN a) (hb:a.natAbs≤27000):Bv a=(a,1):=Pw h.1 (by omega) ⟨by omega,by omega,h⟩
theorem Gj {a b c t j j1:Int} (ht:EN t) (hb:t.natAbs≤27000) (hr:rd [a,b,c] j=t) (h0:0≤j) (h3:j<3) (hj:wrap64 (j+1)=j1) {v:List Int×Bool} (hv:Ev (fun k=>Ae.l0 k [a,b,c] [a,b,c] 3 j1) v) :
  Ev (fun k=>Ae.l0 k [a,b,c] [a,b,c] 3 j) v:=by
 have hs:BB.f t=some (absI t):=by simp only [BB.f];rw [F8 hb]
 refine Ev.step (f:=fun k=>Ae.j1 k [a,b,c] t [a,b,c] 3 j false) (fun k=>?_) ?_
 ·simp only [Ae.l0]
  rw [if_pos h3,if_pos h0,if_pos (by simpa using h3),hr,if_neg ht.1,hs,Option.bind_some]
  have:decide (absI t>30000)=false:=decide_eq_false (by unfold absI;omega)
  rw [this]
 apply Ev.step
 ·intro k
  simp only [Ae.j1]
  rw [if_neg (by simp),hj]
 refine (DI ht.1 (by omega)).bind ?_
 rw [sq_core ht hb]
 exact Cn (fun k=>if_pos rfl) hv
theorem Po (xs:List Int) (hl:xs.length≤1000) : ∀(d j:Nat) (g:Int),j+d=xs.length→(∀i,i≤d→(((xs.drop j).take i).foldl (· * ·) g).natAbs≤1000000000000)→
  Ev (fun k=>Be.l0 k g xs (xs.length:Int) j) ((xs.drop j).foldl (· * ·) g):=by
 intro d
 induction d with
 | zero =>
  intro j g hj _
  rw [List.drop_of_length_le (by omega)]
  refine Ev.step (f:=fun _=>some g) (fun k=>?_) (Ev.now _)
  simp only [Be.l0]
  rw [if_neg (by omega)]
 | succ d ih =>
  intro j g hj hb
  rw [CQ (show j<xs.length by omega)] at hb ⊢
  have h1:=hb 1 (by omega)
  simp only [List.take_succ_cons,List.take_zero,List.foldl_cons,List.foldl_nil] at h1
  simp only [List.foldl_cons]
  refine Ev.step (fun k=>?_) (ih (j+1) (g*rd xs (j:Int)) (by omega) (fun i hi=>?_))
  ·simp only [Be.l0]
   rw [if_pos (by omega),if_pos (by omega),if_pos (by omega),w64 (x:=g*rd xs (j:Int)) (by omega) (by omega),w64 (x:=(j:Int)+1) (by omega) (by omega)]
   rfl
  ·have:=hb (i+1) (by omega)
   simpa [List.take_succ_cons] using this
theorem JQ {a b c:Int} (h:SN a b c):Ev (fun k=>Ae.f k [a,b,c]) (resS (zs a b c)):=by
 obtain ⟨sb,sb2⟩:=h.bd
 have ha:=sb.ha
 have hb:=sb.hb
 have hc:=sb.hc
 have hm:=h.hm
 refine Cn (g:=fun k=>Ae.l0 k [a,b,c] [a,b,c] 3 0) (fun k=>by unfold Ae.f;exact if_pos (by simp)) ?_
 refine Gj h.sa ha (rd0 a b c) (by omega) (by omega) (show wrap64 (0+1)=1 by decide +kernel) ?_
 refine Gj h.sb hb (rd1 a b c) (by omega) (by omega) (show wrap64 (1+1)=2 by decide +kernel) ?_
 refine Gj h.sc hc (rd2 a b c) (by omega) (by omega) (show wrap64 (2+1)=3 by decide +kernel) ?_
 apply Ev.step
 ·intro k
  simp only [Ae.l0]
  rw [if_neg (by omega)]
 refine (Kx h.sa.1 h.sb.1 (by omega) (by omega) (by omega)).bind ?_
 have e:shP a b c=(0,0,0):=by
  unfold shP
  rw [if_neg (by have:=h.g1;omega),if_neg (by have:=h.g2;omega),if_neg (by have:=h.g3;omega)]
 rw [e]
 refine Cn (fun k=>if_pos rfl) ?_
 have hp:Ev (fun k=>Be.f k [a,b,c]) (a*b*c):=by
  unfold Be.f
  have hab:(a*b).natAbs≤27000*27000:=E0 ha hb
  have:=Po [a,b,c] (by simp) 3 0 1 (by simp) (fun i hi=>?_)
  ·simpa using this
  ·have:i=0∨i=1∨i=2∨i=3:=by omega
   rcases this with rfl|rfl|rfl|rfl<;>simp<;>omega
 refine hp.bind ?_
 have hs:BB.f (a*b*c)=some (absI (a*b*c)):=by simp only [BB.f];rw [F8 hm]
 refine Cn (g:=fun k=>Ae.j2 k [a,b,c] false) (fun k=>?_) ?_
 ·rw [hs,Option.bind_some]
  have:decide (absI (a*b*c)>30000)=false:=decide_eq_false (by unfold absI;omega)
  rw [this]
 refine Ev.step (fun k=>?_) (K9 sb 200 0 (by omega) (by omega))
 simp only [Ae.j2]
 rw [if_neg (by simp),if_pos (by simp),if_pos (by simp),if_pos (by simp)]
 rfl
theorem LU {a b c x:Int} (h:SB a b c) (hx:0≤x) (hx2:x≤200) {w:List Int×Bool} (hw:Ev (fun k=>AD.l0 k a b c (x+1)) w) : ∀(n:Nat) (y:Int),0≤y→y+n=200→
  Ev (fun k=>AD.l1 k a b c x y) (orS w (sY a b c x n y)):=by
 have hac:=h.hac
 have start:Bc.f (wrap64 (a*c))=some (absI (a*c)):=by
  rw [w64 (x:=a*c) (by omega) (by omega)];simp only [Bc.f];rw [F8 hac]
 intro n
 induction n with
 | zero =>
  intro y hy hn
  simp only [sY]
  obtain rfl:y=200:=by omega
  refine Ev.step (fun k=>?_) hw
  simp only [AD.l1]
  rw [start,Option.bind_some,w64 (x:=(200:Int)*200) (by omega) (by omega),if_neg (by unfold absI;omega),w64 (x:=x+1) (by omega) (by omega)]
 | succ n ih =>
  intro y hy hn
  simp only [sY]
  have hyy:y*y≤200*200:=Dx hy (by omega) hy (by omega)
  have hy0:=sq_nonneg y
  by_cases c0:y*y≤absI (a*c)
  ·rw [if_pos c0]
   have next:=ih (y+1) (by omega) (by omega)
   obtain ⟨_,n2,n3⟩:=nmr_bd h hx hx2 hy (show y≤200 by omega)
   have hh:=h.h0
   have qb:((nmr a b x y).tdiv c).natAbs≤3000000000:=Nat.le_trans EZ n3
   have wq:wrap64 ((nmr a b x y).tdiv c)=(nmr a b x y).tdiv c:=w64 (by omega) (by omega)
   have skip : ∀m:Int,Ev (fun k=>AD.j2 k a b c x y m true) (orS w (sY a b c x n (y+1))):=by
    intro m
    refine Ev.step (fun k=>?_) next
    simp only [AD.j2]
    rw [if_pos trivial,w64 (x:=y+1) (by omega) (by omega)]
   by_cases c1:(nmr a b x y).tmod c=0
   ·by_cases c2:0≤(nmr a b x y).tdiv c
    ·by_cases c4:x=0∧y=0
     ·have hit0:hit a b c x y=none:=by unfold hit;rw [if_neg (fun e=>e.2.2.2 c4)]
      rw [hit0]
      refine Ev.step (fun k=>?_) (skip (nmr a b x y))
      simp only [AD.l1]
      rw [start,Option.bind_some,w64 (x:=y*y) (by omega) (by omega),if_pos c0,if_neg hh,n2,if_pos c1,wq,if_neg (by omega),if_pos c4.1]
      have:(y==0)=true:=by simp [c4.2]
      rw [this]
     ·refine Ev.step (f:=fun k=>AD.j2 k a b c x y (nmr a b x y) false) (fun k=>?_) ?_
      ·simp only [AD.l1]
       rw [start,Option.bind_some,w64 (x:=y*y) (by omega) (by omega),if_pos c0,if_neg hh,n2,if_pos c1,wq,if_neg (by omega)]
       by_cases x0:x=0
       ·have:(y==0)=false:=by simpa using fun e=>c4 ⟨x0,e⟩
        rw [if_pos x0,this]
       ·rw [if_neg x0]
      apply Ev.step
      ·intro k
       simp only [AD.j2]
       rw [if_neg (by simp),if_neg hh,wq,w64 (x:=y+1) (by omega) (by omega)]
      refine (J6 _ c2 (by omega)).bind ?_
      by_cases c3:isq ((nmr a b x y).tdiv c)*isq ((nmr a b x y).tdiv c)=(nmr a b x y).tdiv c
      ·have hit1:hit a b c x y=some [x,y,isq ((nmr a b x y).tdiv c)]:=by unfold hit;rw [if_pos ⟨c1,c2,c3,c4⟩]
       rw [hit1,if_pos c3]
       exact Cn (fun k=>if_pos (EW _)) (Ev.now _)
      ·have hit0:hit a b c x y=none:=by unfold hit;rw [if_neg (fun e=>c3 e.2.2.1)]
       rw [hit0,if_neg c3]
       exact Cn (fun k=>if_neg (by omega)) next
    ·have hit0:hit a b c x y=none:=by unfold hit;rw [if_neg (fun e=>c2 e.2.1)]
     rw [hit0]
     refine Ev.step (fun k=>?_) (skip (nmr a b x y))
     simp only [AD.l1]
     rw [start,Option.bind_some,w64 (x:=y*y) (by omega) (by omega),if_pos c0,if_neg hh,n2,if_pos c1,wq,if_pos (by omega)]
   ·have hit0:hit a b c x y=none:=by unfold hit;rw [if_neg (fun e=>c1 e.1)]
    rw [hit0]
    refine Ev.step (fun k=>?_) (skip (nmr a b x y))
    simp only [AD.l1]
    rw [start,Option.bind_some,w64 (x:=y*y) (by omega) (by omega),if_pos c0,if_neg hh,n2,if_neg c1]
  ·rw [if_neg c0]
   refine Ev.step (fun k=>?_) hw
   simp only [AD.l1]
   rw [start,Option.bind_some,w64 (x:=y*y) (by omega) (by omega),if_neg c0,w64 (x:=x+1) (by omega) (by omega)]
theorem K4 {a b c:Int} (h:SB a b c) : ∀(n:Nat) (x:Int),0≤x→x+n=200→Ev (fun k=>AD.l0 k a b c x) (resS (sX a b c n x)):=by
 have hbc:=h.hbc
 have start:Bc.f (wrap64 (b*c))=some (absI (b*c)):=by
  rw [w64 (x:=b*c) (by omega) (by omega)];simp only [Bc.f];rw [F8 hbc]
 intro n
 induction n with
 | zero =>
  intro x hx hn
  simp only [sX]
  obtain rfl:x=200:=by omega
  refine Ev.step (f:=fun _=>some ([],false)) (fun k=>?_) (Ev.now _)
  simp only [AD.l0]
  rw [start,Option.bind_some,w64 (x:=(200:Int)*200) (by omega) (by omega),if_neg (by unfold absI;omega)]
 | succ n ih =>
  intro x hx hn
  simp only [sX]
  have hxx:x*x≤200*200:=Dx hx (by omega) hx (by omega)
  have hx0:=sq_nonneg x
  by_cases c0:x*x≤absI (b*c)
  ·rw [if_pos c0]
   have:=LU h hx (show x≤200 by omega) (ih (x+1) (by omega) (by omega)) 200 0 (by omega) (by omega)
   refine Ev.step (f:=fun k=>AD.l1 k a b c x 0) (fun k=>?_) ?_
   ·simp only [AD.l0]
    rw [start,Option.bind_some,w64 (x:=x*x) (by omega) (by omega),if_pos c0]
   ·cases hh:sY a b c x 200 0 with
    | some v=>rw [hh] at this;exact this
    | none=>rw [hh] at this;exact this
  ·rw [if_neg c0]
   refine Ev.step (f:=fun _=>some ([],false)) (fun k=>?_) (Ev.now _)
   simp only [AD.l0]
   rw [start,Option.bind_some,w64 (x:=x*x) (by omega) (by omega),if_neg c0]
theorem Ju {a b c:Int} (h:SN a b c):Ev (fun k=>AD.f k [a,b,c]) (resS (zs a b c)):=by
 refine Cn (g:=fun k=>AD.l0 k a b c 0) (fun k=>?_) (K4 h.bd.1 200 0 (by omega) (by omega))
 unfold AD.f
 rw [if_pos (by simp),if_pos (by simp),if_pos (by simp)]
 rfl
theorem nrm_sn {A B C:Int} {M:Nat} {s:T6} (h:Nrm A B C M s) (hM:M≤27000):SN s.1.1 s.1.2.1 s.1.2.2:=by
 obtain ⟨l,n,g1,g2,g3⟩:=h
 exact ⟨n.sa,n.sb,n.sc,by have:=n.bd.2.2.1;omega,g1,g2,g3⟩
theorem sm3 {a b c:Int} (ha:Sm a) (hb:Sm b) (hc:Sm c) : ∀x∈[a,b,c],Sm x:=by intro x hx;simp at hx;rcases hx with rfl|rfl|rfl<;>assumption
theorem ok3 {a b c:Int} (ha:Sm a) (hb:Sm b) (hc:Sm c):BK [a,b,c]=true:=BP.2 ⟨sm3 ha hb hc,by simp,by simp⟩
theorem implG_l {x y z u v w:Int} (h : ∀t∈[u*x,v*y,w*z],t.natAbs≤40000) (hn : ∃t∈[u*x,v*y,w*z],t≠0) :
  Ev (fun k=>AN.l0 k [x,y,z] [u,v,w] 3 0) (DM [u*x,v*y,w*z],true):=by
 have h1:=h (u*x) (by simp)
 have h2:=h (v*y) (by simp)
 have h3:=h (w*z) (by simp)
 have w1:wrap64 (0+1)=1:=by decide +kernel
 have w2:wrap64 (1+1)=2:=by decide +kernel
 have w3:wrap64 (2+1)=3:=by decide +kernel
 refine Ev.step (f:=fun k=>AN.l0 k [x,y,z] [u*x,v,w] 3 1) (fun k=>?_) ?_
 ·simp only [AN.l0]
  rw [if_pos (by omega),if_pos (by omega),if_pos (by simp),if_pos (by simp),rd0,rd0,st0,w64 (x:=u*x) (by omega) (by omega),w1]
 refine Ev.step (f:=fun k=>AN.l0 k [x,y,z] [u*x,v*y,w] 3 2) (fun k=>?_) ?_
 ·simp only [AN.l0]
  rw [if_pos (by omega),if_pos (by omega),if_pos (by simp),if_pos (by simp),rd1,rd1,st1,w64 (x:=v*y) (by omega) (by omega),w2]
 refine Ev.step (f:=fun k=>AN.l0 k [x,y,z] [u*x,v*y,w*z] 3 3) (fun k=>?_) ?_
 ·simp only [AN.l0]
  rw [if_pos (by omega),if_pos (by omega),if_pos (by simp),if_pos (by simp),rd2,rd2,st2,w64 (x:=w*z) (by omega) (by omega),w3]
 apply Ev.step
 ·intro k
  simp only [AN.l0]
  rw [if_neg (by omega)]
 exact (Hv hn (fun t ht=>by have:=h t ht;omega) (by simp)).bind (Ev.now _)
theorem KC (z4:Nat→List Int→Option (List Int×Bool)) {a b c:Int} (ha:Sm a) (hb:Sm b) (hc:Sm c):Ev (fun k=>AN.f z4 k [a,b,c]) (resS (z3 a b c)):=by
 unfold AN.f
 have hM:=MH ha hb hc
 have hN:=LO ha.1 hb.1 hc.1 (by omega)
 refine (BR (xs:=[a,b,c]) (fun x hx=>by have:=(sm3 ha hb hc x hx).2;omega) (by simp)).bind ?_
 rw [ok3 ha hb hc]
 refine Cn (fun k=>by rw [if_pos rfl,if_neg (by simp),if_pos (by simp)]) ?_
 refine (JO ha hb hc).bind ?_
 have hS:=JQ (nrm_sn hN hM)
 obtain ⟨l,n1,_⟩:=hN
 unfold z3
 generalize nrm3 a b c=s at *
 obtain ⟨⟨a',b',c'⟩,x,y,z⟩:=s
 simp only [outN3] at n1 hS ⊢
 refine hS.bind ?_
 cases hz:zs a' b' c' with
 | none=>exact Cn (g:=fun _=>some ([],false)) (fun k=>if_neg (by simp [resS])) (Ev.now _)
 | some t =>
  obtain ⟨u,v,w,rfl,_⟩:=zs_is hz
  obtain ⟨hne,hq,hsm⟩:=Pm n1 hM hz
  exact Cn (fun k=>if_pos rfl) (implG_l hsm hne)
theorem t4_w {a b x y:Int} (ha:Sm a) (hb:Sm b) (hx:0≤x) (hx3:x≤3) (hy:0≤y) (hy3:y≤3):wrap64 (wrap64 (wrap64 (a*x)*x)+wrap64 (wrap64 (b*y)*y))=t4 a b x y:=by
 have h1:=ha.2
 have h2:=hb.2
 have e1:=E0 (a:=a) (x:=x) (A:=30) (X:=3) (by omega) (by omega)
 have e2:=E0 (a:=a*x) (x:=x) (A:=90) (X:=3) (by omega) (by omega)
 have e3:=E0 (a:=b) (x:=y) (A:=30) (X:=3) (by omega) (by omega)
 have e4:=E0 (a:=b*y) (x:=y) (A:=90) (X:=3) (by omega) (by omega)
 unfold t4
 rw [w64 (x:=a*x) (by omega) (by omega),w64 (x:=a*x*x) (by omega) (by omega),w64 (x:=b*y) (by omega) (by omega),w64 (x:=b*y*y) (by omega) (by omega),w64 (by omega) (by omega)]
theorem Mr {x y p q r h:Int} (hx:0≤x) (hx3:x≤3) (hy:0≤y) (hy3:y≤3) (hp:p.natAbs≤40000) (hq:q.natAbs≤40000) (hr:r.natAbs≤40000) (hh:h.natAbs≤540) :
  wrap64 (x*r)=x*r∧wrap64 (y*r)=y*r∧wrap64 (h*p)=h*p∧wrap64 (h*q)=h*q∧∀t∈[x*r,y*r,h*p,h*q],t.natAbs≤4000000000000000000:=by
 have e1:=E0 (a:=x) (x:=r) (A:=3) (X:=40000) (by omega) (by omega)
 have e2:=E0 (a:=y) (x:=r) (A:=3) (X:=40000) (by omega) (by omega)
 have e3:=E0 (a:=h) (x:=p) (A:=540) (X:=40000) (by omega) (by omega)
 have e4:=E0 (a:=h) (x:=q) (A:=540) (X:=40000) (by omega) (by omega)
 refine ⟨w64 (by omega) (by omega),w64 (by omega) (by omega),w64 (by omega) (by omega),w64 (by omega) (by omega),?_⟩
 intro t ht
 simp only [List.mem_cons,List.not_mem_nil,or_false] at ht
 rcases ht with rfl|rfl|rfl|rfl<;>omega
theorem z4_ne {x y p q r h:Int} (h0 : ¬(x=0∧y=0)) (hh:h≠0) (hn : ∃t∈[p,q,r],t≠0) : ∃t∈[x*r,y*r,h*p,h*q],t≠0:=by
 by_cases hr:r=0
 ·by_cases hp:p=0
  ·refine ⟨h*q,by simp,Int.mul_ne_zero hh (fun e=>?_)⟩
   obtain ⟨t,ht,h1⟩:=hn
   simp [hr,hp,e] at ht;exact h1 ht
  ·exact ⟨h*p,by simp,Int.mul_ne_zero hh hp⟩
 ·by_cases hx0:x=0
  ·exact ⟨y*r,by simp,Int.mul_ne_zero (fun e=>h0 ⟨hx0,e⟩) hr⟩
  ·exact ⟨x*r,by simp,Int.mul_ne_zero hx0 hr⟩
theorem KK {x y:Int} (h0 : ¬(x=0∧y=0)) : ∃t∈[x,y,0,0],t≠0:=by
 by_cases hx:x=0
 ·exact ⟨y,by simp,fun e=>h0 ⟨hx,e⟩⟩
 ·exact ⟨x,by simp,hx⟩
theorem I8 {t:Int} (h0:t≠0) (h:t.natAbs≤540):(Bv t).1≠0∧(Bv t).1.natAbs≤540∧1≤(Bv t).2∧(Bv t).2.natAbs≤540:=by
 have h1:=D2 h0 (by omega)
 have h2:=H7 h1
 refine ⟨h1.2.2.1,by omega,h1.2.1,?_⟩
 have:=Nat.le_mul_of_pos_right (Bv t).2.natAbs (show 0<(Bv t).2.natAbs by have:=h1.2.1;omega)
 omega
theorem Ob {a b c d x:Int} (ha:Sm a) (hb:Sm b) (hc:Sm c) (hd:Sm d) (hx:0≤x) (hx3:x≤3) {w:List Int×Bool} (hw:Ev (fun k=>Ai.l0 k a b c d (x+1)) w) : ∀(n:Nat) (y:Int),0≤y→y+n=4→
  Ev (fun k=>Ai.l1 k a b c d x y) (orS w (z4y a b c d x n y)):=by
 intro n
 induction n with
 | zero =>
  intro y hy hn
  simp only [z4y]
  refine Ev.step (fun k=>?_) hw
  simp only [Ai.l1]
  rw [if_neg (by omega),w64 (x:=x+1) (by omega) (by omega)]
 | succ n ih =>
  intro y hy hn
  have hy3:y≤3:=by omega
  simp only [z4y]
  have next:=ih (y+1) (by omega) (by omega)
  by_cases c0:x=0∧y=0
  ·have e:z4c a b c d x y=none:=by unfold z4c;rw [if_pos c0]
   rw [e]
   refine Ev.step (f:=fun k=>Ai.j2 k a b c d x y true) (fun k=>?_) ?_
   ·simp only [Ai.l1]
    have:(y==0)=true:=by simp [c0.2]
    rw [if_pos hy3,if_pos c0.1,this]
   refine Ev.step (fun k=>?_) next
   simp only [Ai.j2]
   rw [if_pos trivial,w64 (x:=y+1) (by omega) (by omega)]
  ·refine Ev.step (f:=fun k=>Ai.j2 k a b c d x y false) (fun k=>?_) ?_
   ·simp only [Ai.l1]
    rw [if_pos hy3]
    by_cases x0:x=0
    ·have:(y==0)=false:=by simpa using fun e=>c0 ⟨x0,e⟩
     rw [if_pos x0,this]
    ·rw [if_neg x0]
   have hT:=t4_bd ha hb hx hx3 hy hy3
   have hw4:=t4_w ha hb hx hx3 hy hy3
   apply Ev.step
   ·intro k
    simp only [Ai.j2]
    rw [if_neg (by simp),hw4,w64 (x:=y+1) (by omega) (by omega)]
   by_cases c1:t4 a b x y=0
   ·have e:z4c a b c d x y=some (DM [x,y,0,0]):=by unfold z4c;rw [if_neg c0,if_pos c1]
    rw [e]
    refine Cn (fun k=>if_pos c1) ?_
    exact (Hv (KK c0) (by intro t ht;simp at ht;omega) (by simp)).bind (Ev.now _)
   ·refine Cn (fun k=>if_neg c1) ?_
    obtain ⟨k1,k2,k3,k4⟩:=I8 c1 hT
    refine (DI c1 (by omega)).bind ?_
    by_cases c2:30<absI (Bv (t4 a b x y)).1
    ·have e:z4c a b c d x y=none:=by unfold z4c;rw [if_neg c0,if_neg c1,if_pos c2]
     rw [e]
     have hf:BK [c,d,(Bv (t4 a b x y)).1]=false:=by
      rw [Bool.eq_false_iff]
      intro h
      have:=(BP.1 h).1 (Bv (t4 a b x y)).1 (by simp)
      unfold absI at c2;have:=this.2;omega
     have hv:Ev (fun k=>Di.f k [c,d,(Bv (t4 a b x y)).1]) ([],false):=by
      unfold Di.f AN.f
      refine (BR (xs:=[c,d,(Bv (t4 a b x y)).1]) (fun t ht=>?_) (by simp)).bind ?_
      ·have:=hc.2
       have:=hd.2
       simp only [List.mem_cons,List.not_mem_nil,or_false] at ht
       rcases ht with rfl|rfl|rfl<;>omega
      ·rw [hf];exact Cn (fun k=>if_neg (by simp)) (Ev.now _)
     refine hv.bind ?_
     exact Cn (fun k=>if_neg (by simp)) next
    ·have hs:Sm (Bv (t4 a b x y)).1:=⟨k1,by unfold absI at c2;omega⟩
     have hv:Ev (fun k=>Di.f k [c,d,(Bv (t4 a b x y)).1]) (resS (z3 c d (Bv (t4 a b x y)).1)):=KC _ hc hd hs
     refine hv.bind ?_
     cases hz:z3 c d (Bv (t4 a b x y)).1 with
     | none =>
      have e:z4c a b c d x y=none:=by unfold z4c;rw [if_neg c0,if_neg c1,if_neg c2,hz]
      rw [e]
      exact Cn (fun k=>if_neg (by simp [resS])) next
     | some t =>
      obtain ⟨⟨p,q,r,rfl⟩,z0⟩:=J3 hc hd hs hz
      have e:z4c a b c d x y=some (DM [x*r,y*r,(Bv (t4 a b x y)).2*p,(Bv (t4 a b x y)).2*q]):=by unfold z4c;rw [if_neg c0,if_neg c1,if_neg c2,hz]
      rw [e]
      obtain ⟨m1,m2,m3,m4,m5⟩:=Mr hx hx3 hy hy3 (z0.2.2.2 p (by simp)) (z0.2.2.2 q (by simp)) (z0.2.2.2 r (by simp)) k4
      refine Cn (g:=fun k=>(Bf.f k [x*r,y*r,(Bv (t4 a b x y)).2*p,(Bv (t4 a b x y)).2*q]).bind fun t=>some (t,true)) (fun k=>?_) ((Hv (z4_ne c0 (show (Bv (t4 a b x y)).2≠0 by omega) z0.2.2.1) m5 (by simp)).bind (Ev.now _))
      rw [show resS (some [p,q,r])=([p,q,r],true) from rfl,if_pos rfl,if_pos (by simp),if_pos (by simp),if_pos (by simp),rd0,rd1,rd2,m1,m2,m3,m4]
theorem OX {a b c d:Int} (ha:Sm a) (hb:Sm b) (hc:Sm c) (hd:Sm d) : ∀(n:Nat) (x:Int),0≤x→x+n=4→Ev (fun k=>Ai.l0 k a b c d x) (resS (z4x a b c d n x)):=by
 intro n
 induction n with
 | zero =>
  intro x hx hn
  simp only [z4x]
  refine Ev.step (f:=fun _=>some ([],false)) (fun k=>?_) (Ev.now _)
  simp only [Ai.l0]
  rw [if_neg (by omega)]
 | succ n ih =>
  intro x hx hn
  simp only [z4x]
  have:=Ob ha hb hc hd hx (by omega) (ih (x+1) (by omega) (by omega)) 4 0 (by omega) (by omega)
  refine Ev.step (f:=fun k=>Ai.l1 k a b c d x 0) (fun k=>?_) ?_
  ·simp only [Ai.l0]
   rw [if_pos (by omega)]
  ·cases hh:z4y a b c d x 4 0 with
   | some v=>rw [hh] at this;exact this
   | none=>rw [hh] at this;exact this
theorem Lk {a b c d:Int} (ha:Sm a) (hb:Sm b) (hc:Sm c) (hd:Sm d):Ev (fun k=>Ai.f k [a,b,c,d]) (resS (z4 a b c d)):=by
 refine Cn (fun k=>?_) (OX ha hb hc hd 4 0 (by omega) (by omega))
 unfold Ai.f
 rw [if_pos (by simp),if_pos (by simp),if_pos (by simp),if_pos (by simp)]
 rfl
theorem two_bd {a b:Int} (ha:Sm a) (hb:Sm b):(∃t∈[(Bv b).2,(Bv a).2],t≠0)∧∀t∈[(Bv b).2,(Bv a).2],t.natAbs≤4000000000000000000:=by
 have h1:=E4 ha
 have h2:=E4 hb
 exact ⟨⟨(Bv b).2,by simp,by omega⟩,by intro t ht;simp at ht;omega⟩
theorem Gp {f:List Int} (hx : ∀x∈f,x.natAbs≤1000000) (hl:f.length≤100):Ev (fun k=>BI.f k f) (resS (zF f)):=by
 by_cases c:BK f=true
 ·have h:=BP.1 c
  have c':=c
  match f,h,c,hx with
  | [a],h,c,hx =>
   have e:zF [a]=none:=by unfold zF;rw [if_pos c]
   rw [e]
   unfold BI.f AN.f
   refine (BR hx (by simp)).bind ?_
   rw [c]
   exact Cn (g:=fun _=>some ([],false)) (fun k=>by rw [if_pos rfl,if_neg (by simp),if_neg (by simp),if_neg (by simp)]) (Ev.now _)
  | [a,b],h,c,hx =>
   have ha:=h.1 a (by simp)
   have hb:=h.1 b (by simp)
   unfold BI.f AN.f
   refine (BR hx (by simp)).bind ?_
   rw [c]
   refine Cn (fun k=>by rw [if_pos rfl,if_pos (by simp),if_pos (by simp)]) ?_
   refine (DI ha.1 (by have:=ha.2;omega)).bind ?_
   refine Cn (fun k=>if_pos (by simp)) ?_
   refine (DI hb.1 (by have:=hb.2;omega)).bind ?_
   have k2:=E4 hb
   rw [w64 (x := -(Bv b).1) (by omega) (by omega)]
   obtain ⟨t1,t2⟩:=two_bd ha hb
   by_cases c1:(Bv a).1+(Bv b).1=0
   ·have e:zF [a,b]=some (DM [(Bv b).2,(Bv a).2]):=by unfold zF;rw [if_pos c];exact if_pos c1
    rw [e]
    exact Cn (fun k=>if_pos (show (Bv a).1 = -(Bv b).1 by omega)) ((Hv t1 t2 (by simp)).bind (Ev.now _))
   ·have e:zF [a,b]=none:=by unfold zF;rw [if_pos c];exact if_neg c1
    rw [e]
    exact Cn (fun k=>if_neg (show ¬(Bv a).1 = -(Bv b).1 by omega)) (Ev.now _)
  | [a,b,d],h,c,hx =>
   have e:zF [a,b,d]=z3 a b d:=by unfold zF;rw [if_pos c]
   rw [e]
   exact KC _ (h.1 a (by simp)) (h.1 b (by simp)) (h.1 d (by simp))
  | [a,b,d,g],h,c,hx =>
   have e:zF [a,b,d,g]=z4 a b d g:=by unfold zF;rw [if_pos c]
   rw [e]
   unfold BI.f AN.f
   refine (BR hx (by simp)).bind ?_
   rw [c]
   refine Cn (fun k=>by rw [if_pos rfl,if_neg (by simp),if_neg (by simp),if_pos (by simp)]) ?_
   exact (Lk (h.1 a (by simp)) (h.1 b (by simp)) (h.1 d (by simp)) (h.1 g (by simp))).bind (Ev.now _)
  | [],h,c,hx=>simp at h
  | _::_::_::_::_::_,h,c,hx=>simp at h
 ·have e:zF f=none:=by unfold zF;rw [if_neg c]
  rw [e]
  unfold BI.f AN.f
  refine (BR hx (by omega)).bind ?_
  rw [Bool.eq_false_iff.2 c]
  exact Cn (fun k=>if_neg (by simp)) (Ev.now _)
theorem Hl {a b c:Int} (ha:Sm a) (hb:Sm b) (hc:Sm c):Ev (fun k=>B3.f k [a,b,c]) (resS (z3 a b c)):=by
 unfold B3.f
 have hM:=MH ha hb hc
 have hN:=LO ha.1 hb.1 hc.1 (by omega)
 refine (Jz ha hb hc).bind ?_
 have hS:=Ju (nrm_sn hN hM)
 obtain ⟨l,n1,_⟩:=hN
 unfold z3
 generalize nrm3 a b c=s at *
 obtain ⟨⟨a',b',c'⟩,x,y,z⟩:=s
 simp only [outN] at n1 hS ⊢
 refine hS.bind ?_
 cases hz:zs a' b' c' with
 | none=>exact Cn (g:=fun _=>some ([],false)) (fun k=>if_neg (by simp [resS])) (Ev.now _)
 | some t =>
  obtain ⟨u,v,w,rfl,_⟩:=zs_is hz
  obtain ⟨hne,hq,h⟩:=Pm n1 hM hz
  have h1:=h (u*x) (by simp)
  have h2:=h (v*y) (by simp)
  have h3:=h (w*z) (by simp)
  refine Cn (g:=fun k=>(AL.f k [u*x,v*y,w*z]).bind fun t=>some (t,true)) (fun k=>?_) ((Ga hne (fun t ht=>by have:=h t ht;omega) (by simp)).bind (Ev.now _))
  rw [show resS (some [u,v,w])=([u,v,w],true) from rfl,if_pos rfl]
  refine (if_pos (show (0:Int)<(([x,y,z]:List Int).length:Int) by simp)).trans ?_
  refine (if_pos (show (0:Int)<(([u,v,w]:List Int).length:Int) by simp)).trans ?_
  refine (if_pos (show (1:Int)<(([x,y,z]:List Int).length:Int) by simp)).trans ?_
  refine (if_pos (show (1:Int)<(([u,v,w]:List Int).length:Int) by simp)).trans ?_
  refine (if_pos (show (2:Int)<(([x,y,z]:List Int).length:Int) by simp)).trans ?_
  refine (if_pos (show (2:Int)<(([u,v,w]:List Int).length:Int) by simp)).trans ?_
  rw [rd0,rd1,rd2,rd0,rd1,rd2,Int.mul_comm x u,Int.mul_comm y v,Int.mul_comm z w,w64 (x:=u*x) (by omega) (by omega),w64 (x:=v*y) (by omega) (by omega),w64 (x:=w*z) (by omega) (by omega)]
theorem rd40 (a b c d:Int):rd [a,b,c,d] 0=a:=rfl
theorem rd41 (a b c d:Int):rd [a,b,c,d] 1=b:=rfl
theorem rd42 (a b c d:Int):rd [a,b,c,d] 2=c:=rfl
theorem rd43 (a b c d:Int):rd [a,b,c,d] 3=d:=rfl
theorem Oi {a b c d x:Int} (ha:Sm a) (hb:Sm b) (hc:Sm c) (hd:Sm d) (hx:0≤x) (hx3:x≤3) {w:List Int×Bool} (hw:Ev (fun k=>Aq.l0 k [a,b,c,d] (x+1)) w) : ∀(n:Nat) (y:Int),0≤y→y+n=4→
  Ev (fun k=>Aq.l1 k [a,b,c,d] x y) (orS w (z4y a b c d x n y)):=by
 intro n
 induction n with
 | zero =>
  intro y hy hn
  simp only [z4y]
  refine Ev.step (fun k=>?_) hw
  simp only [Aq.l1]
  rw [if_neg (by omega),w64 (x:=x+1) (by omega) (by omega)]
 | succ n ih =>
  intro y hy hn
  have hy3:y≤3:=by omega
  simp only [z4y]
  have next:=ih (y+1) (by omega) (by omega)
  by_cases c0:x=0∧y=0
  ·have e:z4c a b c d x y=none:=by unfold z4c;rw [if_pos c0]
   rw [e]
   refine Ev.step (f:=fun k=>Aq.j2 k [a,b,c,d] x y true) (fun k=>?_) ?_
   ·simp only [Aq.l1]
    have:(y==0)=true:=by simp [c0.2]
    rw [if_pos hy3,if_pos c0.1,this]
   refine Ev.step (fun k=>?_) next
   simp only [Aq.j2]
   rw [if_pos trivial,w64 (x:=y+1) (by omega) (by omega)]
  ·refine Ev.step (f:=fun k=>Aq.j2 k [a,b,c,d] x y false) (fun k=>?_) ?_
   ·simp only [Aq.l1]
    rw [if_pos hy3]
    by_cases x0:x=0
    ·have:(y==0)=false:=by simpa using fun e=>c0 ⟨x0,e⟩
     rw [if_pos x0,this]
    ·rw [if_neg x0]
   have hT:=t4_bd ha hb hx hx3 hy hy3
   have hw4:=t4_w ha hb hx hx3 hy hy3
   apply Ev.step
   ·intro k
    simp only [Aq.j2]
    rw [if_neg (by simp),if_pos (by simp),if_pos (by simp),rd40,rd41,rd42,rd43,hw4,w64 (x:=y+1) (by omega) (by omega)]
   by_cases c1:t4 a b x y=0
   ·have e:z4c a b c d x y=some (DM [x,y,0,0]):=by unfold z4c;rw [if_neg c0,if_pos c1]
    rw [e]
    refine Cn (fun k=>if_pos c1) ?_
    exact (Ga (KK c0) (by intro t ht;simp at ht;omega) (by simp)).bind (Ev.now _)
   ·refine Cn (fun k=>if_neg c1) ?_
    obtain ⟨k1,k2,k3,k4⟩:=I8 c1 hT
    refine (DT c1 (by omega)).bind ?_
    have hsz:Bc.f (Bv (t4 a b x y)).1=some (absI (Bv (t4 a b x y)).1):=by simp only [Bc.f];rw [EL (by omega) (by omega)]
    by_cases c2:30<absI (Bv (t4 a b x y)).1
    ·have e:z4c a b c d x y=none:=by unfold z4c;rw [if_neg c0,if_neg c1,if_pos c2]
     rw [e]
     exact Cn (fun k=>by rw [hsz,Option.bind_some,if_pos (by omega)]) next
    ·have hs:Sm (Bv (t4 a b x y)).1:=⟨k1,by unfold absI at c2;omega⟩
     refine Cn (fun k=>by rw [hsz,Option.bind_some,if_neg (by omega),if_pos (by simp),if_pos (by simp)]) ?_
     refine (Hl hc hd hs).bind ?_
     cases hz:z3 c d (Bv (t4 a b x y)).1 with
     | none =>
      have e:z4c a b c d x y=none:=by unfold z4c;rw [if_neg c0,if_neg c1,if_neg c2,hz]
      rw [e]
      exact Cn (fun k=>if_neg (by simp [resS])) next
     | some t =>
      obtain ⟨⟨p,q,r,rfl⟩,z0⟩:=J3 hc hd hs hz
      have e:z4c a b c d x y=some (DM [x*r,y*r,(Bv (t4 a b x y)).2*p,(Bv (t4 a b x y)).2*q]):=by unfold z4c;rw [if_neg c0,if_neg c1,if_neg c2,hz]
      rw [e]
      obtain ⟨m1,m2,m3,m4,m5⟩:=Mr hx hx3 hy hy3 (z0.2.2.2 p (by simp)) (z0.2.2.2 q (by simp)) (z0.2.2.2 r (by simp)) k4
      refine Cn (g:=fun k=>(AL.f k [x*r,y*r,(Bv (t4 a b x y)).2*p,(Bv (t4 a b x y)).2*q]).bind fun t=>some (t,true)) (fun k=>?_) ((Ga (z4_ne c0 (show (Bv (t4 a b x y)).2≠0 by omega) z0.2.2.1) m5 (by simp)).bind (Ev.now _))
      rw [show resS (some [p,q,r])=([p,q,r],true) from rfl,if_pos rfl,if_pos (by simp),if_pos (by simp),if_pos (by simp),rd0,rd1,rd2,m1,m2,m3,m4]
end Go.Proofs.YtacfcoilmdhgnaaGreatDoor.QFnExecuteWhat
