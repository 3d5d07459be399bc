/- The plain texts of this claim, one behind the other. -/
import Derived.Test.YtacfcoilmdhgnaaGreatDoorYWMore
set_option linter.unusedVariables false
set_option linter.unusedSimpArgs false
namespace Locg
open Go.RowKit Go.Proofs.YtacfcoilmdhgnaaGreatDoorW.PrintWords
theorem w64 {x:Int} (h : -9223372036854775808≤x) (h':x≤9223372036854775807):wrap64 x=x:=by unfold wrap64;omega
theorem w64' {x:Int} (h:0≤x) (h':x≤9223372036854775807):wrap64 x=x:=w64 (by omega) h'
theorem EM {a b:Int} (h0:0≤a) (h:a≤b):a*a≤b*b:=Int.mul_le_mul h h h0 (by omega)
theorem sq_lt {a b:Int} (h0:0≤a) (h:a<b):a*a<b*b:=by
 have h1:a*a≤a*b:=Int.mul_le_mul_of_nonneg_left (by omega) h0
 have h2:a*b<b*b:=Int.mul_lt_mul_of_pos_right h (by omega)
 omega
theorem D3 {a b:Int} (h0:0≤b) (h:a*a<b*b):a<b:=by
 rcases Int.lt_or_le a b with h1|h1
 ·exact h1
 ·have:=EM h0 h1;omega
theorem JP {a b:Int} (h0:0≤b) (h:a*a≤b*b):a≤b:=by
 rcases Int.lt_or_le b a with h1|h1
 ·have:=sq_lt h0 h1;omega
 ·exact h1
theorem sq_nonneg (a:Int):0≤a*a:=by
 rcases Int.le_total 0 a with h|h
 ·exact Int.mul_nonneg h h
 ·have:=Int.mul_nonneg (a := -a) (b := -a) (by omega) (by omega);rw [Int.neg_mul_neg] at this;exact this
theorem Dx {a b A B:Int} (ha:0≤a) (hA:a≤A) (hb:0≤b) (hB:b≤B):a*b≤A*B:=Int.mul_le_mul hA hB hb (by omega)
def Fo:Nat→Nat
 | 0=>0
 | n+1=>if (Fo n+1)*(Fo n+1)≤n+1 then Fo n+1 else Fo n
theorem Jd (n:Nat):Fo n*Fo n≤n∧n<(Fo n+1)*(Fo n+1):=by
 induction n with
 | zero=>simp [Fo]
 | succ n ih =>
  unfold Fo
  split
  ·rename_i h
   refine ⟨h,?_⟩
   have e:(Fo n+1+1)*(Fo n+1+1)=(Fo n+1)*(Fo n+1)+2*Fo n+3:=by grind
   omega
  ·rename_i h
   exact ⟨by omega,by omega⟩
def isq (n:Int):Int:=(Fo n.toNat:Nat)
theorem EW (n:Int):0≤isq n:=Int.natCast_nonneg _
theorem isq_le {n:Int} (h:0≤n):isq n*isq n≤n:=by
 have:=(Jd n.toNat).1
 have e:isq n*isq n=((Fo n.toNat*Fo n.toNat:Nat):Int):=by simp [isq]
 omega
theorem isq_lt {n:Int} (h:0≤n):n<(isq n+1)*(isq n+1):=by
 have:=(Jd n.toNat).2
 have e:(isq n+1)*(isq n+1)=(((Fo n.toNat+1)*(Fo n.toNat+1):Nat):Int):=by simp [isq]
 omega
theorem Ow {n b:Int} (h:0≤n) (hb:0≤b) (h':n<b*b):isq n<b:=D3 hb (by have:=isq_le h;omega)
theorem Ft {n r:Int} (h0:0≤r) (h:r*r≤n) (h':n<(r+1)*(r+1)):isq n=r:=by
 have hn:0≤n:=by have:=sq_nonneg r;omega
 apply Int.le_antisymm
 ·have:=isq_le hn;have:=D3 (a:=isq n) (b:=r+1) (by omega) (by omega);omega
 ·have:=isq_lt hn;have:=D3 (a:=r) (b:=isq n+1) (by have:=EW n;omega) (by omega);omega
theorem succ_sq (r:Int):(r+1)*(r+1)=r*r+2*r+1:=by grind
theorem isq_sq {r:Int} (h0:0≤r):isq (r*r)=r:=Ft h0 (Int.le_refl _) (by have:=succ_sq r;omega)
theorem I0 {n:Int} (h:0≤n):Int.tdiv n 2=n/2:=Int.tdiv_eq_ediv_of_nonneg h
theorem wmul {a b:Int} (ha:0≤a) (hA:a≤1048577) (hb:0≤b) (hB:b≤1048577):wrap64 (a*b)=a*b :=
 w64' (Int.mul_nonneg ha hb) (by have:=Dx ha hA hb hB;omega)
def wayW (n x:Int):Int:=if isq (n-x*x)*isq (n-x*x)=n-x*x then if x>0 then if isq (n-x*x)>0 then 4 else 2 else if isq (n-x*x)>0 then 2 else 1 else 0
def r2from (n:Int):Nat→Int→Int
 | 0,_=>0
 | d+1,x=>wayW n x+r2from n d (x+1)
def r2 (n:Int):Int:=r2from n (isq n+1).toNat 0
def conv (n:Int):Nat→Int→Int
 | 0,_=>0
 | d+1,k=>r2 k*r2 (n-k)+conv n d (k+1)
def r4 (n:Int):Int:=conv n (n+1).toNat 0
theorem CQ {xs:List Int} {j:Nat} (h:j<xs.length):xs.drop j=rd xs (j:Int)::xs.drop (j+1):=by
 rw [List.drop_eq_getElem_cons h]
 simp [rd,List.getElem?_eq_getElem h]
theorem DA {xs:List Int} {j:Nat} (h:j<xs.length):rd xs (j:Int)∈xs:=by
 simp [rd,List.getElem?_eq_getElem h]
def D7 (f:Int→Option (List Int)) (c left:Int):Nat→Int→Option (List Int)
 | 0,_=>none
 | d+1,x=>if x*x*c≤left then match f x with|some r=>some (x::r)|none=>D7 f c left d (x+1) else none
def sqs:Nat→Int→Int→Option (List Int)
 | 0,low,left=>if isq left*isq left=left∧low≤isq left then some [isq left] else none
 | m+1,low,left=>D7 (fun x=>sqs m x (left-x*x)) (m+2) left (left+2-low).toNat low
theorem Ec {f:Int→Option (List Int)} {c left:Int} (d:Nat) {x:Int} (h : ¬x*x*c≤left):D7 f c left d x=none:=by
 cases d with
 | zero=>rfl
 | succ d=>simp only [D7,if_neg h]
theorem Ek {c left x:Int} (hc:1≤c) (hx:0≤x) (h:x*x*c≤left):x*x≤left∧x≤left:=by
 have h0:=sq_nonneg x
 have h1:x*x*1≤x*x*c:=Int.mul_le_mul_of_nonneg_left hc h0
 have h2:x≤x*x:=by
  rcases Int.lt_or_le x 1 with h|h
  ·omega
  ·have:=Int.mul_le_mul_of_nonneg_left (c:=x) h hx;omega
 omega
theorem F5 {f:Int→Option (List Int)} {c left x:Int} {r:List Int} (hc:1≤c) (hx:0≤x) (h:x*x*c≤left) (hf:f x=some r):D7 f c left (left+2-x).toNat x=some (x::r):=by
 have:=Ek hc hx h
 obtain ⟨d,hd⟩ : ∃d,(left+2-x).toNat=d+1:=⟨(left+1-x).toNat,by omega⟩
 rw [hd]
 simp only [D7,if_pos h,hf]
theorem FC {f:Int→Option (List Int)} {c left x:Int} (hc:1≤c) (hx:0≤x) (h:x*x*c≤left) (hf:f x=none):D7 f c left (left+2-x).toNat x=D7 f c left (left+2-(x+1)).toNat (x+1):=by
 have:=Ek hc hx h
 obtain ⟨d,hd⟩ : ∃d,(left+2-x).toNat=d+1:=⟨(left+1-x).toNat,by omega⟩
 rw [hd,show (left+2-(x+1)).toNat=d from by omega]
 simp only [D7,if_pos h,hf]
end Locg
namespace Locg
open Go.RowKit Go.Proofs.YtacfcoilmdhgnaaGreatDoorW.PrintWords Go.Proofs.YtacfcoilmdhgnaaGreatDoorW.PrintMore
def spl (p:Int):Nat→Int→Int×Int
 | 0,n=>(0,n)
 | d+1,n=>if n.tmod p=0 then ((spl p d (n.tdiv p)).1+1,(spl p d (n.tdiv p)).2) else (0,n)
def val (p n:Int):Int:=(spl p 64 n).1
def unit (p n:Int):Int:=(spl p 64 n).2
theorem F4 {n p:Int} (hp:2≤p) (hn:n≠0) (h:n.tmod p=0):n.tdiv p≠0∧n=p*n.tdiv p∧2*(n.tdiv p).natAbs≤n.natAbs∧(0<n→0<n.tdiv p)∧(n<0→n.tdiv p<0):=by
 have e:n=p*n.tdiv p:=by have:=Int.mul_tdiv_add_tmod n p;omega
 generalize n.tdiv p=m at e
 have hm:m≠0:=by intro h0;subst h0;simp at e;exact hn e
 have hk:n.natAbs=p.natAbs*m.natAbs:=by rw [e,Int.natAbs_mul]
 have h2:2*m.natAbs≤p.natAbs*m.natAbs:=Nat.mul_le_mul_right _ (by omega)
 refine ⟨hm,e,by omega,fun h0=>?_,fun h0=>?_⟩
 ·rcases Int.lt_or_le 0 m with h1|h1
  ·exact h1
  ·have:=Int.mul_nonneg (a:=p) (b := -m) (by omega) (by omega);rw [Int.mul_neg] at this;omega
 ·rcases Int.lt_or_le m 0 with h1|h1
  ·exact h1
  ·have:=Int.mul_nonneg (a:=p) (b:=m) (by omega) h1;omega
theorem JM {p:Int} (hp:2≤p) : ∀(d:Nat) (n:Int),n≠0→n.natAbs<2 ^ d→
  n=p ^ (spl p d n).1.toNat*(spl p d n).2∧(spl p d n).2.tmod p≠0∧0≤(spl p d n).1∧(spl p d n).1<d∧(spl p d n).2≠0∧(spl p d n).2.natAbs≤n.natAbs∧(0<n→0<(spl p d n).2):=by
 intro d
 induction d with
 | zero=>intro n hn h;simp at h;omega
 | succ d ih =>
  intro n hn h
  by_cases c:n.tmod p=0
  ·obtain ⟨h0,h1,h2,h3,_⟩:=F4 hp hn c
   obtain ⟨g1,g2,g3,g4,g5,g6,g7⟩:=ih (n.tdiv p) h0 (by rw [Nat.pow_succ] at h;omega)
   simp only [spl,if_pos c]
   refine ⟨?_,g2,by omega,by omega,g5,by omega,fun h=>g7 (h3 h)⟩
   rw [show ((spl p d (n.tdiv p)).1+1).toNat=(spl p d (n.tdiv p)).1.toNat+1 from by omega,Int.pow_succ,Int.mul_comm (p ^ _) p,Int.mul_assoc,← g1]
   exact h1
  ·simp only [spl,if_neg c]
   refine ⟨by simp,c,by omega,by omega,hn,by omega,fun h=>h⟩
theorem JD {p:Int} (hp:2≤p) : ∀(d:Nat) (n:Int),n≠0→n.natAbs<2 ^ d→spl p (d+1) n=spl p d n:=by
 intro d
 induction d with
 | zero=>intro n hn h;simp at h;omega
 | succ d ih =>
  intro n hn h
  by_cases c:n.tmod p=0
  ·obtain ⟨h0,h1,h2,h3,_⟩:=F4 hp hn c
   have:=ih (n.tdiv p) h0 (by rw [Nat.pow_succ] at h;omega)
   simp only [spl,if_pos c] at this ⊢
   rw [this]
  ·simp only [spl,if_neg c]
theorem LV {p n:Int} (d:Nat) (c:n.tmod p=0):spl p (d+1) n=((spl p d (n.tdiv p)).1+1,(spl p d (n.tdiv p)).2):=by simp only [spl,if_pos c]
theorem Jv {p n:Int} (d:Nat) (c:n.tmod p≠0):spl p (d+1) n=(0,n):=by simp only [spl,if_neg c]
theorem MM {p n:Int} (c:n.tmod p≠0):val p n=0∧unit p n=n:=by
 have e2:spl p 64 n=_:=Jv 63 c
 unfold val unit
 rw [e2]
 exact ⟨rfl,rfl⟩
theorem D5 {p n:Int} (hp:2≤p) (hn:n≠0) (h:n.natAbs<2 ^ 63) :
  n=p ^ (val p n).toNat*unit p n∧(unit p n).tmod p≠0∧0≤val p n∧val p n<64∧unit p n≠0∧(unit p n).natAbs≤n.natAbs∧(0<n→0<unit p n) :=
 JM hp 64 n hn (by omega)
def pl:Nat→Int→Int→List Int
 | 0,_,_=>[]
 | d+1,n,p=>if p*p≤n then (if n.tmod p=0 then p::pl d (unit p n) (p+1) else pl d n (p+1)) else if n>1 then [n] else []
def absI (n:Int):Int:=(n.natAbs:Nat)
def CZ (n:Int):List Int:=pl (n.natAbs+2) (absI n) 2
theorem OS : ∀(d:Nat) (n p:Int),(pl d n p).length≤d
 | 0,_,_=>by simp [pl]
 | d+1,n,p=>by
  simp only [pl]
  have h1:=OS d (unit p n) (p+1)
  have h2:=OS d n (p+1)
  repeat' split
  all_goals simp
  all_goals omega
theorem LC (n:Int):0≤absI n:=by unfold absI;omega
theorem EL {n:Int} (h : -9223372036854775808<n) (h':n≤9223372036854775807):mx n (wrap64 (-n))=absI n:=by
 rw [w64 (by omega) (by omega)];unfold mx absI;omega
theorem pl_ge : ∀(d:Nat) (n p:Int),2≤p→∀q∈pl d n p,2≤q
 | 0,_,_,_,q,hq=>by simp [pl] at hq
 | d+1,n,p,hp,q,hq=>by
  simp only [pl] at hq
  have h1:=pl_ge d (unit p n) (p+1) (by omega) q
  have h2:=pl_ge d n (p+1) (by omega) q
  split at hq
  ·split at hq
   ·rcases List.mem_cons.1 hq with h|h
    ·omega
    ·exact h1 h
   ·exact h2 hq
  ·split at hq
   ·simp at hq;omega
   ·simp at hq
theorem NF {n q:Int} (h:q∈CZ n):2≤q:=pl_ge _ _ _ (by omega) q h
theorem F6 (n:Int):(CZ n).length≤n.natAbs+2:=OS _ _ _
end Locg
namespace Locg
def Dc (q:Int):Prop:=2≤q∧∀r:Int,2≤r→r∣q→r=q
theorem Fk {q a b:Int} (hq:Dc q) (h:q∣a*b):q∣a∨q∣b:=by
 have hg1:((Int.gcd q a:Nat):Int)∣q:=Int.gcd_dvd_left ..
 have hg2:((Int.gcd q a:Nat):Int)∣a:=Int.gcd_dvd_right ..
 rcases Nat.lt_or_ge (Int.gcd q a) 2 with h1|h1
 ·right
  have h0:Int.gcd q a≠0:=by
   intro h0;have:=(Int.gcd_eq_zero_iff.1 h0).1;have:=hq.1;omega
  have hc:Nat.Coprime q.natAbs a.natAbs:=by
   have:Int.gcd q a=Nat.gcd q.natAbs a.natAbs:=rfl
   unfold Nat.Coprime;omega
  have hd:q.natAbs∣a.natAbs*b.natAbs:=by rw [← Int.natAbs_mul];exact Int.natAbs_dvd_natAbs.2 h
  exact Int.natAbs_dvd_natAbs.1 (Nat.Coprime.dvd_of_dvd_mul_left hc hd)
 ·left
  have:=hq.2 _ (show (2:Int)≤((Int.gcd q a:Nat):Int) by omega) hg1
  rw [this] at hg2;exact hg2
theorem inv_ex {p:Int} (hp:Dc p) : ∀(n:Nat) (k:Int),k.toNat≤n→1≤k→k<p→∃j:Int,(k*j)%p=1:=by
 intro n
 induction n with
 | zero=>intro k h h1;omega
 | succ n ih =>
  intro k hn h1 hk
  rcases Int.lt_or_le 1 k with c|c
  ·have hr0:p%k≠0:=by
    intro h0
    have:=hp.2 k (by omega) (Int.dvd_of_emod_eq_zero h0)
    omega
   have hr1:=Int.emod_nonneg p (show k≠0 by omega)
   have hr2:=Int.emod_lt_of_pos p (show 0<k by omega)
   obtain ⟨j,hj⟩:=ih (p%k) (by omega) (by omega) (by omega)
   refine ⟨-((p/k)*j),?_⟩
   have e:k * -((p/k)*j)=(p%k)*j+p*(-j):=by
    have:=Int.mul_ediv_add_emod p k
    have h2:p*j=(k*(p/k)+p%k)*j:=by rw [this]
    grind
   rw [e,Int.add_mul_emod_self_left];exact hj
  ·obtain rfl:k=1:=by omega
   refine ⟨1,?_⟩
   have:=hp.1
   exact Int.emod_eq_of_lt (by omega) (by omega)
def G3:List Int→Int
 | []=>1
 | x::xs=>x*G3 xs
theorem Hh {a b:List Int} (h:a.Perm b):G3 a=G3 b:=by
 induction h with
 | nil=>rfl
 | cons x _ ih=>simp [G3,ih]
 | swap x y l=>simp only [G3];grind
 | trans _ _ h1 h2=>rw [h1,h2]
theorem OY (a p:Int) (σ:Int→Int) : ∀(n:Nat) (L:List Int),L.length≤n→L.Nodup→
  (∀k∈L,σ k∈L∧σ k≠k∧σ (σ k)=k∧(k*σ k)%p=a%p)→∃m,L.length=2*m∧G3 L%p=a ^ m%p:=by
 intro n
 induction n with
 | zero=>intro L hl _ _;match L,hl with|[],_=>exact ⟨0,rfl,by simp [G3]⟩
 | succ n ih =>
  intro L hl hd hs
  match L,hl,hd,hs with
  | [],_,_,_=>exact ⟨0,rfl,by simp [G3]⟩
  | k::L,hl,hd,hs =>
   have hk:=hs k (by simp)
   have hd':=List.nodup_cons.1 hd
   have hmem:σ k∈L:=by
    rcases List.mem_cons.1 hk.1 with h|h
    ·exact absurd h hk.2.1
    ·exact h
   have hN:=hd'.2
   have hlen:(L.erase (σ k)).length+1=L.length:=by
    have:=List.length_erase_of_mem hmem
    have:0<L.length:=List.length_pos_of_mem hmem
    omega
   obtain ⟨m,hm1,hm2⟩:=ih (L.erase (σ k)) (by simp at hl;omega) (hN.erase _) (by
    intro x hx
    have hx2:=(hN.mem_erase_iff).1 hx
    have hxk:x≠k:=fun h=>hd'.1 (h▸hx2.2)
    have h1:=hs x (by simp [hx2.2])
    refine ⟨?_,h1.2⟩
    rw [hN.mem_erase_iff]
    refine ⟨fun h=>?_,?_⟩
    ·have:=h1.2.2.1;rw [h,hk.2.2.1] at this;exact hxk this.symm
    ·rcases List.mem_cons.1 h1.1 with h|h
     ·exfalso;have:=h1.2.2.1;rw [h] at this;exact hx2.1 this.symm
     ·exact h)
   refine ⟨m+1,by simp;omega,?_⟩
   have hp:=Hh (List.perm_cons_erase hmem)
   simp only [G3] at hp ⊢
   rw [hp,← Int.mul_assoc,Int.mul_emod,hk.2.2.2,hm2,← Int.mul_emod,Int.pow_succ,Int.mul_comm]
def upto:Nat→List Int
 | 0=>[]
 | n+1=>((n:Int)+1)::upto n
theorem E5 {n:Nat} {x:Int}:x∈upto n↔1≤x∧x≤n:=by
 induction n with
 | zero=>simp [upto];omega
 | succ n ih=>simp [upto,ih];omega
theorem Ml (n:Nat):(upto n).length=n:=by
 induction n with
 | zero=>rfl
 | succ n ih=>simp [upto,ih]
theorem Ja (n:Nat):(upto n).Nodup:=by
 induction n with
 | zero=>simp [upto]
 | succ n ih =>
  simp only [upto,List.nodup_cons]
  refine ⟨fun h=>?_,ih⟩
  have:=(E5.1 h).2;omega
def mate (p a k:Int):Int:=((upto (p-1).toNat).find? (fun j=>(k*j)%p==a%p)).getD 0
theorem GO {p a:Int}:a%p=0↔p∣a:=⟨Int.dvd_of_emod_eq_zero,Int.emod_eq_zero_of_dvd⟩
theorem Fh {p a b:Int}:a%p=b%p↔p∣a-b:=by
 rw [← GO];exact Int.emod_eq_emod_iff_emod_sub_eq_zero ..
theorem cancel {p k a b:Int} (hp:Dc p) (hk:k%p≠0) (h:(k*a)%p=(k*b)%p):a%p=b%p:=by
 rw [Fh] at h ⊢
 rw [← Int.mul_sub] at h
 rcases Fk hp h with h|h
 ·exact absurd (GO.2 h) hk
 ·exact h
theorem Gb {p a b:Int} (ha:1≤a) (ha':a<p) (hb:1≤b) (hb':b<p) (h:a%p=b%p):a=b:=by
 rwa [Int.emod_eq_of_lt (by omega) ha',Int.emod_eq_of_lt (by omega) hb'] at h
theorem Fw {p k:Int} (h1:1≤k) (h2:k<p):k%p≠0:=by
 rw [Int.emod_eq_of_lt (by omega) h2];omega
theorem GM {p a k:Int} (hp:Dc p) (ha:a%p≠0) (h1:1≤k) (h2:k<p):1≤mate p a k∧mate p a k<p∧(k*mate p a k)%p=a%p:=by
 have hp2:=hp.1
 have hex : ∃j,j∈upto (p-1).toNat∧(k*j)%p=a%p:=by
  obtain ⟨j,hj⟩:=inv_ex hp k.toNat k (by omega) h1 h2
  have e:(k*(j*a%p))%p=a%p:=by
   rw [Int.mul_emod,Int.emod_emod_of_dvd _ (Int.dvd_refl p),← Int.mul_emod,← Int.mul_assoc,Int.mul_emod,hj,Int.one_mul,Int.emod_emod_of_dvd _ (Int.dvd_refl p)]
  refine ⟨j*a%p,?_,e⟩
  have h3:=Int.emod_nonneg (j*a) (show p≠0 by omega)
  have h4:=Int.emod_lt_of_pos (j*a) (show 0<p by omega)
  rw [E5]
  refine ⟨?_,by omega⟩
  rcases Int.lt_or_le 0 (j*a%p) with h|h
  ·omega
  ·exfalso
   have h0:j*a%p=0:=by omega
   rw [h0] at e;simp at e;exact ha e.symm
 obtain ⟨j,hj,he⟩:=hex
 unfold mate
 cases hf:(upto (p-1).toNat).find? (fun j=>(k*j)%p==a%p) with
 | none =>
  have:=List.find?_eq_none.1 hf j hj
  simp at this;exact absurd he this
 | some x =>
  have hm:=E5.1 (List.mem_of_find?_eq_some hf)
  have hx:=List.find?_some hf
  simp only [Option.getD_some]
  refine ⟨hm.1,by omega,by simpa using hx⟩
theorem IV {p a k:Int} (hp:Dc p) (ha:a%p≠0) (h1:1≤k) (h2:k<p):mate p a (mate p a k)=k:=by
 obtain ⟨a1,a2,a3⟩:=GM hp ha h1 h2
 obtain ⟨b1,b2,b3⟩:=GM hp ha a1 a2
 refine Gb b1 b2 h1 h2 (cancel hp (Fw a1 a2) ?_)
 rw [b3,Int.mul_comm,a3]
theorem sq_roots {p x k:Int} (hp:Dc p) (hx1:1≤x) (hx2:x<p) (h1:1≤k) (h2:k<p) (h:(k*k)%p=(x*x)%p):k=x∨k=p-x:=by
 rw [Fh] at h
 have e:k*k-x*x=(k-x)*(k+x):=by grind
 rw [e] at h
 rcases Fk hp h with h|h
 ·left;exact Gb h1 h2 hx1 hx2 (Fh.2 h)
 ·right
  refine Gb h1 h2 (by omega) (by omega) (Fh.2 ?_)
  obtain ⟨c,hc⟩:=h
  exact ⟨c-1,by rw [Int.mul_sub,← hc];omega⟩
theorem no_root {p a:Int} (hp:Dc p) (ha:a%p≠0) (h : ∀x:Int,1≤x→x<p→(x*x)%p≠a%p) : ∃m,(p-1).toNat=2*m∧G3 (upto (p-1).toNat)%p=a ^ m%p:=by
 have:=OY a p (mate p a) _ (upto (p-1).toNat) (Nat.le_refl _) (Ja _) (by
  intro k hk
  have hk:=E5.1 hk
  have h2:k<p:=by omega
  obtain ⟨a1,a2,a3⟩:=GM hp ha hk.1 h2
  refine ⟨E5.2 ⟨a1,by omega⟩,fun e=>?_,IV hp ha hk.1 h2,a3⟩
  rw [e] at a3;exact h k hk.1 h2 a3)
 rw [Ml] at this
 exact this
theorem Ki {p a x:Int} (hp:Dc p) (h3:3≤p) (ho:p%2=1) (ha:a%p≠0) (h1:1≤x) (h2:x<p) (h:(x*x)%p=a%p) :
  ∃m,(p-1).toNat=2*(m+1)∧G3 (upto (p-1).toNat)%p = -(a ^ (m+1))%p:=by
 have hN:=Ja (p-1).toNat
 have hx:x∈upto (p-1).toNat:=E5.2 ⟨h1,by omega⟩
 have hne:p-x≠x:=by omega
 have hN1:=hN.erase x
 have hy:p-x∈(upto (p-1).toNat).erase x:=by
  rw [hN.mem_erase_iff];exact ⟨hne,E5.2 ⟨by omega,by omega⟩⟩
 have hmem : ∀k,k∈((upto (p-1).toNat).erase x).erase (p-x)↔k≠p-x∧k≠x∧1≤k∧k<p:=by
  intro k
  rw [hN1.mem_erase_iff,hN.mem_erase_iff,E5]
  refine ⟨fun ⟨q1,q2,q3,q4⟩=>⟨q1,q2,q3,by omega⟩,fun ⟨q1,q2,q3,q4⟩=>⟨q1,q2,q3,by omega⟩⟩
 obtain ⟨m,m1,m2⟩:=OY a p (mate p a) _ (((upto (p-1).toNat).erase x).erase (p-x)) (Nat.le_refl _) (hN1.erase _) (by
  intro k hk
  obtain ⟨k1,k2,k3,k4⟩:=(hmem k).1 hk
  obtain ⟨a1,a2,a3⟩:=GM hp ha k3 k4
  refine ⟨(hmem _).2 ⟨fun e=>?_,fun e=>?_,a1,a2⟩,fun e=>?_,IV hp ha k3 k4,a3⟩
  ·have hm:=IV hp ha k3 k4
   rw [e] at hm a3
   apply k2
   refine Gb k3 k4 h1 h2 (cancel (k:=p-x) hp (Fw (by omega) (by omega)) ?_)
   rw [Int.mul_comm,a3,← h]
   exfalso
   -- k (p - x) = x x, so k = -x
   have h5:(k*(p-x))%p=(x*x)%p:=by rw [a3,h]
   have h6:((p-x)*k)%p=((p-x)*(p-x))%p:=by
    rw [Int.mul_comm,h5,Fh]
    exact ⟨2*x-p,by grind⟩
   exact k1 (Gb k3 k4 (by omega) (by omega) (cancel hp (Fw (by omega) (by omega)) h6))
  ·rw [e] at a3
   have h5:(x*k)%p=(x*x)%p:=by rw [Int.mul_comm,a3,h]
   exact k2 (Gb k3 k4 h1 h2 (cancel hp (Fw h1 h2) h5))
  ·rw [e] at a3
   rcases sq_roots hp h1 h2 k3 k4 (by rw [a3,h]) with h|h
   ·exact k2 h
   ·exact k1 h)
 have l1:=List.length_erase_of_mem hx
 have l2:=List.length_erase_of_mem hy
 rw [Ml] at l1
 refine ⟨m,by omega,?_⟩
 have p1:=Hh (List.perm_cons_erase hx)
 have p2:=Hh (List.perm_cons_erase hy)
 simp only [G3] at p1 p2
 rw [p1,p2,← Int.mul_assoc,Int.mul_emod,m2]
 have e:(x*(p-x))%p=(-a)%p:=by
  have:(x*(p-x))%p=(-(x*x))%p:=by rw [Fh];exact ⟨x,by grind⟩
  rw [this]
  rw [Fh] at h ⊢
  obtain ⟨c,hc⟩:=h
  exact ⟨-c,by rw [Int.mul_neg,← hc];omega⟩
 rw [e,← Int.mul_emod,Int.pow_succ]
 congr 1
 grind
theorem neg_mod {p a b:Int} (h:a%p=b%p):(-a)%p=(-b)%p:=by
 rw [Fh] at h ⊢
 obtain ⟨c,hc⟩:=h
 exact ⟨-c,by rw [Int.mul_neg,← hc];omega⟩
theorem wilson {p:Int} (hp:Dc p) (h3:3≤p) (ho:p%2=1):G3 (upto (p-1).toNat)%p=(-1)%p:=by
 have h1:(1:Int)%p=1:=Int.emod_eq_of_lt (by omega) (by omega)
 obtain ⟨m,_,h⟩:=Ki (a:=1) (x:=1) hp h3 ho (by omega) (by omega) (by omega) rfl
 rw [h,Int.one_pow]
theorem OZ {p a x:Int} (hp:Dc p) (h3:3≤p) (ho:p%2=1) (ha:a%p≠0) (h1:1≤x) (h2:x<p) (h:(x*x)%p=a%p):a ^ ((p-1)/2).toNat%p=1:=by
 obtain ⟨m,m1,m2⟩:=Ki hp h3 ho ha h1 h2 h
 rw [wilson hp h3 ho] at m2
 have:=neg_mod m2
 rw [Int.neg_neg,Int.neg_neg] at this
 rw [show ((p-1)/2).toNat=m+1 by omega,← this]
 exact Int.emod_eq_of_lt (by omega) (by omega)
theorem euler_no {p a:Int} (hp:Dc p) (h3:3≤p) (ho:p%2=1) (ha:a%p≠0) (h : ∀x:Int,1≤x→x<p→(x*x)%p≠a%p):a ^ ((p-1)/2).toNat%p=p-1:=by
 obtain ⟨m,m1,m2⟩:=no_root hp ha h
 rw [show ((p-1)/2).toNat=m by omega,← m2,wilson hp h3 ho]
 have:(-1:Int)%p=(p-1)%p:=by rw [Fh];exact ⟨-1,by omega⟩
 rw [this];exact Int.emod_eq_of_lt (by omega) (by omega)
theorem KD {p:Int} (hp:Dc p) (h3:3≤p):p%2=1:=by
 rcases Int.emod_two_eq p with h|h
 ·have:=hp.2 2 (by omega) (Int.dvd_of_emod_eq_zero h);omega
 ·exact h
def OddP (p:Int):Prop:=Dc p∧3≤p∧p≤5000
def resS (p r:Int):Nat→Int→Int
 | 0,_ => -1
 | d+1,x=>if x≤p.tdiv 2 then if (x*x).tmod p=r then 1 else resS p r d (x+1) else -1
def powS (m:Int):Nat→Int→Int→Int→Int
 | 0,_,_,acc=>acc
 | d+1,b,e,acc=>if e>0 then if e.tmod 2=1 then powS m d ((b*b).tmod m) (e.tdiv 2) ((acc*b).tmod m) else powS m d ((b*b).tmod m) (e.tdiv 2) acc else acc
def resR (p r:Int):Int:=if r=0 then 0 else resS p r p.toNat 1
def powR (p r:Int):Int:=powS p 13 r ((p-1).tdiv 2) (1%p)
def resPR (p r:Int):Int:=if powR p r=p-1 then -1 else powR p r
def res (p u:Int):Int:=resR p (u%p)
theorem sq_nn (a:Int):0≤a*a:=by
 rcases Int.le_total 0 a with h|h
 ·exact Int.mul_nonneg h h
 ·have:=Int.mul_nonneg (a := -a) (b := -a) (by omega) (by omega);rw [Int.neg_mul_neg] at this;exact this
theorem Mx (a p:Int) : ∀k:Nat,(a%p) ^ k%p=a ^ k%p
 | 0=>by simp
 | k+1=>by rw [Int.pow_succ,Int.pow_succ,Int.mul_emod,Mx a p k,Int.emod_emod_of_dvd _ (Int.dvd_refl p),← Int.mul_emod]
theorem MN {p r:Int} (hp:3≤p) : ∀(d:Nat) (x:Int),1≤x→p/2<x+d→
  (resS p r d x=1∧∃y,x≤y∧y≤p/2∧(y*y)%p=r)∨(resS p r d x = -1∧∀y,x≤y→y≤p/2→(y*y)%p≠r):=by
 have e2:p.tdiv 2=p/2:=Int.tdiv_eq_ediv_of_nonneg (by omega)
 intro d
 induction d with
 | zero=>intro x h1 h2;right;exact ⟨rfl,fun y h3 h4=>by omega⟩
 | succ d ih =>
  intro x h1 h2
  simp only [resS,e2]
  have em:(x*x).tmod p=(x*x)%p:=Int.tmod_eq_emod_of_nonneg (sq_nn x)
  by_cases c:x≤p/2
  ·rw [if_pos c,em]
   by_cases c2:(x*x)%p=r
   ·rw [if_pos c2];exact Or.inl ⟨rfl,x,Int.le_refl _,c,c2⟩
   ·rw [if_neg c2]
    rcases ih (x+1) (by omega) (by omega) with ⟨h,y,y1,y2,y3⟩|⟨h,hy⟩
    ·exact Or.inl ⟨h,y,by omega,y2,y3⟩
    ·refine Or.inr ⟨h,fun y h3 h4=>?_⟩
     rcases Int.lt_or_eq_of_le h3 with h5|h5
     ·exact hy y (by omega) h4
     ·subst h5;exact c2
  ·rw [if_neg c];exact Or.inr ⟨rfl,fun y h3 h4=>by omega⟩
theorem OW {p y:Int} (h1:1≤y) (h2:y<p) : ∃z,1≤z∧z≤p/2∧(z*z)%p=(y*y)%p:=by
 by_cases c:y≤p/2
 ·exact ⟨y,h1,c,rfl⟩
 ·refine ⟨p-y,by omega,by omega,?_⟩
  rw [Fh];exact ⟨p-2*y,by grind⟩
theorem powS_eq {m:Int} (hm:1≤m) : ∀(d:Nat) (b e acc:Int),0≤b→0≤e→e<2 ^ d→0≤acc→acc<m→powS m d b e acc=(acc*b ^ e.toNat)%m:=by
 intro d
 induction d with
 | zero =>
  intro b e acc hb h0 h1 h2 h3
  obtain rfl:e=0:=by simp at h1;omega
  simp only [powS,Int.toNat_zero,Int.pow_zero,Int.mul_one]
  exact (Int.emod_eq_of_lt h2 h3).symm
 | succ d ih =>
  intro b e acc hb h0 h1 h2 h3
  simp only [powS]
  have ht:e.tdiv 2=e/2:=Int.tdiv_eq_ediv_of_nonneg h0
  have hm2:e.tmod 2=e%2:=Int.tmod_eq_emod_of_nonneg h0
  have hbb:(b*b).tmod m=(b*b)%m:=Int.tmod_eq_emod_of_nonneg (sq_nn b)
  have hab:(acc*b).tmod m=(acc*b)%m:=Int.tmod_eq_emod_of_nonneg (Int.mul_nonneg h2 hb)
  have he2:e/2<2 ^ d:=by rw [Int.pow_succ] at h1;omega
  have g1:=Int.emod_nonneg (b*b) (show m≠0 by omega)
  have g2:=Int.emod_nonneg (acc*b) (show m≠0 by omega)
  have g3:=Int.emod_lt_of_pos (acc*b) (show 0<m by omega)
  have sq : ∀(c:Int) (k:Nat),(c*((b*b)%m) ^ k)%m=(c*(b ^ (2*k)))%m:=by
   intro c k
   have:(((b*b)%m) ^ k)%m=(b ^ (2*k))%m:=by
    rw [Int.pow_mul,show b ^ 2=b*b from by rw [Int.pow_succ,Int.pow_succ,Int.pow_zero,Int.one_mul]]
    exact Mx (b*b) m k
   rw [Int.mul_emod,this,← Int.mul_emod]
  by_cases c:e>0
  ·rw [if_pos c,ht,hm2,hbb,hab]
   by_cases c2:e%2=1
   ·rw [if_pos c2,ih _ _ _ g1 (by omega) he2 g2 g3,sq,Int.mul_emod,Int.emod_emod_of_dvd _ (Int.dvd_refl m),← Int.mul_emod,Int.mul_assoc,show e.toNat=2*(e/2).toNat+1 by omega,Int.pow_succ,Int.mul_comm b]
   ·rw [if_neg c2,ih _ _ _ g1 (by omega) he2 h2 h3,sq,show e.toNat=2*(e/2).toNat by omega]
  ·obtain rfl:e=0:=by omega
   rw [if_neg c]
   simp only [Int.toNat_zero,Int.pow_zero,Int.mul_one]
   exact (Int.emod_eq_of_lt h2 h3).symm
theorem powR_eq {p r:Int} (h:OddP p) (hr:0≤r):powR p r=r ^ ((p-1)/2).toNat%p:=by
 obtain ⟨hp,h3,h5⟩:=h
 have e2:(p-1).tdiv 2=(p-1)/2:=Int.tdiv_eq_ediv_of_nonneg (by omega)
 have h1:(1:Int)%p=1:=Int.emod_eq_of_lt (by omega) (by omega)
 unfold powR
 rw [e2,h1,powS_eq (by omega) 13 r ((p-1)/2) 1 hr (by omega) (by omega) (by omega) (by omega),Int.one_mul]
theorem KV {p u:Int} (h:OddP p):(u%p=0∧res p u=0∧powR p (u%p)=0)∨(u%p≠0∧res p u=1∧powR p (u%p)=1)∨(u%p≠0∧res p u = -1∧powR p (u%p)=p-1):=by
 have hr0:=Int.emod_nonneg u (show p≠0 by have:=h.2.1;omega)
 have hrp:=Int.emod_lt_of_pos u (show 0<p by have:=h.2.1;omega)
 rw [powR_eq h hr0]
 obtain ⟨hp,h3,h5⟩:=h
 have ho:=KD hp h3
 have hee:u%p%p=u%p:=Int.emod_emod_of_dvd _ (Int.dvd_refl p)
 unfold res resR
 by_cases c:u%p=0
 ·left
  refine ⟨c,if_pos c,?_⟩
  rw [c,Int.zero_pow (by omega)];simp
 ·right
  rw [if_neg c]
  rcases MN (r:=u%p) h3 p.toNat 1 (by omega) (by omega) with ⟨e,y,y1,y2,y3⟩|⟨e,hy⟩
  ·left
   exact ⟨c,e,OZ hp h3 ho (by omega) y1 (by omega) (by omega)⟩
  ·right
   refine ⟨c,e,euler_no hp h3 ho (by omega) ?_⟩
   intro x x1 x2 hx
   obtain ⟨z,z1,z2,z3⟩:=OW x1 x2
   exact hy z z1 z2 (by omega)
theorem res_pow {p u:Int} (h:OddP p):res p u=resPR p (u%p):=by
 have h3:=h.2.1
 unfold resPR
 rcases KV (u:=u) h with ⟨_,e,f⟩|⟨_,e,f⟩|⟨_,e,f⟩<;>rw [e,f]
 ·rw [if_neg (by omega)]
 ·rw [if_neg (by omega)]
 ·rw [if_pos rfl]
theorem Jk {p u:Int} (h:OddP p) (hu:u%p≠0):res p u=1∨res p u = -1:=by
 rcases KV (u:=u) h with ⟨c,e,f⟩|⟨_,e,f⟩|⟨_,e,f⟩
 ·exact absurd c hu
 ·exact Or.inl e
 ·exact Or.inr e
end Locg
namespace Locg
open Go.RowKit Go.Proofs.YtacfcoilmdhgnaaGreatDoorW.PrintWords Go.Proofs.YtacfcoilmdhgnaaGreatDoorW.PrintMore
def Plc (p:Int):Prop:=p=0∨p=2∨OddP p
theorem prime2:Dc 2:=⟨by omega,fun r h hd=>by have:=Int.le_of_dvd (by omega) hd;omega⟩
theorem Pn (a:Int) {m:Int} (h:0<m):Int.tmod (Int.tmod a m+m) m=a%m:=by
 have h1:=Int.tmod_lt_of_pos a h
 have h2 : -m<Int.tmod a m:=by
  rcases Int.le_total 0 a with c|c
  ·have:=Int.tmod_nonneg m c;omega
  ·have e:a = -(-a):=by omega
   rw [e,Int.neg_tmod];have:=Int.tmod_lt_of_pos (-a) h;omega
 rw [Int.tmod_eq_emod_of_nonneg (by omega)]
 have e:a%m=(Int.tmod a m+m)%m:=by
  have:=Int.mul_tdiv_add_tmod a m
  rw [Int.add_emod_right]
  conv=>lhs;rw [← this]
  rw [Int.mul_add_emod_self_left]
 exact e.symm
theorem Gq {a p:Int} (h:a.tmod p≠0):a%p≠0:=fun h'=>h (Int.tmod_eq_zero_of_dvd (Int.dvd_of_emod_eq_zero h'))
def par (x:Int):Nat:=(x%2).toNat
def code (p n:Int):Nat:=if p=0 then if n<0 then 1 else 0 else if p=2 then 4*par (val 2 n)+(unit 2 n%8).toNat/2 else 2*par (val p n)+(if res p (unit p n)=1 then 0 else 1)
def sqAt (n p:Int):Bool:=code p n==0
def hf (e:Nat):Int:=if e%2=0 then 1 else -1
def symC (p:Int) (c d:Nat):Int :=
 if p=0 then (if c=1∧d=1 then -1 else 1)
 else if p=2 then hf (c%4*(d%4)+c/4*((d%4)*(d%4+1)/2)+d/4*((c%4)*(c%4+1)/2))
 else (if c/2=1∧d/2=1∧p%4=3 then -1 else 1)*(if d/2=1 then if c%2=0 then 1 else -1 else 1)*(if c/2=1 then if d%2=0 then 1 else -1 else 1)
def sym (a b p:Int):Int:=symC p (code p a) (code p b)
theorem Fj (x:Int):(par x=0∧x%2=0)∨(par x=1∧x%2=1):=by unfold par;omega
theorem J8 {n:Int} (hn:n≠0):sqAt n 0=decide (n>0):=by
 unfold sqAt code
 by_cases h:n<0
 ·simp [h];omega
 ·simp [h];omega
theorem hf_pm (e:Nat):hf e=1∨hf e = -1:=by unfold hf;split<;>simp
theorem symC_pm (p:Int) (c d:Nat):symC p c d=1∨symC p c d = -1:=by
 unfold symC
 split
 ·split<;>simp
 ·split
  ·exact hf_pm _
  ·repeat' split
   all_goals simp
theorem Mc (a b p:Int):sym a b p=1∨sym a b p = -1:=symC_pm _ _ _
theorem O3 {p:Int} {c d:Nat}:symC p c d=symC p d c:=by
 unfold symC
 split
 ·simp only [and_comm]
 ·split
  ·congr 1;rw [Nat.mul_comm (c%4) (d%4)];omega
  ·rw [Int.mul_right_comm];congr 2
   simp only [← and_assoc,and_comm]
theorem sym_comm (a b p:Int):sym a b p=sym b a p:=O3
theorem Kb {n:Int} (hn:n≠0) (h:n.natAbs<2 ^ 63):unit 2 n%8=1∨unit 2 n%8=3∨unit 2 n%8=5∨unit 2 n%8=7:=by
 have:=Gq (D5 (p:=2) (by omega) hn h).2.1
 omega
theorem P7_bd {p:Int} (h:p=2∨OddP p):2≤p:=by
 rcases h with h|h
 ·omega
 ·have:=h.2.1;omega
end Locg
namespace Locg
open Go.RowKit Go.Proofs.YtacfcoilmdhgnaaGreatDoorW.PrintWords Go.Proofs.YtacfcoilmdhgnaaGreatDoorW.PrintMore
def Sm (x:Int):Prop:=x≠0∧x.natAbs≤30
def I5:List Int→Int→Int
 | [],acc=>acc
 | x::xs,acc=>I5 xs (acc*x)
def prod (xs:List Int):Int:=I5 xs 1
def GI:List Int→Int→Int
 | [],acc=>acc
 | x::xs,acc=>GI xs (if x<0 then acc+1 else acc)
def less (xs:List Int):Int:=GI xs 0
def inn (p x:Int):List Int→Int→Int
 | [],acc=>acc
 | y::ys,acc=>inn p x ys (acc*sym x y p)
def outr (p:Int):List Int→List Int→Int→Int
 | _,[],acc=>acc
 | pre,x::xs,acc=>outr p (pre++[x]) xs (inn p x pre acc)
def inv (xs:List Int) (p:Int):Int:=outr p [] xs 1
def van (xs:List Int) (p:Int):Bool :=
 if p=0 then decide (less xs>0)&&decide (less xs<(xs.length:Int))
 else if (xs.length:Int)=2 then sqAt (-(prod xs)) p
 else if (xs.length:Int)=3 then inv xs p==sym (-1) (-(prod xs)) p
 else if (xs.length:Int)=4 then !(sqAt (prod xs) p)||(inv xs p==sym (-1) (-1) p)
 else false
def Es (xs:List Int) (p:Int):Int :=
 if p=0 then mn (less xs) ((xs.length:Int)-less xs)
 else if van xs p=true then if (xs.length:Int)=4∧sqAt (prod xs) p=true then 2 else 1 else 0
def BK (xs:List Int):Bool:=xs.all (fun x=>decide (x≠0)&&decide (x.natAbs≤30))&&(decide (1≤xs.length)&&decide (xs.length≤4))
theorem BP {xs:List Int}:BK xs=true↔(∀x∈xs,Sm x)∧1≤xs.length∧xs.length≤4:=by
 simp [BK,Sm,and_assoc]
theorem NX {a b:Int} (ha:a=1∨a = -1) (hb:b=1∨b = -1):(a*b=1∨a*b = -1)∧wrap64 (a*b)=a*b:=by
 rcases ha with rfl|rfl<;>rcases hb with rfl|rfl<;>decide +kernel
theorem OH (p x:Int) : ∀(ys:List Int) (acc:Int),(acc=1∨acc = -1)→inn p x ys acc=1∨inn p x ys acc = -1
 | [],acc,h=>h
 | y::ys,acc,h=>OH p x ys _ (NX h (Mc x y p)).1
theorem Mf : ∀(xs:List Int) (acc:Int) (j:Nat),(∀x∈xs,Sm x)→acc≠0→acc.natAbs≤30 ^ j→I5 xs acc≠0∧(I5 xs acc).natAbs≤30 ^ (j+xs.length)
 | [],acc,j,_,h0,h=>⟨h0,h⟩
 | x::xs,acc,j,hx,h0,h=>by
  have h1:=hx x (by simp)
  have h2:(acc*x).natAbs≤30 ^ (j+1):=by rw [Int.natAbs_mul,Nat.pow_succ];exact Nat.mul_le_mul h h1.2
  have:=Mf xs (acc*x) (j+1) (fun y hy=>hx y (by simp [hy])) (Int.mul_ne_zero h0 h1.1) h2
  simp only [I5,List.length_cons]
  rw [show j+(xs.length+1)=j+1+xs.length from by omega]
  exact this
theorem EP {xs:List Int} (hx : ∀x∈xs,Sm x) (hl:xs.length≤5):prod xs≠0∧(prod xs).natAbs≤24300000:=by
 have:=Mf xs 1 0 hx (by omega) (by simp)
 have h2:30 ^ (0+xs.length)≤30 ^ 5:=Nat.pow_le_pow_right (by omega) (by omega)
 exact ⟨this.1,by unfold prod;omega⟩
theorem FL : ∀(xs:List Int) (acc:Int),acc≤GI xs acc∧GI xs acc≤acc+xs.length
 | [],acc=>by simp [GI]
 | x::xs,acc=>by
  have h1:=FL xs (acc+1)
  have h2:=FL xs acc
  simp only [GI,List.length_cons]
  split<;>omega
theorem IB (xs:List Int):0≤less xs∧less xs≤xs.length:=by have:=FL xs 0;unfold less;omega
end Locg
namespace Locg
open Go.RowKit Go.Proofs.YtacfcoilmdhgnaaGreatDoorW.PrintWords Go.Proofs.YtacfcoilmdhgnaaGreatDoorW.PrintMore
theorem sm_i {a:Int} (h:Sm a):a.natAbs<2 ^ 63:=by have:=h.2;omega
theorem van_len {xs:List Int} {p:Int} (h0:p≠0) (h:van xs p=true):2≤xs.length:=by
 unfold van at h
 rw [if_neg h0] at h
 by_cases c2:(xs.length:Int)=2
 ·omega
 ·by_cases c3:(xs.length:Int)=3
  ·omega
  ·by_cases c4:(xs.length:Int)=4
   ·omega
   ·rw [if_neg c2,if_neg c3,if_neg c4] at h;simp at h
theorem LL (xs:List Int) (p:Int):0≤Es xs p∧2*Es xs p≤(xs.length:Int):=by
 unfold Es
 have hs:=IB xs
 by_cases c0:p=0
 ·rw [if_pos c0];unfold mn;split<;>omega
 ·rw [if_neg c0]
  by_cases cv:van xs p=true
  ·have:=van_len c0 cv
   rw [if_pos cv];split<;>omega
  ·rw [if_neg cv];omega
end Locg
namespace Locg
open Go.RowKit Go.Proofs.YtacfcoilmdhgnaaGreatDoorW.PrintWords Go.Proofs.YtacfcoilmdhgnaaGreatDoorW.PrintMore
def tOk (t:Int):Bool:=decide (t≠0)&&decide (t.natAbs≤30)
theorem LZ {t:Int}:tOk t=true↔Sm t:=by simp [tOk,Sm]
end Locg
namespace Locg
open Go.RowKit Go.Proofs.YtacfcoilmdhgnaaGreatDoorW.PrintWords Go.Proofs.YtacfcoilmdhgnaaGreatDoorW.PrintMore
theorem toNat_inj {a b:Int} (ha:0≤a) (hb:0≤b) (h:a.toNat=b.toNat):a=b:=by omega
end Locg
namespace Locg
open Go.RowKit Go.Proofs.YtacfcoilmdhgnaaGreatDoorW.PrintWords Go.Proofs.YtacfcoilmdhgnaaGreatDoorW.PrintMore
end Locg
namespace Locg
open Go.RowKit Go.Proofs.YtacfcoilmdhgnaaGreatDoorW.PrintWords Go.Proofs.YtacfcoilmdhgnaaGreatDoorW.PrintMore
def qv:List Int→List Int→Int
 | x::xs,v::vs=>x*v*v+qv xs vs
 | _,_=>0
end Locg
namespace Locg
open Go.RowKit Go.Proofs.YtacfcoilmdhgnaaGreatDoorW.PrintWords Go.Proofs.YtacfcoilmdhgnaaGreatDoorW.PrintMore
def Gd (n:Int):Nat→Int→Bool
 | 0,_=>true
 | d+1,x=>if x*x≤n then if n.tmod x=0 then false else Gd n d (x+1) else true
def DB (p:Int):Bool:=decide (p=0)||(decide (p≤5000)&&(decide (p≥2)&&Gd p 70 2))
theorem NL {n:Int} (hn:2≤n) (hN:n≤5000) : ∀(d:Nat) (x:Int),2≤x→72≤x+d→(∀r:Int,2≤r→r<x→¬r∣n)→(Gd n d x=true↔∀r:Int,2≤r→r*r≤n→¬r∣n):=by
 intro d
 induction d with
 | zero =>
  intro x h1 h2 hr
  simp only [Gd,true_iff]
  intro r r1 r2
  refine hr r r1 ?_
  exact D3 (by omega) (by have:=EM (show (0:Int)≤72 by omega) (show 72≤x by omega);omega)
 | succ d ih =>
  intro x h1 h2 hr
  simp only [Gd]
  by_cases c:x*x≤n
  ·rw [if_pos c]
   by_cases c2:n.tmod x=0
   ·rw [if_pos c2]
    simp only [Bool.false_eq_true,false_iff]
    intro h;exact h x h1 c (Int.dvd_of_tmod_eq_zero c2)
   ·rw [if_neg c2]
    refine ih (x+1) (by omega) (by omega) (fun r r1 r2 hd=>?_)
    rcases Int.lt_or_eq_of_le (show r≤x by omega) with h4|h4
    ·exact hr r r1 h4 hd
    ·subst h4;exact c2 (Int.tmod_eq_zero_of_dvd hd)
  ·rw [if_neg c]
   simp only [true_iff]
   intro r r1 r2
   refine hr r r1 (D3 (by omega) (by omega))
theorem KG {n:Int} (hn:2≤n):Dc n↔∀r:Int,2≤r→r*r≤n→¬r∣n:=by
 constructor
 ·intro h r r1 r2 hd
  have:=h.2 r r1 hd
  subst this
  have:=Int.mul_le_mul_of_nonneg_right r1 (show 0≤r by omega)
  omega
 ·intro h
  refine ⟨hn,fun r r1 hd=>?_⟩
  obtain ⟨s,hs⟩:=hd
  have hs0:0<s:=by
   rcases Int.lt_or_le 0 s with h|h
   ·exact h
   ·have:=Int.mul_nonneg (show 0≤r by omega) (show 0≤ -s by omega);rw [Int.mul_neg] at this;omega
  rcases Int.lt_or_le 1 s with h1|h1
  ·exfalso
   rcases Int.le_total r s with h2|h2
   ·have:=Int.mul_le_mul_of_nonneg_left h2 (show 0≤r by omega)
    exact h r r1 (by omega) ⟨s,hs⟩
   ·have:=Int.mul_le_mul_of_nonneg_right h2 (show 0≤s by omega)
    exact h s (by omega) (by omega) ⟨r,by rw [Int.mul_comm];exact hs⟩
  ·have:s=1:=by omega
   subst this;omega
theorem Ed {p:Int}:DB p=true↔Plc p:=by
 unfold DB Plc OddP
 by_cases c:p=0
 ·simp [c]
 ·by_cases c5:p≤5000
  ·by_cases c2:p≥2
   ·rw [decide_eq_false c,decide_eq_true c5,decide_eq_true c2,Bool.false_or,Bool.true_and,Bool.true_and,NL c2 c5 70 2 (by omega) (by omega) (fun r r1 r2=>by omega),← KG c2]
    constructor
    ·intro h
     rcases Int.lt_or_eq_of_le c2 with h2|h2
     ·exact Or.inr (Or.inr ⟨h,by omega,c5⟩)
     ·exact Or.inr (Or.inl h2.symm)
    ·rintro (h|h|h)
     ·exact absurd h c
     ·subst h;exact prime2
     ·exact h.1
   ·rw [decide_eq_false c,decide_eq_false c2]
    simp only [Bool.false_and,Bool.and_false,Bool.or_false,Bool.false_eq_true,false_iff]
    rintro (h|h|h)<;>omega
  ·rw [decide_eq_false c,decide_eq_false c5]
   simp only [Bool.false_and,Bool.or_false,Bool.false_eq_true,false_iff]
   rintro (h|h|h)<;>omega
end Locg
namespace Locg
open Go.RowKit Go.Proofs.YtacfcoilmdhgnaaGreatDoorW.PrintWords Go.Proofs.YtacfcoilmdhgnaaGreatDoorW.PrintMore
def TT:List Int:=[1,2,3,5,6,7,10,12,15,4,21,30,8,-1,-2,-3,-5,-6,-7,-10,-12,-15,-4,-21,-30,-8]
theorem TT_sm {x:Int} (h:x∈TT):Sm x:=by
 have : ∀x∈TT,x≠0∧x.natAbs≤30:=by decide +kernel
 exact this x h
theorem pl_prime : ∀(d:Nat) (n p:Int),2≤p→0<n→n.natAbs<2 ^ 63→(∀r:Int,2≤r→r<p→¬r∣n)→∀q∈pl d n p,q∣n∧Dc q:=by
 intro d
 induction d with
 | zero=>intro n p _ _ _ _ q hq;simp [pl] at hq
 | succ d ih =>
  intro n p hp hn hN hr q hq
  simp only [pl] at hq
  by_cases c:p*p≤n
  ·rw [if_pos c] at hq
   by_cases c2:n.tmod p=0
   ·rw [if_pos c2] at hq
    have hpn:p∣n:=Int.dvd_of_tmod_eq_zero c2
    rcases List.mem_cons.1 hq with h|h
    ·subst h
     refine ⟨hpn,hp,fun r h2 hd=>?_⟩
     have hle:=Int.le_of_dvd (by omega) hd
     rcases Int.lt_or_eq_of_le hle with h|h
     ·exact absurd (Int.dvd_trans hd hpn) (hr r h2 h)
     ·exact h
    ·have hv:=D5 hp (show n≠0 by omega) hN
     have hud:unit p n∣n:=⟨p ^ (val p n).toNat,by rw [Int.mul_comm];exact hv.1⟩
     have:=ih (unit p n) (p+1) (by omega) (hv.2.2.2.2.2.2 hn) (by omega) (fun r h2 h3 hd=>by
      rcases Int.lt_or_eq_of_le (show r≤p by omega) with h4|h4
      ·exact hr r h2 h4 (Int.dvd_trans hd hud)
      ·subst h4;exact hv.2.1 (Int.tmod_eq_zero_of_dvd hd)) q h
     exact ⟨Int.dvd_trans this.1 hud,this.2⟩
   ·rw [if_neg c2] at hq
    exact ih n (p+1) (by omega) hn hN (fun r h2 h3 hd=>by
      rcases Int.lt_or_eq_of_le (show r≤p by omega) with h4|h4
      ·exact hr r h2 h4 hd
      ·subst h4;exact c2 (Int.tmod_eq_zero_of_dvd hd)) q hq
  ·rw [if_neg c] at hq
   by_cases c2:n>1
   ·rw [if_pos c2] at hq
    have h:=List.mem_singleton.1 hq
    subst h
    refine ⟨Int.dvd_refl _,by omega,fun r h2 hd=>?_⟩
    have hle:=Int.le_of_dvd hn hd
    have hrp:p≤r:=by
     rcases Int.lt_or_le r p with h|h
     ·exact absurd hd (hr r h2 h)
     ·exact h
    obtain ⟨s,hs⟩:=hd
    have hs1:1≤s:=by
     rcases Int.lt_or_le 0 s with h|h
     ·omega
     ·have:=Int.mul_nonneg (show 0≤r by omega) (show 0≤ -s by omega);rw [Int.mul_neg] at this;omega
    rcases Int.lt_or_eq_of_le hs1 with h|h
    ·have hsp:p≤s:=by
      rcases Int.lt_or_le s p with h3|h3
      ·exact absurd ⟨r,by rw [Int.mul_comm];exact hs⟩ (hr s (by omega) h3)
      ·exact h3
     have:=Int.mul_le_mul hrp hsp (by omega) (by omega)
     omega
    ·subst h;omega
   ·rw [if_neg c2] at hq;simp at hq
theorem Kk {q p:Int} (hq:Dc q) : ∀k:Nat,q∣p ^ k→q∣p
 | 0,h=>by
  rw [Int.pow_zero] at h
  have:=Int.le_of_dvd (by omega) h;have:=hq.1;omega
 | k+1,h=>by
  rw [Int.pow_succ] at h
  rcases Fk hq h with h|h
  ·exact Kk hq k h
  ·exact h
theorem Lg {n p:Int} (hp:2≤p) (hr : ∀r:Int,2≤r→r<p→¬r∣n) (hpn:p∣n):Dc p:=by
 refine ⟨hp,fun r h2 hd=>?_⟩
 have hle:=Int.le_of_dvd (by omega) hd
 rcases Int.lt_or_eq_of_le hle with h|h
 ·exact absurd (Int.dvd_trans hd hpn) (hr r h2 h)
 ·exact h
theorem no_small {n p:Int} (hn:1<n) (hp:2≤p) (hpp : ¬p*p≤n) (hr : ∀r:Int,2≤r→r<p→¬r∣n):Dc n:=by
 rw [KG (by omega)]
 intro r r1 r2
 exact hr r r1 (D3 (by omega) (by omega))
theorem pl_all : ∀(d:Nat) (n p:Int),2≤p→0<n→n.natAbs<2 ^ 63→n+2-p≤d→1≤d→(∀r:Int,2≤r→r<p→¬r∣n)→
  (∀q,Dc q→q∣n→q∈pl d n p)∧(pl d n p).Pairwise (· < ·)∧∀q∈pl d n p,p≤q:=by
 intro d
 induction d with
 | zero=>intro n p _ _ _ _ h1;omega
 | succ d ih =>
  intro n p hp hn hN hd h1 hr
  simp only [pl]
  by_cases c:p*p≤n
  ·have hpn:2*p≤n:=by have:=Int.mul_le_mul_of_nonneg_right hp (show 0≤p by omega);omega
   rw [if_pos c]
   by_cases c2:n.tmod p=0
   ·have hpd:=Int.dvd_of_tmod_eq_zero c2
    have hpP:=Lg hp hr hpd
    obtain ⟨v1,v2,v3,v4,v5,v6,v7⟩:=D5 hp (show n≠0 by omega) hN
    have hud:unit p n∣n:=⟨p ^ (val p n).toNat,by rw [Int.mul_comm];exact v1⟩
    have hr2 : ∀r:Int,2≤r→r<p+1→¬r∣unit p n:=by
     intro r h2 h3 hd
     rcases Int.lt_or_eq_of_le (show r≤p by omega) with h4|h4
     ·exact hr r h2 h4 (Int.dvd_trans hd hud)
     ·subst h4;exact v2 (Int.tmod_eq_zero_of_dvd hd)
    obtain ⟨i1,i2,i3⟩:=ih (unit p n) (p+1) (by omega) (v7 hn) (by omega) (by omega) (by omega) hr2
    rw [if_pos c2]
    refine ⟨fun q hq hqd=>?_,?_,?_⟩
    ·rw [v1] at hqd
     rcases Fk hq hqd with h|h
     ·have:=hpP.2 q hq.1 (Kk hq _ h)
      rw [this];exact List.mem_cons_self
     ·exact List.mem_cons_of_mem _ (i1 q hq h)
    ·rw [List.pairwise_cons]
     exact ⟨fun q hq=>by have:=i3 q hq;omega,i2⟩
    ·intro q hq
     rcases List.mem_cons.1 hq with h|h
     ·omega
     ·have:=i3 q h;omega
   ·rw [if_neg c2]
    obtain ⟨i1,i2,i3⟩:=ih n (p+1) (by omega) hn hN (by omega) (by omega) (fun r h2 h3 he=>by
     rcases Int.lt_or_eq_of_le (show r≤p by omega) with h4|h4
     ·exact hr r h2 h4 he
     ·exact c2 (Int.tmod_eq_zero_of_dvd (h4▸he)))
    exact ⟨i1,i2,fun q hq=>by have:=i3 q hq;omega⟩
  ·rw [if_neg c]
   by_cases c2:n>1
   ·rw [if_pos c2]
    have hnP:=no_small c2 hp c hr
    refine ⟨fun q hq hqd=>?_,by simp,?_⟩
    ·rw [hnP.2 q hq.1 hqd];simp
    ·intro q hq
     obtain rfl:=List.mem_singleton.1 hq
     rcases Int.lt_or_le q p with h|h
     ·exact absurd (Int.dvd_refl q) (hr q (by omega) h)
     ·exact h
   ·rw [if_neg c2]
    refine ⟨fun q hq hqd=>?_,by simp,by simp⟩
    have:=Int.le_of_dvd hn hqd;have:=hq.1;omega
theorem Mb {q n:Int}:q∣absI n↔q∣n:=by unfold absI;exact Int.dvd_natAbs
theorem Ex {n q:Int} (hn:n≠0) (h:n.natAbs<2 ^ 63):q∈CZ n↔Dc q∧q∣n:=by
 have ha:0<absI n∧(absI n).natAbs<2 ^ 63∧absI n+2-2≤((n.natAbs+2:Nat):Int):=by unfold absI;omega
 constructor
 ·intro hq
  have:=pl_prime (n.natAbs+2) (absI n) 2 (by omega) ha.1 ha.2.1 (fun r h2 h3=>by omega) q hq
  exact ⟨this.2,Mb.1 this.1⟩
 ·rintro ⟨h1,h2⟩
  exact (pl_all (n.natAbs+2) (absI n) 2 (by omega) ha.1 ha.2.1 ha.2.2 (by omega) (fun r h2 h3=>by omega)).1 q h1 (Mb.2 h2)
theorem JC {n:Int} (hn:n≠0) (h:n.natAbs<2 ^ 63):(CZ n).Pairwise (· < ·):=by
 have ha:0<absI n∧(absI n).natAbs<2 ^ 63∧absI n+2-2≤((n.natAbs+2:Nat):Int):=by unfold absI;omega
 exact (pl_all (n.natAbs+2) (absI n) 2 (by omega) ha.1 ha.2.1 ha.2.2 (by omega) (fun r h2 h3=>by omega)).2.1
theorem GU : ∀ {a b:List Int},a.Pairwise (· < ·)→b.Pairwise (· < ·)→(∀x,x∈a↔x∈b)→a=b
 | [],[],_,_,_=>rfl
 | [],y::b,_,_,h=>by have:=(h y).2 (by simp);simp at this
 | x::a,[],_,_,h=>by have:=(h x).1 (by simp);simp at this
 | x::a,y::b,ha,hb,h=>by
  rw [List.pairwise_cons] at ha hb
  have hxy:x=y:=by
   have h1:=(h x).1 (by simp)
   have h2:=(h y).2 (by simp)
   rcases List.mem_cons.1 h1 with e|e
   ·exact e
   ·rcases List.mem_cons.1 h2 with e2|e2
    ·exact e2.symm
    ·have:=hb.1 x e;have:=ha.1 y e2;omega
  subst hxy
  rw [GU ha.2 hb.2 (fun z=>?_)]
  constructor
  ·intro hz
   rcases List.mem_cons.1 ((h z).1 (List.mem_cons_of_mem _ hz)) with e|e
   ·have:=ha.1 z hz;omega
   ·exact e
  ·intro hz
   rcases List.mem_cons.1 ((h z).2 (List.mem_cons_of_mem _ hz)) with e|e
   ·have:=hb.1 z hz;omega
   ·exact e
def PP:List Int:=[0,2,3,5,7,11,13,17,19,23,29]
def plOf (xs:List Int) (p:Int):Bool:=p==0||(p==2||xs.any (fun x=>x%p==0))
def plc (xs:List Int):List Int:=PP.filter (plOf xs)
theorem O6:PP.Pairwise (· < ·):=by unfold PP;decide
theorem N8 {p:Int} (h:p∈PP):Plc p:=by
 have : ∀p∈PP,DB p=true:=by decide +kernel
 exact Ed.1 (this p h)
theorem PP_prime {p:Int} (h:Dc p) (h30:p≤30):p∈PP:=by
 have t : ∀p∈List.range 31,2≤p→DB (p:Int)=true→(p:Int)∈PP:=by decide +kernel
 have h2:=h.1
 have hp:Plc p:=by
  rcases Int.lt_or_eq_of_le h2 with h3|h3
  ·exact Or.inr (Or.inr ⟨h,by omega,by omega⟩)
  ·exact Or.inr (Or.inl h3.symm)
 have:=t p.toNat (by rw [List.mem_range];omega) (by omega) (by rw [Int.toNat_of_nonneg (by omega)];exact Ed.2 hp)
 rwa [Int.toNat_of_nonneg (by omega)] at this
theorem LQ {xs:List Int} {p:Int}:p∈plc xs↔p∈PP∧(p=0∨p=2∨∃x∈xs,p∣x):=by
 unfold plc plOf
 rw [List.mem_filter]
 simp only [Bool.or_eq_true,beq_iff_eq,List.any_eq_true]
 simp only [Int.dvd_iff_emod_eq_zero]
theorem GR {xs:List Int} {p:Int} (h:p∈plc xs):Plc p:=N8 (LQ.1 h).1
theorem Jm (xs:List Int):(plc xs).Pairwise (· < ·):=O6.filter _
theorem MD {q x:Int} (hq:Dc q) (hx:Sm x) (h:q∣x):q∈PP∧2≤q:=by
 have:q.natAbs≤x.natAbs:=Nat.le_of_dvd (by have:=hx.1;omega) (Int.natAbs_dvd_natAbs.2 h)
 have:=hx.2;have:=hq.1
 exact ⟨PP_prime hq (by omega),hq.1⟩
theorem KX {q:Int} (hq:Dc q) : ∀(xs:List Int) (acc:Int),q∣I5 xs acc↔q∣acc∨∃x∈xs,q∣x
 | [],acc=>by simp [I5]
 | x::xs,acc=>by
  simp only [I5,KX hq xs (acc*x),List.mem_cons,exists_eq_or_imp]
  constructor
  ·rintro (h|h)
   ·rcases Fk hq h with h|h
    ·exact Or.inl h
    ·exact Or.inr (Or.inl h)
   ·exact Or.inr (Or.inr h)
  ·rintro (h|h|h)
   ·exact Or.inl (Int.dvd_trans h (Int.dvd_mul_right _ _))
   ·exact Or.inl (Int.dvd_trans h (Int.dvd_mul_left _ _))
   ·exact Or.inr h
theorem prod_dvd {q:Int} (hq:Dc q) (xs:List Int):q∣prod xs↔∃x∈xs,q∣x:=by
 unfold prod
 rw [KX hq]
 constructor
 ·rintro (h|h)
  ·have:=Int.le_of_dvd (by omega) h;have:=hq.1;omega
  ·exact h
 ·exact Or.inr
def H6 (n:Int):List Int:=[0,2]++(CZ n).filter (fun x=>decide (x>2))
theorem L2 {xs:List Int} {n:Int} (hx : ∀x∈xs,Sm x) (hn:n≠0) (h:n.natAbs<2 ^ 63) (hd : ∀q,Dc q→(q∣n↔∃x∈xs,q∣x)):H6 n=plc xs:=by
 refine GU ?_ (Jm xs) (fun q=>?_)
 ·unfold H6
  rw [List.cons_append,List.cons_append,List.nil_append,List.pairwise_cons,List.pairwise_cons]
  have hs:=(JC hn h).filter (fun x:Int=>decide (x>2))
  have hg : ∀y∈(CZ n).filter (fun x:Int=>decide (x>2)),2<y:=fun y hy=>by simpa using (List.mem_filter.1 hy).2
  refine ⟨fun y hy=>?_,hg,hs⟩
  rcases List.mem_cons.1 hy with e|e
  ·omega
  ·have:=hg y e;omega
 ·rw [LQ]
  unfold H6
  rw [List.mem_append,List.mem_filter,Ex hn h]
  simp only [List.mem_cons,List.not_mem_nil,or_false,decide_eq_true_eq]
  constructor
  ·rintro ((e|e)|⟨⟨h1,h2⟩,h3⟩)
   ·exact ⟨by rw [e];decide,Or.inl e⟩
   ·exact ⟨by rw [e];decide,Or.inr (Or.inl e)⟩
   ·obtain ⟨x,hm,hd2⟩:=(hd q h1).1 h2
    exact ⟨(MD h1 (hx x hm) hd2).1,Or.inr (Or.inr ⟨x,hm,hd2⟩)⟩
  ·rintro ⟨h1,e|e|⟨x,hm,hd2⟩⟩
   ·exact Or.inl (Or.inl e)
   ·exact Or.inl (Or.inr e)
   ·have hp:=N8 h1
    rcases hp with e|e|e
    ·exact Or.inl (Or.inl e)
    ·exact Or.inl (Or.inr e)
    ·exact Or.inr ⟨⟨e.1,(hd q e.1).2 ⟨x,hm,hd2⟩⟩,by have:=e.2.1;omega⟩
theorem La {xs:List Int} (hx : ∀x∈xs,Sm x) (hl:xs.length≤5):H6 (prod xs)=plc xs:=by
 have hb:=EP hx hl
 exact L2 hx hb.1 (by omega) (fun q hq=>prod_dvd hq xs)
def addP:List Int→List Int→List Int
 | out,[]=>out
 | out,q::qs=>addP (if out.contains q then out else out++[q]) qs
def EO:List Int→List Int→List Int
 | out,[]=>out
 | out,x::xs=>EO (addP out (CZ x)) xs
theorem FT : ∀qs out:List Int,out.Nodup→(addP out qs).Nodup∧(∀y,y∈addP out qs↔y∈out∨y∈qs)∧(addP out qs).length≤out.length+qs.length
 | [],out,h=>⟨h,by simp [addP],by simp [addP]⟩
 | q::qs,out,h=>by
  simp only [addP]
  by_cases c:out.contains q=true
  ·rw [if_pos c]
   obtain ⟨h1,h2,h3⟩:=FT qs out h
   refine ⟨h1,fun y=>?_,by simp only [List.length_cons];omega⟩
   rw [h2,List.mem_cons]
   have hq:q∈out:=by simpa using c
   constructor
   ·rintro (e|e)
    ·exact Or.inl e
    ·exact Or.inr (Or.inr e)
   ·rintro (e|e|e)
    ·exact Or.inl e
    ·exact Or.inl (e▸hq)
    ·exact Or.inr e
  ·rw [if_neg c]
   have hq:q∉out:=by simpa using c
   obtain ⟨h1,h2,h3⟩:=FT qs (out++[q]) (by rw [List.nodup_append];exact ⟨h,by simp,fun a ha b hb=>by rw [List.mem_singleton.1 hb];intro e;subst e;exact hq ha⟩)
   refine ⟨h1,fun y=>?_,by rw [List.length_append] at h3;simp only [List.length_cons,List.length_nil] at h3 ⊢;omega⟩
   rw [h2,List.mem_append,List.mem_singleton,List.mem_cons,or_assoc]
theorem II : ∀xs out:List Int,out.Nodup→(EO out xs).Nodup∧(∀y,y∈EO out xs↔y∈out∨∃x∈xs,y∈CZ x)
 | [],out,h=>⟨h,by simp [EO]⟩
 | x::xs,out,h=>by
  simp only [EO]
  obtain ⟨h1,h2,_⟩:=FT (CZ x) out h
  obtain ⟨h3,h4⟩:=II xs (addP out (CZ x)) h1
  refine ⟨h3,fun y=>?_⟩
  rw [h4,h2]
  simp only [List.mem_cons,exists_eq_or_imp,or_assoc]
def Nv (l:List Int):List Int:=l.mergeSort fun x y=>decide (x≤y)
theorem Ox {xs:List Int} (hx : ∀x∈xs,Sm x):Nv (EO [0,2] xs)=plc xs:=by
 obtain ⟨h1,h2⟩:=II xs [0,2] (by decide)
 have hperm:=List.mergeSort_perm (EO [0,2] xs) (fun x y=>decide (x≤y))
 have hs:=List.pairwise_mergeSort (le:=fun x y:Int=>decide (x≤y)) (by intro a b c;simp only [decide_eq_true_eq];omega) (by intro a b;simp only [Bool.or_eq_true,decide_eq_true_eq];omega) (EO [0,2] xs)
 have hn:(Nv (EO [0,2] xs)).Nodup:=hperm.nodup_iff.2 h1
 refine GU ?_ (Jm xs) (fun q=>?_)
 ·have:=hs.and hn
  refine this.imp ?_
  intro a b h
  have h5:a≤b:=by simpa using h.1
  have:=h.2;omega
 ·show q∈List.mergeSort _ _↔_
  rw [hperm.mem_iff,h2,LQ]
  constructor
  ·rintro (e|⟨x,hm,e⟩)
   ·simp only [List.mem_cons,List.not_mem_nil,or_false] at e
    rcases e with e|e
    ·exact ⟨by rw [e];decide,Or.inl e⟩
    ·exact ⟨by rw [e];decide,Or.inr (Or.inl e)⟩
   ·have hsx:=hx x hm
    rw [Ex hsx.1 (sm_i hsx)] at e
    exact ⟨(MD e.1 hsx e.2).1,Or.inr (Or.inr ⟨x,hm,e.2⟩)⟩
  ·rintro ⟨h1,e|e|⟨x,hm,hd2⟩⟩
   ·exact Or.inl (by rw [e];simp)
   ·exact Or.inl (by rw [e];simp)
   ·have hsx:=hx x hm
    rcases N8 h1 with e|e|e
    ·exact Or.inl (by rw [e];simp)
    ·exact Or.inl (by rw [e];simp)
    ·exact Or.inr ⟨x,hm,(Ex hsx.1 (sm_i hsx)).2 ⟨e.1,hd2⟩⟩
end Locg
namespace Locg
open Go.RowKit Go.Proofs.YtacfcoilmdhgnaaGreatDoorW.PrintWords Go.Proofs.YtacfcoilmdhgnaaGreatDoorW.PrintMore
theorem KI : ∀(k:Nat) (n:Int),n.toNat≤k→1<n→∃q,Dc q∧q∣n:=by
 intro k
 induction k with
 | zero=>intro n h h1;omega
 | succ k ih =>
  intro n h h1
  by_cases c:Dc n
  ·exact ⟨n,c,Int.dvd_refl n⟩
  ·have : ∃r:Int,2≤r∧r∣n∧r≠n:=by
    apply Classical.byContradiction
    intro hno
    apply c
    refine ⟨by omega,fun r h2 hd=>?_⟩
    apply Classical.byContradiction
    intro hne
    exact hno ⟨r,h2,hd,hne⟩
   obtain ⟨r,r1,r2,r3⟩:=this
   have hle:=Int.le_of_dvd (by omega) r2
   obtain ⟨q,q1,q2⟩:=ih r (by omega) (by omega)
   exact ⟨q,q1,Int.dvd_trans q2 r2⟩
theorem Df {a b:Int} (hb:b≠0):a.natAbs≤(a*b).natAbs:=by rw [Int.natAbs_mul];exact Nat.le_mul_of_pos_right _ (by omega)
def EN (c:Int):Prop:=c≠0∧∀d:Int,2≤d→¬d*d∣c
theorem Kh {c c' s s':Int} (hc:EN c) (hs':1≤s') (hg:Int.gcd s s'=1) (e:c*(s*s)=c'*(s'*s')):s'=1:=by
 have hd:s'*s'∣c*(s*s):=by rw [e];exact Int.dvd_mul_left _ _
 have h1:(s'.natAbs*s'.natAbs)∣c.natAbs*(s.natAbs*s.natAbs):=by
  rw [← Int.natAbs_mul,← Int.natAbs_mul,← Int.natAbs_mul];exact Int.natAbs_dvd_natAbs.2 hd
 have hcop:Nat.Coprime s'.natAbs s.natAbs:=by
  unfold Nat.Coprime;rw [Nat.gcd_comm];exact hg
 have h2:Nat.Coprime (s'.natAbs*s'.natAbs) (s.natAbs*s.natAbs):=by
  exact Nat.Coprime.mul_left (Nat.Coprime.mul_right hcop hcop) (Nat.Coprime.mul_right hcop hcop)
 have h3:=Nat.Coprime.dvd_of_dvd_mul_right h2 h1
 have h4:s'*s'∣c:=by
  rw [← Int.natAbs_dvd_natAbs,Int.natAbs_mul];exact h3
 rcases Int.lt_or_le 1 s' with h|h
 ·exact absurd h4 (hc.2 s' (by omega))
 ·omega
theorem L4 {c c' r r':Int} (hc:EN c) (hc':EN c') (hr:1≤r) (hr':1≤r') (e:c*(r*r)=c'*(r'*r')):c=c'∧r=r':=by
 have hg0:0<Int.gcd r r':=Int.gcd_pos_of_ne_zero_left _ (by omega)
 obtain ⟨s,hs⟩:=Int.gcd_dvd_left r r'
 obtain ⟨s',hs'⟩:=Int.gcd_dvd_right r r'
 generalize hgg:Int.gcd r r'=g at hg0 hs hs'
 have hg1:(0:Int)<(g:Int):=by omega
 have hs1:1≤s:=by
  rcases Int.lt_or_le 0 s with h|h
  ·omega
  ·have:=Int.mul_nonneg (show 0≤(g:Int) by omega) (show 0≤ -s by omega);rw [Int.mul_neg] at this;omega
 have hs1':1≤s':=by
  rcases Int.lt_or_le 0 s' with h|h
  ·omega
  ·have:=Int.mul_nonneg (show 0≤(g:Int) by omega) (show 0≤ -s' by omega);rw [Int.mul_neg] at this;omega
 have hcop:Int.gcd s s'=1:=by
  have h1:Int.gcd ((g:Int)*s) ((g:Int)*s')=g*Int.gcd s s':=by rw [Int.gcd_mul_left];simp
  rw [← hs,← hs',hgg] at h1
  exact Nat.eq_of_mul_eq_mul_left hg0 (by omega)
 have e2:c*(s*s)=c'*(s'*s'):=by
  have hgg0:((g:Int)*(g:Int))≠0:=Int.mul_ne_zero (by omega) (by omega)
  apply Int.eq_of_mul_eq_mul_left hgg0
  rw [hs,hs'] at e
  grind
 have q1:=Kh hc hs1' hcop e2
 have q2:=Kh hc' hs1 (by rw [Int.gcd_comm];exact hcop) e2.symm
 subst q1;subst q2
 refine ⟨by simpa using e2,by rw [hs,hs']⟩
end Locg
namespace Locg
open Go.RowKit Go.Proofs.YtacfcoilmdhgnaaGreatDoorW.PrintWords Go.Proofs.YtacfcoilmdhgnaaGreatDoorW.PrintMore
def Hj (n c r:Int):Prop:=n=c*(r*r)∧1≤r∧EN c
theorem core_uni {n c r c' r':Int} (h:Hj n c r) (h':Hj n c' r'):c=c'∧r=r':=L4 h.2.2 h'.2.2 h.2.1 h'.2.1 (by rw [← h.1,← h'.1])
def Ez (q:Int):Nat→Int→Int→Int×Int
 | 0,n,r=>(n,r)
 | d+1,n,r=>if n.tmod (q*q)=0 then Ez q d (n.tdiv (q*q)) (r*q) else (n,r)
def Fu:List Int→Int→Int→Int×Int
 | [],n,r=>(n,r)
 | q::qs,n,r=>Fu qs (Ez q 64 n r).1 (Ez q 64 n r).2
def Bv (n:Int):Int×Int:=Fu (CZ n) n 1
theorem Mk {q n:Int} (hq:2≤q) (hn:n≠0) (h:n.tmod (q*q)=0):n.tdiv (q*q)≠0∧n=n.tdiv (q*q)*(q*q)∧4*(n.tdiv (q*q)).natAbs≤n.natAbs:=by
 have hqq:4≤q*q:=by have:=EM (show (0:Int)≤2 by omega) hq;omega
 have t:=F4 (show 2≤q*q by omega) hn h
 refine ⟨t.1,by rw [Int.mul_comm];exact t.2.1,?_⟩
 have e:=t.2.1
 have:n.natAbs=(q*q).natAbs*(n.tdiv (q*q)).natAbs:=by rw [← Int.natAbs_mul,← e]
 rw [this]
 exact Nat.mul_le_mul_right _ (by omega)
theorem G7 {q:Int} (hq:2≤q) : ∀(d:Nat) (n r:Int),n≠0→n.natAbs<2 ^ d→1≤r→
  (Ez q d n r).1≠0∧1≤(Ez q d n r).2∧n*(r*r)=(Ez q d n r).1*((Ez q d n r).2*(Ez q d n r).2)∧(Ez q d n r).1∣n∧¬q*q∣(Ez q d n r).1:=by
 intro d
 induction d with
 | zero=>intro n r hn h;simp at h;omega
 | succ d ih =>
  intro n r hn h hr
  simp only [Ez]
  by_cases c:n.tmod (q*q)=0
  ·rw [if_pos c]
   obtain ⟨h1,h2,h3⟩:=Mk hq hn c
   have hrq:1≤r*q:=by have:=Int.mul_le_mul hr (show (1:Int)≤q by omega) (by omega) (by omega);omega
   obtain ⟨g1,g2,g3,g4,g5⟩:=ih (n.tdiv (q*q)) (r*q) h1 (by rw [Nat.pow_succ] at h;omega) hrq
   refine ⟨g1,g2,?_,Int.dvd_trans g4 ⟨q*q,h2⟩,g5⟩
   rw [← g3]
   conv=>lhs;rw [h2]
   grind
  ·rw [if_neg c]
   exact ⟨hn,hr,rfl,Int.dvd_refl n,fun hd=>c (Int.tmod_eq_zero_of_dvd hd)⟩
theorem Ir : ∀(qs:List Int) (n r:Int),(∀q∈qs,2≤q)→n≠0→n.natAbs<2 ^ 63→1≤r→
  (Fu qs n r).1≠0∧1≤(Fu qs n r).2∧n*(r*r)=(Fu qs n r).1*((Fu qs n r).2*(Fu qs n r).2)∧(Fu qs n r).1∣n∧∀q∈qs,¬q*q∣(Fu qs n r).1
 | [],n,r,_,hn,_,hr=>⟨hn,hr,rfl,Int.dvd_refl n,by simp⟩
 | q::qs,n,r,hq,hn,hN,hr=>by
  obtain ⟨g1,g2,g3,g4,g5⟩:=G7 (hq q (by simp)) 64 n r hn (by omega) hr
  have hle:(Ez q 64 n r).1.natAbs≤n.natAbs:=Nat.le_of_dvd (by omega) (Int.natAbs_dvd_natAbs.2 g4)
  obtain ⟨f1,f2,f3,f4,f5⟩:=Ir qs (Ez q 64 n r).1 (Ez q 64 n r).2 (fun x hx=>hq x (by simp [hx])) g1 (by omega) g2
  simp only [Fu]
  refine ⟨f1,f2,by rw [g3,f3],Int.dvd_trans f4 g4,fun x hx=>?_⟩
  rcases List.mem_cons.1 hx with e|e
  ·subst e;exact fun hd=>g5 (Int.dvd_trans hd f4)
  ·exact f5 x e
theorem D2 {n:Int} (hn:n≠0) (hN:n.natAbs<2 ^ 63):Hj n (Bv n).1 (Bv n).2:=by
 obtain ⟨h1,h2,h3,h4,h5⟩:=Ir (CZ n) n 1 (fun q hq=>NF hq) hn hN (by omega)
 refine ⟨by have:=h3;simp only [Int.mul_one] at this;exact this,h2,h1,fun d hd hdd=>?_⟩
 obtain ⟨q,q1,q2⟩:=KI d.toNat d (Nat.le_refl _) (by omega)
 have hqn:q∣n:=Int.dvd_trans (Int.dvd_trans q2 (Int.dvd_mul_right d d)) (Int.dvd_trans hdd h4)
 exact h5 q ((Ex hn hN).2 ⟨q1,hqn⟩) (Int.dvd_trans (Int.mul_dvd_mul q2 q2) hdd)
theorem Pw {n c r:Int} (hn:n≠0) (hN:n.natAbs<2 ^ 63) (h:Hj n c r):Bv n=(c,r):=by
 have:=core_uni (D2 hn hN) h
 exact Prod.ext this.1 this.2
theorem H7 {n c r:Int} (h:Hj n c r):c.natAbs≤n.natAbs∧r.natAbs*r.natAbs≤n.natAbs:=by
 have h1:=h.2.1
 have h0:0<r.natAbs:=by omega
 have hc:=h.2.2.1
 rw [h.1,Int.natAbs_mul,Int.natAbs_mul]
 refine ⟨Nat.le_mul_of_pos_right _ (Nat.mul_pos h0 h0),Nat.le_mul_of_pos_left _ (by omega)⟩
end Locg
namespace Locg
open Go.RowKit Go.Proofs.YtacfcoilmdhgnaaGreatDoorW.PrintWords
def sqF (d n x:Nat):Nat:=Nat.rec (motive:=fun _=>Nat→Nat) (fun x=>x) (fun d ih x=>bif Nat.ble (Nat.mul (Nat.add x (Nat.pow 2 d)) (Nat.add x (Nat.pow 2 d))) n then ih (Nat.add x (Nat.pow 2 d)) else ih x) d x
def wayN (n x:Nat):Nat:=bif Nat.ble (Nat.mul x x) n then bif Nat.beq (Nat.mul (sqF 6 (Nat.sub n (Nat.mul x x)) 0) (sqF 6 (Nat.sub n (Nat.mul x x)) 0)) (Nat.sub n (Nat.mul x x)) then Nat.mul (bif Nat.beq x 0 then 1 else 2) (bif Nat.beq (Nat.sub n (Nat.mul x x)) 0 then 1 else 2) else 0 else 0
def r2N (n:Nat):Nat:=Nat.rec (motive:=fun _=>Nat) 0 (fun x ih=>Nat.add ih (wayN n x)) 46
def s4 (n k:Nat):Nat:=Nat.rec (motive:=fun _=>Nat) 0 (fun d ih=>Nat.add ih (bif Nat.beq (Nat.mod n (Nat.succ d)) 0 then bif Nat.beq (Nat.mod (Nat.succ d) 4) 0 then 0 else Nat.succ d else 0)) k
def dn:Nat→List Nat
 | 0=>[r2N 0]
 | n+1=>r2N (n+1)::dn n
end Locg
namespace Locg
open Go.RowKit Go.Proofs.YtacfcoilmdhgnaaGreatDoorW.PrintWords Go.Proofs.YtacfcoilmdhgnaaGreatDoorW.PrintMore
def bad (xs:List Int):List Int:=(plc xs).filter (fun p => !van xs p)
def minL (f:Int→Int):List Int→Int→Int
 | [],acc=>acc
 | p::ps,acc=>minL f ps (mn acc (f p))
def pall (xs:List Int):Int:=minL (Es xs) (plc xs) xs.length
theorem mn_le {a b:Int}:mn a b≤a∧mn a b≤b∧(mn a b=a∨mn a b=b):=by unfold mn;split<;>omega
end Locg
namespace Locg
open Go.RowKit Go.Proofs.YtacfcoilmdhgnaaGreatDoorW.PrintWords
def yx (x:Nat):Nat:=x^^^(x/64)
def v2:Nat→Nat→Nat
 | 0,_=>0
 | d+1,s=>if s%2=0 then v2 d (s/2)+1 else 0
def G0 (n:Nat):Nat:=116*n+212
def chk (n:Nat):Bool :=
 let s:=G0 n
 let v:=v2 20 s
 Nat.ble v 20&&(s==2 ^ v*(s/2 ^ v)&&((s/2 ^ v)%2==1&&(List.range (2 ^ v)).all fun L=>(List.range 100).any fun j=>Nat.ble (L+s*j+1) 16777216 && !(yx (L+s*j)%40==yx L%40)))
theorem chk_all : ∀n∈List.range 2001,chk n=true:=by decide +kernel
theorem Mg (o a:Nat) (ho:o%2=1) : ∀n:Nat,∃j,j<2 ^ n∧(a+o*j)%2 ^ n=0
 | 0=>⟨0,by simp,by simp [Nat.mod_one]⟩
 | n+1=>by
  obtain ⟨j,hj,h⟩:=Mg o a ho n
  obtain ⟨c,hc⟩:=Nat.dvd_of_mod_eq_zero h
  have hp:0<2 ^ n:=Nat.pow_pos (by omega)
  rcases Nat.mod_two_eq_zero_or_one c with hc2|hc2
  ·refine ⟨j,by rw [Nat.pow_succ];omega,?_⟩
   rw [hc,Nat.pow_succ]
   apply Nat.mod_eq_zero_of_dvd
   exact Nat.mul_dvd_mul_left _ (Nat.dvd_of_mod_eq_zero hc2)
  ·refine ⟨j+2 ^ n,by rw [Nat.pow_succ];omega,?_⟩
   have e:a+o*(j+2 ^ n)=2 ^ n*(c+o):=by rw [Nat.mul_add,← Nat.add_assoc,hc,Nat.mul_add,Nat.mul_comm o]
   rw [e,Nat.pow_succ]
   apply Nat.mod_eq_zero_of_dvd
   exact Nat.mul_dvd_mul_left _ (Nat.dvd_of_mod_eq_zero (by omega))
theorem Oy (a b c d i:Nat) (hb:b<2 ^ i) (hd:d<2 ^ i):(2 ^ i*a+b)^^^(2 ^ i*c+d)=2 ^ i*(a^^^c)+(b^^^d):=by
 apply Nat.eq_of_testBit_eq
 intro j
 rw [Nat.testBit_xor,Nat.testBit_two_pow_mul_add a hb,Nat.testBit_two_pow_mul_add c hd,Nat.testBit_two_pow_mul_add _ (Nat.xor_lt_two_pow hb hd)]
 split
 ·rw [Nat.testBit_xor]
 ·rw [Nat.testBit_xor]
theorem Mt (H low:Nat) (h:low<2 ^ 24):yx (2 ^ 30*H+low)=2 ^ 24*((64*H)^^^H)+yx low:=by
 unfold yx
 have e1:2 ^ 30*H+low=2 ^ 24*(64*H)+low:=by omega
 have e2:(2 ^ 30*H+low)/64=2 ^ 24*H+low/64:=by omega
 rw [e2,e1]
 exact Oy _ _ _ _ 24 h (by omega)
theorem not_stay (n x0:Nat) (hn:n≤2000) : ∃j,j<2 ^ 31∧yx (x0+G0 n*j)%40≠1:=by
 have hc:=chk_all n (by rw [List.mem_range];omega)
 unfold chk at hc
 simp only [Bool.and_eq_true,beq_iff_eq,List.all_eq_true,List.any_eq_true,List.mem_range,Nat.ble_eq,Bool.not_eq_true',beq_eq_false_iff_ne] at hc
 obtain ⟨hv,hs,ho,hL⟩:=hc
 have hsn:G0 n≤232212:=by unfold G0;omega
 generalize G0 n=s at *
 generalize v2 20 s=v at *
 generalize s/2 ^ v=o at *
 have hp:0<2 ^ v:=Nat.pow_pos (by omega)
 obtain ⟨j1,hj1,h1⟩:=Mg o (x0/2 ^ v) ho (30-v)
 obtain ⟨H,hH⟩:=Nat.dvd_of_mod_eq_zero h1
 have hLlt:=Nat.mod_lt x0 hp
 obtain ⟨j0,hj0,hb,hne⟩:=hL (x0%2 ^ v) hLlt
 have hpow:2 ^ v*2 ^ (30-v)=2 ^ 30:=by rw [← Nat.pow_add];congr 1;omega
 have hj1':j1<2 ^ 30:=Nat.lt_of_lt_of_le hj1 (Nat.pow_le_pow_right (by omega) (by omega))
 have ex:x0+s*j1=2 ^ 30*H+x0%2 ^ v:=by
  have hx:=Nat.div_add_mod x0 (2 ^ v)
  have:x0+s*j1=2 ^ v*(x0/2 ^ v+o*j1)+x0%2 ^ v:=by
   rw [hs,Nat.mul_add,Nat.mul_assoc];omega
  rw [this,hH,← Nat.mul_assoc,hpow]
 have hlow:x0%2 ^ v<2 ^ 24:=by omega
 apply Classical.byContradiction
 intro hno
 have key : ∀j,j<2 ^ 31→yx (x0+s*j)%40=1:=by
  intro j hj
  apply Classical.byContradiction
  intro h
  exact hno ⟨j,hj,h⟩
 have k1:=key j1 (by omega)
 have k2:=key (j1+j0) (by omega)
 rw [ex,Mt _ _ hlow] at k1
 rw [Nat.mul_add,← Nat.add_assoc,ex,Nat.add_assoc,Mt _ _ (by omega)] at k2
 omega
end Locg
namespace Locg
open Go.RowKit Go.Proofs.YtacfcoilmdhgnaaGreatDoorW.PrintWords
def anyN (f:Nat→Bool) (k:Nat):Bool:=Nat.rec (motive:=fun _=>Bool) false (fun i ih=>or ih (f i)) k
def ex1 (left:Nat):Bool:=Nat.beq (Nat.mul (sqF 6 left 0) (sqF 6 left 0)) left
def ex2 (low left:Nat):Bool:=anyN (fun y=>and (Nat.ble low y) (ex1 (Nat.sub left (Nat.mul y y)))) (Nat.succ (sqF 6 (Nat.div left 2) 0))
def ex3 (low left:Nat):Bool:=anyN (fun y=>and (Nat.ble low y) (ex2 y (Nat.sub left (Nat.mul y y)))) (Nat.succ (sqF 6 (Nat.div left 3) 0))
def IF (l:List Int):Int:=l.foldl (fun s x=>s+x*x) 0
theorem sumSq_go (l:List Int) : ∀a:Int,l.foldl (fun s x=>s+x*x) a=a+IF l:=by
 induction l with
 | nil=>intro a;simp [IF]
 | cons x l ih=>intro a;simp only [IF,List.foldl_cons];rw [ih,ih (0+x*x)];omega
theorem EY (x:Int) (l:List Int):IF (x::l)=x*x+IF l:=by
 have:=sumSq_go l (0+x*x);simp only [IF,List.foldl_cons] at this ⊢;omega
def asc:Int→List Int→Prop
 | _,[]=>True
 | low,x::l=>low≤x∧asc x l
theorem H9 {f:Int→Option (List Int)} {c left:Int} (hf : ∀x r,0≤x→f x=some r→asc x r∧IF r=left-x*x) : ∀(d:Nat) (x:Int) (r:List Int),0≤x→D7 f c left d x=some r→asc x r∧IF r=left
 | 0,_,_,_,h=>by simp [D7] at h
 | d+1,x,r,hx,h=>by
  simp only [D7] at h
  split at h
  ·split at h
   ·rename_i r' hr
    injection h with h
    obtain ⟨h1,h2⟩:=hf x r' hx hr
    rw [← h,EY,h2]
    exact ⟨⟨Int.le_refl _,h1⟩,by omega⟩
   ·obtain ⟨h1,h2⟩:=H9 hf d (x+1) r (by omega) h
    refine ⟨?_,h2⟩
    cases r with
    | nil=>trivial
    | cons a r=>exact ⟨by have:=h1.1;omega,h1.2⟩
  ·cases h
theorem Mw : ∀(m:Nat) (low left:Int) (r:List Int),0≤low→sqs m low left=some r→asc low r∧IF r=left
 | 0,low,left,r,h0,h=>by
  simp only [sqs] at h
  split at h
  ·rename_i hc
   injection h with h
   rw [← h,EY]
   exact ⟨⟨hc.2,trivial⟩,by simp [IF];exact hc.1⟩
  ·cases h
 | m+1,low,left,r,h0,h=>by
  simp only [sqs] at h
  exact H9 (fun x r hx hr=>Mw m _ _ r hx hr) _ _ _ h0 h
def threeN (d n:Nat):Bool:=Nat.rec (motive:=fun _=>Nat→Bool) (fun n => !Nat.beq (Nat.mod n 8) 7) (fun _ ih n=>bif and (!Nat.beq n 0) (Nat.beq (Nat.mod n 4) 0) then ih (Nat.div n 4) else !Nat.beq (Nat.mod n 8) 7) d n
def ok3 (n:Nat):Bool:=(ex3 0 n)==(threeN 6 n)
end Locg
namespace Locg
open Go.RowKit Go.Proofs.YtacfcoilmdhgnaaGreatDoorW.PrintWords
def gI (a b:Int):Int:=((Int.gcd a b:Nat):Int)
def gcdL:List Int→Int→Int
 | [],g=>g
 | x::xs,g=>gcdL xs (gI g x)
def gcdF (xs:List Int):Int:=gcdL xs 0
theorem FX (a b:Int):gI a b∣a∧gI a b∣b:=⟨Int.gcd_dvd_left ..,Int.gcd_dvd_right ..⟩
theorem DD (a b:Int):0≤gI a b:=Int.natCast_nonneg _
theorem OU {c a b:Int} (ha:c∣a) (hb:c∣b):c∣gI a b:=Int.dvd_coe_gcd ha hb
theorem KL : ∀(xs:List Int) (g:Int),0≤g→0≤gcdL xs g∧gcdL xs g∣g∧(∀x∈xs,gcdL xs g∣x)∧∀c:Int,c∣g→(∀x∈xs,c∣x)→c∣gcdL xs g
 | [],g,hg=>⟨hg,Int.dvd_refl _,by simp,fun c h _=>h⟩
 | x::xs,g,hg=>by
  obtain ⟨h1,h2,h3,h4⟩:=KL xs (gI g x) (DD _ _)
  simp only [gcdL]
  refine ⟨h1,Int.dvd_trans h2 (FX _ _).1,?_,?_⟩
  ·intro y hy
   rcases List.mem_cons.1 hy with rfl|hy
   ·exact Int.dvd_trans h2 (FX _ _).2
   ·exact h3 y hy
  ·intro c hc hx
   exact h4 c (OU hc (hx x (by simp))) (fun y hy=>hx y (by simp [hy]))
theorem Eo (xs:List Int):0≤gcdF xs∧(∀x∈xs,gcdF xs∣x)∧∀c:Int,(∀x∈xs,c∣x)→c∣gcdF xs:=by
 obtain ⟨h1,_,h3,h4⟩:=KL xs 0 (by omega)
 exact ⟨h1,h3,fun c h=>h4 c (Int.dvd_zero _) h⟩
theorem J0 {xs:List Int} (h : ∃x∈xs,x≠0):gcdF xs≠0:=by
 obtain ⟨x,hx,h0⟩:=h
 intro e
 have:=(Eo xs).2.1 x hx
 rw [e] at this
 exact h0 (Int.zero_dvd.1 this)
theorem MI {a b:Int} (ha:0≤a) (hb:0≤b) (h:a∣b) (h':b∣a):a=b:=by
 have:=Int.natAbs_dvd_natAbs.2 h
 have:=Int.natAbs_dvd_natAbs.2 h'
 have:=Nat.dvd_antisymm ‹a.natAbs∣b.natAbs› ‹_›
 omega
theorem Oj {xs ys:List Int} (h : ∀x,x∈xs↔x∈ys):gcdF xs=gcdF ys:=by
 obtain ⟨a1,a2,a3⟩:=Eo xs
 obtain ⟨b1,b2,b3⟩:=Eo ys
 exact MI a1 b1 (b3 _ (fun x hx=>a2 x ((h x).2 hx))) (a3 _ (fun x hx=>b2 x ((h x).1 hx)))
theorem L9 {a b:Int} (ha:a≠0):gI a b≤a.natAbs:=by
 have:=Int.natAbs_dvd_natAbs.2 (FX a b).1
 have:=Nat.le_of_dvd (by omega) this
 have:=DD a b
 omega
theorem Gh (a b:Int):gI a b=gI b a:=by unfold gI;rw [Int.gcd_comm]
def Fc:List Int→Int→Int
 | [],d=>d
 | x::xs,d=>if x=0 then Fc xs d else if x<0 then -d else d
def DM (xs:List Int):List Int:=xs.map fun x=>x.tdiv (Fc xs (gcdF xs))
theorem Hu : ∀(xs:List Int) (d:Int),Fc xs d=d∨Fc xs d = -d
 | [],d => .inl rfl
 | x::xs,d=>by
  simp only [Fc]
  split
  ·exact Hu xs d
  ·split
   ·exact .inr rfl
   ·exact .inl rfl
theorem NP {xs:List Int} : ∀x∈xs,Fc xs (gcdF xs)∣x:=by
 intro x hx
 have h:=(Eo xs).2.1 x hx
 rcases Hu xs (gcdF xs) with e|e<;>rw [e]
 ·exact h
 ·exact Int.neg_dvd.2 h
theorem Mq {xs:List Int} (h : ∃x∈xs,x≠0):Fc xs (gcdF xs)≠0:=by
 have:=J0 h
 rcases Hu xs (gcdF xs) with e|e<;>rw [e]<;>omega
theorem OC {xs:List Int} (h : ∃x∈xs,x≠0):xs=(DM xs).map (fun x=>Fc xs (gcdF xs)*x):=by
 unfold DM
 rw [List.map_map]
 conv=>lhs;rw [← List.map_id xs]
 refine List.map_congr_left fun x hx=>?_
 simp only [id,Function.comp]
 exact (Int.mul_tdiv_cancel' (NP x hx)).symm
theorem Kl (xs:List Int):(DM xs).length=xs.length:=by simp [DM]
theorem EZ {x d:Int}:(x.tdiv d).natAbs≤x.natAbs:=by
 rw [Int.natAbs_tdiv];exact Nat.div_le_self _ _
theorem Gv {xs:List Int} {M:Nat} (h : ∀x∈xs,x.natAbs≤M) : ∀x∈DM xs,x.natAbs≤M:=by
 intro x hx
 obtain ⟨y,hy,rfl⟩:=List.mem_map.1 hx
 exact Nat.le_trans EZ (h y hy)
theorem Md : ∀(xs vs:List Int) (d:Int),qv xs (vs.map fun v=>d*v)=d*d*qv xs vs
 | [],vs,d=>by cases vs<;>simp [qv]
 | x::xs,[],d=>by simp [qv]
 | x::xs,v::vs,d=>by
  simp only [List.map,qv]
  rw [Md xs vs d];grind
theorem He {xs vs:List Int} (h : ∃x∈vs,x≠0) (hz:qv xs vs=0):qv xs (DM vs)=0∧∃x∈DM vs,x≠0:=by
 have h0:=Mq h
 have e:=OC h
 constructor
 ·rw [e,Md] at hz
  rcases Int.mul_eq_zero.1 hz with h1|h1
  ·rcases Int.mul_eq_zero.1 h1 with h2|h2<;>exact absurd h2 h0
  ·exact h1
 ·obtain ⟨x,hx,hn⟩:=h
  rw [e] at hx
  obtain ⟨y,hy,rfl⟩:=List.mem_map.1 hx
  exact ⟨y,hy,fun e=>hn (by rw [e,Int.mul_zero])⟩
theorem Iu {a p a':Int} (hp:2≤p) (e:a=p*a'):a.tdiv p=a':=by rw [e];exact Int.mul_tdiv_cancel_left _ (by omega)
theorem Fi {a p a':Int} (ha:EN a) (hp:2≤p) (e:a=p*a'):EN a':=by
 refine ⟨fun h=>ha.1 (by rw [e,h,Int.mul_zero]),fun d hd h=>ha.2 d hd ?_⟩
 rw [e];exact Int.dvd_trans h (Int.dvd_mul_left _ _)
theorem M6 {c p:Int} (hc:EN c) (hp:Dc p) (h : ¬p∣c):EN (c*p):=by
 refine ⟨Int.mul_ne_zero hc.1 (by have:=hp.1;omega),fun d hd hdd=>?_⟩
 by_cases hpd:p∣d
 ·obtain ⟨e,rfl⟩:=hpd
  refine h ?_
  have h1:p*p∣c*p:=Int.dvd_trans ⟨e*e,by grind⟩ hdd
  exact Int.dvd_of_mul_dvd_mul_right (by have:=hp.1;omega) h1
 ·have hg:Int.gcd (d*d) p=1:=by
   have h1:((Int.gcd (d*d) p:Nat):Int)∣p:=Int.gcd_dvd_right ..
   have h2:((Int.gcd (d*d) p:Nat):Int)∣d*d:=Int.gcd_dvd_left ..
   have h0:Int.gcd (d*d) p≠0:=fun e=>by rw [e] at h1;have:=Int.zero_dvd.1 h1;have:=hp.1;omega
   rcases Nat.lt_or_ge (Int.gcd (d*d) p) 2 with h3|h3
   ·omega
   ·have h4:=hp.2 _ (by omega) h1
    rw [h4] at h2
    rcases Fk hp h2 with h5|h5<;>exact absurd h5 hpd
  refine hc.2 d hd ?_
  have h1:(d*d).natAbs∣c.natAbs*p.natAbs:=by rw [← Int.natAbs_mul];exact Int.natAbs_dvd_natAbs.2 hdd
  have h2:Nat.Coprime (d*d).natAbs p.natAbs:=hg
  exact Int.natAbs_dvd_natAbs.1 (h2.dvd_of_dvd_mul_right h1)
def minP (n:Int):Int:=rd (CZ n) 0
theorem KS {n:Int} (h:1<n) (hN:n.natAbs<2 ^ 63):Dc (minP n)∧minP n∣n∧0<(CZ n).length:=by
 obtain ⟨q,hq,hd⟩:=KI n.toNat n (Nat.le_refl _) h
 have hm:=(Ex (by omega) hN).2 ⟨hq,hd⟩
 unfold minP
 cases hp:CZ n with
 | nil=>rw [hp] at hm;simp at hm
 | cons r rs =>
  have h1:rd (r::rs) 0=r:=rfl
  rw [h1]
  have:=(Ex (by omega) hN).1 (show r∈CZ n by rw [hp];simp)
  exact ⟨this.1,this.2,by simp⟩
structure NI (A B C:Int) (M:Nat) (l a b c x y z:Int):Prop where
 sa:EN a
 sb:EN b
 sc:EN c
 hx:1≤x
 hy:1≤y
 hz:1≤z
 hl:1≤l
 ea:A*(x*x)=l*a
 eb:B*(y*y)=l*b
 ec:C*(z*z)=l*c
 hm:(l*(a*b*c)).natAbs≤M
theorem NI.swap {A B C l a b c x y z:Int} {M:Nat} (h:NI A B C M l a b c x y z):NI A C B M l a c b x z y :=
 ⟨h.sa,h.sc,h.sb,h.hx,h.hz,h.hy,h.hl,h.ea,h.ec,h.eb,by have:=h.hm;rw [show a*c*b=a*b*c by grind];exact this⟩
theorem NI.turn {A B C l a b c x y z:Int} {M:Nat} (h:NI A B C M l a b c x y z):NI B C A M l b c a y z x :=
 ⟨h.sb,h.sc,h.sa,h.hy,h.hz,h.hx,h.hl,h.eb,h.ec,h.ea,by have:=h.hm;rw [show b*c*a=a*b*c by grind];exact this⟩
theorem NI.back {A B C l a b c x y z:Int} {M:Nat} (h:NI A B C M l a b c x y z):NI C A B M l c a b z x y:=h.turn.turn
theorem NI.div3 {A B C l a b c x y z p:Int} {M:Nat} (h:NI A B C M l a b c x y z) (hp:Dc p) (ha:p∣a) (hb:p∣b) (hc:p∣c) :
  NI A B C M (l*p) (a.tdiv p) (b.tdiv p) (c.tdiv p) x y z∧2*(a.tdiv p*b.tdiv p*c.tdiv p).natAbs≤(a*b*c).natAbs:=by
 obtain ⟨a',rfl⟩:=ha
 obtain ⟨b',rfl⟩:=hb
 obtain ⟨c',rfl⟩:=hc
 have p2:=hp.1
 rw [Iu p2 rfl,Iu p2 rfl,Iu p2 rfl]
 have hpn:4≤(p*p).natAbs:=by have:=EM (show (0:Int)≤2 by omega) p2;omega
 refine ⟨⟨Fi h.sa p2 rfl,Fi h.sb p2 rfl,Fi h.sc p2 rfl,h.hx,h.hy,h.hz,?_,by have:=h.ea;grind,by have:=h.eb;grind,by have:=h.ec;grind,?_⟩,?_⟩
 ·have:=Int.mul_le_mul h.hl p2 (by omega) (by have:=h.hl;omega);omega
 ·have h1:(l*(p*a'*(p*b')*(p*c'))).natAbs=(l*p*(a'*b'*c')).natAbs*(p*p).natAbs:=by rw [← Int.natAbs_mul];congr 1;grind
  have h2:=h.hm
  rw [h1] at h2
  have:=Nat.le_mul_of_pos_right (l*p*(a'*b'*c')).natAbs (show 0<(p*p).natAbs by omega)
  omega
 ·have h1:(p*a'*(p*b')*(p*c')).natAbs=(a'*b'*c').natAbs*((p*p).natAbs*p.natAbs):=by rw [← Int.natAbs_mul,← Int.natAbs_mul];congr 1;grind
  rw [h1]
  have h3:2≤(p*p).natAbs*p.natAbs:=by have:=Nat.mul_le_mul hpn (show 1≤p.natAbs by omega);omega
  have:=Nat.mul_le_mul_left (a'*b'*c').natAbs h3
  omega
theorem NI.div2 {A B C l a b c x y z p:Int} {M:Nat} (h:NI A B C M l a b c x y z) (hp:Dc p) (ha:p∣a) (hb:p∣b) (hc : ¬p∣c) :
  NI A B C M (l*p) (a.tdiv p) (b.tdiv p) (c*p) x y (z*p)∧2*(a.tdiv p*b.tdiv p*(c*p)).natAbs≤(a*b*c).natAbs:=by
 obtain ⟨a',rfl⟩:=ha
 obtain ⟨b',rfl⟩:=hb
 have p2:=hp.1
 rw [Iu p2 rfl,Iu p2 rfl]
 refine ⟨⟨Fi h.sa p2 rfl,Fi h.sb p2 rfl,M6 h.sc hp hc,h.hx,h.hy,?_,?_,by have:=h.ea;grind,by have:=h.eb;grind,?_,?_⟩,?_⟩
 ·have:=Int.mul_le_mul h.hz p2 (by omega) (by have:=h.hz;omega);omega
 ·have:=Int.mul_le_mul h.hl p2 (by omega) (by have:=h.hl;omega);omega
 ·have:C*(z*p*(z*p))=C*(z*z)*(p*p):=by grind
  rw [this,h.ec];grind
 ·have h1:l*p*(a'*b'*(c*p))=l*(p*a'*(p*b')*c):=by grind
  rw [h1];exact h.hm
 ·have h1:(p*a'*(p*b')*c).natAbs=(a'*b'*(c*p)).natAbs*p.natAbs:=by rw [← Int.natAbs_mul];congr 1;grind
  rw [h1]
  have:=Nat.mul_le_mul_left (a'*b'*(c*p)).natAbs (show 2≤p.natAbs by omega)
  omega
theorem NI.bd {A B C l a b c x y z:Int} {M:Nat} (h:NI A B C M l a b c x y z):a.natAbs≤M∧x*x≤(M:Int)∧(a*b*c).natAbs≤M∧(b*c).natAbs≤M∧(a*c).natAbs≤M:=by
 have hm:=h.hm
 have l1:=h.hl
 have a0:=h.sa.1
 have b0:=h.sb.1
 have c0:=h.sc.1
 have e1:(l*(a*b*c)).natAbs=(l*a).natAbs*(b*c).natAbs:=by rw [← Int.natAbs_mul];congr 1;grind
 have bc:1≤(b*c).natAbs:=by have:=Int.mul_ne_zero b0 c0;omega
 have la:(l*a).natAbs≤M:=Nat.le_trans (Nat.le_mul_of_pos_right (l*a).natAbs bc) (by rw [← e1];exact hm)
 have e2:(l*a).natAbs=l.natAbs*a.natAbs:=Int.natAbs_mul _ _
 have ha:a.natAbs≤(l*a).natAbs:=by rw [e2];exact Nat.le_mul_of_pos_left _ (by omega)
 have hA:A≠0:=fun e=>by
  have:=h.ea
  rw [e,Int.zero_mul] at this
  exact absurd this.symm (Int.mul_ne_zero (by omega) a0)
 have hx:(x*x).natAbs≤(l*a).natAbs:=by
  rw [← h.ea,Int.natAbs_mul A];exact Nat.le_mul_of_pos_left _ (by omega)
 have hq:=sq_nonneg x
 have e3:(l*(a*b*c)).natAbs=l.natAbs*(a*b*c).natAbs:=Int.natAbs_mul _ _
 have h3:(a*b*c).natAbs≤M:=by have:=Nat.le_mul_of_pos_left (a*b*c).natAbs (show 0<l.natAbs by omega);omega
 refine ⟨by omega,by omega,h3,?_,?_⟩
 ·have:(a*b*c).natAbs=a.natAbs*(b*c).natAbs:=by rw [← Int.natAbs_mul];congr 1;grind
  have:=Nat.le_mul_of_pos_left (b*c).natAbs (show 0<a.natAbs by omega)
  omega
 ·have:(a*b*c).natAbs=b.natAbs*(a*c).natAbs:=by rw [← Int.natAbs_mul];congr 1;grind
  have:=Nat.le_mul_of_pos_left (a*c).natAbs (show 0<b.natAbs by omega)
  omega
abbrev T6:=(Int×Int×Int)×(Int×Int×Int)
def nrm:Nat→Int→Int→Int→Int→Int→Int→T6
 | 0,a,b,c,x,y,z=>((a,b,c),(x,y,z))
 | k+1,a,b,c,x,y,z =>
  if 1<gI a b then (if c.tmod (minP (gI a b))=0 then nrm k (a.tdiv (minP (gI a b))) (b.tdiv (minP (gI a b))) (c.tdiv (minP (gI a b))) x y z else nrm k (a.tdiv (minP (gI a b))) (b.tdiv (minP (gI a b))) (c*minP (gI a b)) x y (z*minP (gI a b)))
  else if 1<gI a c then (if b.tmod (minP (gI a c))=0 then nrm k (a.tdiv (minP (gI a c))) (b.tdiv (minP (gI a c))) (c.tdiv (minP (gI a c))) x y z else nrm k (a.tdiv (minP (gI a c))) (b*minP (gI a c)) (c.tdiv (minP (gI a c))) x (y*minP (gI a c)) z)
  else if 1<gI b c then (if a.tmod (minP (gI b c))=0 then nrm k (a.tdiv (minP (gI b c))) (b.tdiv (minP (gI b c))) (c.tdiv (minP (gI b c))) x y z else nrm k (a*minP (gI b c)) (b.tdiv (minP (gI b c))) (c.tdiv (minP (gI b c))) (x*minP (gI b c)) y z)
  else ((a,b,c),(x,y,z))
def Nrm (A B C:Int) (M:Nat) (s:T6):Prop := ∃l,NI A B C M l s.1.1 s.1.2.1 s.1.2.2 s.2.1 s.2.2.1 s.2.2.2∧gI s.1.1 s.1.2.1≤1∧gI s.1.1 s.1.2.2≤1∧gI s.1.2.1 s.1.2.2≤1
theorem gp {A B C l a b c x y z:Int} {M:Nat} (h:NI A B C M l a b c x y z) (hM:M<2 ^ 60) (hg:1<gI a b):Dc (minP (gI a b))∧minP (gI a b)∣a∧minP (gI a b)∣b∧0<(CZ (gI a b)).length∧(gI a b).natAbs≤M:=by
 have h1:=L9 (b:=b) h.sa.1
 have h2:=h.bd.1
 have h3:(gI a b).natAbs≤M:=by omega
 obtain ⟨p1,p2,p3⟩:=KS hg (by omega)
 exact ⟨p1,Int.dvd_trans p2 (FX a b).1,Int.dvd_trans p2 (FX a b).2,p3,h3⟩
theorem Dg {a p:Int}:a.tmod p=0↔p∣a:=⟨Int.dvd_of_tmod_eq_zero,Int.tmod_eq_zero_of_dvd⟩
theorem nrm_ni {A B C:Int} {M:Nat} (hM:M<2 ^ 60) : ∀(k:Nat) (l a b c x y z:Int),NI A B C M l a b c x y z→(a*b*c).natAbs<2 ^ k→Nrm A B C M (nrm k a b c x y z):=by
 intro k
 induction k with
 | zero =>
  intro l a b c x y z h hk
  have:=Int.mul_ne_zero (Int.mul_ne_zero h.sa.1 h.sb.1) h.sc.1
  omega
 | succ k ih =>
  intro l a b c x y z h hk
  rw [Nat.pow_succ] at hk
  simp only [nrm]
  by_cases g1:1<gI a b
  ·rw [if_pos g1]
   obtain ⟨pp,pa,pb,_⟩:=gp h hM g1
   by_cases c1:c.tmod (minP (gI a b))=0
   ·rw [if_pos c1]
    obtain ⟨h1,h2⟩:=h.div3 pp pa pb (Dg.1 c1)
    exact ih _ _ _ _ _ _ _ h1 (by omega)
   ·rw [if_neg c1]
    obtain ⟨h1,h2⟩:=h.div2 pp pa pb (fun e=>c1 (Dg.2 e))
    exact ih _ _ _ _ _ _ _ h1 (by omega)
  ·rw [if_neg g1]
   by_cases g2:1<gI a c
   ·rw [if_pos g2]
    obtain ⟨pp,pa,pb,_⟩:=gp h.swap hM g2
    by_cases c1:b.tmod (minP (gI a c))=0
    ·rw [if_pos c1]
     obtain ⟨h1,h2⟩:=h.div3 pp pa (Dg.1 c1) pb
     exact ih _ _ _ _ _ _ _ h1 (by omega)
    ·rw [if_neg c1]
     obtain ⟨h1,h2⟩:=h.swap.div2 pp pa pb (fun e=>c1 (Dg.2 e))
     refine ih _ _ _ _ _ _ _ h1.swap ?_
     rw [show a.tdiv (minP (gI a c))*(b*minP (gI a c))*c.tdiv (minP (gI a c))=a.tdiv (minP (gI a c))*c.tdiv (minP (gI a c))*(b*minP (gI a c)) by grind]
     rw [show a*c*b=a*b*c by grind] at h2
     omega
   ·rw [if_neg g2]
    by_cases g3:1<gI b c
    ·rw [if_pos g3]
     obtain ⟨pp,pa,pb,_⟩:=gp h.turn hM g3
     by_cases c1:a.tmod (minP (gI b c))=0
     ·rw [if_pos c1]
      obtain ⟨h1,h2⟩:=h.div3 pp (Dg.1 c1) pa pb
      exact ih _ _ _ _ _ _ _ h1 (by omega)
     ·rw [if_neg c1]
      obtain ⟨h1,h2⟩:=h.turn.div2 pp pa pb (fun e=>c1 (Dg.2 e))
      refine ih _ _ _ _ _ _ _ h1.back ?_
      rw [show a*minP (gI b c)*b.tdiv (minP (gI b c))*c.tdiv (minP (gI b c))=b.tdiv (minP (gI b c))*c.tdiv (minP (gI b c))*(a*minP (gI b c)) by grind]
      rw [show b*c*a=a*b*c by grind] at h2
      omega
    ·rw [if_neg g3]
     exact ⟨l,h,(show gI a b≤1 by omega),(show gI a c≤1 by omega),(show gI b c≤1 by omega)⟩
end Locg
namespace Locg
open Go.RowKit Go.Proofs.YtacfcoilmdhgnaaGreatDoorW.PrintWords
def nmr (a b x y:Int):Int := -a*x*x-b*y*y
def hit (a b c x y:Int):Option (List Int) :=
 if (nmr a b x y).tmod c=0∧0≤(nmr a b x y).tdiv c∧isq ((nmr a b x y).tdiv c)*isq ((nmr a b x y).tdiv c)=(nmr a b x y).tdiv c∧¬(x=0∧y=0) then some [x,y,isq ((nmr a b x y).tdiv c)] else none
def sY (a b c x:Int):Nat→Int→Option (List Int)
 | 0,_=>none
 | n+1,y=>if y*y≤absI (a*c) then match hit a b c x y with|some v=>some v|none=>sY a b c x n (y+1) else none
def sX (a b c:Int):Nat→Int→Option (List Int)
 | 0,_=>none
 | n+1,x=>if x*x≤absI (b*c) then match sY a b c x 200 0 with|some v=>some v|none=>sX a b c n (x+1) else none
def zs (a b c:Int):Option (List Int):=sX a b c 200 0
def Hit (a b c:Int) (v:List Int):Prop := ∃x y z,v=[x,y,z]∧a*x*x+b*y*y+c*z*z=0∧(x≠0∨y≠0)∧0≤x∧0≤y∧0≤z∧x*x≤absI (b*c)∧y*y≤absI (a*c)
theorem hit_is {a b c x y:Int} {v:List Int} (h:hit a b c x y=some v) (hx:0≤x) (hy:0≤y) (h1:x*x≤absI (b*c)) (h2:y*y≤absI (a*c)):Hit a b c v:=by
 unfold hit at h
 by_cases hc:(nmr a b x y).tmod c=0∧0≤(nmr a b x y).tdiv c∧isq ((nmr a b x y).tdiv c)*isq ((nmr a b x y).tdiv c)=(nmr a b x y).tdiv c∧¬(x=0∧y=0)
 ·rw [if_pos hc] at h
  injection h with h
  refine ⟨x,y,_,h.symm,?_,by omega,hx,hy,EW _,h1,h2⟩
  obtain ⟨c1,c2,c3,_⟩:=hc
  have e:=Int.mul_tdiv_cancel' (Dg.1 c1)
  generalize (nmr a b x y).tdiv c=q at *
  rw [Int.mul_assoc c,c3,e]
  unfold nmr;grind
 ·rw [if_neg hc] at h;cases h
theorem sY_is {a b c x:Int} (hx:0≤x) (h1:x*x≤absI (b*c)) {v:List Int} : ∀(n:Nat) (y:Int),0≤y→sY a b c x n y=some v→Hit a b c v
 | 0,y,hy,h=>by simp [sY] at h
 | n+1,y,hy,h=>by
  simp only [sY] at h
  by_cases c1:y*y≤absI (a*c)
  ·rw [if_pos c1] at h
   cases hh:hit a b c x y with
   | some u=>rw [hh] at h;exact hit_is (by rw [hh];exact h) hx hy h1 c1
   | none=>rw [hh] at h;exact sY_is hx h1 n (y+1) (by omega) h
  ·rw [if_neg c1] at h;cases h
theorem sX_is {a b c:Int} {v:List Int} : ∀(n:Nat) (x:Int),0≤x→sX a b c n x=some v→Hit a b c v
 | 0,x,hx,h=>by simp [sX] at h
 | n+1,x,hx,h=>by
  simp only [sX] at h
  by_cases c1:x*x≤absI (b*c)
  ·rw [if_pos c1] at h
   cases hh:sY a b c x 200 0 with
   | some u=>rw [hh] at h;exact sY_is hx c1 200 0 (by omega) (by rw [hh];exact h)
   | none=>rw [hh] at h;exact sX_is n (x+1) (by omega) h
  ·rw [if_neg c1] at h;cases h
theorem zs_is {a b c:Int} {v:List Int} (h:zs a b c=some v):Hit a b c v:=sX_is 200 0 (by omega) h
def nrm3 (a b c:Int):T6:=nrm 62 (Bv a).1 (Bv b).1 (Bv c).1 ((Bv b).2*(Bv c).2) ((Bv a).2*(Bv c).2) ((Bv a).2*(Bv b).2)
def z3 (a b c:Int):Option (List Int) :=
 match zs (nrm3 a b c).1.1 (nrm3 a b c).1.2.1 (nrm3 a b c).1.2.2 with
 | some [u,v,w]=>some (DM [u*(nrm3 a b c).2.1,v*(nrm3 a b c).2.2.1,w*(nrm3 a b c).2.2.2])
 | _=>none
def bd3 (a b c:Int):Nat:=(a*b*c).natAbs
theorem Ly {a b c:Int} (ha:a≠0) (hb:b≠0) (hc:c≠0) (h:bd3 a b c<2 ^ 60) :
  ∃l,NI a b c (bd3 a b c) l (Bv a).1 (Bv b).1 (Bv c).1 ((Bv b).2*(Bv c).2) ((Bv a).2*(Bv c).2) ((Bv a).2*(Bv b).2):=by
 have hab:=Int.mul_ne_zero ha hb
 have A:a.natAbs≤bd3 a b c:=by unfold bd3;rw [Int.mul_assoc];exact Df (Int.mul_ne_zero hb hc)
 have B:b.natAbs≤bd3 a b c:=by unfold bd3;rw [show a*b*c=b*(a*c) by grind];exact Df (Int.mul_ne_zero ha hc)
 have C:c.natAbs≤bd3 a b c:=by unfold bd3;rw [show a*b*c=c*(a*b) by grind];exact Df hab
 obtain ⟨a1,a2,a3⟩:=D2 ha (by omega)
 obtain ⟨b1,b2,b3⟩:=D2 hb (by omega)
 obtain ⟨c1,c2,c3⟩:=D2 hc (by omega)
 have one : ∀ {p q:Int},1≤p→1≤q→1≤p*q:=fun {p q} hp hq=>by have:=Int.mul_le_mul hp hq (by omega) (by omega);omega
 refine ⟨((Bv a).2*(Bv b).2*(Bv c).2)*((Bv a).2*(Bv b).2*(Bv c).2),a3,b3,c3,one b2 c2,one a2 c2,one a2 b2,?_,?_,?_,?_,?_⟩
 ·have:=one (one a2 b2) c2;exact one this this
 ·conv=>lhs;rw [a1]
  grind
 ·conv=>lhs;rw [b1]
  grind
 ·conv=>lhs;rw [c1]
  grind
 ·unfold bd3
  refine Nat.le_of_eq (congrArg Int.natAbs ?_)
  conv=>rhs;rw [a1,b1,c1]
  grind
theorem LO {a b c:Int} (ha:a≠0) (hb:b≠0) (hc:c≠0) (h:bd3 a b c<2 ^ 60):Nrm a b c (bd3 a b c) (nrm3 a b c):=by
 obtain ⟨l,h1⟩:=Ly ha hb hc h
 refine nrm_ni h 62 _ _ _ _ _ _ _ h1 ?_
 have:=h1.bd.2.2.1
 omega
theorem Pm {a b c l a' b' c' x y z u v' w:Int} (n1:NI a b c (bd3 a b c) l a' b' c' x y z) (h:bd3 a b c≤27000) (hz:zs a' b' c'=some [u,v',w]) :
  (∃t∈[u*x,v'*y,w*z],t≠0)∧qv [a,b,c] [u*x,v'*y,w*z]=0∧∀t∈[u*x,v'*y,w*z],t.natAbs≤40000:=by
 obtain ⟨u_,v_,w_,e,k1,k2,k3,k4,k5,k6,k7⟩:=zs_is hz
 simp only [List.cons.injEq,and_true] at e
 obtain ⟨rfl,rfl,rfl⟩:=e
 have bx:=n1.bd
 have by':=n1.turn.bd
 have bz:=n1.back.bd
 have hx:=n1.hx
 have hy:=n1.hy
 have hz':=n1.hz
 refine ⟨?_,?_,?_⟩
 ·rcases k2 with k2|k2
  ·exact ⟨u*x,by simp,Int.mul_ne_zero k2 (by omega)⟩
  ·exact ⟨v'*y,by simp,Int.mul_ne_zero k2 (by omega)⟩
 ·have e1:qv [a,b,c] [u*x,v'*y,w*z]=u*u*(a*(x*x))+v'*v'*(b*(y*y))+w*w*(c*(z*z)):=by simp only [qv];grind
  rw [e1,n1.ea,n1.eb,n1.ec]
  have e2:u*u*(l*a')+v'*v'*(l*b')+w*w*(l*c')=l*(a'*u*u+b'*v'*v'+c'*w*w):=by grind
  rw [e2,k1,Int.mul_zero]
 ·have U:u≤164:=by
   have h1:u*u≤27000:=by unfold absI at k6;omega
   have:=D3 (a:=u) (b:=165) (by omega) (by omega);omega
  have V:v'≤164:=by
   have h1:v'*v'≤27000:=by unfold absI at k7;omega
   have:=D3 (a:=v') (b:=165) (by omega) (by omega);omega
  have W:w≤232:=by
   have hc0:=n1.sc.1
   have h1:(c'*w*w).natAbs≤54000:=by
    have e3:c'*w*w = -(a'*u*u)-b'*v'*v':=by omega
    have m1:(a'*u*u).natAbs≤27000:=by
     have:(a'*u*u).natAbs=a'.natAbs*(u*u).natAbs:=by rw [← Int.natAbs_mul];congr 1;grind
     have h5:(u*u).natAbs≤(b'*c').natAbs:=by have:=sq_nonneg u;unfold absI at k6;omega
     have h6:=Nat.mul_le_mul_left a'.natAbs h5
     have h7:a'.natAbs*(b'*c').natAbs=(a'*b'*c').natAbs:=by rw [← Int.natAbs_mul];congr 1;grind
     omega
    have m2:(b'*v'*v').natAbs≤27000:=by
     have:(b'*v'*v').natAbs=b'.natAbs*(v'*v').natAbs:=by rw [← Int.natAbs_mul];congr 1;grind
     have h5:(v'*v').natAbs≤(a'*c').natAbs:=by have:=sq_nonneg v';unfold absI at k7;omega
     have h6:=Nat.mul_le_mul_left b'.natAbs h5
     have h7:b'.natAbs*(a'*c').natAbs=(a'*b'*c').natAbs:=by rw [← Int.natAbs_mul];congr 1;grind
     omega
    omega
   have h2:(w*w).natAbs≤(c'*w*w).natAbs:=by
    rw [show c'*w*w=(w*w)*c' by grind];exact Df hc0
   have:=sq_nonneg w
   have:=D3 (a:=w) (b:=233) (by omega) (by omega);omega
  have sm : ∀ {t m:Int} {T:Nat},0≤t→t≤T→1≤m→m*m≤27000→(t*m).natAbs≤T*164:=by
   intro t m T h1 h2 h3 h4
   have h5:m≤164:=by have:=D3 (a:=m) (b:=165) (by omega) (by omega);omega
   have h6:=Int.mul_le_mul h2 h5 (by omega) (by omega)
   have h7:=Int.mul_nonneg h1 (show 0≤m by omega)
   omega
  intro t ht
  simp only [List.mem_cons,List.not_mem_nil,or_false] at ht
  rcases ht with rfl|rfl|rfl
  ·have:=sm (T:=164) k3 U hx (by omega);omega
  ·have:=sm (T:=164) k4 V hy (by omega);omega
  ·have:=sm (T:=232) k5 W hz' (by omega);omega
theorem z3_is {a b c:Int} (ha:a≠0) (hb:b≠0) (hc:c≠0) (h:bd3 a b c≤27000) {v:List Int} (hv:z3 a b c=some v) :
  ∃p q r,v=[p,q,r]∧qv [a,b,c] v=0∧(∃x∈v,x≠0)∧∀x∈v,x.natAbs≤40000:=by
 obtain ⟨l,n1,_⟩:=LO ha hb hc (by omega)
 unfold z3 at hv
 generalize nrm3 a b c=s at *
 obtain ⟨⟨a',b',c'⟩,x,y,z⟩:=s
 simp only at n1 hv
 split at hv
 ·rename_i u v' w hz
  injection hv with hv
  subst hv
  obtain ⟨hne,hq,hsm⟩:=Pm n1 h hz
  obtain ⟨r1,r2⟩:=He hne hq
  exact ⟨_,_,_,rfl,r1,r2,Gv hsm⟩
 ·cases hv
end Locg
namespace Locg
open Go.RowKit Go.Proofs.YtacfcoilmdhgnaaGreatDoorW.PrintWords
def t4 (a b x y:Int):Int:=a*x*x+b*y*y
def z4c (a b c d x y:Int):Option (List Int) :=
 if x=0∧y=0 then none
 else if t4 a b x y=0 then some (DM [x,y,0,0])
 else if 30<absI (Bv (t4 a b x y)).1 then none
 else match z3 c d (Bv (t4 a b x y)).1 with
  | some [p,q,r]=>some (DM [x*r,y*r,(Bv (t4 a b x y)).2*p,(Bv (t4 a b x y)).2*q])
  | _=>none
def z4y (a b c d x:Int):Nat→Int→Option (List Int)
 | 0,_=>none
 | n+1,y=>match z4c a b c d x y with|some v=>some v|none=>z4y a b c d x n (y+1)
def z4x (a b c d:Int):Nat→Int→Option (List Int)
 | 0,_=>none
 | n+1,x=>match z4y a b c d x 4 0 with|some v=>some v|none=>z4x a b c d n (x+1)
def z4 (a b c d:Int):Option (List Int):=z4x a b c d 4 0
def Zero (xs v:List Int) (N:Nat):Prop:=v.length=xs.length∧qv xs v=0∧(∃x∈v,x≠0)∧∀x∈v,x.natAbs≤N
theorem J3 {a b c:Int} (ha:Sm a) (hb:Sm b) (hc:Sm c) {v:List Int} (hv:z3 a b c=some v):(∃p q r,v=[p,q,r])∧Zero [a,b,c] v 40000:=by
 have h:bd3 a b c≤27000:=by
  unfold bd3
  rw [Int.natAbs_mul,Int.natAbs_mul]
  have:=Nat.mul_le_mul (Nat.mul_le_mul ha.2 hb.2) hc.2
  omega
 obtain ⟨p,q,r,e,h1,h2,h3⟩:=z3_is ha.1 hb.1 hc.1 h hv
 exact ⟨⟨p,q,r,e⟩,by rw [e];rfl,h1,h2,h3⟩
theorem t4_bd {a b x y:Int} (ha:Sm a) (hb:Sm b) (hx:0≤x) (hx3:x≤3) (hy:0≤y) (hy3:y≤3):(t4 a b x y).natAbs≤540:=by
 unfold t4
 have h1:x=0∨x=1∨x=2∨x=3:=by omega
 have h2:y=0∨y=1∨y=2∨y=3:=by omega
 have:=ha.2
 have:=hb.2
 rcases h1 with rfl|rfl|rfl|rfl<;>rcases h2 with rfl|rfl|rfl|rfl<;>omega
theorem z4c_is {a b c d x y:Int} (ha:Sm a) (hb:Sm b) (hc:Sm c) (hd:Sm d) (hx:0≤x) (hx3:x≤3) (hy:0≤y) (hy3:y≤3) {v:List Int} (hv:z4c a b c d x y=some v) :
  Zero [a,b,c,d] v 1000000∧(v.getD 3 0=0→∃w,w.length=3∧qv [a,b,c] w=0∧(∃t∈w,t≠0)∧∀t∈w,t.natAbs≤1000000):=by
 unfold z4c at hv
 by_cases c0:x=0∧y=0
 ·rw [if_pos c0] at hv;cases hv
 ·rw [if_neg c0] at hv
  have key : ∀u:List Int,u.length=4→qv [a,b,c,d] u=0→(∃t∈u,t≠0)→(∀t∈u,t.natAbs≤1000000)→
    Zero [a,b,c,d] (DM u) 1000000∧((DM u).getD 3 0=0→∃w,w.length=3∧qv [a,b,c] w=0∧(∃t∈w,t≠0)∧∀t∈w,t.natAbs≤1000000):=by
   intro u hl hq hn hb
   obtain ⟨r1,r2⟩:=He hn hq
   have hsm:=Gv hb
   have hlen:=Kl u
   refine ⟨⟨by rw [hlen,hl];rfl,r1,r2,hsm⟩,fun h0=>?_⟩
   rw [hl] at hlen
   match hp:DM u,hlen with
   | [p,q,r,s],_ =>
    rw [hp] at r1 r2 hsm h0
    simp only [List.getD_cons_succ,List.getD_cons_zero] at h0
    subst h0
    refine ⟨[p,q,r],rfl,?_,?_,fun t ht=>hsm t (by simp at ht ⊢;rcases ht with h|h|h<;>simp [h])⟩
    ·simp only [qv,Int.mul_zero] at r1 ⊢;omega
    ·obtain ⟨t,ht,h1⟩:=r2
     refine ⟨t,?_,h1⟩
     simp at ht ⊢
     rcases ht with h|h|h|h
     ·exact .inl h
     ·exact .inr (.inl h)
     ·exact .inr (.inr h)
     ·exact absurd h h1
  by_cases c1:t4 a b x y=0
  ·rw [if_pos c1] at hv
   injection hv with hv
   subst hv
   refine key _ rfl (by unfold t4 at c1;simp only [qv];omega) ?_ ?_
   ·by_cases c2:x=0
    ·exact ⟨y,by simp,fun e=>c0 ⟨c2,e⟩⟩
    ·exact ⟨x,by simp,c2⟩
   ·intro t ht
    simp only [List.mem_cons,List.not_mem_nil,or_false] at ht
    omega
  ·rw [if_neg c1] at hv
   by_cases c2:30<absI (Bv (t4 a b x y)).1
   ·rw [if_pos c2] at hv;cases hv
   ·rw [if_neg c2] at hv
    have hT:=t4_bd ha hb hx hx3 hy hy3
    have hco:=D2 c1 (by omega)
    obtain ⟨k1,k2,k3⟩:=hco
    have kl:=H7 (D2 c1 (by omega))
    have hs:Sm (Bv (t4 a b x y)).1:=⟨k3.1,by unfold absI at c2;omega⟩
    split at hv
    ·rename_i p q r hz
     injection hv with hv
     subst hv
     obtain ⟨_,z1,z2,z5,z6⟩:=J3 hc hd hs hz
     have hr23:(Bv (t4 a b x y)).2≤23:=by
      have h3:=kl.2
      rw [← Int.natAbs_mul] at h3
      have:=sq_nonneg (Bv (t4 a b x y)).2
      have:=D3 (a:=(Bv (t4 a b x y)).2) (b:=24) (by omega) (by omega);omega
     have P:=z6 p (by simp)
     have Q:=z6 q (by simp)
     have R:=z6 r (by simp)
     have mb : ∀ {s t:Int} {S:Nat},s.natAbs≤S→t.natAbs≤40000→(s*t).natAbs≤S*40000:=fun {s t S} h h'=>by
      rw [Int.natAbs_mul];exact Nat.mul_le_mul h h'
     have hne : ¬(p=0∧q=0∧r=0):=by
      rintro ⟨rfl,rfl,rfl⟩
      obtain ⟨t,ht,h⟩:=z5
      simp at ht;exact h ht
     have hz0:c*p*p+(d*q*q+((Bv (t4 a b x y)).1*r*r+0))=0:=z2
     generalize (Bv (t4 a b x y)).1=g at *
     generalize (Bv (t4 a b x y)).2=h at *
     refine key _ rfl ?_ ?_ ?_
     ·simp only [qv]
      have e1:a*(x*r)*(x*r)+(b*(y*r)*(y*r)+(c*(h*p)*(h*p)+(d*(h*q)*(h*q)+0)))=r*r*(t4 a b x y)+h*h*(c*p*p+d*q*q):=by unfold t4;grind
      rw [e1,k1]
      have e2:c*p*p+d*q*q = -(g*r*r):=by omega
      rw [e2];grind
     ·by_cases hr:r=0
      ·by_cases hp:p=0
       ·exact ⟨h*q,by simp,Int.mul_ne_zero (by omega) (fun e=>hne ⟨hp,e,hr⟩)⟩
       ·exact ⟨h*p,by simp,Int.mul_ne_zero (by omega) hp⟩
      ·by_cases hx0:x=0
       ·exact ⟨y*r,by simp,Int.mul_ne_zero (fun e=>c0 ⟨hx0,e⟩) hr⟩
       ·exact ⟨x*r,by simp,Int.mul_ne_zero hx0 hr⟩
     ·intro t ht
      simp only [List.mem_cons,List.not_mem_nil,or_false] at ht
      rcases ht with rfl|rfl|rfl|rfl
      ·have:=mb (S:=3) (show x.natAbs≤3 by omega) R;omega
      ·have:=mb (S:=3) (show y.natAbs≤3 by omega) R;omega
      ·have:=mb (S:=23) (show h.natAbs≤23 by omega) P;omega
      ·have:=mb (S:=23) (show h.natAbs≤23 by omega) Q;omega
    ·cases hv
theorem z4_is {a b c d:Int} (ha:Sm a) (hb:Sm b) (hc:Sm c) (hd:Sm d) {v:List Int} (hv:z4 a b c d=some v) :
  Zero [a,b,c,d] v 1000000∧(v.getD 3 0=0→∃w,w.length=3∧qv [a,b,c] w=0∧(∃t∈w,t≠0)∧∀t∈w,t.natAbs≤1000000):=by
 have hy : ∀x:Int,0≤x→x≤3→∀(n:Nat) (y:Int),0≤y→y+n≤4→z4y a b c d x n y=some v→∃y,0≤y∧y≤3∧z4c a b c d x y=some v:=by
  intro x hx hx3 n
  induction n with
  | zero=>intro y _ _ h;simp [z4y] at h
  | succ n ih =>
   intro y h0 h1 h
   simp only [z4y] at h
   cases hh:z4c a b c d x y with
   | some u=>rw [hh] at h;exact ⟨y,h0,by omega,by rw [hh];exact h⟩
   | none=>rw [hh] at h;exact ih (y+1) (by omega) (by omega) h
 have hx : ∀(n:Nat) (x:Int),0≤x→x+n≤4→z4x a b c d n x=some v→∃x y,0≤x∧x≤3∧0≤y∧y≤3∧z4c a b c d x y=some v:=by
  intro n
  induction n with
  | zero=>intro x _ _ h;simp [z4x] at h
  | succ n ih =>
   intro x h0 h1 h
   simp only [z4x] at h
   cases hh:z4y a b c d x 4 0 with
   | some u =>
    rw [hh] at h
    obtain ⟨y,y0,y1,y2⟩:=hy x h0 (by omega) 4 0 (by omega) (by omega) (by rw [hh];exact h)
    exact ⟨x,y,h0,by omega,y0,y1,y2⟩
   | none=>rw [hh] at h;exact ih (x+1) (by omega) (by omega) h
 obtain ⟨x,y,x0,x3,y0,y3,h⟩:=hx 4 0 (by omega) (by omega) hv
 exact z4c_is ha hb hc hd x0 x3 y0 y3 h
def zF (f:List Int):Option (List Int) :=
 if BK f then (match f with
  | [a,b]=>if (Bv a).1+(Bv b).1=0 then some (DM [(Bv b).2,(Bv a).2]) else none
  | [a,b,c]=>z3 a b c
  | [a,b,c,d]=>z4 a b c d
  | _=>none) else none
theorem z2_is {a b:Int} (ha:Sm a) (hb:Sm b) (h:(Bv a).1+(Bv b).1=0):Zero [a,b] (DM [(Bv b).2,(Bv a).2]) 30:=by
 obtain ⟨a1,a2,a3⟩:=D2 ha.1 (by have:=ha.2;omega)
 obtain ⟨b1,b2,b3⟩:=D2 hb.1 (by have:=hb.2;omega)
 have la:=(H7 (D2 ha.1 (by have:=ha.2;omega))).2
 have lb:=(H7 (D2 hb.1 (by have:=hb.2;omega))).2
 have:=ha.2
 have:=hb.2
 have hne : ∃x∈[(Bv b).2,(Bv a).2],x≠0:=⟨(Bv b).2,by simp,by omega⟩
 have hq:qv [a,b] [(Bv b).2,(Bv a).2]=0:=by
  simp only [qv]
  have e:(Bv b).1 = -(Bv a).1:=by omega
  conv=>lhs;rw [a1,b1,e]
  grind
 obtain ⟨r1,r2⟩:=He hne hq
 refine ⟨by rw [Kl];rfl,r1,r2,Gv ?_⟩
 intro t ht
 have l1 : ∀ {r:Int},1≤r→r.natAbs*r.natAbs≤30→r.natAbs≤30:=fun {r} h h'=>Nat.le_trans (Nat.le_mul_of_pos_right _ (by omega)) h'
 simp only [List.mem_cons,List.not_mem_nil,or_false] at ht
 rcases ht with rfl|rfl
 ·exact l1 b2 (by omega)
 ·exact l1 a2 (by omega)
theorem MV {f v:List Int} (h:zF f=some v):BK f=true∧2≤f.length∧f.length≤4∧Zero f v 1000000:=by
 unfold zF at h
 by_cases c:BK f=true
 ·rw [if_pos c] at h
  have hs:=(BP.1 c).1
  refine ⟨c,?_⟩
  match f,h,hs with
  | [a,b],h,hs =>
   by_cases c1:(Bv a).1+(Bv b).1=0
   ·simp only [if_pos c1,Option.some.injEq] at h
    subst h
    obtain ⟨h1,h2,h3,h4⟩:=z2_is (hs a (by simp)) (hs b (by simp)) c1
    exact ⟨by simp,by simp,h1,h2,h3,fun x hx=>by have:=h4 x hx;omega⟩
   ·simp [if_neg c1] at h
  | [a,b,d],h,hs =>
   obtain ⟨_,h1,h2,h3,h4⟩:=J3 (hs a (by simp)) (hs b (by simp)) (hs d (by simp)) h
   exact ⟨by simp,by simp,h1,h2,h3,fun x hx=>by have:=h4 x hx;omega⟩
  | [a,b,d,e],h,hs =>
   exact ⟨by simp,by simp,(z4_is (hs a (by simp)) (hs b (by simp)) (hs d (by simp)) (hs e (by simp)) h).1⟩
 ·rw [if_neg c] at h;cases h
end Locg
namespace Locg
open Go.RowKit Go.Proofs.YtacfcoilmdhgnaaGreatDoorW.PrintWords
def sgG (d g:Int):Int:=if d<0 then -g else g
def lowF (out:List Int) (d:Int):List Int×Int:=(out.map fun x=>x.tdiv (sgG d (gcdF (out++[d]))),d.tdiv (sgG d (gcdF (out++[d]))))
def axF (v:List Int):Nat:=v.findIdx (fun x=>decide (x≠0))
def outF (f v:List Int) (t:Int):List Int×Int :=
 ((v.map fun x=>x*(t-f.getD (axF v) 0)).set (axF v) (v.getD (axF v) 0*(t-f.getD (axF v) 0)+2*f.getD (axF v) 0*v.getD (axF v) 0),2*f.getD (axF v) 0*v.getD (axF v) 0)
def vF (f:List Int) (t:Int):Option (List Int×Int) :=
 if BK f&&decide (f.length≤3)&&tOk t then (match zF f with
  | some v=>some (lowF (outF f v t).1 (outF f v t).2)
  | none=>match zF (f++[-t]) with
   | some w=>some (lowF (w.take f.length) (w.getD f.length 0))
   | none=>none) else none
theorem Hx {v:List Int} (h : ∃x∈v,x≠0):axF v<v.length∧v.getD (axF v) 0≠0:=by
 have hl:axF v<v.length:=List.findIdx_lt_length_of_exists (by simpa using h)
 refine ⟨hl,?_⟩
 have:=List.findIdx_getElem (w:=hl)
 simp only [decide_eq_true_eq] at this
 rw [List.getD_eq_getElem?_getD,List.getElem?_eq_getElem hl]
 exact this
theorem getD_map (v:List Int) (g:Int→Int) (i:Nat) (h:i<v.length):(v.map g).getD i 0=g (v.getD i 0):=by
 rw [List.getD_eq_getElem?_getD,List.getElem?_map,List.getD_eq_getElem?_getD,List.getElem?_eq_getElem h];rfl
theorem Jc {out:List Int} {d:Int} {N:Nat} (hb : ∀x∈out,x.natAbs≤N) (hd:d.natAbs≤N):(lowF out d).1.length=out.length∧(∀x∈(lowF out d).1,x.natAbs≤N)∧(lowF out d).2.natAbs≤N:=by
 refine ⟨by simp [lowF],fun x hx=>?_,Nat.le_trans EZ hd⟩
 obtain ⟨y,hy,rfl⟩:=List.mem_map.1 hx
 exact Nat.le_trans EZ (hb y hy)
theorem Hc {v:List Int} {N:Nat} (h : ∀x∈v,x.natAbs≤N) (i:Nat):(v.getD i 0).natAbs≤N:=by
 rw [List.getD_eq_getElem?_getD]
 cases e:v[i]? with
 | none=>simp
 | some x=>exact h x (List.mem_of_getElem? e)
theorem vF_small {f:List Int} {t:Int} {o:List Int×Int} (h:vF f t=some o):o.1.length≤4∧(∀x∈o.1,x.natAbs≤1000000000)∧o.2.natAbs≤1000000000:=by
 unfold vF at h
 by_cases c:(BK f&&decide (f.length≤3)&&tOk t)=true
 ·rw [if_pos c] at h
  simp only [Bool.and_eq_true,decide_eq_true_eq] at c
  obtain ⟨⟨c1,c2⟩,c3⟩:=c
  have ht:=(LZ.1 c3).2
  have hs:=(BP.1 c1).1
  have hf : ∀x∈f,x.natAbs≤30:=fun x hx=>(hs x hx).2
  cases hz:zF f with
  | some v =>
   rw [hz] at h
   simp only [Option.some.injEq] at h
   subst h
   obtain ⟨_,l2,l4,z1,z2,z3',z4'⟩:=MV hz
   have ha:=Hc hf (axF v)
   have hv:=Hc z4' (axF v)
   have hd:(2*f.getD (axF v) 0*v.getD (axF v) 0).natAbs≤60000000:=by
    rw [Int.natAbs_mul]
    have:=Nat.mul_le_mul (show (2*f.getD (axF v) 0).natAbs≤60 by omega) hv;omega
   have hm : ∀x:Int,x.natAbs≤1000000→(x*(t-f.getD (axF v) 0)).natAbs≤60000000:=fun x hx=>by
    rw [Int.natAbs_mul]
    have:=Nat.mul_le_mul hx (show (t-f.getD (axF v) 0).natAbs≤60 by omega);omega
   have:=Jc (out:=(outF f v t).1) (d:=(outF f v t).2) (N:=1000000000) (fun x hx=>?_) (by unfold outF;simp only;omega)
   ·exact ⟨by rw [this.1];unfold outF;simp;omega,this.2⟩
   ·unfold outF at hx
    simp only at hx
    rcases List.mem_or_eq_of_mem_set hx with k|k
    ·obtain ⟨y,hy,rfl⟩:=List.mem_map.1 k
     have:=hm y (z4' y hy);omega
    ·have:=hm _ hv;omega
  | none =>
   rw [hz] at h
   simp only at h
   cases hw:zF (f++[-t]) with
   | none=>rw [hw] at h;cases h
   | some w =>
    rw [hw] at h
    simp only [Option.some.injEq] at h
    subst h
    obtain ⟨_,l2,l4,z1,z2,z3',z4'⟩:=MV hw
    have:=Jc (out:=w.take f.length) (d:=w.getD f.length 0) (N:=1000000000) (fun x hx=>by have:=z4' x (List.mem_of_mem_take hx);omega) (by have:=Hc z4' f.length;omega)
    exact ⟨by rw [this.1];simp;omega,this.2⟩
 ·rw [if_neg c] at h;cases h
theorem vF_w {f w:List Int} {t:Int} (hw:zF (f++[-t])=some w):(∃x∈w.take f.length++[w.getD f.length 0],x≠0)∧w.length=f.length+1∧∀x∈w,x.natAbs≤1000000:=by
 obtain ⟨_,l2,l4,z1,z2,z3',z4'⟩:=MV hw
 rw [List.length_append,List.length_singleton] at z1
 have e:w.take f.length++[w.getD f.length 0]=w:=by
  rw [List.getD_eq_getElem?_getD,List.getElem?_eq_getElem (by omega:f.length<w.length)]
  simp only [Option.getD_some]
  rw [← List.take_succ_eq_append_getElem (by omega),List.take_of_length_le (by omega)]
 rw [e]
 exact ⟨z3',z1,z4'⟩
end Locg
