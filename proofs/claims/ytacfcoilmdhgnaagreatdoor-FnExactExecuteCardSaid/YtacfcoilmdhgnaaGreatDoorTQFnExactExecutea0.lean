/- What a script writes, on both sides: what the program's Execute returns is what the reference's returns. -/
import Derived.Lib.ItoaLen
import Derived.Lib.SplitLaws
import Derived.Test.YtacfcoilmdhgnaaGreatDoorTPFnExactExecutex13
import Derived.Test.YtacfcoilmdhgnaaGreatDoorTPlain
set_option linter.unusedVariables false
set_option linter.unusedSimpArgs false
namespace Go.Proofs.YtacfcoilmdhgnaaGreatDoor.QFnExactExecute
open Go.RowKit Go.Proofs.YtacfcoilmdhgnaaGreatDoor.PFnExactExecute Go.Proofs.YtacfcoilmdhgnaaGreatDoorW.PrintWords Go.Proofs.YtacfcoilmdhgnaaGreatDoorW.PrintLast Go.Proofs.YtacfcoilmdhgnaaGreatDoorW.PrintMore Locg
theorem Iy {x n:Int} (hx:0≤x) (hn:1≤n):0≤x.tmod n∧x.tmod n<n:=by
  rw [Int.tmod_eq_emod_of_nonneg hx];exact ⟨Int.emod_nonneg _ (by omega),Int.emod_lt_of_pos _ (by omega)⟩
theorem split_l {p:Int} (hp:2≤p) : ∀(d:Nat) (n j:Int),n≠0→n.natAbs<2 ^ d→d≤63→0≤j→j+d≤1000→
    ∀k,d<k→BP.l0 k n p j=some (j+(spl p d n).1,(spl p d n).2):=by
  intro d
  induction d with
  | zero=>intro n j hn h;simp at h;omega
  | succ d ih =>
    intro n j hn h hd hj hJ k hk
    obtain ⟨k,rfl⟩ : ∃m,k=m+1:=⟨k-1,by omega⟩
    simp only [BP.l0]
    rw [if_neg (by omega)]
    by_cases c:n.tmod p=0
    · obtain ⟨h0,h1,h2,h3,_⟩:=FE hp hn c
      have hlt:n.natAbs<2 ^ 63:=Nat.lt_of_lt_of_le h (Nat.pow_le_pow_right (by omega) hd)
      rw [if_pos c,w64 (x:=n.tdiv p) (by omega) (by omega),Lf d c,w64 (x:=j+1) (by omega) (by omega),
        ih (n.tdiv p) (j+1) h0 (by rw [Nat.pow_succ] at h;omega) (by omega) (by omega) (by omega) k (by omega)]
      simp only [Option.some.injEq,Prod.mk.injEq,and_true];omega
    · rw [if_neg c,IV d c]
      simp
theorem LK {n p:Int} (hp:2≤p) (hn:n≠0) (h:n.natAbs<2 ^ 63) (k:Nat) (hk:63<k):BP.f k n p=some (val p n,unit p n):=by
  unfold BP.f val unit
  rw [split_l hp 63 n 0 hn h (by omega) (by omega) (by omega) k hk,← I4 hp 63 n hn h]
  simp
theorem IU {n p:Int} (hp:2≤p) (hn:n≠0) (h:n.natAbs<2 ^ 63):Ev (fun k=>BP.f k n p) (val p n,unit p n):=⟨64,fun k hk=>LK hp hn h k (by omega)⟩
theorem Lv {p:Int} (hp:2≤p) : ∀(d:Nat) (n j:Int),n≠0→n.natAbs<2 ^ d→d≤63→0≤j→j+d≤1000→
    ∀k,d<k→AG.l0 k n p j=some (j+(spl p d n).1,(spl p d n).2):=by
  intro d
  induction d with
  | zero=>intro n j hn h;simp at h;omega
  | succ d ih =>
    intro n j hn h hd hj hJ k hk
    obtain ⟨k,rfl⟩ : ∃m,k=m+1:=⟨k-1,by omega⟩
    simp only [AG.l0]
    rw [if_neg (by omega)]
    by_cases c:n.tmod p=0
    · obtain ⟨h0,h1,h2,h3,_⟩:=FE hp hn c
      have hlt:n.natAbs<2 ^ 63:=Nat.lt_of_lt_of_le h (Nat.pow_le_pow_right (by omega) hd)
      rw [if_pos c,w64 (x:=n.tdiv p) (by omega) (by omega),Lf d c,w64 (x:=j+1) (by omega) (by omega),
        ih (n.tdiv p) (j+1) h0 (by rw [Nat.pow_succ] at h;omega) (by omega) (by omega) (by omega) k (by omega)]
      simp only [Option.some.injEq,Prod.mk.injEq,and_true];omega
    · rw [if_neg c,IV d c]
      simp
theorem JN {n p:Int} (hp:2≤p) (hn:n≠0) (h:n.natAbs<2 ^ 63) (k:Nat) (hk:63<k):AG.f k n p=some (val p n,unit p n):=by
  unfold AG.f val unit
  rw [Lv hp 63 n 0 hn h (by omega) (by omega) (by omega) k hk,← I4 hp 63 n hn h]
  simp
theorem FA {n p:Int} (hp:2≤p) (hn:n≠0) (h:n.natAbs<2 ^ 63):Ev (fun k=>AG.f k n p) (val p n,unit p n):=⟨64,fun k hk=>JN hp hn h k (by omega)⟩
theorem Mm : ∀(d:Nat) (n p:Int) (out:List Int),0<n→n≤1000000000000→2≤p→p≤1000002→n+2-p≤d→1≤d→out.length+d≤17000000000000→
    ∀k,d+64<k→Bk.l0 k n out p=some (out++pl d n p):=by
  intro d
  induction d with
  | zero=>intro n p out hn hN hp hP hd h1;omega
  | succ d ih =>
    intro n p out hn hN hp hP hd h1 hl k hk
    obtain ⟨k,rfl⟩ : ∃m,k=m+1:=⟨k-1,by omega⟩
    simp only [Bk.l0,pl]
    rw [wmul (a:=p) (b:=p) (by omega) (by omega) (by omega) (by omega)]
    by_cases c:p*p≤n
    · have hpn:2*p≤n:=by have:=Int.mul_le_mul_of_nonneg_right hp (show 0≤p by omega);omega
      have hp6:p≤1000000:=Jq (by omega) (by omega)
      rw [if_pos c,if_neg (by omega),if_pos c,w64 (x:=p+1) (by omega) (by omega)]
      by_cases c2:n.tmod p=0
      · have hv:=DM hp (show n≠0 by omega) (by omega)
        rw [if_pos c2,if_pos (by omega),LK hp (by omega) (by omega) k (by omega),if_pos c2]
        simp only [Option.bind_some]
        rw [ih (unit p n) (p+1) (out++[p]) (hv.2.2.2.2.2.2 hn) (by omega) (by omega) (by omega) (by omega) (by omega) (by simp;omega) k (by omega)]
        simp
      · rw [if_neg c2,if_neg c2]
        exact ih n (p+1) out hn hN (by omega) (by omega) (by omega) (by omega) (by omega) k (by omega)
    · rw [if_neg c,if_neg c]
      by_cases c2:n>1
      · rw [if_pos c2,if_pos c2,if_pos (by omega)]
      · rw [if_neg c2,if_neg c2];simp
theorem F6 {n:Int} (hn:n≠0) (h:n.natAbs≤1000000000000):Ev (fun k=>Bk.f k n) (CJ n):=by
  refine ⟨n.natAbs+67,fun k hk=>?_⟩
  simp only [Bk.f,Bq.f,Option.bind_some]
  rw [ER (by omega) (by omega),Mm (n.natAbs+2) (absI n) 2 [] (by unfold absI;omega) (by unfold absI;omega) (by omega) (by omega) (by unfold absI;omega) (by omega) (by simp;omega) k (by omega)]
  rfl
theorem Kv (p:Int) (hp:2≤p) (hP:p≤1000001) (out:List Int) : ∀(d:Nat) (n:Int),0<n→n.natAbs<2 ^ d→d≤63→
    ∀k,Az.l1 (k+d) n out p=(match k+d-(spl p d n).1.toNat with|0=>none|m+1=>Az.l0 m (spl p d n).2 out (p+1)):=by
  intro d
  induction d with
  | zero=>intro n hn h;simp at h;omega
  | succ d ih =>
    intro n hn h hd k
    have hs:=I1 hp (d+1) n (by omega) h
    rw [show k+(d+1)=(k+d)+1 from by omega]
    simp only [Az.l1]
    rw [if_neg (by omega)]
    by_cases c:n.tmod p=0
    · obtain ⟨h0,h1,h2,h3,_⟩:=FE hp (show n≠0 by omega) c
      have hlt:n.natAbs<2 ^ 63:=Nat.lt_of_lt_of_le h (Nat.pow_le_pow_right (by omega) hd)
      have h4:(n.tdiv p).natAbs<2 ^ d:=by rw [Nat.pow_succ] at h;omega
      have hs':=I1 hp d (n.tdiv p) h0 h4
      rw [if_pos c,w64 (x:=n.tdiv p) (by omega) (by omega),Lf d c,ih (n.tdiv p) (h3 hn) h4 (by omega) k]
      simp only
      rw [show k+d+1-((spl p d (n.tdiv p)).1+1).toNat=k+d-(spl p d (n.tdiv p)).1.toNat from by omega]
    · rw [if_neg c,IV d c,w64 (x:=p+1) (by omega) (by omega)]
      simp
theorem MD : ∀(d:Nat) (n p:Int) (out:List Int),0<n→n≤1000000000000→2≤p→p≤1000002→n+2-p≤d→1≤d→out.length+d≤17000000000000→
    Ev (fun k=>Az.l0 k n out p) (out++pl d n p):=by
  intro d
  induction d with
  | zero=>intro n p out hn hN hp hP hd h1;omega
  | succ d ih =>
    intro n p out hn hN hp hP hd h1 hl
    by_cases c:p*p≤n
    · have hpn:2*p≤n:=by have:=Int.mul_le_mul_of_nonneg_right hp (show 0≤p by omega);omega
      have hp6:p≤1000000:=Jq (by omega) (by omega)
      have hv:=DM hp (show n≠0 by omega) (by omega)
      have inner : ∀o:List Int,Ev (fun k=>Az.l0 k (unit p n) o (p+1)) (o++pl d (unit p n) (p+1))→Ev (fun k=>Az.j1 k n o p) (o++pl d (unit p n) (p+1)):=by
        intro o ho
        obtain ⟨K,hK⟩:=ho
        refine ⟨K+200,fun k hk=>?_⟩
        obtain ⟨k,rfl⟩ : ∃m,k=m+64+1:=⟨k-65,by omega⟩
        simp only [Az.j1]
        have e:=Kv p hp (by omega) o 63 n hn (by omega) (by omega) (k+1)
        rw [show k+64=k+1+63 from by omega,e,← I4 hp 63 n (by omega) (by omega)]
        change (match k+1+63-(val p n).toNat with|0=>none|m+1=>Az.l0 m (unit p n) o (p+1))=_
        have hb:=hv.2.2.2.1
        obtain ⟨m,hm⟩ : ∃m,k+1+63-(val p n).toNat=m+1:=⟨k+63-(val p n).toNat,by omega⟩
        rw [hm]
        exact hK m (by omega)
      by_cases c2:n.tmod p=0
      · refine Ev.step (f:=fun k=>Az.j1 k n (out++[p]) p) (fun k=>?_) ?_
        · simp only [Az.l0]
          rw [wmul (a:=p) (b:=p) (by omega) (by omega) (by omega) (by omega),if_pos c,if_neg (by omega),if_pos c2,if_pos (by omega)]
        · have:=inner (out++[p]) (ih (unit p n) (p+1) (out++[p]) (hv.2.2.2.2.2.2 hn) (by omega) (by omega) (by omega) (by omega) (by omega) (by simp;omega))
          simp only [pl,if_pos c,if_pos c2]
          simpa using this
      · refine Ev.step (f:=fun k=>Az.j1 k n out p) (fun k=>?_) ?_
        · simp only [Az.l0]
          rw [wmul (a:=p) (b:=p) (by omega) (by omega) (by omega) (by omega),if_pos c,if_neg (by omega),if_neg c2]
        · have hu:=(Mx c2).2
          have:=inner out (by rw [hu];exact ih n (p+1) out hn hN (by omega) (by omega) (by omega) (by omega) (by omega))
          rw [hu] at this
          simp only [pl,if_pos c,if_neg c2]
          exact this
    · refine Ev.step (f:=fun _=>some (out++pl (d+1) n p)) (fun k=>?_) (Ev.now _)
      simp only [Az.l0,pl]
      rw [wmul (a:=p) (b:=p) (by omega) (by omega) (by omega) (by omega),if_neg c,if_neg c]
      by_cases c2:n>1
      · rw [if_pos c2,if_pos c2,if_pos (by omega)]
      · rw [if_neg c2,if_neg c2];simp
theorem Ie {n:Int} (hn:n≠0) (h:n.natAbs≤1000000000000):Ev (fun k=>Az.f k n) (CJ n):=by
  simp only [Az.f,Bf.f,Option.bind_some]
  rw [ER (by omega) (by omega)]
  have:=MD (n.natAbs+2) (absI n) 2 [] (by unfold absI;omega) (by unfold absI;omega) (by omega) (by omega) (by unfold absI;omega) (by omega) (by simp;omega)
  simpa [CJ] using this
theorem E5 {a m:Int} (h:0<m) (hm:m≤5000) (ha:a.natAbs<2 ^ 63):C8.f a m=some (a%m):=by
  unfold C8.f
  have h1:=Int.tmod_lt_of_pos a h
  have h2 : -m<Int.tmod a m:=by
    have:=Int.tmod_lt_of_pos (-a) h;rw [Int.neg_tmod] at this;omega
  rw [if_neg (by omega),w64 (by omega) (by omega),OA a h]
theorem FD {a m:Int} (h:0<m) (hm:m≤5000) (ha:a.natAbs<2 ^ 63):CW.f a m=some (a%m):=by
  unfold CW.f
  have h1:=Int.tmod_lt_of_pos a h
  have h2 : -m<Int.tmod a m:=by
    have:=Int.tmod_lt_of_pos (-a) h;rw [Int.neg_tmod] at this;omega
  rw [if_neg (by omega),w64 (by omega) (by omega),OA a h]
theorem IQ {p r:Int} (hp:3≤p) (hP:p≤5000) : ∀(d:Nat) (x:Int),1≤x→p.tdiv 2+2≤x+d→x≤5001→
    Ev (fun k=>BB.l0 k p r x) (resS p r d x):=by
  have e2:p.tdiv 2=p/2:=Ih (by omega)
  intro d
  induction d with
  | zero =>
    intro x h1 h2 h3
    refine Ev.step (f:=fun _=>some (-1)) (fun k=>?_) (Ev.now _)
    simp only [BB.l0]
    rw [w64 (x:=p.tdiv 2) (by omega) (by omega),if_neg (by omega)]
  | succ d ih =>
    intro x h1 h2 h3
    by_cases c:x≤p.tdiv 2
    · have hxx:=wmul (a:=x) (b:=x) (by omega) (by omega) (by omega) (by omega)
      by_cases c2:(x*x).tmod p=r
      · refine Ev.step (f:=fun _=>some 1) (fun k=>?_) (by simp only [resS,if_pos c,if_pos c2];exact Ev.now _)
        simp only [BB.l0]
        rw [w64 (x:=p.tdiv 2) (by omega) (by omega),if_pos c,if_neg (by omega),hxx,if_pos c2]
      · refine Ev.step (fun k=>?_) (by simp only [resS,if_pos c,if_neg c2];exact ih (x+1) (by omega) (by omega) (by omega))
        simp only [BB.l0]
        rw [w64 (x:=p.tdiv 2) (by omega) (by omega),if_pos c,if_neg (by omega),hxx,if_neg c2,w64 (x:=x+1) (by omega) (by omega)]
    · refine Ev.step (f:=fun _=>some (-1)) (fun k=>?_) (by simp only [resS,if_neg c];exact Ev.now _)
      simp only [BB.l0]
      rw [w64 (x:=p.tdiv 2) (by omega) (by omega),if_neg c]
theorem EL {p u:Int} (h:OddP p) (hu:u.natAbs<2 ^ 63):Ev (fun k=>BB.f k u p) (res p u):=by
  have hp:=h.2
  unfold BB.f
  simp only [E5 (show 0<p by omega) (by omega) hu,Option.bind_some]
  unfold res resR
  by_cases c:u%p=0
  · simp only [if_pos c];exact Ev.now _
  · simp only [if_neg c]
    exact IQ (by omega) (by omega) _ 1 (by omega) (by rw [Ih (by omega)];omega) (by omega)
theorem KY {m:Int} (hm:3≤m) (hM:m≤5000) : ∀(d:Nat) (b e acc:Int),0≤b→b<m→0≤acc→acc<m→0≤e→e<2 ^ d→e≤5000→
    Ev (fun k=>BS.l0 k b e m acc) (powS m d b e acc):=by
  intro d
  induction d with
  | zero =>
    intro b e acc h1 h2 h3 h4 h5 h6 h7
    refine Ev.step (f:=fun _=>some acc) (fun k=>?_) (Ev.now _)
    simp only [BS.l0]
    rw [if_neg (by simp at h6;omega)]
  | succ d ih =>
    intro b e acc h1 h2 h3 h4 h5 h6 h7
    by_cases c:e>0
    · have hbb:=wmul (a:=b) (b:=b) (by omega) (by omega) (by omega) (by omega)
      have hab:=wmul (a:=acc) (b:=b) (by omega) (by omega) (by omega) (by omega)
      have ht:=Ih (n:=e) (by omega)
      have hb2:=Iy (x:=b*b) (n:=m) (sq_nonneg b) (by omega)
      have ha2:=Iy (x:=acc*b) (n:=m) (Int.mul_nonneg h3 h1) (by omega)
      have he2:e.tdiv 2<2 ^ d:=by rw [ht];rw [Int.pow_succ] at h6;omega
      by_cases c2:e.tmod 2=1
      · refine Ev.step (fun k=>?_) (by simp only [powS,if_pos c,if_pos c2];exact ih ((b*b).tmod m) (e.tdiv 2) ((acc*b).tmod m) hb2.1 hb2.2 ha2.1 ha2.2 (by omega) he2 (by omega))
        simp only [BS.l0]
        rw [if_pos c,if_pos c2,if_neg (by omega),hbb,hab,w64 (x:=e.tdiv 2) (by omega) (by omega)]
      · refine Ev.step (fun k=>?_) (by simp only [powS,if_pos c,if_neg c2];exact ih ((b*b).tmod m) (e.tdiv 2) acc hb2.1 hb2.2 h3 h4 (by omega) he2 (by omega))
        simp only [BS.l0]
        rw [if_pos c,if_neg c2,if_neg (by omega),hbb,w64 (x:=e.tdiv 2) (by omega) (by omega)]
    · refine Ev.step (f:=fun _=>some acc) (fun k=>?_) (by simp only [powS,if_neg c];exact Ev.now _)
      simp only [BS.l0]
      rw [if_neg c]
theorem EM {p u:Int} (h:OddP p) (hu:u.natAbs<2 ^ 63):Ev (fun k=>B9.f k u p) (res p u):=by
  have hp:=h.2
  rw [res_pow h]
  unfold B9.f BS.f
  have hr:=Int.emod_nonneg u (show p≠0 by omega)
  have hr2:=Int.emod_lt_of_pos u (show 0<p by omega)
  have h1:=Int.emod_nonneg 1 (show p≠0 by omega)
  have h12:=Int.emod_lt_of_pos 1 (show 0<p by omega)
  have ht:=Ih (n:=p-1) (by omega)
  simp only [if_neg (show ¬p=0 by omega),FD (show 0<p by omega) (by omega) hu,Option.bind_some,w64 (x:=p-1) (by omega) (by omega),w64 (x:=(p-1).tdiv 2) (by omega) (by omega)]
  refine (KY (by omega) (by omega) 13 (u%p) ((p-1).tdiv 2) (1%p) hr hr2 h1 h12 (by omega) (by omega) (by omega)).bind ?_
  unfold resPR powR
  split<;>exact Ev.now _
theorem Ha {n p:Int} (h:Plc p) (hn:n≠0) (hN:n.natAbs<2 ^ 63):Ev (fun k=>BJ.f k n p) (sqAt n p):=by
  unfold BJ.f
  rcases h with rfl|h
  · simp only [if_true,Kp hn];exact Ev.now _
  · have hp:=P7_bd h
    obtain ⟨_,v2,v3,v4,v5,v6,_⟩:=DM hp hn hN
    simp only [if_neg (show ¬p=0 by omega)]
    refine (IU hp hn hN).bind ?_
    simp only
    have hpar:=EY (val p n)
    have hm:(val p n).tmod 2=val p n%2:=Int.tmod_eq_emod_of_nonneg v3
    by_cases c:(val p n).tmod 2=0
    · simp only [if_pos c]
      rcases h with rfl|h6
      · simp only [if_true,E5 (a:=unit 2 n) (m:=8) (by omega) (by omega) (by omega),Option.bind_some]
        have:=JJ hn hN
        have e:sqAt n 2=(unit 2 n%8==1):=by
          unfold sqAt code
          simp only [show ¬(2:Int)=0 from by omega,if_false,if_true,show par (val 2 n)=0 from by omega]
          rcases this with h|h|h|h<;>rw [h]<;>rfl
        rw [e];exact Ev.now _
      · have h2:=h6.2
        simp only [if_neg (show ¬p=2 by omega)]
        refine (EL h6 (by omega)).bind ?_
        have e:sqAt n p=(res p (unit p n)==1):=by
          unfold sqAt code
          simp only [if_neg (show ¬p=0 by omega),if_neg (show ¬p=2 by omega),show par (val p n)=0 from by omega]
          by_cases c:res p (unit p n)=1
          · simp [c]
          · simp [c]
        rw [e];exact Ev.now _
    · simp only [if_neg c]
      have e:sqAt n p=false:=by
        unfold sqAt code
        simp only [if_neg (show ¬p=0 by omega),show par (val p n)=1 from by omega]
        split
        · rename_i h2;subst h2;rw [show par (val 2 n)=1 from by omega];simp
        · simp
      rw [e];exact Ev.now _
theorem G6 {n p:Int} (h:Plc p) (hn:n≠0) (hN:n.natAbs<2 ^ 63):Ev (fun k=>Cx.f k n p) (sqAt n p):=by
  unfold Cx.f
  rcases h with rfl|h
  · simp only [if_true,Kp hn];exact Ev.now _
  · have hp:=P7_bd h
    obtain ⟨_,v2,v3,v4,v5,v6,_⟩:=DM hp hn hN
    simp only [if_neg (show ¬p=0 by omega)]
    refine (FA hp hn hN).bind ?_
    simp only
    have hpar:=EY (val p n)
    have hm:(val p n).tmod 2=val p n%2:=Int.tmod_eq_emod_of_nonneg v3
    by_cases c:(val p n).tmod 2=0
    · simp only [if_pos c]
      rcases h with rfl|h6
      · simp only [if_true,FD (a:=unit 2 n) (m:=8) (by omega) (by omega) (by omega),Option.bind_some]
        have:=JJ hn hN
        have e:sqAt n 2=(unit 2 n%8==1):=by
          unfold sqAt code
          simp only [show ¬(2:Int)=0 from by omega,if_false,if_true,show par (val 2 n)=0 from by omega]
          rcases this with h|h|h|h<;>rw [h]<;>rfl
        rw [e];exact Ev.now _
      · have h2:=h6.2
        simp only [if_neg (show ¬p=2 by omega)]
        refine (EM h6 (by omega)).bind ?_
        have e:sqAt n p=(res p (unit p n)==1):=by
          unfold sqAt code
          simp only [if_neg (show ¬p=0 by omega),if_neg (show ¬p=2 by omega),show par (val p n)=0 from by omega]
          by_cases c:res p (unit p n)=1
          · simp [c]
          · simp [c]
        rw [e];exact Ev.now _
    · simp only [if_neg c]
      have e:sqAt n p=false:=by
        unfold sqAt code
        simp only [if_neg (show ¬p=0 by omega),show par (val p n)=1 from by omega]
        split
        · rename_i h2;subst h2;rw [show par (val 2 n)=1 from by omega];simp
        · simp
      rw [e]
      split<;>exact Ev.now _
theorem G2 {t e:Int} (he:e=0∨e=1) (ht:t=1∨t = -1):Ev (fun k=>Ct.f k t e) (if e=1 then t else 1):=by
  refine ⟨2,fun k hk=>?_⟩
  obtain ⟨m,rfl⟩ : ∃m,k=m+2:=⟨k-2,by omega⟩
  rcases he with rfl|rfl<;>rcases ht with rfl|rfl<;>simp [Ct.f,Ct.l0,wrap64]
theorem symOdd {p a b:Int} (h:OddP p) (ha:a≠0) (hb:b≠0) (hA:a.natAbs<2 ^ 63) (hB:b.natAbs<2 ^ 63) :
    sym a b p=(if (val p a*val p b)%2=1∧p%4=3 then -1 else 1)*(if val p b%2=1 then res p (unit p a) else 1)*(if val p a%2=1 then res p (unit p b) else 1):=by
  have hp:=h.2
  obtain ⟨_,a2,a3,_⟩:=DM (p:=p) (by omega) ha hA
  obtain ⟨_,b2,b3,_⟩:=DM (p:=p) (by omega) hb hB
  have ra:=IM h (F9 a2)
  have rb:=IM h (F9 b2)
  have pa:=EY (val p a)
  have pb:=EY (val p b)
  unfold sym symC code
  simp only [if_neg (show ¬p=0 by omega),if_neg (show ¬p=2 by omega),Int.mul_emod (val p a) (val p b) 2]
  rcases ra with r|r<;>rcases rb with s|s<;>rcases pa with ⟨q,q'⟩|⟨q,q'⟩<;>rcases pb with ⟨t,t'⟩|⟨t,t'⟩<;>rw [r,s,q,q',t,t']<;>simp
theorem LW {p m:Int} (h:OddP p) (hm:0≤m):((m*(p-1)).tdiv 2).tmod 2=(if m%2=1∧p%4=3 then 1 else 0)∧(m*((p-1).tdiv 2)).tmod 2=(if m%2=1∧p%4=3 then 1 else 0):=by
  have hp:=h.2
  have ho:=J4 h.1 hp.1
  have e1:(p-1).tdiv 2=(p-1)/2:=Ih (by omega)
  have e2:m*(p-1)=2*(m*((p-1)/2)):=by
    rw [Int.mul_left_comm];congr 1;omega
  have h1:0≤m*((p-1)/2):=Int.mul_nonneg hm (by omega)
  have e3:(m*(p-1)).tdiv 2=m*((p-1)/2):=by rw [e2];exact Int.mul_tdiv_cancel_left _ (by omega)
  rw [e3,e1,Int.tmod_eq_emod_of_nonneg h1]
  have key:m*((p-1)/2)%2=(if m%2=1∧p%4=3 then 1 else 0):=by
    rw [Int.mul_emod]
    have hm2:m%2=0∨m%2=1:=by omega
    have hq:(p%4=3∧(p-1)/2%2=1)∨(p%4=1∧(p-1)/2%2=0):=by omega
    rcases hm2 with e|e<;>rcases hq with ⟨f,g⟩|⟨f,g⟩<;>rw [e,f,g]<;>rfl
  exact ⟨key,key⟩
theorem two8 {x:Int} (h:x=1∨x=3∨x=5∨x=7):wrap64 (Int.tdiv (wrap64 (x-1)) 2)=(x-1)/2∧wrap64 (wrap64 (x*x)-1)=8*((x*x-1)/8)∧0≤(x-1)/2∧(x-1)/2≤3∧0≤(x*x-1)/8∧(x*x-1)/8≤6:=by
  rcases h with rfl|rfl|rfl|rfl<;>decide +kernel
theorem two16 {u:Int} (h:u%8=1∨u%8=3∨u%8=5∨u%8=7) : ∃X1 X2,wrap64 (Int.tdiv (wrap64 (u%16-1)) 2)=X1∧wrap64 (Int.tdiv (wrap64 (wrap64 (u%16*(u%16))-1)) 8)=X2∧
    0≤X1∧X1≤7∧0≤X2∧X2≤28∧X1%2=(u%8-1)/2%2∧X2%2=(u%8*(u%8)-1)/8%2:=by
  have h2:u%16=u%8∨u%16=u%8+8:=by omega
  rcases h with h|h|h|h<;>rcases h2 with h2|h2<;>rw [h2,h]<;>exact ⟨_,_,rfl,rfl,by decide +kernel⟩
theorem par3 (X1 Y1 X2 Y2 i j:Int):(X1*Y1+i*Y2+j*X2)%2=((X1%2)*(Y1%2)+i*(Y2%2)+j*(X2%2))%2:=by
  have h1:(X1*Y1)%2=((X1%2)*(Y1%2))%2:=Int.mul_emod _ _ _
  have h2:(i*Y2)%2=(i*(Y2%2))%2:=by rw [Int.mul_emod,Int.mul_emod i (Y2%2)];simp
  have h3:(j*X2)%2=(j*(X2%2))%2:=by rw [Int.mul_emod,Int.mul_emod j (X2%2)];simp
  omega
theorem symTwo {a b:Int} (ha:a≠0) (hb:b≠0) (hA:a.natAbs<2 ^ 63) (hB:b.natAbs<2 ^ 63) :
    sym a b 2=(if ((unit 2 a%8-1)/2*((unit 2 b%8-1)/2)+val 2 a*((unit 2 b%8*(unit 2 b%8)-1)/8)+val 2 b*((unit 2 a%8*(unit 2 a%8)-1)/8))%2=1 then -1 else 1):=by
  have ua:=JJ ha hA
  have ub:=JJ hb hB
  have pa:=EY (val 2 a)
  have pb:=EY (val 2 b)
  unfold sym code
  simp only [show ¬(2:Int)=0 from by omega,if_false,if_true]
  rcases ua with h|h|h|h<;>rcases ub with h'|h'|h'|h'<;>rw [h,h'] <;>
    rcases pa with ⟨q,q'⟩|⟨q,q'⟩<;>rcases pb with ⟨t,t'⟩|⟨t,t'⟩<;>rw [q,t] <;>
    first
    | (rw [if_pos (by omega)];decide)
    | (rw [if_neg (by omega)];decide)
theorem D2 {p a b:Int} (h:Plc p) (ha:a≠0) (hb:b≠0) (hA:a.natAbs<2 ^ 63) (hB:b.natAbs<2 ^ 63):Ev (fun k=>Cw.f k a b p) (sym a b p):=by
  unfold Cw.f
  rcases h with rfl|h
  · simp only [if_true]
    unfold sym symC code
    by_cases c1:a<0
    · by_cases c2:b<0
      · simp only [if_pos c1,if_pos c2];exact Ev.now _
      · simp only [if_pos c1,if_neg c2];exact Ev.now _
    · simp only [if_neg c1]
      by_cases c2:b<0
      · simp only [if_pos c2];exact Ev.now _
      · simp only [if_neg c2];exact Ev.now _
  · have hp:=P7_bd h
    obtain ⟨_,a2,a3,a4,a5,a6,_⟩:=DM hp ha hA
    obtain ⟨_,b2,b3,b4,b5,b6,_⟩:=DM hp hb hB
    simp only [if_neg (show ¬p=0 by omega)]
    refine (IU hp ha hA).bind ((IU hp hb hB).bind ?_)
    simp only
    rcases h with rfl|h6
    · simp only [if_true,E5 (a:=unit 2 a) (m:=8) (by omega) (by omega) (by omega),E5 (a:=unit 2 b) (m:=8) (by omega) (by omega) (by omega),Option.bind_some]
      have ta:=two8 (JJ ha hA)
      have tb:=two8 (JJ hb hB)
      rw [symTwo ha hb hA hB]
      generalize unit 2 a%8=x at ta
      generalize unit 2 b%8=y at tb
      generalize val 2 a=i at a3 a4
      generalize val 2 b=j at b3 b4
      simp only [ta.1,tb.1,ta.2.1,tb.2.1]
      obtain ⟨_,_,x1,x2,x3,x4⟩:=ta
      obtain ⟨_,_,y1,y2,y3,y4⟩:=tb
      generalize (x-1)/2=X1 at x1 x2
      generalize (y-1)/2=Y1 at y1 y2
      generalize (x*x-1)/8=X2 at x3 x4
      generalize (y*y-1)/8=Y2 at y3 y4
      have m0:=Int.mul_nonneg x1 y1
      have M0:=Dr x1 x2 y1 y2
      have m1:=Int.mul_nonneg a3 y3
      have M1:=Dr a3 (show i≤63 by omega) y3 y4
      have m2:=Int.mul_nonneg b3 x3
      have M2:=Dr b3 (show j≤63 by omega) x3 x4
      have d1:i*(8*Y2)=8*(i*Y2):=by rw [Int.mul_left_comm]
      have d2:j*(8*X2)=8*(j*X2):=by rw [Int.mul_left_comm]
      rw [d1,d2]
      generalize X1*Y1=A at m0 M0
      generalize i*Y2=B at m1 M1
      generalize j*X2=C at m2 M2
      have e1:(8*B).tdiv 8=B:=Int.mul_tdiv_cancel_left _ (by omega)
      have e2:(8*C).tdiv 8=C:=Int.mul_tdiv_cancel_left _ (by omega)
      simp only [w64 (x:=A) (by omega) (by omega),w64 (x:=8*B) (by omega) (by omega),w64 (x:=8*C) (by omega) (by omega),e1,e2,w64 (x:=B) (by omega) (by omega),w64 (x:=C) (by omega) (by omega),
        w64 (x:=A+B) (by omega) (by omega),w64 (x:=A+B+C) (by omega) (by omega),Int.tmod_eq_emod_of_nonneg (show 0≤A+B+C by omega)]
      refine (G2 (t := -1) (e:=(A+B+C)%2) (by omega) (by omega)).bind ?_
      exact Ev.now _
    · have h2:=h6.2
      simp only [if_neg (show ¬p=2 by omega)]
      have ra:=IM h6 (F9 a2)
      have rb:=IM h6 (F9 b2)
      have ea:=EL h6 (u:=unit p a) (by omega)
      have eb:=EL h6 (u:=unit p b) (by omega)
      rw [symOdd h6 ha hb hA hB]
      generalize res p (unit p a)=r at ra ea
      generalize res p (unit p b)=s at rb eb
      have m1:=Int.mul_nonneg a3 b3
      have M1:=Dr a3 (show val p a≤63 by omega) b3 (show val p b≤63 by omega)
      have m2:=Int.mul_nonneg m1 (show 0≤p-1 by omega)
      have M2:=Dr m1 (show val p a*val p b≤4000 by omega) (show 0≤p-1 by omega) (show p-1≤4999 by omega)
      have hh:=(LW h6 m1).1
      have e1:(val p b).tmod 2=val p b%2:=Int.tmod_eq_emod_of_nonneg b3
      have e2:(val p a).tmod 2=val p a%2:=Int.tmod_eq_emod_of_nonneg a3
      have ht:=Ih m2
      simp only [w64 (x:=val p a*val p b) (by omega) (by omega),w64 (x:=p-1) (by omega) (by omega),w64 (x:=val p a*val p b*(p-1)) (by omega) (by omega),w64 (x:=(val p a*val p b*(p-1)).tdiv 2) (by omega) (by omega),hh,e1,e2]
      refine (G2 (t := -1) (by split<;>simp) (by omega)).bind (ea.bind ((G2 (t:=r) (e:=val p b%2) (by omega) (by omega)).bind (eb.bind ((G2 (t:=s) (e:=val p a%2) (by omega) (by omega)).bind ?_))))
      have w1 : ∀x:Int,x=1∨x = -1→wrap64 x=x:=fun x hx=>w64 (by omega) (by omega)
      have f1 : ∀c:Prop,∀_:Decidable c,(if (if c then (1:Int) else 0)=1 then (-1:Int) else 1)=if c then -1 else 1:=by intro c _;split<;>simp
      rw [f1]
      generalize hX:(if (val p a*val p b)%2=1∧p%4=3 then (-1:Int) else 1)=X
      generalize hY:(if val p b%2=1 then r else 1)=Y
      generalize hZ:(if val p a%2=1 then s else 1)=Z
      have gX:X=1∨X = -1:=by rw [← hX];split<;>simp
      have gY:Y=1∨Y = -1:=by rw [← hY];split<;>omega
      have gZ:Z=1∨Z = -1:=by rw [← hZ];split<;>omega
      have e3:wrap64 (wrap64 (X*Y)*Z)=X*Y*Z:=by rcases gX with rfl|rfl<;>rcases gY with rfl|rfl<;>rcases gZ with rfl|rfl<;>decide +kernel
      rw [e3];exact Ev.now _
theorem Ia (e:Int) (h:0≤e):CM.f e=some (if e%2=1 then -1 else 1):=by
  unfold CM.f
  rw [Int.tmod_eq_emod_of_nonneg h]
  by_cases c:e%2=0
  · rw [if_pos c,if_neg (by omega)]
  · rw [if_neg c,if_pos (by omega)]
theorem Er {p a b:Int} (h:Plc p) (ha:a≠0) (hb:b≠0) (hA:a.natAbs<2 ^ 63) (hB:b.natAbs<2 ^ 63):Ev (fun k=>B3.f k a b p) (sym a b p):=by
  unfold B3.f
  rcases h with rfl|h
  · simp only [if_true]
    unfold sym symC code
    by_cases c1:a<0
    · by_cases c2:b<0
      · simp only [if_pos c1,if_pos c2];exact Ev.now _
      · simp only [if_pos c1,if_neg c2];exact Ev.now _
    · simp only [if_neg c1]
      by_cases c2:b<0
      · simp only [if_pos c2];exact Ev.now _
      · simp only [if_neg c2];exact Ev.now _
  · have hp:=P7_bd h
    obtain ⟨_,a2,a3,a4,a5,a6,_⟩:=DM hp ha hA
    obtain ⟨_,b2,b3,b4,b5,b6,_⟩:=DM hp hb hB
    simp only [if_neg (show ¬p=0 by omega)]
    refine (FA hp ha hA).bind ((FA hp hb hB).bind ?_)
    simp only
    rcases h with rfl|h6
    · simp only [if_true,FD (a:=unit 2 a) (m:=16) (by omega) (by omega) (by omega),FD (a:=unit 2 b) (m:=16) (by omega) (by omega) (by omega),Option.bind_some]
      obtain ⟨X1,X2,f1,f2,x1,x2,x3,x4,x5,x6⟩:=two16 (JJ ha hA)
      obtain ⟨Y1,Y2,g1,g2,y1,y2,y3,y4,y5,y6⟩:=two16 (JJ hb hB)
      rw [symTwo ha hb hA hB,par3,← x5,← x6,← y5,← y6,← par3]
      simp only [f1,f2,g1,g2]
      generalize val 2 a=i at a3 a4
      generalize val 2 b=j at b3 b4
      have m0:=Int.mul_nonneg x1 y1
      have M0:=Dr x1 x2 y1 y2
      have m1:=Int.mul_nonneg a3 y3
      have M1:=Dr a3 (show i≤63 by omega) y3 y4
      have m2:=Int.mul_nonneg b3 x3
      have M2:=Dr b3 (show j≤63 by omega) x3 x4
      simp only [w64 (x:=X1*Y1) (by omega) (by omega),w64 (x:=i*Y2) (by omega) (by omega),w64 (x:=j*X2) (by omega) (by omega),w64 (x:=X1*Y1+i*Y2) (by omega) (by omega),w64 (x:=X1*Y1+i*Y2+j*X2) (by omega) (by omega),
        Ia (X1*Y1+i*Y2+j*X2) (by omega),Option.bind_some]
      exact Ev.now _
    · have h2:=h6.2
      simp only [if_neg (show ¬p=2 by omega)]
      have ra:=IM h6 (F9 a2)
      have rb:=IM h6 (F9 b2)
      have ea:=EM h6 (u:=unit p a) (by omega)
      have eb:=EM h6 (u:=unit p b) (by omega)
      rw [symOdd h6 ha hb hA hB]
      generalize res p (unit p a)=r at ra ea
      generalize res p (unit p b)=s at rb eb
      have m1:=Int.mul_nonneg a3 b3
      have M1:=Dr a3 (show val p a≤63 by omega) b3 (show val p b≤63 by omega)
      have h3:=Ih (n:=p-1) (by omega)
      have m2:=Int.mul_nonneg m1 (show 0≤(p-1).tdiv 2 by omega)
      have M2:=Dr m1 (show val p a*val p b≤4000 by omega) (show 0≤(p-1).tdiv 2 by omega) (show (p-1).tdiv 2≤2500 by omega)
      have hh:=(LW h6 m1).2
      rw [Int.tmod_eq_emod_of_nonneg m2] at hh
      have e1:(val p b).tmod 2=val p b%2:=Int.tmod_eq_emod_of_nonneg b3
      have e2:(val p a).tmod 2=val p a%2:=Int.tmod_eq_emod_of_nonneg a3
      simp only [w64 (x:=val p a*val p b) (by omega) (by omega),w64 (x:=p-1) (by omega) (by omega),w64 (x:=(p-1).tdiv 2) (by omega) (by omega),w64 (x:=val p a*val p b*(p-1).tdiv 2) (by omega) (by omega),Ia _ m2,hh,e1,e2,Option.bind_some]
      have f1 : ∀c:Prop,∀_:Decidable c,(if (if c then (1:Int) else 0)=1 then (-1:Int) else 1)=if c then -1 else 1:=by intro c _;split<;>simp
      rw [f1]
      generalize hX:(if (val p a*val p b)%2=1∧p%4=3 then (-1:Int) else 1)=X
      have gX:X=1∨X = -1:=by rw [← hX];split<;>simp
      have w2 : ∀x y:Int,x=1∨x = -1→y=1∨y = -1→wrap64 (x*y)=x*y∧(x*y=1∨x*y = -1):=by
        intro x y hx hy;rcases hx with rfl|rfl<;>rcases hy with rfl|rfl<;>decide +kernel
      by_cases c1:val p b%2=1
      · simp only [if_pos c1]
        refine ea.bind ?_
        by_cases c2:val p a%2=1
        · simp only [if_pos c2]
          refine eb.bind ?_
          rw [(w2 X r gX ra).1,(w2 (X*r) s (w2 X r gX ra).2 rb).1]
          exact Ev.now _
        · simp only [if_neg c2,(w2 X r gX ra).1,Int.mul_one];exact Ev.now _
      · simp only [if_neg c1]
        by_cases c2:val p a%2=1
        · simp only [if_pos c2]
          refine eb.bind ?_
          rw [(w2 X s gX rb).1,Int.mul_one];exact Ev.now _
        · simp only [if_neg c2,Int.mul_one];exact Ev.now _
theorem Hf (xs:List Int) (hx : ∀x∈xs,x.natAbs≤1000000) (hl:xs.length≤1000) : ∀(d j:Nat),j+d=xs.length→
    Ev (fun k=>Ai.l0 k xs xs (xs.length:Int) j) ((xs.drop j).all (fun x=>decide (x≠0)&&decide (x.natAbs≤30))&&(decide (1≤xs.length)&&decide (xs.length≤4))):=by
  intro d
  induction d with
  | zero =>
    intro j hj
    rw [List.drop_of_length_le (by omega)]
    refine Ev.step (f:=fun _=>some (decide (1≤xs.length)&&decide (xs.length≤4))) (fun k=>?_) (by simpa using Ev.now _)
    simp only [Ai.l0]
    rw [if_neg (by omega)]
    by_cases c:1≤xs.length
    · rw [if_pos (by omega),decide_eq_true c,Bool.true_and];congr 1;exact decide_eq_decide.2 (by omega)
    · rw [if_neg (by omega),decide_eq_false c,Bool.false_and]
  | succ d ih =>
    intro j hj
    have hm:=hx _ (Dj (xs:=xs) (j:=j) (by omega))
    rw [CE (show j<xs.length by omega)]
    have:=ih (j+1) (by omega)
    generalize hp:rd xs (j:Int)=p at hm
    rw [List.all_cons]
    by_cases c0:p=0
    · rw [decide_eq_false (by omega : ¬p≠0),Bool.false_and,Bool.false_and,Bool.false_and]
      refine Ev.step (f:=fun _=>some false) (fun k=>?_) (Ev.now _)
      simp only [Ai.l0]
      rw [if_pos (by omega),if_pos (by omega),if_pos (by omega),hp,if_pos c0]
    · have hs:Bq.f p=some (absI p):=by simp only [Bq.f];rw [ER (by omega) (by omega)]
      by_cases c:p.natAbs≤30
      · rw [decide_eq_true c0,decide_eq_true c,Bool.true_and,Bool.true_and]
        refine Ev.step (fun k=>?_) this
        simp only [Ai.l0]
        rw [if_pos (by omega),if_pos (by omega),if_pos (by omega),hp,if_neg c0,hs,Option.bind_some,if_neg (by unfold absI;omega),w64 (x:=(j:Int)+1) (by omega) (by omega)]
        rfl
      · rw [decide_eq_false c,Bool.and_false,Bool.false_and,Bool.false_and]
        refine Ev.step (f:=fun _=>some false) (fun k=>?_) (Ev.now _)
        simp only [Ai.l0]
        rw [if_pos (by omega),if_pos (by omega),if_pos (by omega),hp,if_neg c0,hs,Option.bind_some,if_pos (by unfold absI;omega)]
theorem BI {xs:List Int} (hx : ∀x∈xs,x.natAbs≤1000000) (hl:xs.length≤1000):Ev (fun k=>Ai.f k xs) (BE xs) :=
  Hf xs hx hl xs.length 0 (by omega)
theorem EA (x a b:Int):Cq.f x a b=some (decide (a≤x)&&decide (x≤b)):=by
  unfold Cq.f
  by_cases c:x≥a
  · simp [c,show a≤x from c]
  · simp [c,show ¬a≤x from c]
theorem Ic (xs:List Int) (hl:xs.length≤1000) : ∀(d j:Nat),j+d=xs.length→
    Ev (fun k=>Au.l0 k xs j) ((xs.drop j).all (fun x=>decide (x≠0)&&decide (x.natAbs≤30))&&(decide (1≤xs.length)&&decide (xs.length≤4))):=by
  intro d
  induction d with
  | zero =>
    intro j hj
    rw [List.drop_of_length_le (by omega)]
    refine Ev.step (f:=fun _=>some (decide (1≤xs.length)&&decide (xs.length≤4))) (fun k=>?_) (by simpa using Ev.now _)
    simp only [Au.l0,EA,Option.bind_some]
    rw [if_neg (by omega),show decide ((1:Int)≤(xs.length:Int))=decide (1≤xs.length) from decide_eq_decide.2 (by omega),show decide ((xs.length:Int)≤4)=decide (xs.length≤4) from decide_eq_decide.2 (by omega)]
  | succ d ih =>
    intro j hj
    rw [CE (show j<xs.length by omega)]
    have:=ih (j+1) (by omega)
    generalize hp:rd xs (j:Int)=p
    rw [List.all_cons]
    by_cases c0:p=0
    · rw [decide_eq_false (by omega : ¬p≠0),Bool.false_and,Bool.false_and,Bool.false_and]
      refine Ev.step (f:=fun _=>some false) (fun k=>?_) (Ev.now _)
      simp only [Au.l0]
      rw [if_pos (by omega),if_pos (by omega),hp,if_pos c0]
    · have hb:(decide (-30≤p)&&decide (p≤30))=decide (p.natAbs≤30):=by
        rw [← Bool.decide_and];exact decide_eq_decide.2 (by omega)
      by_cases c:p.natAbs≤30
      · rw [decide_eq_true c0,decide_eq_true c,Bool.true_and,Bool.true_and]
        refine Ev.step (fun k=>?_) this
        simp only [Au.l0,EA,Option.bind_some]
        rw [if_pos (by omega),if_pos (by omega),hp,if_neg c0,hb,if_pos (decide_eq_true c),w64 (x:=(j:Int)+1) (by omega) (by omega)]
        rfl
      · rw [decide_eq_false c,Bool.and_false,Bool.false_and,Bool.false_and]
        refine Ev.step (f:=fun _=>some false) (fun k=>?_) (Ev.now _)
        simp only [Au.l0,EA,Option.bind_some]
        rw [if_pos (by omega),if_pos (by omega),hp,if_neg c0,hb,decide_eq_false c]
        simp
theorem Cf {xs:List Int} (hl:xs.length≤1000):Ev (fun k=>Au.f k xs) (BE xs) :=
  Ic xs hl xs.length 0 (by omega)
theorem pow30 {j:Nat} (h:j≤5):30 ^ j≤24300000:=by
  have:30 ^ j≤30 ^ 5:=Nat.pow_le_pow_right (by omega) h
  omega
theorem Jf (xs:List Int) (hx : ∀x∈xs,Sm x) (hl:xs.length≤5) : ∀(d j:Nat) (acc:Int),j+d=xs.length→acc.natAbs≤30 ^ j→
    Ev (fun k=>AR.l0 k acc xs (xs.length:Int) j) (Ik (xs.drop j) acc):=by
  intro d
  induction d with
  | zero =>
    intro j acc hj hA
    rw [List.drop_of_length_le (by omega)]
    refine Ev.step (f:=fun _=>some acc) (fun k=>?_) (Ev.now _)
    simp only [AR.l0]
    rw [if_neg (by omega)]
  | succ d ih =>
    intro j acc hj hA
    have hm:=hx _ (Dj (xs:=xs) (j:=j) (by omega))
    rw [CE (show j<xs.length by omega)]
    have h2:(acc*rd xs j).natAbs≤30 ^ (j+1):=by rw [Int.natAbs_mul,Nat.pow_succ];exact Nat.mul_le_mul hA hm.2
    have h3:=pow30 (show j+1≤5 by omega)
    refine Ev.step (fun k=>?_) (ih (j+1) (acc*rd xs j) (by omega) h2)
    simp only [AR.l0]
    rw [if_pos (by omega),if_pos (by omega),if_pos (by omega),w64 (x:=acc*rd xs j) (by omega) (by omega),w64 (x:=(j:Int)+1) (by omega) (by omega)]
    rfl
theorem EK {xs:List Int} (hx : ∀x∈xs,Sm x) (hl:xs.length≤5):Ev (fun k=>AR.f k xs) (prod xs) :=
  Jf xs hx hl xs.length 0 1 (by omega) (by simp)
theorem I3 (xs:List Int) (hx : ∀x∈xs,Sm x) (hl:xs.length≤5) : ∀(d j:Nat) (acc:Int),j+d=xs.length→acc.natAbs≤30 ^ j→
    Ev (fun k=>AY.l0 k xs acc j) (Ik (xs.drop j) acc):=by
  intro d
  induction d with
  | zero =>
    intro j acc hj hA
    rw [List.drop_of_length_le (by omega)]
    refine Ev.step (f:=fun _=>some acc) (fun k=>?_) (Ev.now _)
    simp only [AY.l0]
    rw [if_neg (by omega)]
  | succ d ih =>
    intro j acc hj hA
    have hm:=hx _ (Dj (xs:=xs) (j:=j) (by omega))
    rw [CE (show j<xs.length by omega)]
    have h2:(acc*rd xs j).natAbs≤30 ^ (j+1):=by rw [Int.natAbs_mul,Nat.pow_succ];exact Nat.mul_le_mul hA hm.2
    have h3:=pow30 (show j+1≤5 by omega)
    refine Ev.step (fun k=>?_) (ih (j+1) (acc*rd xs j) (by omega) h2)
    simp only [AY.l0]
    rw [if_pos (by omega),if_pos (by omega),w64 (x:=acc*rd xs j) (by omega) (by omega),w64 (x:=(j:Int)+1) (by omega) (by omega)]
    rfl
theorem Ej {xs:List Int} (hx : ∀x∈xs,Sm x) (hl:xs.length≤5):Ev (fun k=>AY.f k xs) (prod xs) :=
  I3 xs hx hl xs.length 0 1 (by omega) (by simp)
theorem Mo (xs:List Int) (hl:xs.length≤1000) : ∀(d j:Nat) (acc:Int),j+d=xs.length→0≤acc→acc≤j→
    Ev (fun k=>Bo.l0 k acc xs (xs.length:Int) j) (Gl (xs.drop j) acc):=by
  intro d
  induction d with
  | zero =>
    intro j acc hj h0 hA
    rw [List.drop_of_length_le (by omega)]
    refine Ev.step (f:=fun _=>some acc) (fun k=>?_) (Ev.now _)
    simp only [Bo.l0]
    rw [if_neg (by omega)]
  | succ d ih =>
    intro j acc hj h0 hA
    rw [CE (show j<xs.length by omega)]
    simp only [Gl]
    by_cases c:rd xs j<0
    · simp only [if_pos c]
      refine Ev.step (fun k=>?_) (ih (j+1) (acc+1) (by omega) (by omega) (by omega))
      simp only [Bo.l0]
      rw [if_pos (by omega),if_pos (by omega),if_pos (by omega),if_pos c,w64 (x:=acc+1) (by omega) (by omega),w64 (x:=(j:Int)+1) (by omega) (by omega)]
      rfl
    · simp only [if_neg c]
      refine Ev.step (fun k=>?_) (ih (j+1) acc (by omega) (by omega) (by omega))
      simp only [Bo.l0]
      rw [if_pos (by omega),if_pos (by omega),if_pos (by omega),if_neg c,w64 (x:=(j:Int)+1) (by omega) (by omega)]
      rfl
theorem Hv {xs:List Int} (hl:xs.length≤1000):Ev (fun k=>Bo.f k xs) (less xs):=Mo xs hl xs.length 0 0 (by omega) (by omega) (by omega)
theorem My (xs:List Int) (hl:xs.length≤1000) : ∀(d j:Nat) (acc:Int),j+d=xs.length→0≤acc→acc≤j→
    Ev (fun k=>BK.l0 k xs acc j) (Gl (xs.drop j) acc):=by
  intro d
  induction d with
  | zero =>
    intro j acc hj h0 hA
    rw [List.drop_of_length_le (by omega)]
    refine Ev.step (f:=fun _=>some acc) (fun k=>?_) (Ev.now _)
    simp only [BK.l0]
    rw [if_neg (by omega)]
  | succ d ih =>
    intro j acc hj h0 hA
    rw [CE (show j<xs.length by omega)]
    simp only [Gl]
    by_cases c:rd xs j<0
    · simp only [if_pos c]
      refine Ev.step (fun k=>?_) (ih (j+1) (acc+1) (by omega) (by omega) (by omega))
      simp only [BK.l0]
      rw [if_pos (by omega),if_pos (by omega),if_pos c,w64 (x:=acc+1) (by omega) (by omega),w64 (x:=(j:Int)+1) (by omega) (by omega)]
      rfl
    · simp only [if_neg c]
      refine Ev.step (fun k=>?_) (ih (j+1) acc (by omega) (by omega) (by omega))
      simp only [BK.l0]
      rw [if_pos (by omega),if_pos (by omega),if_neg c,w64 (x:=(j:Int)+1) (by omega) (by omega)]
      rfl
theorem Ff {xs:List Int} (hl:xs.length≤1000):Ev (fun k=>BK.f k xs) (less xs):=My xs hl xs.length 0 0 (by omega) (by omega) (by omega)
theorem K8 {xs:List Int} {i j:Nat} (h:j<i):rd (xs.take i) (j:Int)=rd xs (j:Int):=by
  simp [rd,List.getElem?_take,h]
theorem Ny {p:Int} (hp:Plc p) (xs:List Int) (hx : ∀x∈xs,Sm x) (hl:xs.length≤5) (i:Nat) (hi:i<xs.length) (v:Int) : ∀(d j:Nat) (acc:Int),j+d=i→(acc=1∨acc = -1)→
    Ev (fun k=>AN.l0 k xs p (inn p (rd xs i) ((xs.take i).drop j) acc) xs (xs.length:Int) ((i+1:Nat):Int)) v→
    Ev (fun k=>AN.l1 k xs p acc (rd xs i) xs (xs.length:Int) i (xs.take ((i:Nat):Int).toNat) ((xs.take ((i:Nat):Int).toNat).length:Int) j) v:=by
  have hlen:(xs.take ((i:Nat):Int).toNat).length=i:=by simp;omega
  intro d
  induction d with
  | zero =>
    intro j acc hj hA hv
    rw [List.drop_of_length_le (by simp;omega)] at hv
    refine Ev.step (fun k=>?_) hv
    simp only [AN.l1]
    rw [if_neg (by omega),w64 (x:=(i:Int)+1) (by omega) (by omega)]
    rfl
  | succ d ih =>
    intro j acc hj hA hv
    rw [CE (show j<(xs.take i).length by simp;omega),K8 (by omega)] at hv
    have hm:=hx _ (Dj (xs:=xs) (j:=j) (by omega))
    have hm2:=hx _ (Dj (xs:=xs) (j:=i) (by omega))
    have hs:=D2 hp hm2.1 hm.1 (by have:=hm2.2;omega) (by have:=hm.2;omega)
    have hpm:=M5 hA (Lw (rd xs i) (rd xs j) p)
    have:=ih (j+1) (acc*sym (rd xs i) (rd xs j) p) (by omega) hpm.1 hv
    refine Ev.step (f:=fun k=>(Cw.f k (rd xs i) (rd xs j) p).bind fun t127=>(AN.l1 k xs p (wrap64 (acc*t127)) (rd xs i) xs (xs.length:Int) i (xs.take ((i:Nat):Int).toNat) ((xs.take ((i:Nat):Int).toNat).length:Int) ((j+1:Nat):Int))) (fun k=>?_) ?_
    · simp only [AN.l1]
      rw [if_pos (by omega),if_pos (by omega),if_pos (by omega),show rd (xs.take ((i:Nat):Int).toNat) (j:Int)=rd xs (j:Int) from K8 (by omega),w64 (x:=(j:Int)+1) (by omega) (by omega)]
      rfl
    · refine hs.bind ?_
      rw [hpm.2]
      exact this
theorem N6 {xs:List Int} {i:Nat} (h:i<xs.length):xs.take (i+1)=xs.take i++[rd xs (i:Int)]:=by
  rw [List.take_add_one];simp [rd,List.getElem?_eq_getElem h]
theorem M6 {p:Int} (hp:Plc p) (xs:List Int) (hx : ∀x∈xs,Sm x) (hl:xs.length≤5) : ∀(d i:Nat) (acc:Int),i+d=xs.length→(acc=1∨acc = -1)→
    Ev (fun k=>AN.l0 k xs p acc xs (xs.length:Int) i) (outr p (xs.take i) (xs.drop i) acc):=by
  intro d
  induction d with
  | zero =>
    intro i acc hi hA
    rw [List.drop_of_length_le (by omega)]
    refine Ev.step (f:=fun _=>some acc) (fun k=>?_) (Ev.now _)
    simp only [AN.l0]
    rw [if_neg (by omega)]
  | succ d ih =>
    intro i acc hi hA
    rw [CE (show i<xs.length by omega)]
    simp only [outr]
    rw [← N6 (by omega)]
    have h1:=ih (i+1) (inn p (rd xs i) (xs.take i) acc) (by omega) (Nv _ _ _ _ hA)
    have h2:=Ny hp xs hx hl i (by omega) _ i 0 acc (by omega) hA h1
    refine Ev.step (fun k=>?_) h2
    simp only [AN.l0]
    rw [if_pos (by omega),if_pos (by omega),if_pos (by omega),if_pos (by omega)]
    rfl
theorem GF {p:Int} (hp:Plc p) {xs:List Int} (hx : ∀x∈xs,Sm x) (hl:xs.length≤5):Ev (fun k=>AN.f k xs p) (inv xs p) :=
  M6 hp xs hx hl xs.length 0 1 (by omega) (by omega)
theorem NV {p:Int} (hp:Plc p) (xs:List Int) (hx : ∀x∈xs,Sm x) (hl:xs.length≤5) (i:Nat) (hi:i<xs.length) (v:Int) : ∀(d j:Nat) (acc:Int),j+d=i→(acc=1∨acc = -1)→
    Ev (fun k=>AK.l0 k xs p (inn p (rd xs i) ((xs.take i).drop j) acc) ((i+1:Nat):Int)) v→
    Ev (fun k=>AK.l1 k xs p acc i j) v:=by
  intro d
  induction d with
  | zero =>
    intro j acc hj hA hv
    rw [List.drop_of_length_le (by simp;omega)] at hv
    refine Ev.step (fun k=>?_) hv
    simp only [AK.l1]
    rw [if_neg (by omega),w64 (x:=(i:Int)+1) (by omega) (by omega)]
    rfl
  | succ d ih =>
    intro j acc hj hA hv
    rw [CE (show j<(xs.take i).length by simp;omega),K8 (by omega)] at hv
    have hm:=hx _ (Dj (xs:=xs) (j:=j) (by omega))
    have hm2:=hx _ (Dj (xs:=xs) (j:=i) (by omega))
    have hs:=Er hp hm.1 hm2.1 (by have:=hm.2;omega) (by have:=hm2.2;omega)
    rw [sym_comm] at hs
    have hpm:=M5 hA (Lw (rd xs i) (rd xs j) p)
    have:=ih (j+1) (acc*sym (rd xs i) (rd xs j) p) (by omega) hpm.1 hv
    refine Ev.step (f:=fun k=>(B3.f k (rd xs j) (rd xs i) p).bind fun t297=>(AK.l1 k xs p (wrap64 (acc*t297)) i ((j+1:Nat):Int))) (fun k=>?_) ?_
    · simp only [AK.l1]
      rw [if_pos (by omega),if_pos (by omega),if_pos (by omega),if_pos (by omega),if_pos (by omega),w64 (x:=(j:Int)+1) (by omega) (by omega)]
      rfl
    · refine hs.bind ?_
      rw [hpm.2]
      exact this
theorem Nb {p:Int} (hp:Plc p) (xs:List Int) (hx : ∀x∈xs,Sm x) (hl:xs.length≤5) : ∀(d i:Nat) (acc:Int),i+d=xs.length→(acc=1∨acc = -1)→
    Ev (fun k=>AK.l0 k xs p acc i) (outr p (xs.take i) (xs.drop i) acc):=by
  intro d
  induction d with
  | zero =>
    intro i acc hi hA
    rw [List.drop_of_length_le (by omega)]
    refine Ev.step (f:=fun _=>some acc) (fun k=>?_) (Ev.now _)
    simp only [AK.l0]
    rw [if_neg (by omega)]
  | succ d ih =>
    intro i acc hi hA
    rw [CE (show i<xs.length by omega)]
    simp only [outr]
    rw [← N6 (by omega)]
    have h1:=ih (i+1) (inn p (rd xs i) (xs.take i) acc) (by omega) (Nv _ _ _ _ hA)
    have h2:=NV hp xs hx hl i (by omega) _ i 0 acc (by omega) hA h1
    refine Ev.step (fun k=>?_) h2
    simp only [AK.l0]
    rw [if_pos (by omega)]
    rfl
theorem Iw {p:Int} (hp:Plc p) {xs:List Int} (hx : ∀x∈xs,Sm x) (hl:xs.length≤5):Ev (fun k=>AK.f k xs p) (inv xs p) :=
  Nb hp xs hx hl xs.length 0 1 (by omega) (by omega)
theorem NC {n:Int} (h:n≠0∧n.natAbs≤24300000):wrap64 (-n) = -n∧ -n≠0∧(-n).natAbs<2 ^ 63:=⟨w64 (by omega) (by omega),by omega,by omega⟩
theorem Gz {p:Int} (hp:Plc p) {xs:List Int} (hx : ∀x∈xs,Sm x) (hl:xs.length≤5):Ev (fun k=>BX.f k xs p) (van xs p):=by
  unfold BX.f van
  have hb:=Eu hx hl
  have hn:=NC hb
  refine (EK hx hl).bind ?_
  by_cases c0:p=0
  · simp only [if_pos c0]
    refine (Hv (by omega)).bind ?_
    by_cases c:less xs>0
    · simp only [if_pos c,decide_eq_true c,Bool.true_and];exact Ev.now _
    · simp only [if_neg c,decide_eq_false c,Bool.false_and];exact Ev.now _
  · simp only [if_neg c0,hn.1]
    by_cases c2:(xs.length:Int)=2
    · simp only [if_pos c2]
      refine (Ha hp hn.2.1 hn.2.2).bind ?_
      exact Ev.now _
    · simp only [if_neg c2]
      by_cases c3:(xs.length:Int)=3
      · simp only [if_pos c3]
        refine (GF hp hx hl).bind ((D2 hp (by omega) hn.2.1 (by omega) hn.2.2).bind ?_)
        exact Ev.now _
      · simp only [if_neg c3]
        by_cases c4:(xs.length:Int)=4
        · simp only [if_pos c4]
          refine (Ha hp hb.1 (by omega)).bind ?_
          by_cases c5:sqAt (prod xs) p=true
          · simp only [c5,if_true,Bool.not_true,Bool.false_or]
            refine (GF hp hx hl).bind ((D2 hp (by omega) (by omega) (by omega) (by omega)).bind ?_)
            exact Ev.now _
          · simp only [Bool.eq_false_iff.2 c5,Bool.false_eq_true,if_false,Bool.not_false,Bool.true_or];exact Ev.now _
        · simp only [if_neg c4];exact Ev.now _
theorem GA {p:Int} (hp:Plc p) {xs:List Int} (hx : ∀x∈xs,Sm x) (h1:1≤xs.length) (hl:xs.length≤5) (h5:xs.length=5→p=0):Ev (fun k=>BC.f k xs p) (van xs p):=by
  unfold BC.f van
  have hb:=Eu hx hl
  have hn:=NC hb
  by_cases c0:p=0
  · simp only [if_pos c0]
    refine (Ff (by omega)).bind ?_
    by_cases c:less xs>0
    · simp only [if_pos c,decide_eq_true c,Bool.true_and]
      refine (Ff (by omega)).bind ?_
      exact Ev.now _
    · simp only [if_neg c,decide_eq_false c,Bool.false_and];exact Ev.now _
  · simp only [if_neg c0,hn.1]
    refine (Ej hx hl).bind ?_
    simp only [hn.1]
    by_cases c1:(xs.length:Int)=1
    · simp only [if_pos c1,if_neg (show ¬(xs.length:Int)=2 by omega),if_neg (show ¬(xs.length:Int)=3 by omega),if_neg (show ¬(xs.length:Int)=4 by omega)];exact Ev.now _
    simp only [if_neg c1]
    by_cases c2:(xs.length:Int)=2
    · simp only [if_pos c2]
      refine (G6 hp hn.2.1 hn.2.2).bind ?_
      exact Ev.now _
    · simp only [if_neg c2]
      by_cases c3:(xs.length:Int)=3
      · simp only [if_pos c3]
        refine (Iw hp hx hl).bind ((Er hp (by omega) hn.2.1 (by omega) hn.2.2).bind ?_)
        exact Ev.now _
      · simp only [if_neg c3,if_pos (show (xs.length:Int)=4 by omega)]
        refine (G6 hp hb.1 (by omega)).bind ?_
        by_cases c5:sqAt (prod xs) p=true
        · simp only [c5,if_true,Bool.not_true,Bool.false_or]
          refine (Iw hp hx hl).bind ((Er hp (by omega) (by omega) (by omega) (by omega)).bind ?_)
          exact Ev.now _
        · simp only [Bool.eq_false_iff.2 c5,Bool.false_eq_true,if_false,Bool.not_false,Bool.true_or];exact Ev.now _
theorem Jm {p:Int} (hp:Plc p) {xs:List Int} (hx : ∀x∈xs,Sm x) (hl:xs.length≤4):Ev (fun k=>DH.f k xs p) (D7 xs p):=by
  unfold DH.f D7
  have hb:=Eu hx (by omega)
  have hn:=NC hb
  have hs:=Hm xs
  by_cases c0:p=0
  · simp only [if_pos c0]
    refine (Hv (by omega)).bind ?_
    rw [w64 (x:=(xs.length:Int)-less xs) (by omega) (by omega)]
    exact Ev.now _
  · simp only [if_neg c0]
    refine (Gz hp hx (by omega)).bind ?_
    by_cases cv:van xs p=true
    · simp only [if_pos cv]
      by_cases c4:(xs.length:Int)=4
      · simp only [c4,if_true,true_and]
        refine (EK hx (by omega)).bind ((Ha hp hb.1 (by omega)).bind ?_)
        by_cases c5:sqAt (prod xs) p=true
        · simp only [c5,if_true]
          refine (GF hp hx (by omega)).bind ((D2 hp (by omega) (by omega) (by omega) (by omega)).bind ?_)
          have:inv xs p=sym (-1) (-1) p:=by
            unfold van at cv
            rw [if_neg c0,if_neg (by omega),if_neg (by omega),if_pos c4,c5] at cv
            simpa using cv
          simp only [if_pos this];exact Ev.now _
        · simp only [if_neg c5];exact Ev.now _
      · simp only [c4,false_and,if_false];exact Ev.now _
    · simp only [if_neg cv];exact Ev.now _
theorem Gf {p:Int} (hp:Plc p) {xs:List Int} (hx : ∀x∈xs,Sm x) (h1:1≤xs.length) (hl:xs.length≤4):Ev (fun k=>CR.f k xs p) (D7 xs p):=by
  unfold CR.f D7
  have hb:=Eu hx (by omega)
  have hs:=Hm xs
  by_cases c0:p=0
  · simp only [if_pos c0]
    refine (Ff (by omega)).bind ((Ff (by omega)).bind ?_)
    rw [w64 (x:=(xs.length:Int)-less xs) (by omega) (by omega)]
    exact Ev.now _
  · simp only [if_neg c0]
    refine (GA hp hx h1 (by omega) (by omega)).bind ?_
    by_cases cv:van xs p=true
    · simp only [if_pos cv]
      by_cases c4:(xs.length:Int)=4
      · simp only [c4,if_true,true_and]
        refine (Ej hx (by omega)).bind ((G6 hp hb.1 (by omega)).bind ?_)
        by_cases c5:sqAt (prod xs) p=true
        · simp only [c5,if_true];exact Ev.now _
        · simp only [if_neg c5];exact Ev.now _
      · simp only [c4,false_and,if_false];exact Ev.now _
    · simp only [if_neg cv];exact Ev.now _
theorem KO {n:Int} (hn:n≤5000) : ∀(d:Nat) (x:Int),2≤x→72≤x+d→x≤100→
    Ev (fun k=>CF.l0 k n x) (FQ n d x&&decide (n≥2)):=by
  intro d
  induction d with
  | zero =>
    intro x h1 h2 h3
    have hh:=Em (show (0:Int)≤72 by omega) (show 72≤x by omega)
    refine Ev.step (f:=fun _=>some (decide (n≥2))) (fun k=>?_) (by simpa [FQ] using Ev.now _)
    simp only [CF.l0]
    rw [wmul (a:=x) (b:=x) (by omega) (by omega) (by omega) (by omega),if_neg (by omega)]
  | succ d ih =>
    intro x h1 h2 h3
    have hm:=wmul (a:=x) (b:=x) (by omega) (by omega) (by omega) (by omega)
    by_cases c:x*x≤n
    · have hx:x≤70:=by
        rcases Int.lt_or_le 70 x with h|h
        · have:=Em (show (0:Int)≤71 by omega) (show 71≤x by omega);omega
        · exact h
      by_cases c2:n.tmod x=0
      · refine Ev.step (f:=fun _=>some false) (fun k=>?_) (by simp only [FQ,if_pos c,if_pos c2,Bool.false_and];exact Ev.now _)
        simp only [CF.l0]
        rw [hm,if_pos c,if_neg (by omega),if_pos c2]
      · refine Ev.step (fun k=>?_) (by simp only [FQ,if_pos c,if_neg c2];exact ih (x+1) (by omega) (by omega) (by omega))
        simp only [CF.l0]
        rw [hm,if_pos c,if_neg (by omega),if_neg c2,w64 (x:=x+1) (by omega) (by omega)]
    · refine Ev.step (f:=fun _=>some (decide (n≥2))) (fun k=>?_) (by simp only [FQ,if_neg c,Bool.true_and];exact Ev.now _)
      simp only [CF.l0]
      rw [hm,if_neg c]
theorem Lc {n:Int} (hn:n≤5000) : ∀(d:Nat) (x:Int),2≤x→72≤x+d→x≤100→
    Ev (fun k=>Cd.l0 k n x) (FQ n d x):=by
  intro d
  induction d with
  | zero =>
    intro x h1 h2 h3
    have hh:=Em (show (0:Int)≤72 by omega) (show 72≤x by omega)
    refine Ev.step (f:=fun _=>some true) (fun k=>?_) (by simpa [FQ] using Ev.now _)
    simp only [Cd.l0]
    rw [wmul (a:=x) (b:=x) (by omega) (by omega) (by omega) (by omega),if_neg (by omega)]
  | succ d ih =>
    intro x h1 h2 h3
    have hm:=wmul (a:=x) (b:=x) (by omega) (by omega) (by omega) (by omega)
    by_cases c:x*x≤n
    · have hx:x≤70:=by
        rcases Int.lt_or_le 70 x with h|h
        · have:=Em (show (0:Int)≤71 by omega) (show 71≤x by omega);omega
        · exact h
      by_cases c2:n.tmod x=0
      · refine Ev.step (f:=fun _=>some false) (fun k=>?_) (by simp only [FQ,if_pos c,if_pos c2];exact Ev.now _)
        simp only [Cd.l0]
        rw [hm,if_pos c,if_neg (by omega),if_pos c2]
      · refine Ev.step (fun k=>?_) (by simp only [FQ,if_pos c,if_neg c2];exact ih (x+1) (by omega) (by omega) (by omega))
        simp only [Cd.l0]
        rw [hm,if_pos c,if_neg (by omega),if_neg c2,w64 (x:=x+1) (by omega) (by omega)]
    · refine Ev.step (f:=fun _=>some true) (fun k=>?_) (by simp only [FQ,if_neg c];exact Ev.now _)
      simp only [Cd.l0]
      rw [hm,if_neg c]
theorem Ec (p:Int):Ev (fun k=>Bs.f k p) (Dm p):=by
  unfold Bs.f DI.f Dm
  by_cases c:p=0
  · subst c;simp only [if_true];exact Ev.now _
  · simp only [if_neg c,decide_eq_false c,Bool.false_or]
    by_cases c5:p≤5000
    · simp only [if_pos c5,decide_eq_true c5,Bool.true_and]
      have:=KO (n:=p) (by omega) 70 2 (by omega) (by omega) (by omega)
      unfold CF.f
      rw [Bool.and_comm]
      exact (this.bind (f:=fun _ t=>some t) (Ev.now _)).bind (f:=fun _ t=>some t) (Ev.now _)
    · simp only [if_neg c5,decide_eq_false c5,Bool.false_and]
      exact (Ev.now _)
theorem EV (p:Int):Ev (fun k=>Cj.f k p) (Dm p):=by
  unfold Cj.f Cd.f Dm
  by_cases c:p=0
  · subst c;simp only [if_true];exact Ev.now _
  · simp only [if_neg c,decide_eq_false c,Bool.false_or,EA,Option.bind_some]
    by_cases c2:2≤p
    · by_cases c5:p≤5000
      · simp only [decide_eq_true c2,decide_eq_true c5,decide_eq_true (show p≥2 from c2),Bool.true_and,if_true]
        have:=Lc (n:=p) (by omega) 70 2 (by omega) (by omega) (by omega)
        exact this.bind (f:=fun _ t=>some t) (Ev.now _)
      · simp only [decide_eq_true c2,decide_eq_false c5,Bool.and_false,Bool.false_and,Bool.false_eq_true,if_false,Option.bind_some]
        exact Ev.now _
    · simp only [decide_eq_false c2,decide_eq_false (show ¬p≥2 from c2),Bool.false_and,Bool.and_false,Bool.false_eq_true,if_false,Option.bind_some]
      exact Ev.now _
theorem Iq (t:Int):Dq.f t=some (tOk t):=by
  unfold Dq.f tOk
  by_cases c:t=0
  · simp [c]
  · rw [if_neg c]
    by_cases c2:t≥ -30
    · rw [if_pos c2,decide_eq_true c,Bool.true_and];congr 1;exact decide_eq_decide.2 (by omega)
    · rw [if_neg c2,decide_eq_false (show ¬t.natAbs≤30 by omega),Bool.and_false]
theorem Jw (t:Int):Df.f t=some (tOk t):=by
  unfold Df.f tOk
  by_cases c:t=0
  · simp [c]
  · rw [if_neg c,EA,Option.bind_some,decide_eq_true c,Bool.true_and,← Bool.decide_and];congr 1;exact decide_eq_decide.2 (by omega)
theorem JW {q:Int} (hq:2≤q) (hQ:q≤1000000000) (qs:List Int) (i:Nat) (hi:i≤1000000000) (v:Int×Int) : ∀(d:Nat) (n r:Int),n≠0→n.natAbs<2 ^ d→d≤63→1≤r→(n*(r*r)).natAbs≤1000000000→
    Ev (fun k=>AO.l0 k (D9 q d n r).1 (D9 q d n r).2 qs (qs.length:Int) ((i+1:Nat):Int)) v→
    Ev (fun k=>AO.l1 k n r q qs (qs.length:Int) i) v:=by
  intro d
  have hqq:4≤q*q:=by have:=Em (show (0:Int)≤2 by omega) hq;omega
  have hqQ:q*q≤1000000000*1000000000:=Em (by omega) hQ
  induction d with
  | zero=>intro n r hn h;simp at h;omega
  | succ d ih =>
    intro n r hn h hd hr hb hv
    have hnb:n.natAbs≤1000000000:=by
      have h1:r*r≠0:=Int.mul_ne_zero (by omega) (by omega)
      have:=C0 (a:=n) h1;omega
    simp only [D9] at hv
    by_cases c:n.tmod (q*q)=0
    · rw [if_pos c] at hv
      obtain ⟨h1,h2,h3⟩:=LR hq hn c
      have hrq:1≤r*q:=by have:=Int.mul_le_mul hr (show (1:Int)≤q by omega) (by omega) (by omega);omega
      have e:n*(r*r)=n.tdiv (q*q)*((r*q)*(r*q)):=by
        conv=>lhs;rw [h2]
        grind
      have hrqb:(r*q).natAbs≤1000000000:=by
        have h4:(n.tdiv (q*q)*((r*q)*(r*q))).natAbs≤1000000000:=by rw [← e];exact hb
        rw [Int.natAbs_mul,Int.natAbs_mul] at h4
        have h5:1≤(n.tdiv (q*q)).natAbs:=by omega
        have h6:(r*q).natAbs≤(r*q).natAbs*(r*q).natAbs:=Nat.le_mul_of_pos_left _ (by omega)
        have h7:=Nat.le_mul_of_pos_left ((r*q).natAbs*(r*q).natAbs) h5
        omega
      refine Ev.step (fun k=>?_) (ih (n.tdiv (q*q)) (r*q) h1 (by rw [Nat.pow_succ] at h;omega) (by omega) hrq (by rw [← e];exact hb) hv)
      simp only [AO.l1]
      rw [w64 (x:=q*q) (by omega) (by omega),if_neg (by omega),if_pos c,w64 (x:=n.tdiv (q*q)) (by omega) (by omega),w64 (x:=r*q) (by omega) (by omega)]
    · rw [if_neg c] at hv
      refine Ev.step (fun k=>?_) hv
      simp only [AO.l1]
      rw [w64 (x:=q*q) (by omega) (by omega),if_neg (by omega),if_neg c,w64 (x:=(i:Int)+1) (by omega) (by omega)]
      rfl
theorem MA {q:Int} (hq:2≤q) : ∀(d e:Nat) (n r:Int),n≠0→n.natAbs<2 ^ d→d≤e→D9 q e n r=D9 q d n r:=by
  intro d
  induction d with
  | zero=>intro e n r hn h;simp at h;omega
  | succ d ih =>
    intro e n r hn h he
    obtain ⟨e,rfl⟩ : ∃m,e=m+1:=⟨e-1,by omega⟩
    simp only [D9]
    by_cases c:n.tmod (q*q)=0
    · rw [if_pos c,if_pos c]
      obtain ⟨h1,h2,h3⟩:=LR hq hn c
      exact ih e _ _ h1 (by rw [Nat.pow_succ] at h;omega) (by omega)
    · rw [if_neg c,if_neg c]
theorem MG (qs:List Int) (hq : ∀q∈qs,2≤q∧q≤1000000000) (hl:qs.length≤1000000000) : ∀(d j:Nat) (n r:Int),j+d=qs.length→n≠0→1≤r→(n*(r*r)).natAbs≤1000000000→
    Ev (fun k=>AO.l0 k n r qs (qs.length:Int) j) (EW (qs.drop j) n r):=by
  intro d
  induction d with
  | zero =>
    intro j n r hj hn hr hb
    rw [List.drop_of_length_le (by omega)]
    refine Ev.step (f:=fun _=>some (n,r)) (fun k=>?_) (Ev.now _)
    simp only [AO.l0]
    rw [if_neg (by omega)]
  | succ d ih =>
    intro j n r hj hn hr hb
    have hm:=hq _ (Dj (xs:=qs) (j:=j) (by omega))
    rw [CE (show j<qs.length by omega)]
    simp only [EW]
    have hnb:n.natAbs≤1000000000:=by
      have h1:r*r≠0:=Int.mul_ne_zero (by omega) (by omega)
      have:=C0 (a:=n) h1;omega
    obtain ⟨g1,g2,g3,g4,g5⟩:=GH hm.1 64 n r hn (by omega) hr
    have h63:n.natAbs<2 ^ 63:=by omega
    have e:=MA hm.1 63 64 n r hn h63 (by omega)
    have:=JW hm.1 hm.2 qs j (by omega) (EW (qs.drop (j+1)) (D9 (rd qs (j:Int)) 64 n r).1 (D9 (rd qs (j:Int)) 64 n r).2) 63 n r hn h63 (by omega) hr hb (by
      rw [← e]
      exact ih (j+1) _ _ (by omega) g1 g2 (by rw [← g3];exact hb))
    refine Ev.step (fun k=>?_) this
    simp only [AO.l0]
    rw [if_pos (by omega),if_pos (by omega),if_pos (by omega)]
theorem MX {n q:Int} (hn:n≠0) (h:n.natAbs<2 ^ 63) (hq:q∈CJ n):2≤q∧q.natAbs≤n.natAbs:=by
  obtain ⟨h1,h2⟩:=(Eb hn h).1 hq
  exact ⟨h1.1,Nat.le_of_dvd (by omega) (Int.natAbs_dvd_natAbs.2 h2)⟩
theorem Ds {n:Int} (hn:n≠0) (h:n.natAbs≤100000000):Ev (fun k=>AO.f k n) (Bi n):=by
  unfold AO.f
  refine (F6 hn (by omega)).bind ?_
  have hp:=FM n
  exact MG (CJ n) (fun q hq=>by have:=MX hn (by omega) hq;omega) (by omega) (CJ n).length 0 n 1 (by omega) hn (by omega) (by simpa using by omega)
theorem Kh {q:Int} (hq:2≤q) (hQ:q≤1000000) (v:Int×Int) : ∀(d:Nat) (n r:Int),n≠0→n.natAbs<2 ^ d→d≤63→1≤r→(n*(r*r)).natAbs≤1000000000→
    Ev (fun k=>AP.l0 k (D9 q d n r).1 (D9 q d n r).2 (q+1)) v→
    Ev (fun k=>AP.l1 k n r q) v:=by
  intro d
  have hqq:4≤q*q:=by have:=Em (show (0:Int)≤2 by omega) hq;omega
  have hqQ:q*q≤1000000*1000000:=Em (by omega) hQ
  induction d with
  | zero=>intro n r hn h;simp at h;omega
  | succ d ih =>
    intro n r hn h hd hr hb hv
    have hnb:n.natAbs≤1000000000:=by
      have h1:r*r≠0:=Int.mul_ne_zero (by omega) (by omega)
      have:=C0 (a:=n) h1;omega
    simp only [D9] at hv
    by_cases c:n.tmod (q*q)=0
    · rw [if_pos c] at hv
      obtain ⟨h1,h2,h3⟩:=LR hq hn c
      have hrq:1≤r*q:=by have:=Int.mul_le_mul hr (show (1:Int)≤q by omega) (by omega) (by omega);omega
      have e:n*(r*r)=n.tdiv (q*q)*((r*q)*(r*q)):=by
        conv=>lhs;rw [h2]
        grind
      have hrqb:(r*q).natAbs≤1000000000:=by
        have h4:(n.tdiv (q*q)*((r*q)*(r*q))).natAbs≤1000000000:=by rw [← e];exact hb
        rw [Int.natAbs_mul,Int.natAbs_mul] at h4
        have h5:1≤(n.tdiv (q*q)).natAbs:=by omega
        have h6:(r*q).natAbs≤(r*q).natAbs*(r*q).natAbs:=Nat.le_mul_of_pos_left _ (by omega)
        have h7:=Nat.le_mul_of_pos_left ((r*q).natAbs*(r*q).natAbs) h5
        omega
      refine Ev.step (fun k=>?_) (ih (n.tdiv (q*q)) (r*q) h1 (by rw [Nat.pow_succ] at h;omega) (by omega) hrq (by rw [← e];exact hb) hv)
      simp only [AP.l1]
      rw [w64 (x:=q*q) (by omega) (by omega),if_neg (by omega),if_pos c,w64 (x:=n.tdiv (q*q)) (by omega) (by omega),w64 (x:=r*q) (by omega) (by omega)]
    · rw [if_neg c] at hv
      refine Ev.step (fun k=>?_) hv
      simp only [AP.l1]
      rw [w64 (x:=q*q) (by omega) (by omega),if_neg (by omega),if_neg c,w64 (x:=q+1) (by omega) (by omega)]
theorem Hi {n:Int} (h:n.natAbs<2 ^ 63):Bf.f n=some (absI n):=by
  unfold Bf.f
  first
  | rw [ER (n:=n) (by omega) (by omega)]
  | rw [Int.zero_sub,ER (n:=n) (by omega) (by omega)]
theorem Mr : ∀(d:Nat) (n r p:Int),n≠0→1≤r→(n*(r*r)).natAbs≤1000000000→2≤p→40000≤p+d→p≤50000→(∀q:Int,2≤q→q<p→¬q*q∣n)→
    ∃c s,GS (n*(r*r)) c s∧Ev (fun k=>AP.l0 k n r p) (c,s):=by
  intro d
  have fin : ∀(n r p:Int),n≠0→1≤r→n.natAbs≤1000000000→2≤p→p≤50000→(∀q:Int,2≤q→q<p→¬q*q∣n)→¬p*p≤absI n→
      ∃c s,GS (n*(r*r)) c s∧Ev (fun k=>AP.l0 k n r p) (c,s):=by
    intro n r p hn hr hnb hp hP hq c
    have hpp:p*p≤50000*50000:=Em (by omega) hP
    have hp0:=sq_nonneg p
    refine ⟨n,r,⟨rfl,hr,hn,fun e he hd=>?_⟩,?_⟩
    · rcases Int.lt_or_le e p with h|h
      · exact hq e he h hd
      · have h1:=Em (by omega) h
        have h2:(e*e).natAbs≤n.natAbs:=Nat.le_of_dvd (by omega) (Int.natAbs_dvd_natAbs.2 hd)
        unfold absI at c;omega
    · refine Ev.step (f:=fun _=>some (n,r)) (fun k=>?_) (Ev.now _)
      simp only [AP.l0,Hi (n:=n) (by omega),Option.bind_some]
      rw [w64 (x:=p*p) (by omega) (by omega),if_neg c]
  have bd : ∀(n r:Int),n≠0→1≤r→(n*(r*r)).natAbs≤1000000000→n.natAbs≤1000000000:=by
    intro n r hn hr hb
    have h1:r*r≠0:=Int.mul_ne_zero (by omega) (by omega)
    have:=C0 (a:=n) h1;omega
  induction d with
  | zero =>
    intro n r p hn hr hb hp hd hP hq
    have hnb:=bd n r hn hr hb
    have:=Em (show (0:Int)≤40000 by omega) (show 40000≤p by omega)
    exact fin n r p hn hr hnb hp hP hq (by unfold absI;omega)
  | succ d ih =>
    intro n r p hn hr hb hp hd hP hq
    have hnb:=bd n r hn hr hb
    by_cases c:p*p≤absI n
    · have hpp:p*p≤50000*50000:=Em (by omega) hP
      have hp0:=sq_nonneg p
      have hp4:p<40000:=by
        rcases Int.lt_or_le p 40000 with h|h
        · exact h
        · have:=Em (show (0:Int)≤40000 by omega) h
          unfold absI at c;omega
      have h63:n.natAbs<2 ^ 63:=by omega
      obtain ⟨g1,g2,g3,g4,g5⟩:=GH hp 63 n r hn h63 hr
      obtain ⟨cc,s,hc,he⟩:=ih (D9 p 63 n r).1 (D9 p 63 n r).2 (p+1) g1 g2 (by rw [← g3];exact hb) (by omega) (by omega) (by omega) (fun q q1 q2 hqd=>by
        rcases Int.lt_or_eq_of_le (show q≤p by omega) with h|h
        · exact hq q q1 h (Int.dvd_trans hqd g4)
        · subst h;exact g5 hqd)
      refine ⟨cc,s,by rw [g3];exact hc,?_⟩
      refine Ev.step (fun k=>?_) (Kh hp (by omega) (cc,s) 63 n r hn h63 (by omega) hr hb he)
      simp only [AP.l0,Hi (n:=n) (by omega),Option.bind_some]
      rw [w64 (x:=p*p) (by omega) (by omega),if_pos c]
    · exact fin n r p hn hr hnb hp hP hq c
theorem DD {n:Int} (hn:n≠0) (h:n.natAbs≤100000000):Ev (fun k=>AP.f k n) (Bi n):=by
  unfold AP.f
  obtain ⟨c,s,hc,he⟩:=Mr 40000 n 1 2 hn (by omega) (by simpa using by omega) (by omega) (by omega) (by omega) (fun q q1 q2=>by omega)
  have e:=Ow hn (by omega) (show GS n c s by have:=hc;simp only [Int.mul_one] at this;exact this)
  rw [e];exact he
def disc (xs:List Int):Int:=(Bi (prod xs)).1
theorem La {xs:List Int} (h31 : ∀x∈xs,x.natAbs≤1000000) (hl:xs.length≤100):Ev (fun k=>CN.f k xs) (if BE xs=true then disc xs else 0):=by
  unfold CN.f
  refine (BI (xs:=xs) h31 (by omega)).bind ?_
  by_cases c:BE xs=true
  · have hk:=BO.1 c
    have hb:=Eu hk.1 (by omega)
    simp only [if_pos c]
    refine (EK hk.1 (by omega)).bind ((Ds hb.1 (by omega)).bind ?_)
    exact Ev.now _
  · simp only [if_neg c];exact Ev.now _
theorem Lt {xs:List Int} (hl:xs.length≤100):Ev (fun k=>Dg.f k xs) (if BE xs=true then disc xs else 0):=by
  unfold Dg.f
  refine (Cf (xs:=xs) (by omega)).bind ?_
  by_cases c:BE xs=true
  · have hk:=BO.1 c
    have hb:=Eu hk.1 (by omega)
    simp only [if_pos c]
    refine (Ej hk.1 (by omega)).bind ((DD hb.1 (by omega)).bind ?_)
    exact Ev.now _
  · simp only [if_neg c];exact Ev.now _
theorem F7 {xs:List Int} {p:Int} (hx : ∀x∈xs,x.natAbs≤31) (hl:xs.length≤5) :
    Ev (fun k=>Ck.f k xs p) (BE xs&&(Dm p&&van xs p)):=by
  unfold Ck.f
  refine (BI (xs:=xs) (fun x h=>by have:=hx x h;omega) (by omega)).bind ?_
  by_cases c1:BE xs=true
  · simp only [c1,if_true,Bool.true_and]
    refine (Ec p).bind ?_
    by_cases c2:Dm p=true
    · have hk:=BO.1 c1
      simp only [c2,if_true,Bool.true_and]
      exact (Gz (DV.1 c2) hk.1 (by omega)).bind (f:=fun _ t=>some t) (Ev.now _)
    · simp only [c2,Bool.false_eq_true,if_false,Bool.false_and];exact Ev.now _
  · simp only [c1,Bool.false_eq_true,if_false,Bool.false_and];exact Ev.now _
theorem index_l (xs:List Int) (v:Int) (hl:xs.length≤1000000) : ∀(d j:Nat),j+d=xs.length→
    Ev (fun k=>AZ.l0 k xs v (xs.length:Int) j) (if (xs.drop j).contains v then (j+(xs.drop j).findIdx (· == v):Int) else -1):=by
  intro d
  induction d with
  | zero =>
    intro j hj
    rw [List.drop_of_length_le (by omega)]
    refine Ev.step (f:=fun _=>some (-1)) (fun k=>?_) (by simpa using Ev.now _)
    simp only [AZ.l0]
    rw [if_neg (by omega)]
  | succ d ih =>
    intro j hj
    rw [CE (show j<xs.length by omega)]
    by_cases c:v=rd xs (j:Int)
    · have e:(if (rd xs (j:Int)::xs.drop (j+1)).contains v then ((j:Int)+((rd xs (j:Int)::xs.drop (j+1)).findIdx (· == v):Int)) else -1)=(j:Int):=by
        rw [← c,List.findIdx_cons,beq_self_eq_true];simp
      rw [e]
      refine Ev.step (f:=fun _=>some (j:Int)) (fun k=>?_) (Ev.now _)
      simp only [AZ.l0]
      rw [if_pos (by omega),if_pos (by omega),if_pos (by omega),if_pos c]
    · have h2:=ih (j+1) (by omega)
      have e:(if (rd xs (j:Int)::xs.drop (j+1)).contains v then ((j:Int)+((rd xs (j:Int)::xs.drop (j+1)).findIdx (· == v):Int)) else -1)=(if (xs.drop (j+1)).contains v then (((j+1:Nat):Int)+((xs.drop (j+1)).findIdx (· == v):Int)) else -1):=by
        rw [List.contains_cons,List.findIdx_cons,show (v==rd xs (j:Int))=false from by simpa using c,show (rd xs (j:Int)==v)=false from by simpa using fun h=>c h.symm]
        simp only [Bool.false_or,cond_false]
        split
        · omega
        · rfl
      rw [e]
      refine Ev.step (fun k=>?_) h2
      simp only [AZ.l0]
      rw [if_pos (by omega),if_pos (by omega),if_pos (by omega),if_neg c,w64 (x:=(j:Int)+1) (by omega) (by omega)]
      rfl
theorem KE (xs:List Int) (v:Int) (hl:xs.length≤1000000):Ev (fun k=>BL.f k xs v) (xs.contains v):=by
  unfold BL.f AZ.f
  refine (index_l xs v hl xs.length 0 (by omega)).bind ?_
  rw [List.drop_zero]
  by_cases c:xs.contains v=true
  · rw [if_pos c,c]
    have:decide ((((0:Nat):Int)+((xs.findIdx (· == v):Nat):Int))≥0)=true:=decide_eq_true (by omega)
    rw [this];exact Ev.now _
  · rw [if_neg c,Bool.eq_false_iff.2 c];exact Ev.now _
theorem Mk (xs:List Int) (i:Nat) (hi:i<xs.length) (hx5:xs.length≤100) (ps:List Int) (hp:ps.length≤1000) (v:List Int) : ∀(d j:Nat) (out:List Int),j+d=ps.length→out.length≤5000+j→
    Ev (fun k=>Bb.l0 k (addP out (ps.drop j)) xs (xs.length:Int) ((i+1:Nat):Int)) v→
    Ev (fun k=>Bb.l1 k out xs (xs.length:Int) i ps (ps.length:Int) j) v:=by
  intro d
  induction d with
  | zero =>
    intro j out hj ho hv
    rw [List.drop_of_length_le (by omega)] at hv
    refine Ev.step (fun k=>?_) hv
    simp only [Bb.l1]
    rw [if_neg (by omega),w64 (x:=(i:Int)+1) (by omega) (by omega)]
    rfl
  | succ d ih =>
    intro j out hj ho hv
    rw [CE (show j<ps.length by omega)] at hv
    simp only [addP] at hv
    apply Ev.step
    · intro k
      simp only [Bb.l1]
      rw [if_pos (by omega),if_pos (by omega),if_pos (by omega),w64 (x:=(j:Int)+1) (by omega) (by omega)]
    · refine (KE out (rd ps (j:Int)) (by omega)).bind ?_
      by_cases c:out.contains (rd ps (j:Int))=true
      · rw [if_pos c] at hv
        simp only [if_pos c]
        exact ih (j+1) out (by omega) (by omega) hv
      · rw [if_neg c] at hv
        simp only [if_neg c,if_pos (show out.length<17592186044416 by omega)]
        exact ih (j+1) (out++[rd ps (j:Int)]) (by omega) (by simp;omega) hv
theorem sort_eq (l:List Int) (h1:1≤l.length) (h2:l.length≤1000000):CB.f l=some (Mh l):=by
  unfold CB.f Mh;rw [if_pos ⟨h1,by omega⟩]
theorem II : ∀(xs out:List Int),(∀x∈xs,Sm x)→out.Nodup→out.length≤(Ep out xs).length∧(Ep out xs).length≤out.length+40*xs.length
  | [],out,_,_=>by simp [Ep]
  | x::xs,out,hx,h=>by
    simp only [Ep,List.length_cons]
    obtain ⟨h1,h2,h3⟩:=Fw (CJ x) out h
    have ih:=II xs (addP out (CJ x)) (fun y hy=>hx y (by simp [hy])) h1
    have hp:=FM x
    have hs:=(hx x (by simp)).2
    have hle:out.length≤(addP out (CJ x)).length:=by
      have : ∀(qs o:List Int),o.length≤(addP o qs).length:=by
        intro qs
        induction qs with
        | nil=>intro o;simp [addP]
        | cons q qs ih=>intro o;simp only [addP];split;exact ih o;have:=ih (o++[q]);simp at this;omega
      exact this _ _
    omega
theorem Kx (xs:List Int) (hx : ∀x∈xs,Sm x) (hl:xs.length≤100) : ∀(d i:Nat) (out:List Int),i+d=xs.length→out.Nodup→1≤out.length→out.length≤10+40*i→
    Ev (fun k=>Bb.l0 k out xs (xs.length:Int) i) (Mh (Ep out (xs.drop i))):=by
  intro d
  induction d with
  | zero =>
    intro i out hi hn h1 h2
    rw [List.drop_of_length_le (by omega)]
    refine Ev.step (f:=fun _=>some (Mh out)) (fun k=>?_) (Ev.now _)
    simp only [Bb.l0]
    rw [if_neg (by omega),sort_eq out h1 (by omega)];rfl
  | succ d ih =>
    intro i out hi hn h1 h2
    have hm:=hx _ (Dj (xs:=xs) (j:=i) (by omega))
    rw [CE (show i<xs.length by omega)]
    simp only [Ep]
    have hs:=hm.2
    have hpl:=FM (rd xs (i:Int))
    obtain ⟨a1,a2,a3⟩:=Fw (CJ (rd xs (i:Int))) out hn
    have a4:=(II [rd xs (i:Int)] out (by intro x hx;rw [List.mem_singleton.1 hx];exact hm) hn)
    simp only [Ep,List.length_cons,List.length_nil] at a4
    apply Ev.step
    · intro k
      simp only [Bb.l0]
      rw [if_pos (by omega),if_pos (by omega),if_pos (by omega)]
    · refine (F6 hm.1 (by omega)).bind ?_
      refine Mk xs i (by omega) (by omega) (CJ (rd xs (i:Int))) (by omega) _ (CJ (rd xs (i:Int))).length 0 out (by omega) (by omega) ?_
      rw [List.drop_zero]
      exact ih (i+1) _ (by omega) a1 (by omega) (by omega)
theorem Hp {xs:List Int} (hx : ∀x∈xs,Sm x) (hl:xs.length≤100):Ev (fun k=>Bb.f k xs) (plc xs):=by
  rw [← Ob hx]
  exact Kx xs hx hl xs.length 0 [0,2] (by omega) (by decide) (by simp) (by simp)
theorem ME (ps:List Int) (hl:ps.length≤100000100) : ∀(d j:Nat) (out:List Int),j+d=ps.length→out.length≤2+j→
    Ev (fun k=>BM.l0 k out ps j) (out++(ps.drop j).filter (fun x=>decide (x>2))):=by
  intro d
  induction d with
  | zero =>
    intro j out hj ho
    rw [List.drop_of_length_le (by omega)]
    refine Ev.step (f:=fun _=>some out) (fun k=>?_) (by simpa using Ev.now _)
    simp only [BM.l0]
    rw [if_neg (by omega)]
  | succ d ih =>
    intro j out hj ho
    rw [CE (show j<ps.length by omega)]
    by_cases c:rd ps (j:Int)>2
    · rw [List.filter_cons_of_pos (by simpa using c)]
      have:=ih (j+1) (out++[rd ps (j:Int)]) (by omega) (by simp;omega)
      rw [List.append_assoc,List.singleton_append] at this
      refine Ev.step (fun k=>?_) this
      simp only [BM.l0]
      rw [if_pos (by omega),if_pos (by omega),if_pos c,if_pos (by omega),w64 (x:=(j:Int)+1) (by omega) (by omega)]
      rfl
    · rw [List.filter_cons_of_neg (by simpa using c)]
      refine Ev.step (fun k=>?_) (ih (j+1) out (by omega) (by omega))
      simp only [BM.l0]
      rw [if_pos (by omega),if_pos (by omega),if_neg c,w64 (x:=(j:Int)+1) (by omega) (by omega)]
      rfl
theorem Kt {n:Int} (hn:n≠0) (h:n.natAbs≤100000000):Ev (fun k=>BM.f k n) (He n):=by
  unfold BM.f
  refine (Ie hn (by omega)).bind ?_
  have:=FM n
  exact ME (CJ n) (by omega) (CJ n).length 0 [0,2] (by omega) (by simp)
theorem EZ {xs:List Int} (hl:xs.length≤100):Ev (fun k=>Cr.f k xs) (if BE xs=true then plc xs else []):=by
  unfold Cr.f
  refine (Cf (xs:=xs) (by omega)).bind ?_
  by_cases c:BE xs=true
  · simp only [if_pos c]
    have hk:=BO.1 c
    have hb:=Eu hk.1 (by omega)
    refine (Ej hk.1 (by omega)).bind ((Kt hb.1 (by omega)).bind ?_)
    rw [KR hk.1 (by omega)]
    exact Ev.now _
  · simp only [if_neg c];exact Ev.now _
theorem H8 (xs:List Int):(plc xs).length≤11:=by unfold plc;exact List.length_filter_le _ _
theorem Gx {xs:List Int} (h31 : ∀x∈xs,x.natAbs≤1000000) (hl:xs.length≤100):Ev (fun k=>CI.f k xs) (if BE xs=true then plc xs else []):=by
  unfold CI.f
  refine (BI (xs:=xs) h31 (by omega)).bind ?_
  by_cases c:BE xs=true
  · simp only [if_pos c]
    have hk:=BO.1 c
    exact (Hp hk.1 (by omega)).bind (f:=fun _ t=>some t) (Ev.now _)
  · simp only [if_neg c];exact Ev.now _
theorem Kg {xs:List Int} (hx : ∀x∈xs,Sm x) (hl:xs.length≤5) (ps:List Int) (hp : ∀p∈ps,Plc p) (h11:ps.length≤100) : ∀(d j:Nat) (out:List Int),j+d=ps.length→out.length≤j→
    Ev (fun k=>BD.l0 k xs out ps (ps.length:Int) j) (out++(ps.drop j).filter (fun p => !van xs p)):=by
  intro d
  induction d with
  | zero =>
    intro j out hj ho
    rw [List.drop_of_length_le (by omega)]
    refine Ev.step (f:=fun _=>some out) (fun k=>?_) (by simpa using Ev.now _)
    simp only [BD.l0]
    rw [if_neg (by omega)]
  | succ d ih =>
    intro j out hj ho
    have hP:=hp _ (Dj (xs:=ps) (j:=j) (by omega))
    rw [CE (show j<ps.length by omega)]
    apply Ev.step
    · intro k
      simp only [BD.l0]
      rw [if_pos (by omega),if_pos (by omega),if_pos (by omega),w64 (x:=(j:Int)+1) (by omega) (by omega)]
    · refine (Gz hP hx hl).bind ?_
      by_cases c:van xs (rd ps (j:Int))=true
      · rw [List.filter_cons_of_neg (by simp [c])]
        simp only [if_pos c]
        exact ih (j+1) out (by omega) (by omega)
      · have:=ih (j+1) (out++[rd ps (j:Int)]) (by omega) (by simp;omega)
        rw [List.append_assoc,List.singleton_append] at this
        rw [List.filter_cons_of_pos (by simp [c])]
        simp only [if_neg c,if_pos (show out.length<17592186044416 by omega)]
        exact this
theorem Io {xs:List Int} (h31 : ∀x∈xs,x.natAbs≤1000000) (hl:xs.length≤100):Ev (fun k=>BD.f k xs) (if BE xs=true then bad xs else []):=by
  unfold BD.f
  have e1:=Gx h31 hl
  by_cases c:BE xs=true
  · have hk:=BO.1 c
    rw [if_pos c] at e1 ⊢
    have:=H8 xs
    first
    | exact e1.bind (Kg hk.1 (by omega) (plc xs) (fun p hp=>Gv hp) (by omega) (plc xs).length 0 [] (by omega) (by simp))
    | (simp only [Option.bind_some];exact e1.bind (Kg hk.1 (by omega) (plc xs) (fun p hp=>Gv hp) (by omega) (plc xs).length 0 [] (by omega) (by simp)))
  · rw [if_neg c] at e1 ⊢
    have z:Ev (fun k=>BD.l0 k xs [] [] (([]:List Int).length:Int) 0) ([]:List Int):=Ev.step (f:=fun _=>some []) (fun k=>by simp [BD.l0]) (Ev.now _)
    first
    | exact e1.bind z
    | (simp only [Option.bind_some];exact e1.bind z)
theorem Mg {xs:List Int} (hx : ∀x∈xs,Sm x) (hl:xs.length≤4) (ps:List Int) (hp : ∀p∈ps,Plc p) (h11:ps.length≤100) : ∀(d j:Nat) (acc:Int),j+d=ps.length→
    Ev (fun k=>Br.l0 k xs acc ps (ps.length:Int) j) (minL (D7 xs) (ps.drop j) acc):=by
  intro d
  induction d with
  | zero =>
    intro j acc hj
    rw [List.drop_of_length_le (by omega)]
    refine Ev.step (f:=fun _=>some acc) (fun k=>?_) (Ev.now _)
    simp only [Br.l0]
    rw [if_neg (by omega)]
  | succ d ih =>
    intro j acc hj
    have hP:=hp _ (Dj (xs:=ps) (j:=j) (by omega))
    rw [CE (show j<ps.length by omega)]
    apply Ev.step
    · intro k
      simp only [Br.l0]
      rw [if_pos (by omega),if_pos (by omega),if_pos (by omega),w64 (x:=(j:Int)+1) (by omega) (by omega)]
    · refine (Jm hP hx hl).bind ?_
      exact ih (j+1) _ (by omega)
theorem GY {xs:List Int} (h31 : ∀x∈xs,x.natAbs≤1000000) (hl:xs.length≤100):Ev (fun k=>Br.f k xs) (if BE xs=true then pall xs else -1):=by
  unfold Br.f
  refine (BI (xs:=xs) h31 (by omega)).bind ?_
  by_cases c:BE xs=true
  · have hk:=BO.1 c
    have:=H8 xs
    simp only [if_pos c]
    exact (Hp hk.1 (by omega)).bind (Mg hk.1 hk.2.2 (plc xs) (fun p hp=>Gv hp) (by omega) (plc xs).length 0 _ (by omega))
  · simp only [if_neg c];exact Ev.now _
theorem L1 {xs:List Int} (hx : ∀x∈xs,Sm x) (h1:1≤xs.length) (hl:xs.length≤4) (ps:List Int) (hp : ∀p∈ps,Plc p) (h11:ps.length≤100) : ∀(d j:Nat) (acc:Int),j+d=ps.length→
    Ev (fun k=>BH.l0 k xs ps acc j) (minL (D7 xs) (ps.drop j) acc):=by
  intro d
  induction d with
  | zero =>
    intro j acc hj
    rw [List.drop_of_length_le (by omega)]
    refine Ev.step (f:=fun _=>some acc) (fun k=>?_) (Ev.now _)
    simp only [BH.l0]
    rw [if_neg (by omega)]
  | succ d ih =>
    intro j acc hj
    have hP:=hp _ (Dj (xs:=ps) (j:=j) (by omega))
    rw [CE (show j<ps.length by omega)]
    apply Ev.step
    · intro k
      simp only [BH.l0]
      rw [if_pos (by omega),if_pos (by omega),w64 (x:=(j:Int)+1) (by omega) (by omega)]
    · refine (Gf hP hx h1 hl).bind ?_
      exact ih (j+1) _ (by omega)
theorem plc_cons (xs:List Int) : ∃l,plc xs=0::l:=by
  unfold plc PP
  exact ⟨_,List.filter_cons_of_pos (by simp [plOf])⟩
theorem Ol {f:Int→Int} {a b p:Int} {ps:List Int} (ha:f p≤a) (hb:b=f p):minL f (p::ps) a=minL f (p::ps) b:=by
  simp only [minL]
  congr 1
  unfold mn;split<;>split<;>omega
theorem GZ {xs:List Int} (hl:xs.length≤100):Ev (fun k=>BH.f k xs) (if BE xs=true then pall xs else -1):=by
  unfold BH.f
  refine (EZ (xs:=xs) (by omega)).bind ?_
  by_cases c:BE xs=true
  · have hk:=BO.1 c
    have hln:=H8 xs
    obtain ⟨l,he⟩:=plc_cons xs
    have hne : ¬((plc xs).length:Int)=0:=by rw [he];simp;omega
    simp only [if_pos c,if_neg hne]
    refine (Gf (p:=0) (Or.inl rfl) hk.1 hk.2.1 hk.2.2).bind ?_
    have e:pall xs=minL (D7 xs) (plc xs) (D7 xs 0):=by
      unfold pall
      rw [he]
      exact Ol (by have:=Lk xs 0;omega) rfl
    rw [e]
    exact L1 hk.1 hk.2.1 hk.2.2 (plc xs) (fun p hp=>Gv hp) (by omega) (plc xs).length 0 _ (by omega)
  · simp only [if_neg c]
    simp only [List.length_nil,Int.natCast_zero,if_true]
    exact Ev.now _
theorem l5Root_l (n:Int) (h0:0≤n) : ∀(d:Nat) (lo hi:Int) (k:Nat),0≤lo→lo≤hi→hi≤1048576→(hi-lo).toNat≤d→d<k→n≤hi*hi→(lo=0∨(lo-1)*(lo-1)<n)→
    BQ.l0 k n lo hi=some (if isq n*isq n=n then isq n else -1):=by
  intro d
  induction d with
  | zero =>
    intro k_ hi k hlo hle hhi hd hk hn hl
    obtain ⟨k,rfl⟩ : ∃m,k=m+1:=⟨k-1,by omega⟩
    obtain rfl:k_=hi:=by omega
    simp only [BQ.l0]
    rw [if_neg (by omega),wmul hlo (by omega) hlo (by omega)]
    by_cases e:k_*k_=n
    · have hq:isq n=k_:=by rw [← e];exact isq_sq hlo
      rw [if_pos e,hq,if_pos e]
    · rw [if_neg e]
      have h1:(k_-1)*(k_-1)<n:=by
        rcases hl with h|h
        · subst h;omega
        · exact h
      have hp:0<k_:=by
        rcases Int.lt_or_le 0 k_ with h|h
        · exact h
        · obtain rfl:k_=0:=by omega
          omega
      have hq:isq n=k_-1:=ET (by omega) (by omega) (by rw [show k_-1+1=k_ from by omega];omega)
      rw [hq,if_neg (by omega)]
  | succ d ih =>
    intro lo hi k hlo hle hhi hd hk hn hl
    rcases Int.lt_or_le lo hi with hlt|hge
    · obtain ⟨k,rfl⟩ : ∃m,k=m+1:=⟨k-1,by omega⟩
      simp only [BQ.l0]
      rw [if_pos hlt]
      have e1:wrap64 (lo+hi)=lo+hi:=w64 (by omega) (by omega)
      have e2:Int.tdiv (lo+hi) 2=(lo+hi)/2:=Ih (by omega)
      have e3:wrap64 ((lo+hi)/2)=(lo+hi)/2:=w64 (by omega) (by omega)
      rw [e1,e2,e3,wmul (a:=(lo+hi)/2) (b:=(lo+hi)/2) (by omega) (by omega) (by omega) (by omega)]
      by_cases c:(lo+hi)/2*((lo+hi)/2)<n
      · rw [if_pos c,w64 (x:=(lo+hi)/2+1) (by omega) (by omega)]
        exact ih _ _ _ (by omega) (by omega) (by omega) (by omega) (by omega) hn (.inr (by rw [show (lo+hi)/2+1-1=(lo+hi)/2 from by omega];exact c))
      · rw [if_neg c]
        exact ih _ _ _ (by omega) (by omega) (by omega) (by omega) (by omega) (by omega) hl
    · exact ih _ _ _ hlo hle hhi (by omega) (by omega) hn hl
theorem l5Root (n:Int) (h0:0≤n) (hn:n≤1099511627776) (k:Nat) (hk:1048577<k):BQ.f k n=some (if isq n*isq n=n then isq n else -1) :=
  l5Root_l n h0 1048576 0 1048576 k (by omega) (by omega) (by omega) (by omega) (by omega) (by omega) (.inl rfl)
theorem Kq (n:Int) (h0:0≤n) (hn:n≤1099511627776):Ev (fun k=>BQ.f k n) (if isq n*isq n=n then isq n else -1):=⟨1048578,fun k hk=>l5Root n h0 hn k (by omega)⟩
theorem Fs (n:Int) (h0:0≤n) (hn:n<4611686018427387904) : ∀(d:Nat) (x bit:Int) (k:Nat),0≤x→x*x≤n→n<(x+2*bit)*(x+2*bit)→x+2*bit≤2147483648→bit=2 ^ d→d+1<k→
    AA.l0 k n x bit=some (isq n,isq n*isq n==n):=by
  intro d
  have stop : ∀(x:Int) (k:Nat),0≤x→x*x≤n→n<(x+1)*(x+1)→0<k→AA.l0 k n x 0=some (isq n,isq n*isq n==n):=by
    intro x k hx hl hg hk
    obtain ⟨k,rfl⟩ : ∃m,k=m+1:=⟨k-1,by omega⟩
    simp only [AA.l0]
    have hb:x<2147483648:=by
      rcases Int.lt_or_le x 2147483648 with h|h
      · exact h
      · have:=Em (by omega) h;omega
    have hm:wrap64 (x*x)=x*x:=w64' (sq_nonneg x) (by omega)
    rw [if_neg (by omega),hm,ET hx hl hg]
  induction d with
  | zero =>
    intro x bit k hx hl hg hB hb hk
    obtain ⟨k,rfl⟩ : ∃m,k=m+1:=⟨k-1,by omega⟩
    obtain rfl:bit=1:=by simpa using hb
    simp only [AA.l0]
    have hs:=Em (a:=x+1) (b:=2147483648) (by omega) (by omega)
    rw [if_pos (by omega),w64 (x:=x+1) (by omega) (by omega),w64' (x:=(x+1)*(x+1)) (sq_nonneg _) (by omega)]
    have e:wrap64 (Int.tdiv 1 2)=0:=by decide +kernel
    rw [e]
    by_cases c:(x+1)*(x+1)≤n
    · rw [if_pos c]
      exact stop _ _ (by omega) c (by rw [show x+1+1=x+2*1 from by omega];exact hg) (by omega)
    · rw [if_neg c]
      exact stop _ _ hx hl (by omega) (by omega)
  | succ d ih =>
    intro x bit k hx hl hg hB hb hk
    obtain ⟨k,rfl⟩ : ∃m,k=m+1:=⟨k-1,by omega⟩
    have hp:(0:Int)<2 ^ d:=Int.pow_pos (by omega)
    obtain ⟨c2,hc2⟩ : ∃c2:Int,c2=2 ^ d:=⟨_,rfl⟩
    have hb2:bit=2*c2:=by rw [hb,Int.pow_succ,hc2];omega
    subst hb2
    simp only [AA.l0]
    have hs:=Em (a:=x+2*c2) (b:=2147483648) (by omega) (by omega)
    have e:wrap64 (Int.tdiv (2*c2) 2)=c2:=by rw [Ih (by omega),w64 (by omega) (by omega)];omega
    rw [if_pos (by omega),w64 (x:=x+2*c2) (by omega) (by omega),w64' (x:=(x+2*c2)*(x+2*c2)) (sq_nonneg _) (by omega),e]
    by_cases c:(x+2*c2)*(x+2*c2)≤n
    · rw [if_pos c]
      exact ih _ _ _ (by omega) c (by rw [show x+2*c2+2*c2=x+2*(2*c2) from by omega];exact hg) (by omega) hc2 (by omega)
    · rw [if_neg c]
      exact ih _ _ _ hx hl (by omega) (by omega) hc2 (by omega)
theorem Gq (n:Int) (h0:0≤n) (hn:n<4611686018427387904) (k:Nat) (hk:31<k):AA.f k n=some (isq n,isq n*isq n==n):=by
  unfold AA.f
  rw [if_neg (by omega)]
  exact Fs n h0 hn 30 0 1073741824 k (by omega) (by omega) (by omega) (by omega) (by decide) (by omega)
theorem Jj (n:Int) (h0:0≤n) (hn:n<4611686018427387904):Ev (fun k=>AA.f k n) (isq n,isq n*isq n==n):=⟨32,fun k hk=>Gq n h0 hn k (by omega)⟩
theorem L4 {x left:Int} (h:isq left*isq left=left) (h2:x*x≤left) (hx:0≤x):sqs 0 x left=some [isq left]:=by
  have:x≤isq left:=Jq (Ey _) (by omega)
  simp only [sqs];rw [if_pos ⟨h,this⟩]
theorem Mb {x left:Int} (h : ¬isq left*isq left=left):sqs 0 x left=none:=by
  simp only [sqs];rw [if_neg (fun h'=>h h'.1)]
def ans (x:Int) (R0:List Int×Bool):Option (List Int)→List Int×Bool
  | some r=>(x::r,true)
  | none=>R0
def fin (o:Option (List Int)):List Int×Bool:=match o with|some r=>(r,true)|none=>([],false)
theorem wc {c x:Int} (hc:0≤c) (hC:c≤4) (hx:0≤x) (hX:x≤3000):wrap64 (wrap64 (c*x)*x)=x*x*c:=by
  have h1:=Dr hc hC hx hX
  have h0:=Int.mul_nonneg hc hx
  have h2:=Dr h0 h1 hx hX
  have h3:=Int.mul_nonneg h0 hx
  rw [w64 (x:=c*x) (by omega) (by omega),w64 (by omega) (by omega)]
  rw [Int.mul_assoc,Int.mul_comm]
theorem sq3000 {x:Int} (hx:0≤x) (hX:x≤3000):0≤x*x∧x*x≤9000000:=⟨sq_nonneg x,by have:=Em hx hX;omega⟩
theorem four2 (n w x:Int) (hn0:0≤n) (hn:n≤2000) (hw:0≤w) (hw2:w*w≤n) (hx:0≤x) (hx2:x*x≤n-w*w) (R0:List Int×Bool) (h:Ev (fun k=>Ak.l1 k n w (x+1)) R0) : ∀(d:Nat) (y:Int),0≤y→y≤2100→(n-w*w-x*x+2-y).toNat=d→
    Ev (fun k=>Ak.l2 k n w x y) (match DN (fun y=>sqs 0 y (n-w*w-x*x-y*y)) 2 (n-w*w-x*x) (n-w*w-x*x+2-y).toNat y with|some r=>(w::x::r,true)|none=>R0):=by
  have hs:=sq_nonneg x
  have hsw:=sq_nonneg w
  have hxb:=(D3 (c:=1) (left:=n) (x:=x) (by omega) hx (by omega)).2
  have ex:wrap64 (x*x)=x*x:=w64 (by omega) (by omega)
  have ew:wrap64 (w*w)=w*w:=w64 (by omega) (by omega)
  have en:wrap64 (n-w*w)=n-w*w:=w64 (by omega) (by omega)
  have en2:wrap64 (n-w*w-x*x)=n-w*w-x*x:=w64 (by omega) (by omega)
  have e1:wrap64 (x+1)=x+1:=w64 (by omega) (by omega)
  intro d
  induction d with
  | zero =>
    intro y hy hY hd
    have : ¬y*y*2≤n-w*w-x*x:=fun c=>by have:=D3 (c:=2) (by omega) hy c;omega
    rw [DT _ this]
    refine Ev.step (fun k=>?_) h
    simp only [Ak.l2]
    rw [wc (by omega) (by omega) hy (by omega),ew,en,ex,en2,if_neg this,e1]
  | succ d ih =>
    intro y hy hY hd
    by_cases c:y*y*2≤n-w*w-x*x
    · have hb:=D3 (c:=2) (by omega) hy c
      have ey:=sq3000 hy (by omega)
      refine Ev.step (f:=fun k=>(BQ.f k (n-w*w-x*x-y*y)).bind fun t=>if t≥0 then some ([w,x,y,t],true) else Ak.l2 k n w x (y+1)) (fun k=>?_) ?_
      · simp only [Ak.l2]
        rw [wc (by omega) (by omega) hy (by omega),ew,en,ex,en2,if_pos c,w64 (x:=y*y) (by omega) (by omega),w64 (x:=n-w*w-x*x-y*y) (by omega) (by omega),w64 (x:=y+1) (by omega) (by omega)]
      · refine (Kq (n-w*w-x*x-y*y) (by omega) (by omega)).bind ?_
        have hi:=Ey (n-w*w-x*x-y*y)
        by_cases c2:isq (n-w*w-x*x-y*y)*isq (n-w*w-x*x-y*y)=n-w*w-x*x-y*y
        · simp only [if_pos c2,if_pos (show isq (n-w*w-x*x-y*y)≥0 from hi)]
          rw [FH (f:=fun y=>sqs 0 y (n-w*w-x*x-y*y)) (by omega) hy c (L4 c2 (by omega) hy)]
          exact Ev.now _
        · simp only [if_neg c2,if_neg (show ¬(-1:Int)≥0 by decide)]
          rw [Fi (f:=fun y=>sqs 0 y (n-w*w-x*x-y*y)) (by omega) hy c (Mb c2)]
          exact ih (y+1) (by omega) (by omega) (by omega)
    · rw [DT _ c]
      refine Ev.step (fun k=>?_) h
      simp only [Ak.l2]
      rw [wc (by omega) (by omega) hy (by omega),ew,en,ex,en2,if_neg c,e1]
theorem four1 (n w:Int) (hn0:0≤n) (hn:n≤2000) (hw:0≤w) (hw2:w*w≤n) (R0:List Int×Bool) (h:Ev (fun k=>Ak.l0 k n (w+1)) R0) : ∀(d:Nat) (x:Int),0≤x→x≤2100→(n-w*w+2-x).toNat=d→
    Ev (fun k=>Ak.l1 k n w x) (ans w R0 (DN (fun x=>sqs 1 x (n-w*w-x*x)) 3 (n-w*w) (n-w*w+2-x).toNat x)):=by
  have hsw:=sq_nonneg w
  have hwb:=(D3 (c:=1) (left:=n) (x:=w) (by omega) hw (by omega)).2
  have ew:wrap64 (w*w)=w*w:=w64 (by omega) (by omega)
  have en:wrap64 (n-w*w)=n-w*w:=w64 (by omega) (by omega)
  have e1:wrap64 (w+1)=w+1:=w64 (by omega) (by omega)
  have stop : ∀x:Int,0≤x→x≤2100→¬x*x*3≤n-w*w→Ev (fun k=>Ak.l1 k n w x) R0:=by
    intro x hx hX c
    refine Ev.step (fun k=>?_) h
    simp only [Ak.l1]
    rw [wc (by omega) (by omega) hx (by omega),ew,en,if_neg c,e1]
  intro d
  induction d with
  | zero =>
    intro x hx hX hd
    have : ¬x*x*3≤n-w*w:=fun c=>by have:=D3 (c:=3) (by omega) hx c;omega
    rw [DT _ this]
    exact stop x hx hX this
  | succ d ih =>
    intro x hx hX hd
    by_cases c:x*x*3≤n-w*w
    · have hb:=D3 (c:=3) (by omega) hx c
      have IH:=ih (x+1) (by omega) (by omega) (by omega)
      have h1:=four2 n w x hn0 hn hw hw2 hx hb.1 _ IH (n-w*w-x*x+2-x).toNat x hx (by omega) rfl
      have e:DN (fun y=>sqs 0 y (n-w*w-x*x-y*y)) 2 (n-w*w-x*x) (n-w*w-x*x+2-x).toNat x=sqs 1 x (n-w*w-x*x):=by simp only [sqs];rfl
      rw [e] at h1
      refine Ev.step (f:=fun k=>Ak.l2 k n w x x) (fun k=>?_) ?_
      · simp only [Ak.l1]
        rw [wc (by omega) (by omega) hx (by omega),ew,en,if_pos c]
      · cases hq:sqs 1 x (n-w*w-x*x) with
        | some r=>rw [FH (f:=fun x=>sqs 1 x (n-w*w-x*x)) (by omega) hx c hq];rw [hq] at h1;exact h1
        | none=>rw [Fi (f:=fun x=>sqs 1 x (n-w*w-x*x)) (by omega) hx c hq];rw [hq] at h1;exact h1
    · rw [DT _ c]
      exact stop x hx hX c
theorem four0 (n:Int) (hn0:0≤n) (hn:n≤2000) : ∀(d:Nat) (x:Int),0≤x→x≤2100→(n+2-x).toNat=d→
    Ev (fun k=>Ak.l0 k n x) (fin (DN (fun x=>sqs 2 x (n-x*x)) 4 n (n+2-x).toNat x)):=by
  have stop : ∀x:Int,0≤x→x≤2100→¬x*x*4≤n→Ev (fun k=>Ak.l0 k n x) ([],false):=by
    intro x hx hX c
    refine Ev.step (f:=fun k=>Ak.j1 k n x false) (fun k=>?_) (Ev.step (f:=fun _=>some ([],false)) (fun k=>?_) (Ev.now _))
    · simp only [Ak.l0]
      rw [wc (by omega) (by omega) hx (by omega),if_neg c]
    · simp [Ak.j1]
  intro d
  induction d with
  | zero =>
    intro x hx hX hd
    have : ¬x*x*4≤n:=fun c=>by have:=D3 (c:=4) (by omega) hx c;omega
    rw [DT _ this]
    exact stop x hx hX this
  | succ d ih =>
    intro x hx hX hd
    by_cases c:x*x*4≤n
    · have hb:=D3 (c:=4) (by omega) hx c
      have IH:=ih (x+1) (by omega) (by omega) (by omega)
      have h1:=four1 n x hn0 hn hx hb.1 _ IH (n-x*x+2-x).toNat x hx (by omega) rfl
      have e:DN (fun y=>sqs 1 y (n-x*x-y*y)) 3 (n-x*x) (n-x*x+2-x).toNat x=sqs 2 x (n-x*x):=by simp only [sqs];rfl
      rw [e] at h1
      refine Ev.step (f:=fun k=>Ak.j1 k n x true) (fun k=>?_) (Ev.step (f:=fun k=>Ak.l1 k n x x) (fun k=>?_) ?_)
      · simp only [Ak.l0,DX.f,Cq.f]
        rw [wc (by omega) (by omega) hx (by omega),if_pos c,if_pos hn0,decide_eq_true hn]
        simp
      · simp [Ak.j1]
      · cases hq:sqs 2 x (n-x*x) with
        | some r=>rw [FH (f:=fun x=>sqs 2 x (n-x*x)) (by omega) hx c hq];rw [hq] at h1;exact h1
        | none=>rw [Fi (f:=fun x=>sqs 2 x (n-x*x)) (by omega) hx c hq];rw [hq] at h1;exact h1
    · rw [DT _ c]
      exact stop x hx hX c
theorem Hx (n:Int) (hw : -9223372036854775808≤n):Ev (fun k=>Ak.f k n) (if 0≤n∧n≤2000 then fin (sqs 3 0 n) else ([],false)):=by
  unfold Ak.f
  by_cases h:0≤n∧n≤2000
  · rw [if_pos h]
    have:=four0 n h.1 h.2 (n+2).toNat 0 (by omega) (by omega) (by simp)
    have e:sqs 3 0 n=DN (fun x=>sqs 2 x (n-x*x)) 4 n (n+2-0).toNat 0:=by simp only [sqs];rfl
    rw [e];exact this
  · rw [if_neg h]
    refine Ev.step (f:=fun k=>Ak.j1 k n 0 false) (fun k=>?_) (Ev.step (f:=fun _=>some ([],false)) (fun k=>?_) (Ev.now _))
    · simp only [Ak.l0,DX.f,Cq.f]
      have e:wrap64 (wrap64 (4*0)*0)=0:=by decide +kernel
      rw [e]
      by_cases h0:0≤n
      · rw [if_pos h0,if_pos h0,decide_eq_false (by omega)];simp
      · rw [if_neg h0]
    · simp [Ak.j1]
theorem Hh (n:Int):CO.f n=some (if 0≤n∧n≤2000 then fin (sqs 3 0 n) else ([],false)):=by
  unfold CO.f Di.f
  rw [if_pos (by omega)]
  by_cases h:0≤n∧n≤2000
  · rw [if_neg (by omega),if_pos h,show ((4:Int)-1).toNat=3 from rfl]
    cases hq:sqs 3 0 n<;>simp [fin]
  · rw [if_pos (by omega),if_neg h];simp
theorem Ix {f:Int→Option (List Int)} {c left:Int} {m:Nat} (hf : ∀x r,f x=some r→r.length=m) : ∀(d:Nat) (x:Int) (r:List Int),DN f c left d x=some r→r.length=m+1
  | 0,_,_,h=>by simp [DN] at h
  | d+1,x,r,h=>by
    simp only [DN] at h
    split at h
    · split at h
      · rename_i r' hr
        injection h with h
        rw [← h,List.length_cons,hf x r' hr]
      · exact Ix hf d (x+1) r h
    · cases h
theorem Lp : ∀(m:Nat) (low left:Int) (r:List Int),sqs m low left=some r→r.length=m+1
  | 0,low,left,r,h=>by
    simp only [sqs] at h
    split at h
    · injection h with h;rw [← h];rfl
    · cases h
  | m+1,low,left,r,h=>by
    simp only [sqs] at h
    exact Ix (fun x r hr=>Lp m _ _ r hr) _ _ _ h
theorem fin_len (m:Nat) (n:Int):(if 0≤n∧n≤2000 then fin (sqs m 0 n) else ([],false)).1.length≤m+1:=by
  split
  · cases hq:sqs m 0 n with
    | none=>simp [fin]
    | some r=>have:=Lp m 0 n r hq;simp [fin,this]
  · simp
theorem Oj {a n:Int}:gI a n=gI n (a.tmod n):=by
  have e:=Int.mul_tdiv_add_tmod a n
  refine LP (Dk _ _) (Dk _ _) (Ov (Fp a n).2 ?_) (Ov ?_ (Fp n _).1)
  · have h1:=(Fp a n).1
    have h2:gI a n∣n*a.tdiv n:=Int.dvd_trans (Fp a n).2 (Int.dvd_mul_right _ _)
    have h3:=Int.dvd_sub h1 h2
    rw [show a-n*a.tdiv n=a.tmod n by omega] at h3
    exact h3
  · have h1:=(Fp n (a.tmod n)).2
    have h2:gI n (a.tmod n)∣n*a.tdiv n:=Int.dvd_trans (Fp n (a.tmod n)).1 (Int.dvd_mul_right _ _)
    have h3:=Int.dvd_add h2 h1
    rw [e] at h3
    exact h3
theorem Np (a b:Int):gI a (absI b)=gI a b:=by unfold gI absI;simp [Int.gcd]
theorem K9 (a b:Int):gI (absI a) b=gI a b:=by rw [F3,Np,F3]
theorem Ji {a:Int} (h:0≤a):gI a 0=a:=by unfold gI;rw [Int.gcd_zero_right];omega
theorem N3 {a n:Int} (ha:0≤a) (hn:0<n):0≤a.tmod n∧a.tmod n<n:=⟨Int.tmod_nonneg n ha,by rw [Int.tmod_eq_emod_of_nonneg ha];exact Int.emod_lt_of_pos a hn⟩
theorem gcdIn_l (xs:List Int) (j:Nat) (hj:j<1000000) (v:Int) : ∀(d:Nat) (a n:Int),0≤a→0≤n→n.toNat≤d→
    Ev (fun k=>B2.l0 k (gI a n) xs (xs.length:Int) ((j+1:Nat):Int)) v→Ev (fun k=>B2.l1 k a n xs (xs.length:Int) j) v:=by
  intro d
  induction d with
  | zero =>
    intro a n ha hn hd hv
    obtain rfl:n=0:=by omega
    rw [Ji ha] at hv
    refine Ev.step (fun k=>?_) hv
    simp only [B2.l1]
    rw [if_pos trivial,w64 (x:=(j:Int)+1) (by omega) (by omega)]
    rfl
  | succ d ih =>
    intro a n ha hn hd hv
    by_cases c:n=0
    · subst c
      rw [Ji ha] at hv
      refine Ev.step (fun k=>?_) hv
      simp only [B2.l1]
      rw [if_pos trivial,w64 (x:=(j:Int)+1) (by omega) (by omega)]
      rfl
    · have hb:=N3 ha (show 0<n by omega)
      rw [Oj] at hv
      refine Ev.step (fun k=>?_) (ih n (a.tmod n) hn hb.1 (by omega) hv)
      simp only [B2.l1]
      rw [if_neg c]
theorem gcd_l (xs:List Int) (hx : ∀x∈xs,x.natAbs≤4000000000000000000) (hl:xs.length≤100000) : ∀(d j:Nat) (g:Int),j+d=xs.length→0≤g→
    Ev (fun k=>B2.l0 k g xs (xs.length:Int) j) (gcdL (xs.drop j) g):=by
  intro d
  induction d with
  | zero =>
    intro j g hj hg
    rw [List.drop_of_length_le (by omega)]
    refine Ev.step (f:=fun _=>some g) (fun k=>?_) (Ev.now _)
    simp only [B2.l0]
    rw [if_neg (by omega)]
  | succ d ih =>
    intro j g hj hg
    rw [CE (show j<xs.length by omega)]
    have hm:=hx _ (Dj (xs:=xs) (j:=j) (by omega))
    refine Ev.step (f:=fun k=>B2.l1 k g (absI (rd xs (j:Int))) xs (xs.length:Int) j) (fun k=>?_) ?_
    · simp only [B2.l0]
      rw [if_pos (by omega),if_pos (by omega),if_pos (by omega)]
      simp only [Bq.f,Option.bind_some]
      rw [ER (n:=rd xs (j:Int)) (by omega) (by omega)]
    · refine gcdIn_l xs j (by omega) _ (absI (rd xs (j:Int))).toNat g (absI (rd xs (j:Int))) hg (Lh _) (by omega) ?_
      rw [Np]
      exact ih (j+1) (gI g (rd xs (j:Int))) (by omega) (Dk _ _)
theorem Ng (xs:List Int) (hx : ∀x∈xs,x.natAbs≤4000000000000000000) (hl:xs.length≤100000):Ev (fun k=>B2.f k xs) (gcdF xs):=by
  unfold B2.f
  have:=gcd_l xs hx hl xs.length 0 0 (by omega) (by omega)
  rw [List.drop_zero] at this
  exact this
theorem l1Gcd_l : ∀(d:Nat) (a n:Int),0≤a→0≤n→n.toNat≤d→Ev (fun k=>BU.l0 k a n) (gI a n):=by
  intro d
  induction d with
  | zero =>
    intro a n ha hn hd
    obtain rfl:n=0:=by omega
    rw [Ji ha]
    refine Ev.step (f:=fun _=>some a) (fun k=>?_) (Ev.now _)
    simp only [BU.l0]
    rw [if_pos trivial]
  | succ d ih =>
    intro a n ha hn hd
    by_cases c:n=0
    · subst c
      rw [Ji ha]
      refine Ev.step (f:=fun _=>some a) (fun k=>?_) (Ev.now _)
      simp only [BU.l0]
      rw [if_pos trivial]
    · have hb:=N3 ha (show 0<n by omega)
      rw [Oj]
      refine Ev.step (fun k=>?_) (ih n (a.tmod n) hn hb.1 (by omega))
      simp only [BU.l0]
      rw [if_neg c]
theorem Jh {a b:Int} (ha:a.natAbs≤4000000000000000000) (hb:b.natAbs≤4000000000000000000):Ev (fun k=>BU.f k a b) (gI a b):=by
  simp only [BU.f,Bf.f,Option.bind_some]
  rw [ER (by omega) (by omega),ER (by omega) (by omega),← Np a b,← K9 a]
  exact l1Gcd_l _ _ _ (Lh _) (Lh _) (Nat.le_refl _)
theorem Ga {x d:Int} (h:x.natAbs≤4000000000000000000):wrap64 (x.tdiv d)=x.tdiv d:=by
  have:=Ew (x:=x) (d:=d)
  exact w64 (by omega) (by omega)
theorem plain1_l {d:Int} (hd:d≠0) (xs:List Int) (hx : ∀x∈xs,x.natAbs≤4000000000000000000) (hl:xs.length≤100000) : ∀(m j:Nat) (out:List Int),j+m=xs.length→out.length≤5000+j→
    Ev (fun k=>AU.l1 k d out xs (xs.length:Int) j) (out++(xs.drop j).map fun x=>x.tdiv d):=by
  intro m
  induction m with
  | zero =>
    intro j out hj ho
    rw [List.drop_of_length_le (by omega)]
    refine Ev.step (f:=fun _=>some out) (fun k=>?_) (by simpa using Ev.now _)
    simp only [AU.l1]
    rw [if_neg (by omega)]
  | succ m ih =>
    intro j out hj ho
    rw [CE (show j<xs.length by omega),List.map_cons]
    have hm:=hx _ (Dj (xs:=xs) (j:=j) (by omega))
    have h2:=ih (j+1) (out++[(rd xs (j:Int)).tdiv d]) (by omega) (by simp;omega)
    rw [List.append_assoc] at h2
    refine Ev.step (fun k=>?_) h2
    simp only [AU.l1]
    rw [if_pos (by omega),if_pos (by omega),if_pos (by omega),if_neg hd,if_pos (by omega),Ga hm,w64 (x:=(j:Int)+1) (by omega) (by omega)]
    rfl
theorem plain0_l (xs:List Int) (hx : ∀x∈xs,x.natAbs≤4000000000000000000) (hl:xs.length≤100000) (g:Int) (hg:0≤g) (hG:g≤4000000000000000000) (v:List Int) : ∀(m j:Nat),j+m=xs.length→
    Ev (fun k=>AU.j1 k xs (EN (xs.drop j) g)) v→Ev (fun k=>AU.l0 k xs g xs (xs.length:Int) j) v:=by
  intro m
  induction m with
  | zero =>
    intro j hj hv
    rw [List.drop_of_length_le (by omega)] at hv
    refine Ev.step (fun k=>?_) hv
    simp only [AU.l0,EN]
    rw [if_neg (by omega)]
  | succ m ih =>
    intro j hj hv
    rw [CE (show j<xs.length by omega)] at hv
    simp only [EN] at hv
    by_cases c:rd xs (j:Int)=0
    · rw [if_pos c] at hv
      refine Ev.step (fun k=>?_) (ih (j+1) (by omega) hv)
      simp only [AU.l0]
      rw [if_pos (by omega),if_pos (by omega),if_pos (by omega),if_pos c,w64 (x:=(j:Int)+1) (by omega) (by omega)]
      rfl
    · rw [if_neg c] at hv
      refine Ev.step (fun k=>?_) hv
      simp only [AU.l0]
      rw [if_pos (by omega),if_pos (by omega),if_pos (by omega),if_neg c]
      by_cases c2:rd xs (j:Int)<0
      · rw [if_pos c2,if_pos c2,w64 (x := -g) (by omega) (by omega)]
      · rw [if_neg c2,if_neg c2]
theorem KC {xs:List Int} {M:Nat} (h : ∃x∈xs,x≠0) (hx : ∀x∈xs,x.natAbs≤M):gcdF xs≤M:=by
  obtain ⟨x,hm,h0⟩:=h
  have h1:=(DZ xs).2.1 x hm
  have h2:=Nat.le_of_dvd (by omega) (Int.natAbs_dvd_natAbs.2 h1)
  have h3:=hx x hm
  have:=(DZ xs).1
  omega
theorem G5 {xs:List Int} (h : ∃x∈xs,x≠0) (hx : ∀x∈xs,x.natAbs≤4000000000000000000) (hl:xs.length≤100000):Ev (fun k=>AU.f k xs) (Dv xs):=by
  unfold AU.f
  refine (Ng xs hx hl).bind ?_
  refine plain0_l xs hx hl _ (DZ xs).1 (by have:=KC h hx;omega) _ xs.length 0 (by omega) ?_
  rw [List.drop_zero]
  refine Ev.step (f:=fun k=>AU.l1 k (EN xs (gcdF xs)) [] xs (xs.length:Int) (0:Nat)) (fun k=>by simp only [AU.j1];rfl) ?_
  have:=plain1_l (LJ h) xs hx hl xs.length 0 [] (by omega) (by simp)
  rw [List.drop_zero,List.nil_append] at this
  exact this
theorem JP : ∀(xs:List Int) (d:Int),EN xs d=EN xs 1*d
  | [],d=>by simp [EN]
  | x::xs,d=>by
    simp only [EN]
    split
    · exact JP xs d
    · split<;>omega
theorem sign_tdiv {s x g:Int} (hs:s=1∨s = -1):(s*x).tdiv g=x.tdiv (s*g):=by
  rcases hs with rfl|rfl
  · rw [Int.one_mul,Int.one_mul]
  · rw [Int.neg_mul,Int.one_mul,Int.neg_mul,Int.one_mul,Int.neg_tdiv,Int.tdiv_neg]
theorem L8 {g s:Int} (hg:g≠0) (hs:s=1∨s = -1) (xs:List Int) (hx : ∀x∈xs,x.natAbs≤4000000000000000000) (hl:xs.length≤100000) : ∀(m j:Nat) (out:List Int),j+m=xs.length→out.length≤5000+j→
    Ev (fun k=>AE.l1 k xs g s out j) (out++(xs.drop j).map fun x=>x.tdiv (s*g)):=by
  intro m
  induction m with
  | zero =>
    intro j out hj ho
    rw [List.drop_of_length_le (by omega)]
    refine Ev.step (f:=fun _=>some out) (fun k=>?_) (by simpa using Ev.now _)
    simp only [AE.l1]
    rw [if_neg (by omega)]
  | succ m ih =>
    intro j out hj ho
    rw [CE (show j<xs.length by omega),List.map_cons]
    have hm:=hx _ (Dj (xs:=xs) (j:=j) (by omega))
    have h2:=ih (j+1) (out++[(rd xs (j:Int)).tdiv (s*g)]) (by omega) (by simp;omega)
    rw [List.append_assoc] at h2
    have e1:wrap64 (s*rd xs (j:Int))=s*rd xs (j:Int):=w64 (by rcases hs with rfl|rfl<;>omega) (by rcases hs with rfl|rfl<;>omega)
    refine Ev.step (fun k=>?_) h2
    simp only [AE.l1]
    rw [if_pos (by omega),if_pos (by omega),if_neg hg,if_pos (by omega),e1,sign_tdiv hs,Ga hm,w64 (x:=(j:Int)+1) (by omega) (by omega)]
    rfl
theorem gcdL_bd : ∀(xs:List Int) (g:Int),0≤g→g≤4000000000000000000→(∀x∈xs,x.natAbs≤4000000000000000000)→gI g (xs.headD 0)≤4000000000000000000:=by
  intro xs g h0 h1 hx
  by_cases c:g=0
  · subst c
    by_cases c2:xs.headD 0=0
    · rw [c2];unfold gI;simp
    · have h2:=K4 (b:=0) c2
      rw [F3] at h2
      cases xs with
      | nil=>simp at c2
      | cons x xs =>
        have:=hx x (by simp)
        simp only [List.headD_cons] at h2 ⊢
        omega
  · have:=K4 (b:=xs.headD 0) c;omega
theorem Mz (xs:List Int) (hx : ∀x∈xs,x.natAbs≤4000000000000000000) (hl:xs.length≤100000) (v:List Int) : ∀(m j:Nat) (g s:Int) (b:Bool),j+m=xs.length→0≤g→g≤4000000000000000000→(b=true→s=1)→
    Ev (fun k=>AE.l1 k xs (gcdL (xs.drop j) g) (if b then EN (xs.drop j) 1 else s) [] 0) v→Ev (fun k=>AE.l0 k xs g s b j) v:=by
  intro m
  induction m with
  | zero =>
    intro j g s b hj h0 h1 hb hv
    rw [List.drop_of_length_le (by omega)] at hv
    refine Ev.step (fun k=>?_) hv
    simp only [AE.l0,gcdL,EN]
    rw [if_neg (by omega)]
    cases b with
    | true=>rw [hb rfl];rfl
    | false=>rfl
  | succ m ih =>
    intro j g s b hj h0 h1 hb hv
    have hm:=hx _ (Dj (xs:=xs) (j:=j) (by omega))
    have hG:=gcdL_bd (xs.drop j) g h0 h1 (fun x hx'=>hx x (List.mem_of_mem_drop hx'))
    rw [CE (show j<xs.length by omega)] at hv hG
    simp only [gcdL,EN,List.headD_cons] at hv hG
    apply Ev.step
    · intro k
      simp only [AE.l0]
      rw [if_pos (by omega),if_pos (by omega)]
    · refine (Jh (a:=g) (b:=rd xs (j:Int)) (by omega) (by omega)).bind ?_
      by_cases c:rd xs (j:Int)=0
      · simp only [if_pos c] at hv ⊢
        refine Ev.step (fun k=>?_) (ih (j+1) _ s b (by omega) (Dk _ _) hG hb hv)
        simp only [AE.j1]
        rw [if_neg (by simp),w64 (x:=(j:Int)+1) (by omega) (by omega)]
        rfl
      · simp only [if_neg c] at hv ⊢
        cases b with
        | false =>
          refine Ev.step (fun k=>?_) (ih (j+1) _ s false (by omega) (Dk _ _) hG hb hv)
          simp only [AE.j1]
          rw [if_neg (by simp),w64 (x:=(j:Int)+1) (by omega) (by omega)]
          rfl
        | true =>
          obtain rfl:=hb rfl
          by_cases c2:rd xs (j:Int)<0
          · simp only [if_pos c2,if_true] at hv
            refine Ev.step (fun k=>?_) (ih (j+1) _ (-1) false (by omega) (Dk _ _) hG (by simp) (by simpa using hv))
            simp only [AE.j1]
            rw [if_pos trivial,if_pos (by omega),if_pos (by omega),if_pos c2,w64 (x:=(j:Int)+1) (by omega) (by omega)]
            rfl
          · simp only [if_neg c2,if_true] at hv
            refine Ev.step (fun k=>?_) (ih (j+1) _ 1 false (by omega) (Dk _ _) hG (by simp) (by simpa using hv))
            simp only [AE.j1]
            rw [if_pos trivial,if_pos (by omega),if_pos (by omega),if_neg c2,w64 (x:=(j:Int)+1) (by omega) (by omega)]
            rfl
theorem FO {xs:List Int} (h : ∃x∈xs,x≠0) (hx : ∀x∈xs,x.natAbs≤4000000000000000000) (hl:xs.length≤100000):Ev (fun k=>AE.f k xs) (Dv xs):=by
  unfold AE.f
  refine Mz xs hx hl _ xs.length 0 0 1 true (by omega) (by omega) (by omega) (fun _=>rfl) ?_
  rw [List.drop_zero]
  simp only [if_true]
  have h1:EN xs 1=1∨EN xs 1 = -1:=G4 xs 1
  have:=L8 (g:=gcdF xs) (Jc h) h1 xs hx hl xs.length 0 [] (by omega) (by simp)
  rw [List.drop_zero,List.nil_append,← JP] at this
  exact this
theorem Cc {α:Type} {f g:Nat→Option α} {v:α} (h : ∀k,f k=g k) (hg:Ev g v):Ev f v:=by
  have:f=g:=funext h
  rw [this];exact hg
def shP (a b c:Int):Int×Int×Int:=if 1<gI a b then (0,1,minP (gI a b)) else if 1<gI a c then (0,2,minP (gI a c)) else if 1<gI b c then (1,2,minP (gI b c)) else (0,0,0)
theorem gcdF_two (a b:Int):gcdF [a,b]=gI a b:=by
  unfold gcdF
  simp only [gcdL]
  have:gI 0 a=absI a:=by unfold gI absI;rw [Int.gcd_zero_left]
  rw [this,K9]
theorem Iv {d:Int} (h:1<d) (hN:d.natAbs<2 ^ 63):0<(CJ d).length:=(JB h hN).2.2
theorem Lo {l0:List Int} {p q a b:Int} {next:Nat→Option (Int×Int×Int)} {v:Int×Int×Int} (hp:rd l0 p=a) (hq:rd l0 q=b) (ha:a≠0) (hA:a.natAbs≤1000000000) (hB:b.natAbs≤1000000000)
    (hn : ¬1<gI a b→Ev next v) (hv:1<gI a b→v=(p,q,minP (gI a b))):Ev (fun k=>shAt l0 k p q (next k)) v:=by
  unfold shAt
  rw [hp,hq]
  refine (Ng [a,b] (by intro x hx;simp at hx;rcases hx with rfl|rfl<;>omega) (by simp)).bind ?_
  rw [gcdF_two]
  have h1:=K4 (b:=b) ha
  have h2:=Dk a b
  by_cases c:1<gI a b
  · refine Cc (g:=fun k=>(Bk.f k (gI a b)).bind fun ps=>if 0<ps.length then some (p,q,rd ps 0) else none) (fun k=>if_pos c) ?_
    refine (F6 (n:=gI a b) (by omega) (by omega)).bind ?_
    refine Cc (g:=fun _=>some (p,q,rd (CJ (gI a b)) 0)) (fun k=>if_pos (Iv c (by omega))) ?_
    rw [hv c];exact Ev.now _
  · exact Cc (fun k=>if_neg c) (hn c)
theorem Jz {a b c:Int} (ha:a≠0) (hb:b≠0) (hA:a.natAbs≤1000000000) (hB:b.natAbs≤1000000000) (hC:c.natAbs≤1000000000):Ev (fun k=>Cg.f k [a,b,c]) (shP a b c):=by
  refine Cc (g:=fun k=>shAt [a,b,c] k 0 1 (shAt [a,b,c] k 0 2 (shAt [a,b,c] k 1 2 (some (0,0,0))))) (fun k=>by unfold Cg.f shF;exact if_pos (by simp)) ?_
  unfold shP
  refine Lo (a:=a) (b:=b) rfl rfl ha hA hB (fun h1=>?_) (fun h1=>if_pos h1)
  rw [if_neg h1]
  refine Lo (a:=a) (b:=c) rfl rfl ha hA hC (fun h2=>?_) (fun h2=>if_pos h2)
  rw [if_neg h2]
  refine Lo (a:=b) (b:=c) rfl rfl hb hB hC (fun h3=>?_) (fun h3=>if_pos h3)
  rw [if_neg h3]
  exact Ev.now _
def twoP (a b c:Int):Int×Int:=if 1<gI a b then (minP (gI a b),2) else if 1<gI a c then (minP (gI a c),1) else if 1<gI b c then (minP (gI b c),0) else (1,0)
theorem Ls {xs:List Int} {t p q a b:Int} {v:Int×Int} (ht:0≤t) (ht2:t≤2) (hp:(wrap64 (t+1)).tmod 3=p) (hq:(wrap64 (t+2)).tmod 3=q) (hp0:0≤p) (hp1:p<xs.length) (hq0:0≤q) (hq1:q<xs.length)
    (hpa:rd xs p=a) (hqb:rd xs q=b) (ha:a≠0) (hA:a.natAbs≤1000000000) (hB:b.natAbs≤1000000000)
    (hn : ¬1<gI a b→Ev (fun k=>Bc.l0 k xs (t-1)) v) (hv:1<gI a b→v=(minP (gI a b),t)):Ev (fun k=>Bc.l0 k xs t) v:=by
  apply Ev.step
  · intro k
    simp only [Bc.l0]
    rw [if_pos ht,hp,hq,if_pos hp0,if_pos hp1,if_pos hq0,if_pos hq1,hpa,hqb,w64 (x:=t-1) (by omega) (by omega)]
  · refine (Jh (a:=a) (b:=b) (by omega) (by omega)).bind ?_
    have h1:=K4 (b:=b) ha
    have h2:=Dk a b
    by_cases c:1<gI a b
    · refine Cc (g:=fun k=>(Az.f k (gI a b)).bind fun ps=>if 0<(ps.length:Int) then some (rd ps 0,t) else none) (fun k=>if_pos c) ?_
      refine (Ie (n:=gI a b) (by omega) (by omega)).bind ?_
      refine Cc (g:=fun _=>some (rd (CJ (gI a b)) 0,t)) (fun k=>if_pos (by have:=Iv c (by omega);omega)) ?_
      rw [hv c];exact Ev.now _
    · exact Cc (fun k=>if_neg c) (hn c)
theorem Ly {a b c:Int} (ha:a≠0) (hb:b≠0) (hc:c≠0) (hA:a.natAbs≤1000000000) (hB:b.natAbs≤1000000000) (hC:c.natAbs≤1000000000):Ev (fun k=>Bc.f k [a,b,c]) (twoP a b c):=by
  unfold Bc.f twoP
  refine Ls (p:=0) (q:=1) (a:=a) (b:=b) (by omega) (by omega) (by decide +kernel) (by decide +kernel) (by omega) (by simp) (by omega) (by simp) rfl rfl ha hA hB (fun h1=>?_) (fun h1=>if_pos h1)
  rw [if_neg h1]
  refine Ls (t:=1) (p:=2) (q:=0) (a:=c) (b:=a) (by omega) (by omega) (by decide +kernel) (by decide +kernel) (by omega) (by simp) (by omega) (by simp) rfl rfl hc hC hA (fun h2=>?_) (fun h2=>?_)
  · rw [F3] at h2
    rw [if_neg h2]
    refine Ls (t:=0) (p:=1) (q:=2) (a:=b) (b:=c) (by omega) (by omega) (by decide +kernel) (by decide +kernel) (by omega) (by simp) (by omega) (by simp) rfl rfl hb hB hC (fun h3=>?_) (fun h3=>if_pos h3)
    rw [if_neg h3]
    refine Ev.step (f:=fun _=>some (1,0)) (fun k=>?_) (Ev.now _)
    simp only [Bc.l0]
    rw [if_neg (by omega)]
  · rw [if_pos (show 1<gI a c by rw [F3];exact h2),F3 c a]
theorem rd0 (a b c:Int):rd [a,b,c] 0=a:=rfl
theorem rd1 (a b c:Int):rd [a,b,c] 1=b:=rfl
theorem rd2 (a b c:Int):rd [a,b,c] 2=c:=rfl
theorem st0 (a b c v:Int):[a,b,c].set ((0:Int)).toNat v=[v,b,c]:=rfl
theorem st1 (a b c v:Int):[a,b,c].set ((1:Int)).toNat v=[a,v,c]:=rfl
theorem st2 (a b c v:Int):[a,b,c].set ((2:Int)).toNat v=[a,b,v]:=rfl
def outN (s:T6):List Int×List Int:=([s.1.1,s.1.2.1,s.1.2.2],[s.2.1,s.2.2.1,s.2.2.2])
def outN3 (s:T6):List Int×List Int×Bool:=([s.1.1,s.1.2.1,s.1.2.2],[s.2.1,s.2.2.1,s.2.2.2],true)
theorem Ef {A B C l a b c x y z:Int} {M:Nat} (h:NI A B C M l a b c x y z) (hM:M≤1000000000):a.natAbs≤1000000000∧b.natAbs≤1000000000∧c.natAbs≤1000000000∧x≤40000∧y≤40000∧z≤40000:=by
  have h1:=h.bd
  have h2:=h.turn.bd
  have h3:=h.back.bd
  have lt : ∀ {t:Int},1≤t→t*t≤(M:Int)→t≤40000:=fun {t} p q=>by have:=DK (a:=t) (b:=40001) (by omega) (by omega);omega
  exact ⟨by omega,by omega,by omega,lt h.hx h1.2.1,lt h.hy h2.2.1,lt h.hz h3.2.1⟩
theorem Da {a p:Int} (h:a.natAbs≤1000000000):wrap64 (a.tdiv p)=a.tdiv p:=Ga (by omega)
theorem Nd {A B C:Int} {M:Nat} (hM:M≤1000000000) : ∀(m:Nat) (l a b c x y z:Int),NI A B C M l a b c x y z→(a*b*c).natAbs<2 ^ m→
    Ev (fun k=>Aq.l1 k [a,b,c] [x,y,z]) (outN3 (nrm m a b c x y z)):=by
  intro m
  induction m with
  | zero =>
    intro l a b c x y z h hk
    have:=Int.mul_ne_zero (Int.mul_ne_zero h.sa.1 h.sb.1) h.sc.1
    omega
  | succ m ih =>
    intro l a b c x y z h hk
    rw [Nat.pow_succ] at hk
    obtain ⟨b1,b2,b3,b4,b5,b6⟩:=Ef h hM
    apply Ev.step
    · intro k
      simp only [Aq.l1]
      rfl
    refine (Jz h.sa.1 h.sb.1 b1 b2 b3).bind ?_
    simp only [nrm]
    by_cases g1:1<gI a b
    · simp only [shP,if_pos g1]
      obtain ⟨pp,pa,pb,_⟩:=gp h (by omega) g1
      have p2:=pp.1
      generalize minP (gI a b)=p at *
      have e3:wrap64 (wrap64 (3-0)-1)=2:=by decide +kernel
      by_cases c1:c.tmod p=0
      · simp only [if_pos c1]
        obtain ⟨h1,h2⟩:=h.div3 pp pa pb (C2.1 c1)
        refine Cc (fun k=>?_) (ih _ _ _ _ _ _ _ h1 (by omega))
        rw [if_neg (by omega),if_pos (by omega),if_pos (by simp),Option.bind_some,if_pos (by omega),if_pos (by simp),Option.bind_some,e3,if_pos (by omega),if_pos (by simp)]
        simp only [rd0,rd1,rd2,st0,st1,st2,Da b1,Da b2,Da b3]
        rw [if_pos c1]
      · simp only [if_neg c1]
        obtain ⟨h1,h2⟩:=h.div2 pp pa pb (fun e=>c1 (C2.2 e))
        obtain ⟨s1,s2,s3,s4,s5,s6⟩:=Ef h1 hM
        refine Cc (fun k=>?_) (ih _ _ _ _ _ _ _ h1 (by omega))
        rw [if_neg (by omega),if_pos (by omega),if_pos (by simp),Option.bind_some,if_pos (by omega),if_pos (by simp),Option.bind_some,e3,if_pos (by omega),if_pos (by simp)]
        have hz:=h1.hz
        simp only [rd0,rd1,rd2,st0,st1,st2,Da b1,Da b2]
        rw [if_neg c1,if_pos (by simp),w64 (x:=c*p) (by omega) (by omega),w64 (x:=z*p) (by omega) (by omega)]
    · simp only [shP,if_neg g1]
      by_cases g2:1<gI a c
      · simp only [if_pos g2]
        obtain ⟨pp,pa,pb,_⟩:=gp h.swap (by omega) g2
        have p2:=pp.1
        generalize minP (gI a c)=p at *
        have e3:wrap64 (wrap64 (3-0)-2)=1:=by decide +kernel
        by_cases c1:b.tmod p=0
        · simp only [if_pos c1]
          obtain ⟨h1,h2⟩:=h.div3 pp pa (C2.1 c1) pb
          refine Cc (fun k=>?_) (ih _ _ _ _ _ _ _ h1 (by omega))
          rw [if_neg (by omega),if_pos (by omega),if_pos (by simp),Option.bind_some,if_pos (by omega),if_pos (by simp),Option.bind_some,e3,if_pos (by omega),if_pos (by simp)]
          simp only [rd0,rd1,rd2,st0,st1,st2,Da b1,Da b2,Da b3]
          rw [if_pos c1]
        · simp only [if_neg c1]
          obtain ⟨h1,h2⟩:=h.swap.div2 pp pa pb (fun e=>c1 (C2.2 e))
          obtain ⟨s1,s2,s3,s4,s5,s6⟩:=Ef h1 hM
          refine Cc (fun k=>?_) (ih _ _ _ _ _ _ _ h1.swap ?_)
          · rw [if_neg (by omega),if_pos (by omega),if_pos (by simp),Option.bind_some,if_pos (by omega),if_pos (by simp),Option.bind_some,e3,if_pos (by omega),if_pos (by simp)]
            have hz:=h1.hz
            simp only [rd0,rd1,rd2,st0,st1,st2,Da b1,Da b3]
            rw [if_neg c1,if_pos (by simp),w64 (x:=b*p) (by omega) (by omega),w64 (x:=y*p) (by omega) (by omega)]
          · rw [show a.tdiv p*(b*p)*c.tdiv p=a.tdiv p*c.tdiv p*(b*p) by grind]
            rw [show a*c*b=a*b*c by grind] at h2
            omega
      · simp only [if_neg g2]
        by_cases g3:1<gI b c
        · simp only [if_pos g3]
          obtain ⟨pp,pa,pb,_⟩:=gp h.turn (by omega) g3
          have p2:=pp.1
          generalize minP (gI b c)=p at *
          have e3:wrap64 (wrap64 (3-1)-2)=0:=by decide +kernel
          by_cases c1:a.tmod p=0
          · simp only [if_pos c1]
            obtain ⟨h1,h2⟩:=h.div3 pp (C2.1 c1) pa pb
            refine Cc (fun k=>?_) (ih _ _ _ _ _ _ _ h1 (by omega))
            rw [if_neg (by omega),if_pos (by omega),if_pos (by simp),Option.bind_some,if_pos (by omega),if_pos (by simp),Option.bind_some,e3,if_pos (by omega),if_pos (by simp)]
            simp only [rd0,rd1,rd2,st0,st1,st2,Da b1,Da b2,Da b3]
            rw [if_pos c1]
          · simp only [if_neg c1]
            obtain ⟨h1,h2⟩:=h.turn.div2 pp pa pb (fun e=>c1 (C2.2 e))
            obtain ⟨s1,s2,s3,s4,s5,s6⟩:=Ef h1 hM
            refine Cc (fun k=>?_) (ih _ _ _ _ _ _ _ h1.back ?_)
            · rw [if_neg (by omega),if_pos (by omega),if_pos (by simp),Option.bind_some,if_pos (by omega),if_pos (by simp),Option.bind_some,e3,if_pos (by omega),if_pos (by simp)]
              have hz:=h1.hz
              simp only [rd0,rd1,rd2,st0,st1,st2,Da b2,Da b3]
              rw [if_neg c1,if_pos (by simp),w64 (x:=a*p) (by omega) (by omega),w64 (x:=x*p) (by omega) (by omega)]
            · rw [show a*p*b.tdiv p*c.tdiv p=b.tdiv p*c.tdiv p*(a*p) by grind]
              rw [show b*c*a=a*b*c by grind] at h2
              omega
        · simp only [if_neg g3]
          refine Cc (g:=fun _=>some ([a,b,c],[x,y,z],true)) (fun k=>if_pos trivial) (Ev.now _)
theorem EG {a:Int} (h:Sm a):1≤(Bi a).2∧(Bi a).2≤5∧(Bi a).1≠0∧(Bi a).1.natAbs≤30:=by
  have h1:=DL h.1 (by have:=h.2;omega)
  have h2:=Hd h1
  have:=h.2
  refine ⟨h1.2.1,?_,h1.2.2.1,by omega⟩
  rw [← Int.natAbs_mul] at h2
  have:=sq_nonneg (Bi a).2
  have:=DK (a:=(Bi a).2) (b:=6) (by omega) (by omega);omega
theorem rr {r s:Int} (h:1≤r∧r≤5) (h':1≤s∧s≤5):wrap64 (wrap64 (1*r)*s)=r*s:=by
  rw [Int.one_mul,w64 (x:=r) (by omega) (by omega)]
  have:=Dr (show 0≤r by omega) h.2 (show 0≤s by omega) h'.2
  have:=Int.mul_nonneg (show 0≤r by omega) (show 0≤s by omega)
  exact w64 (by omega) (by omega)
theorem LF {a b c:Int} (ha:Sm a) (hb:Sm b) (hc:Sm c):bd3 a b c≤27000:=by
  unfold bd3
  rw [Int.natAbs_mul,Int.natAbs_mul]
  have:=Nat.mul_le_mul (Nat.mul_le_mul ha.2 hb.2) hc.2
  omega
theorem I2 {a b c:Int} (ha:Sm a) (hb:Sm b) (hc:Sm c):Ev (fun k=>Aq.f k [a,b,c]) (outN3 (nrm3 a b c)):=by
  have hs : ∀x∈[a,b,c],Sm x:=by intro x hx;simp at hx;rcases hx with rfl|rfl|rfl<;>assumption
  have hf:BE [a,b,c]=true:=BO.2 ⟨hs,by simp,by simp⟩
  unfold Aq.f
  refine (BI (xs:=[a,b,c]) (fun x hx=>by have:=(hs x hx).2;omega) (by simp)).bind ?_
  rw [hf]
  refine Cc (g:=fun k=>Aq.j0 k [a,b,c] false) (fun k=>if_pos rfl) ?_
  refine Ev.step (f:=fun k=>Aq.l0 k [a,b,c] [1,1,1] [a,b,c] 3 0) (fun k=>?_) ?_
  · simp only [Aq.j0]
    rw [if_neg (by simp)]
    unfold Be.f
    rw [if_pos (by simp),Option.bind_some]
    rfl
  obtain ⟨a1,a2,a3,a4⟩:=EG ha
  obtain ⟨b1,b2,b3,b4⟩:=EG hb
  obtain ⟨c1,c2,c3,c4⟩:=EG hc
  have bound:=LF ha hb hc
  obtain ⟨l,hni⟩:=K7 ha.1 hb.1 hc.1 (by omega)
  have fin:=Nd (by omega) 62 _ _ _ _ _ _ _ hni (by have:=hni.bd.2.2.1;omega)
  have A:=Ds ha.1 (by have:=ha.2;omega)
  have B:=Ds hb.1 (by have:=hb.2;omega)
  have C:=Ds hc.1 (by have:=hc.2;omega)
  have m1:(wrap64 (0+1)).tmod 3=1:=by decide +kernel
  have m2:(wrap64 (0+2)).tmod 3=2:=by decide +kernel
  have m3:(wrap64 (1+1)).tmod 3=2:=by decide +kernel
  have m4:(wrap64 (1+2)).tmod 3=0:=by decide +kernel
  have m5:(wrap64 (2+1)).tmod 3=0:=by decide +kernel
  have m6:(wrap64 (2+2)).tmod 3=1:=by decide +kernel
  have w1:wrap64 (0+1)=1:=by decide +kernel
  have w2:wrap64 (1+1)=2:=by decide +kernel
  have w3:wrap64 (2+1)=3:=by decide +kernel
  unfold nrm3
  generalize Bi a=ca at *
  generalize Bi b=cb at *
  generalize Bi c=cc at *
  apply Ev.step
  · intro k
    simp only [Aq.l0]
    rw [if_pos (by omega),if_pos (by omega),if_pos (by simp),rd0]
  refine A.bind ?_
  refine Cc (g:=fun k=>Aq.l0 k [ca.1,b,c] [1,wrap64 (1*ca.2),wrap64 (1*ca.2)] [a,b,c] 3 1) (fun k=>?_) ?_
  · rw [if_pos (by simp),m1,if_pos (by omega),if_pos (by simp),Option.bind_some,m2,if_pos (by omega),if_pos (by simp),w1]
    rfl
  apply Ev.step
  · intro k
    simp only [Aq.l0]
    rw [if_pos (by omega),if_pos (by omega),if_pos (by simp),rd1]
  refine B.bind ?_
  refine Cc (g:=fun k=>Aq.l0 k [ca.1,cb.1,c] [wrap64 (1*cb.2),wrap64 (1*ca.2),ca.2*cb.2] [a,b,c] 3 2) (fun k=>?_) ?_
  · rw [if_pos (by simp),m3,if_pos (by omega),if_pos (by simp),Option.bind_some,m4,if_pos (by omega),if_pos (by simp),w2]
    have:=rr ⟨a1,a2⟩ ⟨b1,b2⟩
    rw [← this]
    rfl
  apply Ev.step
  · intro k
    simp only [Aq.l0]
    rw [if_pos (by omega),if_pos (by omega),if_pos (by simp),rd2]
  refine C.bind ?_
  refine Cc (g:=fun k=>Aq.l0 k [ca.1,cb.1,cc.1] [cb.2*cc.2,ca.2*cc.2,ca.2*cb.2] [a,b,c] 3 3) (fun k=>?_) ?_
  · rw [if_pos (by simp),m5,if_pos (by omega),if_pos (by simp),Option.bind_some,m6,if_pos (by omega),if_pos (by simp),w3]
    rw [← rr ⟨b1,b2⟩ ⟨c1,c2⟩,← rr ⟨a1,a2⟩ ⟨c1,c2⟩]
    rfl
  refine Ev.step (fun k=>?_) fin
  simp only [Aq.l0]
  rw [if_neg (by omega)]
theorem Ku {A B C:Int} {M:Nat} (hM:M≤1000000000) : ∀(m:Nat) (l a b c x y z:Int),NI A B C M l a b c x y z→(a*b*c).natAbs<2 ^ m→
    Ev (fun k=>Ay.l1 k [a,b,c] [x,y,z] (twoP a b c).1 (twoP a b c).2) (outN (nrm m a b c x y z)):=by
  intro m
  induction m with
  | zero =>
    intro l a b c x y z h hk
    have:=Int.mul_ne_zero (Int.mul_ne_zero h.sa.1 h.sb.1) h.sc.1
    omega
  | succ m ih =>
    intro l a b c x y z h hk
    rw [Nat.pow_succ] at hk
    obtain ⟨b1,b2,b3,b4,b5,b6⟩:=Ef h hM
    have m1:(wrap64 (2+1)).tmod 3=0:=by decide +kernel
    have m2:(wrap64 (2+2)).tmod 3=1:=by decide +kernel
    have m3:(wrap64 (1+1)).tmod 3=2:=by decide +kernel
    have m4:(wrap64 (1+2)).tmod 3=0:=by decide +kernel
    have m5:(wrap64 (0+1)).tmod 3=1:=by decide +kernel
    have m6:(wrap64 (0+2)).tmod 3=2:=by decide +kernel
    simp only [nrm]
    have next : ∀ {l' a' b' c' x' y' z':Int},NI A B C M l' a' b' c' x' y' z'→(a'*b'*c').natAbs<2 ^ m→Ev (fun k=>(Bc.f k [a',b',c']).bind fun t=>Ay.l1 k [a',b',c'] [x',y',z'] t.1 t.2) (outN (nrm m a' b' c' x' y' z')):=by
      intro l' a' b' c' x' y' z' h1 hk1
      obtain ⟨s1,s2,s3,_⟩:=Ef h1 hM
      exact (Ly h1.sa.1 h1.sb.1 h1.sc.1 s1 s2 s3).bind (ih _ _ _ _ _ _ _ h1 hk1)
    by_cases g1:1<gI a b
    · simp only [twoP,if_pos g1]
      obtain ⟨pp,pa,pb,_⟩:=gp h (by omega) g1
      have p2:=pp.1
      generalize minP (gI a b)=p at *
      by_cases c1:c.tmod p=0
      · simp only [if_pos c1]
        obtain ⟨h1,h2⟩:=h.div3 pp pa pb (C2.1 c1)
        refine Ev.step (fun k=>?_) (next h1 (by omega))
        simp only [Ay.l1]
        rw [if_pos (by omega),m1,if_pos (by omega),if_pos (by simp),if_neg (by omega),Option.bind_some,m2,if_pos (by omega),if_pos (by simp),Option.bind_some,if_pos (by omega),if_pos (by simp)]
        simp only [rd0,rd1,rd2,st0,st1,st2,Da b1,Da b2,Da b3]
        rw [if_pos c1,Option.bind_some]
      · simp only [if_neg c1]
        obtain ⟨h1,h2⟩:=h.div2 pp pa pb (fun e=>c1 (C2.2 e))
        obtain ⟨s1,s2,s3,s4,s5,s6⟩:=Ef h1 hM
        have hz:=h1.hz
        refine Ev.step (fun k=>?_) (next h1 (by omega))
        simp only [Ay.l1]
        rw [if_pos (by omega),m1,if_pos (by omega),if_pos (by simp),if_neg (by omega),Option.bind_some,m2,if_pos (by omega),if_pos (by simp),Option.bind_some,if_pos (by omega),if_pos (by simp)]
        simp only [rd0,rd1,rd2,st0,st1,st2,Da b1,Da b2]
        rw [if_neg c1,Option.bind_some,if_pos (by simp),w64 (x:=c*p) (by omega) (by omega),w64 (x:=z*p) (by omega) (by omega)]
    · simp only [twoP,if_neg g1]
      by_cases g2:1<gI a c
      · simp only [if_pos g2]
        obtain ⟨pp,pa,pb,_⟩:=gp h.swap (by omega) g2
        have p2:=pp.1
        generalize minP (gI a c)=p at *
        by_cases c1:b.tmod p=0
        · simp only [if_pos c1]
          obtain ⟨h1,h2⟩:=h.div3 pp pa (C2.1 c1) pb
          refine Ev.step (fun k=>?_) (next h1 (by omega))
          simp only [Ay.l1]
          rw [if_pos (by omega),m3,if_pos (by omega),if_pos (by simp),if_neg (by omega),Option.bind_some,m4,if_pos (by omega),if_pos (by simp),Option.bind_some,if_pos (by omega),if_pos (by simp)]
          simp only [rd0,rd1,rd2,st0,st1,st2,Da b1,Da b2,Da b3]
          rw [if_pos c1,Option.bind_some]
        · simp only [if_neg c1]
          obtain ⟨h1,h2⟩:=h.swap.div2 pp pa pb (fun e=>c1 (C2.2 e))
          obtain ⟨s1,s2,s3,s4,s5,s6⟩:=Ef h1 hM
          have hz:=h1.hz
          refine Ev.step (fun k=>?_) (next h1.swap ?_)
          · simp only [Ay.l1]
            rw [if_pos (by omega),m3,if_pos (by omega),if_pos (by simp),if_neg (by omega),Option.bind_some,m4,if_pos (by omega),if_pos (by simp),Option.bind_some,if_pos (by omega),if_pos (by simp)]
            simp only [rd0,rd1,rd2,st0,st1,st2,Da b1,Da b3]
            rw [if_neg c1,Option.bind_some,if_pos (by simp),w64 (x:=b*p) (by omega) (by omega),w64 (x:=y*p) (by omega) (by omega)]
          · rw [show a.tdiv p*(b*p)*c.tdiv p=a.tdiv p*c.tdiv p*(b*p) by grind]
            rw [show a*c*b=a*b*c by grind] at h2
            omega
      · simp only [if_neg g2]
        by_cases g3:1<gI b c
        · simp only [if_pos g3]
          obtain ⟨pp,pa,pb,_⟩:=gp h.turn (by omega) g3
          have p2:=pp.1
          generalize minP (gI b c)=p at *
          by_cases c1:a.tmod p=0
          · simp only [if_pos c1]
            obtain ⟨h1,h2⟩:=h.div3 pp (C2.1 c1) pa pb
            refine Ev.step (fun k=>?_) (next h1 (by omega))
            simp only [Ay.l1]
            rw [if_pos (by omega),m5,if_pos (by omega),if_pos (by simp),if_neg (by omega),Option.bind_some,m6,if_pos (by omega),if_pos (by simp),Option.bind_some,if_pos (by omega),if_pos (by simp)]
            simp only [rd0,rd1,rd2,st0,st1,st2,Da b1,Da b2,Da b3]
            rw [if_pos c1,Option.bind_some]
          · simp only [if_neg c1]
            obtain ⟨h1,h2⟩:=h.turn.div2 pp pa pb (fun e=>c1 (C2.2 e))
            obtain ⟨s1,s2,s3,s4,s5,s6⟩:=Ef h1 hM
            have hz:=h1.hz
            refine Ev.step (fun k=>?_) (next h1.back ?_)
            · simp only [Ay.l1]
              rw [if_pos (by omega),m5,if_pos (by omega),if_pos (by simp),if_neg (by omega),Option.bind_some,m6,if_pos (by omega),if_pos (by simp),Option.bind_some,if_pos (by omega),if_pos (by simp)]
              simp only [rd0,rd1,rd2,st0,st1,st2,Da b2,Da b3]
              rw [if_neg c1,Option.bind_some,if_pos (by simp),w64 (x:=a*p) (by omega) (by omega),w64 (x:=x*p) (by omega) (by omega)]
            · rw [show a*p*b.tdiv p*c.tdiv p=b.tdiv p*c.tdiv p*(a*p) by grind]
              rw [show b*c*a=a*b*c by grind] at h2
              omega
        · simp only [if_neg g3]
          refine Ev.step (f:=fun _=>some ([a,b,c],[x,y,z])) (fun k=>?_) (Ev.now _)
          simp only [Ay.l1]
          rw [if_neg (by omega)]
theorem Jb {a b c:Int} (ha:Sm a) (hb:Sm b) (hc:Sm c):Ev (fun k=>Ay.f k [a,b,c]) (outN (nrm3 a b c)):=by
  unfold Ay.f
  obtain ⟨a1,a2,a3,a4⟩:=EG ha
  obtain ⟨b1,b2,b3,b4⟩:=EG hb
  obtain ⟨c1,c2,c3,c4⟩:=EG hc
  have bound:=LF ha hb hc
  obtain ⟨l,hni⟩:=K7 ha.1 hb.1 hc.1 (by omega)
  have fin:=Ku (by omega) 62 _ _ _ _ _ _ _ hni (by have:=hni.bd.2.2.1;omega)
  have A:=DD ha.1 (by have:=ha.2;omega)
  have B:=DD hb.1 (by have:=hb.2;omega)
  have C:=DD hc.1 (by have:=hc.2;omega)
  have m1:(wrap64 (0+1)).tmod 3=1:=by decide +kernel
  have m2:(wrap64 (0+2)).tmod 3=2:=by decide +kernel
  have m3:(wrap64 (1+1)).tmod 3=2:=by decide +kernel
  have m4:(wrap64 (1+2)).tmod 3=0:=by decide +kernel
  have m5:(wrap64 (2+1)).tmod 3=0:=by decide +kernel
  have m6:(wrap64 (2+2)).tmod 3=1:=by decide +kernel
  have w1:wrap64 (0+1)=1:=by decide +kernel
  have w2:wrap64 (1+1)=2:=by decide +kernel
  have w3:wrap64 (2+1)=3:=by decide +kernel
  unfold nrm3
  generalize Bi a=ca at *
  generalize Bi b=cb at *
  generalize Bi c=cc at *
  apply Ev.step
  · intro k
    simp only [Ay.l0]
    rw [if_pos (by omega),if_pos (by omega),if_pos (by simp),rd0]
  refine A.bind ?_
  refine Cc (g:=fun k=>Ay.l0 k [a,b,c] [ca.1] [1,wrap64 (1*ca.2),wrap64 (1*ca.2)] 1) (fun k=>?_) ?_
  · rw [if_pos (by simp),m1,if_pos (by omega),if_pos (by simp),Option.bind_some,m2,if_pos (by omega),if_pos (by simp),w1]
    rfl
  apply Ev.step
  · intro k
    simp only [Ay.l0]
    rw [if_pos (by omega),if_pos (by omega),if_pos (by simp),rd1]
  refine B.bind ?_
  refine Cc (g:=fun k=>Ay.l0 k [a,b,c] [ca.1,cb.1] [wrap64 (1*cb.2),wrap64 (1*ca.2),ca.2*cb.2] 2) (fun k=>?_) ?_
  · rw [if_pos (by simp),m3,if_pos (by omega),if_pos (by simp),Option.bind_some,m4,if_pos (by omega),if_pos (by simp),w2]
    have:=rr ⟨a1,a2⟩ ⟨b1,b2⟩
    rw [← this]
    rfl
  apply Ev.step
  · intro k
    simp only [Ay.l0]
    rw [if_pos (by omega),if_pos (by omega),if_pos (by simp),rd2]
  refine C.bind ?_
  refine Cc (g:=fun k=>Ay.l0 k [a,b,c] [ca.1,cb.1,cc.1] [cb.2*cc.2,ca.2*cc.2,ca.2*cb.2] 3) (fun k=>?_) ?_
  · rw [if_pos (by simp),m5,if_pos (by omega),if_pos (by simp),Option.bind_some,m6,if_pos (by omega),if_pos (by simp),w3]
    rw [← rr ⟨b1,b2⟩ ⟨c1,c2⟩,← rr ⟨a1,a2⟩ ⟨c1,c2⟩]
    rfl
  apply Ev.step
  · intro k
    simp only [Ay.l0]
    rw [if_neg (by omega)]
  obtain ⟨s1,s2,s3,_⟩:=Ef hni (by omega)
  exact (Ly hni.sa.1 hni.sb.1 hni.sc.1 s1 s2 s3).bind fin
def orS (w:List Int×Bool):Option (List Int)→List Int×Bool
  | some v=>(v,true)
  | none=>w
def resS (o:Option (List Int)):List Int×Bool:=match o with|some v=>(v,true)|none=>([],false)
structure SB (a b c:Int):Prop where
  ha:a.natAbs≤27000
  hb:b.natAbs≤27000
  hc:c.natAbs≤27000
  h0:c≠0
  hbc:(b*c).natAbs≤27000
  hac:(a*c).natAbs≤27000
theorem EC {a x:Int} {A X:Nat} (h:a.natAbs≤A) (h':x.natAbs≤X):(a*x).natAbs≤A*X:=by rw [Int.natAbs_mul];exact Nat.mul_le_mul h h'
theorem nmr_bd {a b c x y:Int} (h:SB a b c) (hx:0≤x) (hx2:x≤200) (hy:0≤y) (hy2:y≤200) :
    wrap64 (wrap64 (wrap64 (wrap64 (-a)*x)*x)-wrap64 (wrap64 (b*y)*y))=nmr a b x y∧wrap64 (wrap64 (-(wrap64 (wrap64 (a*x)*x)))-wrap64 (wrap64 (b*y)*y))=nmr a b x y∧(nmr a b x y).natAbs≤3000000000:=by
  have ha:=h.ha
  have hb:=h.hb
  have e1:=EC (a := -a) (x:=x) (A:=27000) (X:=200) (by omega) (by omega)
  have e2:=EC (a := -a*x) (x:=x) (A:=5400000) (X:=200) (by omega) (by omega)
  have e3:=EC (a:=b) (x:=y) (A:=27000) (X:=200) (by omega) (by omega)
  have e4:=EC (a:=b*y) (x:=y) (A:=5400000) (X:=200) (by omega) (by omega)
  have e5:=EC (a:=a) (x:=x) (A:=27000) (X:=200) (by omega) (by omega)
  have e6:=EC (a:=a*x) (x:=x) (A:=5400000) (X:=200) (by omega) (by omega)
  unfold nmr
  refine ⟨?_,?_,by omega⟩
  · rw [w64 (x := -a) (by omega) (by omega),w64 (x := -a*x) (by omega) (by omega),w64 (x := -a*x*x) (by omega) (by omega),w64 (x:=b*y) (by omega) (by omega),w64 (x:=b*y*y) (by omega) (by omega),w64 (by omega) (by omega)]
  · rw [w64 (x:=a*x) (by omega) (by omega),w64 (x:=a*x*x) (by omega) (by omega),w64 (x := -(a*x*x)) (by omega) (by omega),w64 (x:=b*y) (by omega) (by omega),w64 (x:=b*y*y) (by omega) (by omega)]
    have : -a*x*x = -(a*x*x):=by grind
    rw [this]
    rw [this] at e2
    rw [w64 (by omega) (by omega)]
theorem FC {n:Int} (h:n.natAbs≤27000):mx n (wrap64 (-n))=absI n:=ER (by omega) (by omega)
theorem nmr_zero (a b:Int):nmr a b 0 0=0:=by unfold nmr;grind
theorem isq_zero:isq 0=0:=ET (by omega) (by omega) (by omega)
theorem Ky {a b c x:Int} (h:SB a b c) (hx:0≤x) (hx2:x≤200) {w:List Int×Bool} (hw:Ev (fun k=>Ae.l1 k a b c (x+1)) w) : ∀(n:Nat) (y:Int),0≤y→y+n=200→
    Ev (fun k=>Ae.l2 k a b c x y) (orS w (sY a b c x n y)):=by
  have hac:=h.hac
  have start : ∀(y:Int),Bq.f (wrap64 (a*c))=some (absI (a*c)):=fun y=>by
    rw [w64 (x:=a*c) (by omega) (by omega)];simp only [Bq.f];rw [FC hac]
  intro n
  induction n with
  | zero =>
    intro y hy hn
    simp only [sY]
    obtain rfl:y=200:=by omega
    refine Ev.step (fun k=>?_) hw
    simp only [Ae.l2]
    rw [start 0,Option.bind_some,w64 (x:=(200:Int)*200) (by omega) (by omega),if_neg (by unfold absI;omega),w64 (x:=x+1) (by omega) (by omega)]
  | succ n ih =>
    intro y hy hn
    simp only [sY]
    have hyy:y*y≤200*200:=Dr hy (by omega) hy (by omega)
    have hy0:=sq_nonneg y
    by_cases c0:y*y≤absI (a*c)
    · rw [if_pos c0]
      have next:=ih (y+1) (by omega) (by omega)
      obtain ⟨n1,_,n3⟩:=nmr_bd h hx hx2 hy (show y≤200 by omega)
      have hh:=h.h0
      have qb:((nmr a b x y).tdiv c).natAbs≤3000000000:=Nat.le_trans Ew n3
      by_cases c1:(nmr a b x y).tmod c=0
      · by_cases c2:0≤(nmr a b x y).tdiv c
        · apply Ev.step
          · intro k
            simp only [Ae.l2]
            rw [start 0,Option.bind_some,w64 (x:=y*y) (by omega) (by omega),if_pos c0,if_neg hh,n1,if_pos c1,w64 (x:=(nmr a b x y).tdiv c) (by omega) (by omega),w64 (x:=y+1) (by omega) (by omega)]
          refine (Jj _ c2 (by omega)).bind ?_
          by_cases c3:isq ((nmr a b x y).tdiv c)*isq ((nmr a b x y).tdiv c)=(nmr a b x y).tdiv c
          · by_cases c4:x=0∧y=0
            · have hit0:hit a b c x y=none:=by unfold hit;rw [if_neg (fun e=>e.2.2.2 c4)]
              rw [hit0]
              obtain ⟨rfl,rfl⟩:=c4
              have z:(nmr a b 0 0).tdiv c=0:=by rw [nmr_zero];exact Int.zero_tdiv _
              rw [z,isq_zero]
              refine Cc (fun k=>?_) next
              rw [if_pos (by simp),if_pos rfl,if_pos rfl,if_pos rfl]
            · have hit1:hit a b c x y=some [x,y,isq ((nmr a b x y).tdiv c)]:=by unfold hit;rw [if_pos ⟨c1,c2,c3,c4⟩]
              rw [hit1]
              refine Cc (g:=fun _=>some ([x,y,isq ((nmr a b x y).tdiv c)],true)) (fun k=>?_) (Ev.now _)
              rw [if_pos (by simp [c3])]
              by_cases x0:x=0
              · rw [if_pos x0,if_neg (fun e=>c4 ⟨x0,e⟩)]
              · rw [if_neg x0]
          · have hit0:hit a b c x y=none:=by unfold hit;rw [if_neg (fun e=>c3 e.2.2.1)]
            rw [hit0]
            refine Cc (fun k=>?_) next
            rw [if_neg (by simp [c3])]
        · have hit0:hit a b c x y=none:=by unfold hit;rw [if_neg (fun e=>c2 e.2.1)]
          rw [hit0]
          refine Ev.step (fun k=>?_) next
          simp only [Ae.l2]
          rw [start 0,Option.bind_some,w64 (x:=y*y) (by omega) (by omega),if_pos c0,if_neg hh,n1,if_pos c1,w64 (x:=(nmr a b x y).tdiv c) (by omega) (by omega),w64 (x:=y+1) (by omega) (by omega)]
          unfold AA.f
          rw [if_pos (by omega),Option.bind_some,if_neg (by simp)]
      · have hit0:hit a b c x y=none:=by unfold hit;rw [if_neg (fun e=>c1 e.1)]
        rw [hit0]
        refine Ev.step (fun k=>?_) next
        simp only [Ae.l2]
        rw [start 0,Option.bind_some,w64 (x:=y*y) (by omega) (by omega),if_pos c0,if_neg hh,n1,if_neg c1,w64 (x:=y+1) (by omega) (by omega)]
    · rw [if_neg c0]
      refine Ev.step (fun k=>?_) hw
      simp only [Ae.l2]
      rw [start 0,Option.bind_some,w64 (x:=y*y) (by omega) (by omega),if_neg c0,w64 (x:=x+1) (by omega) (by omega)]
theorem KA {a b c:Int} (h:SB a b c) : ∀(n:Nat) (x:Int),0≤x→x+n=200→Ev (fun k=>Ae.l1 k a b c x) (resS (sX a b c n x)):=by
  have hbc:=h.hbc
  have start:Bq.f (wrap64 (b*c))=some (absI (b*c)):=by
    rw [w64 (x:=b*c) (by omega) (by omega)];simp only [Bq.f];rw [FC hbc]
  intro n
  induction n with
  | zero =>
    intro x hx hn
    simp only [sX]
    obtain rfl:x=200:=by omega
    refine Ev.step (f:=fun _=>some ([],false)) (fun k=>?_) (Ev.now _)
    simp only [Ae.l1]
    rw [start,Option.bind_some,w64 (x:=(200:Int)*200) (by omega) (by omega),if_neg (by unfold absI;omega)]
  | succ n ih =>
    intro x hx hn
    simp only [sX]
    have hxx:x*x≤200*200:=Dr hx (by omega) hx (by omega)
    have hx0:=sq_nonneg x
    by_cases c0:x*x≤absI (b*c)
    · rw [if_pos c0]
      have:=Ky h hx (show x≤200 by omega) (ih (x+1) (by omega) (by omega)) 200 0 (by omega) (by omega)
      refine Ev.step (f:=fun k=>Ae.l2 k a b c x 0) (fun k=>?_) ?_
      · simp only [Ae.l1]
        rw [start,Option.bind_some,w64 (x:=x*x) (by omega) (by omega),if_pos c0]
      · cases hh:sY a b c x 200 0 with
        | some v=>rw [hh] at this;exact this
        | none=>rw [hh] at this;exact this
    · rw [if_neg c0]
      refine Ev.step (f:=fun _=>some ([],false)) (fun k=>?_) (Ev.now _)
      simp only [Ae.l1]
      rw [start,Option.bind_some,w64 (x:=x*x) (by omega) (by omega),if_neg c0]
structure SN (a b c:Int):Prop where
  sa:Eo a
  sb:Eo b
  sc:Eo c
  hm:(a*b*c).natAbs≤27000
  g1:gI a b≤1
  g2:gI a c≤1
  g3:gI b c≤1
theorem SN.bd {a b c:Int} (h:SN a b c):SB a b c∧SB b a c:=by
  have hm:=h.hm
  have a0:=h.sa.1
  have b0:=h.sb.1
  have c0:=h.sc.1
  have e1:(a*b*c).natAbs=a.natAbs*(b*c).natAbs:=by rw [← Int.natAbs_mul];congr 1;grind
  have e2:(a*b*c).natAbs=b.natAbs*(a*c).natAbs:=by rw [← Int.natAbs_mul];congr 1;grind
  have e3:(a*b*c).natAbs=c.natAbs*(a*b).natAbs:=by rw [← Int.natAbs_mul];congr 1;grind
  have hbc:=Int.mul_ne_zero b0 c0
  have hac:=Int.mul_ne_zero a0 c0
  have hab:=Int.mul_ne_zero a0 b0
  have f1:=Nat.le_mul_of_pos_right a.natAbs (show 0<(b*c).natAbs by omega)
  have f2:=Nat.le_mul_of_pos_left (b*c).natAbs (show 0<a.natAbs by omega)
  have f3:=Nat.le_mul_of_pos_right b.natAbs (show 0<(a*c).natAbs by omega)
  have f4:=Nat.le_mul_of_pos_left (a*c).natAbs (show 0<b.natAbs by omega)
  have f5:=Nat.le_mul_of_pos_right c.natAbs (show 0<(a*b).natAbs by omega)
  exact ⟨⟨by omega,by omega,by omega,c0,by omega,by omega⟩,⟨by omega,by omega,by omega,c0,by omega,by omega⟩⟩
theorem sq_core {a:Int} (h:Eo a) (hb:a.natAbs≤27000):Bi a=(a,1):=Ow h.1 (by omega) ⟨by omega,by omega,h⟩
theorem FV {a b c t:Int} {j j1:Int} (ht:Eo t) (hb:t.natAbs≤27000) (hr:rd [a,b,c] j=t) (h0:0≤j) (h3:j<3) (hj:wrap64 (j+1)=j1) {v:List Int×Bool} (hv:Ev (fun k=>Ae.l0 k [a,b,c] [a,b,c] 3 j1) v) :
    Ev (fun k=>Ae.l0 k [a,b,c] [a,b,c] 3 j) v:=by
  have hs:Bq.f t=some (absI t):=by simp only [Bq.f];rw [FC hb]
  refine Ev.step (f:=fun k=>Ae.j1 k [a,b,c] t [a,b,c] 3 j false) (fun k=>?_) ?_
  · simp only [Ae.l0]
    rw [if_pos h3,if_pos h0,if_pos (by simpa using h3),hr,if_neg ht.1,hs,Option.bind_some]
    have:decide (absI t>30000)=false:=decide_eq_false (by unfold absI;omega)
    rw [this]
  apply Ev.step
  · intro k
    simp only [Ae.j1]
    rw [if_neg (by simp),hj]
  refine (Ds ht.1 (by omega)).bind ?_
  rw [sq_core ht hb]
  exact Cc (fun k=>if_pos rfl) hv
theorem NY (xs:List Int) (hl:xs.length≤1000) : ∀(d j:Nat) (g:Int),j+d=xs.length→(∀i,i≤d→(((xs.drop j).take i).foldl (· * ·) g).natAbs≤1000000000000)→
    Ev (fun k=>AR.l0 k g xs (xs.length:Int) j) ((xs.drop j).foldl (· * ·) g):=by
  intro d
  induction d with
  | zero =>
    intro j g hj _
    rw [List.drop_of_length_le (by omega)]
    refine Ev.step (f:=fun _=>some g) (fun k=>?_) (Ev.now _)
    simp only [AR.l0]
    rw [if_neg (by omega)]
  | succ d ih =>
    intro j g hj hb
    rw [CE (show j<xs.length by omega)] at hb ⊢
    have h1:=hb 1 (by omega)
    simp only [List.take_succ_cons,List.take_zero,List.foldl_cons,List.foldl_nil] at h1
    simp only [List.foldl_cons]
    refine Ev.step (fun k=>?_) (ih (j+1) (g*rd xs (j:Int)) (by omega) (fun i hi=>?_))
    · simp only [AR.l0]
      rw [if_pos (by omega),if_pos (by omega),if_pos (by omega),w64 (x:=g*rd xs (j:Int)) (by omega) (by omega),w64 (x:=(j:Int)+1) (by omega) (by omega)]
      rfl
    · have:=hb (i+1) (by omega)
      simpa [List.take_succ_cons] using this
theorem IY {a b c:Int} (h:SN a b c):Ev (fun k=>Ae.f k [a,b,c]) (resS (zs a b c)):=by
  obtain ⟨sb,sb2⟩:=h.bd
  have ha:=sb.ha
  have hb:=sb.hb
  have hc:=sb.hc
  have hm:=h.hm
  refine Cc (g:=fun k=>Ae.l0 k [a,b,c] [a,b,c] 3 0) (fun k=>by unfold Ae.f;exact if_pos (by simp)) ?_
  refine FV h.sa ha (rd0 a b c) (by omega) (by omega) (show wrap64 (0+1)=1 by decide +kernel) ?_
  refine FV h.sb hb (rd1 a b c) (by omega) (by omega) (show wrap64 (1+1)=2 by decide +kernel) ?_
  refine FV h.sc hc (rd2 a b c) (by omega) (by omega) (show wrap64 (2+1)=3 by decide +kernel) ?_
  apply Ev.step
  · intro k
    simp only [Ae.l0]
    rw [if_neg (by omega)]
  refine (Jz h.sa.1 h.sb.1 (by omega) (by omega) (by omega)).bind ?_
  have e:shP a b c=(0,0,0):=by
    unfold shP
    rw [if_neg (by have:=h.g1;omega),if_neg (by have:=h.g2;omega),if_neg (by have:=h.g3;omega)]
  rw [e]
  refine Cc (fun k=>if_pos rfl) ?_
  have hp:Ev (fun k=>AR.f k [a,b,c]) (a*b*c):=by
    unfold AR.f
    have hab:(a*b).natAbs≤27000*27000:=EC ha hb
    have:=NY [a,b,c] (by simp) 3 0 1 (by simp) (fun i hi=>?_)
    · simpa using this
    · have:i=0∨i=1∨i=2∨i=3:=by omega
      rcases this with rfl|rfl|rfl|rfl<;>simp<;>omega
  refine hp.bind ?_
  have hs:Bq.f (a*b*c)=some (absI (a*b*c)):=by simp only [Bq.f];rw [FC hm]
  refine Cc (g:=fun k=>Ae.j2 k [a,b,c] false) (fun k=>?_) ?_
  · rw [hs,Option.bind_some]
    have:decide (absI (a*b*c)>30000)=false:=decide_eq_false (by unfold absI;omega)
    rw [this]
  refine Ev.step (fun k=>?_) (KA sb 200 0 (by omega) (by omega))
  simp only [Ae.j2]
  rw [if_neg (by simp),if_pos (by simp),if_pos (by simp),if_pos (by simp)]
  rfl
theorem KW {a b c x:Int} (h:SB a b c) (hx:0≤x) (hx2:x≤200) {w:List Int×Bool} (hw:Ev (fun k=>Aw.l0 k a b c (x+1)) w) : ∀(n:Nat) (y:Int),0≤y→y+n=200→
    Ev (fun k=>Aw.l1 k a b c x y) (orS w (sY a b c x n y)):=by
  have hac:=h.hac
  have start:Bf.f (wrap64 (a*c))=some (absI (a*c)):=by
    rw [w64 (x:=a*c) (by omega) (by omega)];simp only [Bf.f];rw [FC hac]
  intro n
  induction n with
  | zero =>
    intro y hy hn
    simp only [sY]
    obtain rfl:y=200:=by omega
    refine Ev.step (fun k=>?_) hw
    simp only [Aw.l1]
    rw [start,Option.bind_some,w64 (x:=(200:Int)*200) (by omega) (by omega),if_neg (by unfold absI;omega),w64 (x:=x+1) (by omega) (by omega)]
  | succ n ih =>
    intro y hy hn
    simp only [sY]
    have hyy:y*y≤200*200:=Dr hy (by omega) hy (by omega)
    have hy0:=sq_nonneg y
    by_cases c0:y*y≤absI (a*c)
    · rw [if_pos c0]
      have next:=ih (y+1) (by omega) (by omega)
      obtain ⟨_,n2,n3⟩:=nmr_bd h hx hx2 hy (show y≤200 by omega)
      have hh:=h.h0
      have qb:((nmr a b x y).tdiv c).natAbs≤3000000000:=Nat.le_trans Ew n3
      have wq:wrap64 ((nmr a b x y).tdiv c)=(nmr a b x y).tdiv c:=w64 (by omega) (by omega)
      have skip : ∀(m:Int),Ev (fun k=>Aw.j2 k a b c x y m true) (orS w (sY a b c x n (y+1))):=by
        intro m
        refine Ev.step (fun k=>?_) next
        simp only [Aw.j2]
        rw [if_pos trivial,w64 (x:=y+1) (by omega) (by omega)]
      by_cases c1:(nmr a b x y).tmod c=0
      · by_cases c2:0≤(nmr a b x y).tdiv c
        · by_cases c4:x=0∧y=0
          · have hit0:hit a b c x y=none:=by unfold hit;rw [if_neg (fun e=>e.2.2.2 c4)]
            rw [hit0]
            refine Ev.step (fun k=>?_) (skip (nmr a b x y))
            simp only [Aw.l1]
            rw [start,Option.bind_some,w64 (x:=y*y) (by omega) (by omega),if_pos c0,if_neg hh,n2,if_pos c1,wq,if_neg (by omega),if_pos c4.1]
            have:(y==0)=true:=by simp [c4.2]
            rw [this]
          · refine Ev.step (f:=fun k=>Aw.j2 k a b c x y (nmr a b x y) false) (fun k=>?_) ?_
            · simp only [Aw.l1]
              rw [start,Option.bind_some,w64 (x:=y*y) (by omega) (by omega),if_pos c0,if_neg hh,n2,if_pos c1,wq,if_neg (by omega)]
              by_cases x0:x=0
              · have:(y==0)=false:=by simpa using fun e=>c4 ⟨x0,e⟩
                rw [if_pos x0,this]
              · rw [if_neg x0]
            apply Ev.step
            · intro k
              simp only [Aw.j2]
              rw [if_neg (by simp),if_neg hh,wq,w64 (x:=y+1) (by omega) (by omega)]
            refine (Kq _ c2 (by omega)).bind ?_
            by_cases c3:isq ((nmr a b x y).tdiv c)*isq ((nmr a b x y).tdiv c)=(nmr a b x y).tdiv c
            · have hit1:hit a b c x y=some [x,y,isq ((nmr a b x y).tdiv c)]:=by unfold hit;rw [if_pos ⟨c1,c2,c3,c4⟩]
              rw [hit1,if_pos c3]
              exact Cc (fun k=>if_pos (Ey _)) (Ev.now _)
            · have hit0:hit a b c x y=none:=by unfold hit;rw [if_neg (fun e=>c3 e.2.2.1)]
              rw [hit0,if_neg c3]
              exact Cc (fun k=>if_neg (by omega)) next
        · have hit0:hit a b c x y=none:=by unfold hit;rw [if_neg (fun e=>c2 e.2.1)]
          rw [hit0]
          refine Ev.step (fun k=>?_) (skip (nmr a b x y))
          simp only [Aw.l1]
          rw [start,Option.bind_some,w64 (x:=y*y) (by omega) (by omega),if_pos c0,if_neg hh,n2,if_pos c1,wq,if_pos (by omega)]
      · have hit0:hit a b c x y=none:=by unfold hit;rw [if_neg (fun e=>c1 e.1)]
        rw [hit0]
        refine Ev.step (fun k=>?_) (skip (nmr a b x y))
        simp only [Aw.l1]
        rw [start,Option.bind_some,w64 (x:=y*y) (by omega) (by omega),if_pos c0,if_neg hh,n2,if_neg c1]
    · rw [if_neg c0]
      refine Ev.step (fun k=>?_) hw
      simp only [Aw.l1]
      rw [start,Option.bind_some,w64 (x:=y*y) (by omega) (by omega),if_neg c0,w64 (x:=x+1) (by omega) (by omega)]
end Go.Proofs.YtacfcoilmdhgnaaGreatDoor.QFnExactExecute
