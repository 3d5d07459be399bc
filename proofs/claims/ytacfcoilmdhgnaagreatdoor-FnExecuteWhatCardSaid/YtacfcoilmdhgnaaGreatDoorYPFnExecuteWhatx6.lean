/- A function's Lean twin and its walk, written by a program of this session. -/
import Derived.Test.YtacfcoilmdhgnaaGreatDoorYPFnExecuteWhatx5
set_option maxHeartbeats 8000000
set_option maxRecDepth 100000
namespace Go.Proofs.YtacfcoilmdhgnaaGreatDoor.PFnExecuteWhat
open Go.RowKit Go.Proofs.YtacfcoilmdhgnaaGreatDoorW.PrintWords Go.Proofs.YtacfcoilmdhgnaaGreatDoorW.PrintLast Go.Proofs.YtacfcoilmdhgnaaGreatDoorW.PrintMore
attribute [local go_sem] DN DO El En Du Dt DP DK   -- for this text's walks alone
set_option linter.unusedVariables false
set_option linter.unusedSimpArgs false
def DZ.f (k:Nat) (l0:List Int) (a1:Int):Option (Int):=if a1=0 then (BA.f k l0).bind fun t3=>(some (mn t3 (wrap64 ((l0.length:Int)-t3)))) else (Ce.f k l0 a1).bind fun t4=>(if t4=true then if (l0.length:Int)=4 then (Be.f k l0).bind fun t5=>((BS.f k t5 a1).bind fun t6=>(if t6=true then (AV.f k l0 a1).bind fun t7=>((CH.f k (-1) (-1) a1).bind fun t8=>(if t7=t8 then some 2 else some 1)) else some 1)) else some 1 else some 0)
theorem DZ.calls (k:Nat) (A0:Option Addr) (c0:Nat) (l0:List Int) (a1 r:Int) (w:World) (hr0:Kd.C (Kd.int .i64) w A0 l0.length l0) (hc0:l0.length≤c0) (h:DZ.f k l0 a1=some r) :
  Calls Tryz.prog 148 #[.slice A0 l0.length c0,.int .i64 a1] w fun e w'=>e = .returned (.int .i64 r)∧Below w.heap.size w w':=by
 have HR0:=Aa.mk hr0;have HC0:=Aa.mk hc0;clear hr0 hc0;have HB:=Aa.mk (Below.refl w.heap.size w);unfold DZ.f at h;have H:=h;clear h
 rcases Zq.jn H with ⟨c3b0,H⟩|⟨c3,c3b0,H⟩
 ·obtain ⟨t7,A4,H⟩:=Zs.be H;obtain ⟨ji5,hji5⟩ : ∃j_:Int,(mn t7 (wrap64 ((l0.length:Int)-t7)))=j_:=⟨_,rfl⟩
  replace H:(some ji5)=some r:=by first|(rw [hji5] at H;exact H)|(simp only [hji5] at H ⊢;exact H)
  (try rw [hji5] at A4);have hji5_:(if (wrap64 ((l0.length:Int)-t7))<t7 then wrap64 ((l0.length:Int)-t7) else t7)=ji5:=hji5;obtain rfl:=Option.some.inj H
  go_enter Tryz.func148,Tryz.ntmps148
  go_wp2_with (((with_reducible refine Ab (f:=127) rfl ?_);refine Zq.gp Tryz.func127 (BA.calls _ _ _ _ _ _ (Zs.mvC (HR0.out)) HC0.out A4.out) ?_;intro nd))
  go_ret
  exact ⟨by first|rfl|(simp [Cv,Cw]<;>rfl)|(simp only [← hji5];first|rfl|(simp [Cv,Cw]<;>rfl))|(simp [*,Cv,Cw]<;>rfl),Zs.auHB⟩
 ·obtain ⟨t11,A6,H⟩:=Zs.be H
  cases t11
  ·replace H:=Zq.fh H;obtain rfl:=Option.some.inj H
   go_enter Tryz.func148,Tryz.ntmps148
   go_wp2_with (((with_reducible refine Ab (f:=74) rfl ?_);refine Zq.gp Tryz.func74 (Ce.calls _ _ _ _ _ _ _ (Zs.mvC (HR0.out)) HC0.out A6.out) ?_;intro nd))
   go_ret
   exact ⟨Zs.auR,Zs.auHB⟩
  ·replace H:=Zq.th H
   rcases Zq.jn H with ⟨c8b0,H⟩|⟨c8,c8b0,H⟩
   ·obtain ⟨t15,A9,H⟩:=Zs.be H;obtain ⟨t16,A10,H⟩:=Zs.be H
    cases t16
    ·replace H:=Zq.fh H;obtain rfl:=Option.some.inj H
     go_enter Tryz.func148,Tryz.ntmps148
     go_wp2_with (first|((with_reducible refine Ab (f:=74) rfl ?_);refine Zq.gp Tryz.func74 (Ce.calls _ _ _ _ _ _ _ (Zs.mvC (HR0.out)) HC0.out A6.out) ?_;intro nd)|(go_at_call 65;(with_reducible refine (Be.calls k _ _ l0 t15 _ ?side1 ?side2 A9.out).mono ?_);(case side1=>exact Zs.mvC (HR0.out));(case side2=>exact HC0.out);rintro e w' ⟨rfl,⟨nd,rfl⟩⟩)|(go_at_call 128;(with_reducible refine (BS.calls k t15 a1 false _ A10.out).mono ?_);rintro e w' ⟨rfl,⟨nd,rfl⟩⟩))
     go_ret
     exact ⟨Zs.auR,Zs.auHB⟩
    ·replace H:=Zq.th H;obtain ⟨t17,A12,H⟩:=Zs.be H;obtain ⟨t18,A13,H⟩:=Zs.be H
     rcases Zq.jn H with ⟨c14b0,H⟩|⟨c14,c14b0,H⟩
     ·obtain rfl:=Option.some.inj H
      go_enter Tryz.func148,Tryz.ntmps148
      go_wp2_with (first|((with_reducible refine Ab (f:=74) rfl ?_);refine Zq.gp Tryz.func74 (Ce.calls _ _ _ _ _ _ _ (Zs.mvC (HR0.out)) HC0.out A6.out) ?_;intro nd)|(go_at_call 65;(with_reducible refine (Be.calls k _ _ l0 t15 _ ?side1 ?side2 A9.out).mono ?_);(case side1=>exact Zs.mvC (HR0.out));(case side2=>exact HC0.out);rintro e w' ⟨rfl,⟨nd,rfl⟩⟩)|(go_at_call 128;(with_reducible refine (BS.calls k t15 a1 true _ A10.out).mono ?_);rintro e w' ⟨rfl,⟨nd,rfl⟩⟩)|(go_at_call 129;(with_reducible refine (AV.calls k _ _ l0 a1 t17 _ ?side1 ?side2 A12.out).mono ?_);(case side1=>exact Zs.mvC (HR0.out));(case side2=>exact HC0.out);rintro e w' ⟨rfl,⟨nd,rfl⟩⟩)|(go_at_call 69;(with_reducible refine (CH.calls k (-1) (-1) a1 t18 _ A13.out).mono ?_);rintro e w' ⟨rfl,⟨nd,rfl⟩⟩))
      go_ret
      exact ⟨Zs.auR,Zs.auHB⟩
     ·obtain rfl:=Option.some.inj H
      go_enter Tryz.func148,Tryz.ntmps148
      go_wp2_with (first|((with_reducible refine Ab (f:=74) rfl ?_);refine Zq.gp Tryz.func74 (Ce.calls _ _ _ _ _ _ _ (Zs.mvC (HR0.out)) HC0.out A6.out) ?_;intro nd)|(go_at_call 65;(with_reducible refine (Be.calls k _ _ l0 t15 _ ?side1 ?side2 A9.out).mono ?_);(case side1=>exact Zs.mvC (HR0.out));(case side2=>exact HC0.out);rintro e w' ⟨rfl,⟨nd,rfl⟩⟩)|(go_at_call 128;(with_reducible refine (BS.calls k t15 a1 true _ A10.out).mono ?_);rintro e w' ⟨rfl,⟨nd,rfl⟩⟩)|(go_at_call 129;(with_reducible refine (AV.calls k _ _ l0 a1 t17 _ ?side1 ?side2 A12.out).mono ?_);(case side1=>exact Zs.mvC (HR0.out));(case side2=>exact HC0.out);rintro e w' ⟨rfl,⟨nd,rfl⟩⟩)|(go_at_call 69;(with_reducible refine (CH.calls k (-1) (-1) a1 t18 _ A13.out).mono ?_);rintro e w' ⟨rfl,⟨nd,rfl⟩⟩))
      go_ret
      exact ⟨Zs.auR,Zs.auHB⟩
   ·obtain rfl:=Option.some.inj H
    go_enter Tryz.func148,Tryz.ntmps148
    go_wp2_with (((with_reducible refine Ab (f:=74) rfl ?_);refine Zq.gp Tryz.func74 (Ce.calls _ _ _ _ _ _ _ (Zs.mvC (HR0.out)) HC0.out A6.out) ?_;intro nd))
    go_ret
    exact ⟨Zs.auR,Zs.auHB⟩
def BC.l0:Nat→List Int→Int→List Int→Int→Int→Option (Int)
 | 0,_,_,_,_,_=>none
 | k+1,x0,x3,x12,x13,x14=>if x14<x13 then if 0≤x14 then if x14<(x12.length:Int) then (DZ.f k x0 (rd x12 x14)).bind fun t4=>(BC.l0 k x0 (mn x3 t4) x12 x13 (wrap64 (x14+1))) else none else none else some x3
def BC.f (k:Nat) (l0:List Int):Option (Int):=(Am.f k l0).bind fun t3=>(if t3=true then (Bk.f k l0).bind fun t4=>(BC.l0 k l0 (l0.length:Int) t4 (t4.length:Int) 0) else some (-1))
theorem BC.calls (k:Nat) (A0:Option Addr) (c0:Nat) (l0:List Int) (r:Int) (w:World) (hr0:Kd.C (Kd.int .i64) w A0 l0.length l0) (hc0:l0.length≤c0) (h:BC.f k l0=some r) :
  Calls Tryz.prog 104 #[.slice A0 l0.length c0] w fun e w'=>e = .returned (.int .i64 r)∧Below w.heap.size w w':=by
 have HR0:=Aa.mk hr0;have HC0:=Aa.mk hc0;clear hr0 hc0;have HB:=Aa.mk (Below.refl w.heap.size w);unfold BC.f at h;have H:=h;clear h;obtain ⟨t15,A2,H⟩:=Zs.be H
 cases t15
 ·replace H:=Zq.fh H;obtain rfl:=Option.some.inj H
  go_enter Tryz.func104,Tryz.ntmps104
  go_wp2_with (((with_reducible refine Ab (f:=59) rfl ?_);refine Zq.gb Tryz.func59 (Am.calls _ _ _ _ _ _ (Zs.mvC (HR0.out)) HC0.out A2.out) ?_;intro w14 hb;replace HB:=Zq.st hb;(try clear hb)))
  go_ret
  exact ⟨Zs.auR,Zs.auHB⟩
 ·replace H:=Zq.th H;obtain ⟨t16,A4,H⟩:=Zs.be H;have H':=Aa.mk H;clear H
  go_enter Tryz.func104,Tryz.ntmps104
  go_wp2_with (first|((with_reducible refine Ab (f:=59) rfl ?_);refine Zq.gb Tryz.func59 (Am.calls _ _ _ _ _ _ (Zs.mvC (HR0.out)) HC0.out A2.out) ?_;intro w5 hb;replace HB:=Zq.st hb;(try clear hb))|((with_reducible refine Ab (f:=147) rfl ?_);refine Zq.gc (some 12) Tryz.func147 (Bk.calls _ _ _ _ _ _ (Zs.mvC ((Kd.BF HR0.out HB.out))) HC0.out A4.out) ?_;rintro e w6 ⟨v17,rfl,ho0,hb⟩;refine ⟨_,rfl,?_⟩;have HO18:=Zq.lw ho0;replace HB:=Zq.st hb;(try clear hb);(try clear ho0);obtain ⟨Ao7,co7,eo7⟩:=Kd.Az HO18.out;subst eo7))
  go_loopg [3,14] k (fun kq v3 v14 w' => ∃x3_1 x14_1:Int,v3 = .int .i64 x3_1∧v14 = .int .i64 x14_1∧Aa (BC.l0 kq l0 x3_1 t16 (t16.length:Int) x14_1=some r)∧Aa (kq≤k)∧Aa (Kd.R (Kd.int .i64) 3 w' w.heap.size (fun _=>True) (.slice Ao7 t16.length co7) t16)∧Aa (Below w.heap.size w w'))
  case atStart=>exact ⟨((l0.length:Int)),(0),Zs.auS,Zs.auS,H',⟨Nat.le_refl _⟩,⟨(Zs.mvR HO18.out)⟩,⟨Zs.auHB⟩⟩
  case round =>
   clear H'
   obtain ⟨x3_1,x14_1,rfl,rfl,HA,HK1,HO_12,HB⟩:=hrel;cases gk with
   | zero=>exact absurd HA.out (by simp [BC.l0])
   | succ k1 =>
    have H:=HA.out;clear HA;simp only [BC.l0] at H
    rcases Zq.jd H with ⟨c8b0,H⟩|⟨c8b0,H⟩
    ·obtain ⟨c9b0,H⟩:=Zq.pd H
     obtain ⟨c10b0,H⟩:=Zq.pd H;obtain ⟨t20,A11,H⟩:=Zs.be H;obtain ⟨ji12,hji12⟩ : ∃j_:Int,(mn x3_1 t20)=j_:=⟨_,rfl⟩
     replace H:(BC.l0 k1 l0 ji12 t16 (t16.length:Int) (wrap64 (x14_1+1)))=some r:=by first|(rw [hji12] at H;exact H)|(simp only [hji12] at H ⊢;exact H)
     (try rw [hji12] at A11);have hji12_:(if t20<x3_1 then t20 else x3_1)=ji12:=hji12;have H':=Aa.mk H;clear H;obtain ⟨ad19,e19,hx19_0,p19,q19⟩:=Zq.at_ (Kd.Ac HO_12.out).2.2 x14_1;cases e19
     go_wp2_with (((with_reducible refine Ab (f:=148) rfl ?_);refine Zq.gb Tryz.func148 (DZ.calls _ _ _ _ _ _ _ (Zs.mvC ((Kd.BF HR0.out HB.out))) HC0.out A11.out) ?_;intro w13 hb;replace HO_12:=Zq.rb HO_12.out hb;replace HB:=Zq.st hb;(try clear hb)))
     go_roundg k1
     case measure=>have:=HK1.out;omega
     case rel=>exact ⟨(ji12),(wrap64 (x14_1+1)),(by first|rfl|(simp;done)|(simp only [← hji12]<;>(first|rfl|simp))|(simp [*];done)),Zs.auS,H',⟨by have:=HK1.out;omega⟩,⟨(Zs.mvR HO_12.out)⟩,⟨Zs.auHB⟩⟩
    ·obtain rfl:=Option.some.inj H;go_wp2;go_ret
     exact ⟨Zs.auR,Zs.auHB⟩
section
open Locg
theorem FV (n:Int) (h0:0≤n) (hn:n<4611686018427387904) : ∀(d:Nat) (x bit:Int) (k:Nat),0≤x→x*x≤n→n<(x+2*bit)*(x+2*bit)→x+2*bit≤2147483648→bit=2 ^ d→d+1<k→
  AJ.l0 k n x bit=some (isq n,isq n*isq n==n):=by
 intro d
 have stop : ∀(x:Int) (k:Nat),0≤x→x*x≤n→n<(x+1)*(x+1)→0<k→AJ.l0 k n x 0=some (isq n,isq n*isq n==n):=by
  intro x k hx hl hg hk;obtain ⟨k,rfl⟩ : ∃m,k=m+1:=⟨k-1,by omega⟩
  simp only [AJ.l0]
  have hb:x<2147483648:=by
   rcases Int.lt_or_le x 2147483648 with h|h
   ·exact h
   ·have:=EM (by omega) h;omega
  have hm:wrap64 (x*x)=x*x:=w64' (sq_nonneg x) (by omega);rw [if_neg (by omega),hm,Ft hx hl hg]
 induction d with
 | zero =>
  intro x bit k hx hl hg hB hb hk;obtain ⟨k,rfl⟩ : ∃m,k=m+1:=⟨k-1,by omega⟩
  obtain rfl:bit=1:=by simpa using hb
  simp only [AJ.l0];have hs:=EM (a:=x+1) (b:=2147483648) (by omega) (by omega);rw [if_pos (by omega),w64 (x:=x+1) (by omega) (by omega),w64' (x:=(x+1)*(x+1)) (sq_nonneg _) (by omega)];have e:wrap64 (Int.tdiv 1 2)=0:=by decide +kernel
  rw [e]
  by_cases c:(x+1)*(x+1)≤n
  ·rw [if_pos c];exact stop _ _ (by omega) c (by rw [show x+1+1=x+2*1 from by omega];exact hg) (by omega)
  ·rw [if_neg c];exact stop _ _ hx hl (by omega) (by omega)
 | succ d ih =>
  intro x bit k hx hl hg hB hb hk;obtain ⟨k,rfl⟩ : ∃m,k=m+1:=⟨k-1,by omega⟩
  have hp:(0:Int)<2 ^ d:=Int.pow_pos (by omega);obtain ⟨c2,hc2⟩ : ∃c2:Int,c2=2 ^ d:=⟨_,rfl⟩
  have hb2:bit=2*c2:=by rw [hb,Int.pow_succ,hc2];omega
  subst hb2;simp only [AJ.l0];have hs:=EM (a:=x+2*c2) (b:=2147483648) (by omega) (by omega);have e:wrap64 (Int.tdiv (2*c2) 2)=c2:=by rw [I0 (by omega),w64 (by omega) (by omega)];omega
  rw [if_pos (by omega),w64 (x:=x+2*c2) (by omega) (by omega),w64' (x:=(x+2*c2)*(x+2*c2)) (sq_nonneg _) (by omega),e]
  by_cases c:(x+2*c2)*(x+2*c2)≤n
  ·rw [if_pos c];exact ih _ _ _ (by omega) c (by rw [show x+2*c2+2*c2=x+2*(2*c2) from by omega];exact hg) (by omega) hc2 (by omega)
  ·rw [if_neg c];exact ih _ _ _ hx hl (by omega) (by omega) hc2 (by omega)
theorem G5 (n:Int) (h0:0≤n) (hn:n<4611686018427387904) (k:Nat) (hk:31<k):AJ.f k n=some (isq n,isq n*isq n==n):=by
 unfold AJ.f
 rw [if_neg (by omega)];exact FV n h0 hn 30 0 1073741824 k (by omega) (by omega) (by omega) (by omega) (by decide) (by omega)
theorem Pt:(Tryz.prog.info? 3).map (fun i=>(i.zero,i.size,i.bytes))=some (some (.int .i64 0),1,8):=by kernel_rfl
def Gc (Bm Bl Bt:Nat) (many:Int) (xs:List Int) (w:World):Prop :=
 ∃v,w.heap[Bl]? = some (.cells #[v] 27 (0,0))∧w.heap[Bm]? = some (.cells #[.int .i64 many] 3 (0,0))∧
  w.heap[Bt]? = some (.cells #[.func (.func 109) #[] #[.pointer (some ⟨Bl,0,none⟩),.pointer (some ⟨Bm,0,none⟩),.pointer (some ⟨Bt,0,none⟩)]] 68 (0,0))∧
  w.ownsRow (Bm+1) 3 1 v xs.length (nums .i64 xs)
theorem Gc.drewN {Bm Bl Bt:Nat} {many:Int} {xs:List Int} {w:World} (h:Gc Bm Bl Bt many xs w) (n:Nat):Gc Bm Bl Bt many xs (w.drewN n):=h
theorem F2 {w:World} {b:Nat} {v:Value} {xs:List Value} {g t:Nat} {cells:Array Value} (hown:w.ownsRow b 3 1 v xs.length xs) (hg:w.heap[g]? = some (.cells cells t (0,0))) (ht:t≠3):v.ownBlock≠some g:=by
 intro e;obtain ⟨cells',hc⟩:=D8 hown g e;rw [hc] at hg;injection hg with hg
 injection hg with _ hg
 exact ht hg.symm
theorem Lt {Bm Bl Bt:Nat} {many:Int} {xs:List Int} {y:Int} {W w1:World} {v v1:Value} (hv:W.heap[Bl]? = some (.cells #[v] 27 (0,0))) (hmn:W.heap[Bm]? = some (.cells #[.int .i64 many] 3 (0,0)))
  (ht:W.heap[Bt]? = some (.cells #[.func (.func 109) #[] #[.pointer (some ⟨Bl,0,none⟩),.pointer (some ⟨Bm,0,none⟩),.pointer (some ⟨Bt,0,none⟩)]] 68 (0,0)))
  (hown:W.ownsRow (Bm+1) 3 1 v xs.length (nums .i64 xs)) (hown1:w1.ownsRow (Bm+1) 3 1 v1 (xs++[y]).length (nums .i64 (xs++[y]))) (hg:W.grownBy w1 v.ownBlock) :
  Gc Bm Bl Bt many (xs++[y]) (w1.setCell ⟨Bl,0,none⟩ v1):=by
 have hl:xs.length=(nums .i64 xs).length:=(Ee _ _).symm;have hl1:(xs++[y]).length=(nums .i64 (xs++[y])).length:=(Ee _ _).symm;have nl:=F2 (by rw [← hl];exact hown) hv (by decide);have nt:=F2 (by rw [← hl];exact hown) ht (by decide);have nm:v.ownBlock≠some Bm:=fun e=>by have:=Fa hown Bm e;omega
 have hv':=(hg.block Bl (lt_of_block hv) (fun e=>nl e.symm)).trans hv;have hm':=(hg.block Bm (lt_of_block hmn) (fun e=>nm e.symm)).trans hmn;have ht':=(hg.block Bt (lt_of_block ht) (fun e=>nt e.symm)).trans ht;have n1:=F2 (by rw [← hl1];exact hown1) hv' (by decide);have dm:Bm≠Bl:=fun e=>by subst e;rw [hv] at hmn;simp at hmn
 have dt:Bt≠Bl:=fun e=>by subst e;rw [hv] at ht;simp at ht
 refine ⟨v1,one_setCell hv',(Below.heap_setCell _ _ _ _ dm).trans hm',(Below.heap_setCell _ _ _ _ dt).trans ht',FB hown1 (fun k hk=>Below.heap_setCell _ _ _ _ (fun e=>n1 (by rw [hk,e])))⟩
theorem sq_drop {Bm Bl Bt:Nat} {many:Int} {xs:List Int} {y:Int} {W:World} {g c:Nat} (h:Gc Bm Bl Bt many (xs++[y]) W) (hv:W.heap[Bl]? = some (.cells #[.slice (some ⟨g,0,none⟩) (xs++[y]).length c] 27 (0,0))) :
  Gc Bm Bl Bt many xs (W.setCell ⟨Bl,0,none⟩ (.slice (some ⟨g,0,none⟩) xs.length c)):=by
 obtain ⟨v,hv0,hmn,ht,hown⟩:=h;obtain rfl:v = .slice (some ⟨g,0,none⟩) (xs++[y]).length c:=by rw [hv] at hv0;simpa using hv0.symm
 have hl1:(xs++[y]).length=(nums .i64 (xs++[y])).length:=(Ee _ _).symm;have n1:=F2 (by rw [← hl1];exact hown) hv (by decide);have dm:Bm≠Bl:=fun e=>by subst e;rw [hv] at hmn;simp at hmn
 have dt:Bt≠Bl:=fun e=>by subst e;rw [hv] at ht;simp at ht
 have hgl:g≠Bl:=fun e=>n1 (by rw [e];rfl)
 refine ⟨_,one_setCell hv,(Below.heap_setCell _ _ _ _ dm).trans hmn,(Below.heap_setCell _ _ _ _ dt).trans ht,?_⟩
 rcases hown.2 with ⟨h',_⟩|⟨g',cap',cur,h',hb,hh,hnc,hcp,hcs,htake⟩
 ·cases h'
 ·simp only [Value.slice.injEq,Option.some.injEq,Addr.mk.injEq,and_true,true_and] at h';obtain ⟨rfl,rfl⟩:=h';refine ⟨by simp [nums],.inr ⟨g,c,cur,rfl,hb,(Below.heap_setCell _ _ _ _ hgl).trans hh,by simp at hnc;omega,hcp,hcs,?_⟩⟩;have:=congrArg (List.take xs.length) htake;rw [List.take_take] at this
  simpa [nums] using this
theorem K5 {Bm Bl:Nat} {xs:List Int} {W w1:World} {v:Value} (hv:W.heap[Bl]? = some (.cells #[v] 27 (0,0))) (hown:W.ownsRow (Bm+1) 3 1 v xs.length (nums .i64 xs)) (hg:W.grownBy w1 v.ownBlock) :
  w1.cell? ⟨Bl,0,none⟩=some v∧w1.frozen? ⟨Bl,0,none⟩=false:=by
 have hl:xs.length=(nums .i64 xs).length:=(Ee _ _).symm;have nl:=F2 (by rw [← hl];exact hown) hv (by decide);have hv':=(hg.block Bl (lt_of_block hv) (fun e=>nl e.symm)).trans hv;exact ⟨cell_of_one hv',free_of_one hv'⟩
theorem sq_root (n:Int) (h0:0≤n) (hn:n≤5000) : ∃r,0≤r∧r≤71∧isq n=r∧AJ.f 32 n=some (r,decide (r*r=n)):=by
 refine ⟨isq n,EW n,?_,rfl,?_⟩
 ·have:=Ow (b:=71) h0 (by omega) (by omega);omega
 ·rw [G5 n h0 (by omega) 32 (by omega)];rfl
theorem CK {p:Prop} (h:p):Hid p:=Lib.hid h
set_option maxHeartbeats 1600000 in
theorem sq_base (Bm Bl Bt:Nat) (many low left:Int) (xs:List Int) (w:World) (h:Gc Bm Bl Bt many xs w) (hm:(xs.length:Int)+1=many) (hM:many≤4) (h0:0≤low) (hL:low≤5000) (hl0:0≤left) (hl:left≤5000) (hlt:Bm<Bl) (hlt2:Bm<Bt) :
  Calls Tryz.prog 109 #[.int .i64 low,.int .i64 left,.pointer (some ⟨Bl,0,none⟩),.pointer (some ⟨Bm,0,none⟩),.pointer (some ⟨Bt,0,none⟩)] w fun e w' =>
   e = .returned (.bool (sqs 0 low left).isSome)∧Gc Bm Bl Bt many (xs++(sqs 0 low left).getD []) w'∧Below Bm w w':=by
 have hi:=h;obtain ⟨v,hv,hmn,ht,hown⟩:=h;obtain ⟨A,c,rfl⟩:=DU hown;have cL:=cell_of_one hv;have fL:=free_of_one hv;have cM:=cell_of_one hmn;have e1:(((xs.length:Nat):Int)==many-1)=true:=by rw [beq_iff_eq];omega
 obtain ⟨r,hr0,hr1,hr,hsq⟩:=sq_root left hl0 hl;simp only [sqs,hr];have HI:=CK hi;have HV:=CK hv;have HM:=CK hmn;have HT:=CK ht;have HO:=CK hown;have hxl:xs.length≤3:=by omega
 have hM1:1≤many:=by omega
 have hB:Bm<w.heap.size:=lt_of_block hmn;clear hi hv hmn ht hown hr hm
 by_cases c1:r*r=left
 ·rw [decide_eq_true c1] at hsq;have HS:=CK hsq;clear hsq
  by_cases c2:low≤r
  ·have c2b:decide (low≤r)=true:=decide_eq_true c2;rw [if_pos ⟨c1,c2⟩];clear c1
   go_enter Tryz.func109,Tryz.ntmps109
   go_wp2_with (first|(go_at_call 110;refine (AJ.calls 32 left r true _ HS.out).mono ?_;rintro e w' ⟨rfl,⟨n,rfl⟩⟩)|(at_builtin;go_loud (refine EI (w0:=w) (Bm+1) rfl (.tmp 27) (.tmp 29) 27 3 .i64 8 rfl Tryz.underlying27 Pt (by decide) (.slice A xs.length c) xs r rfl rfl HO.out (Ag (Below.refl _ _) _) (by simp;omega) (by omega) ?_;intro v1 w1 hown1 hB1 hg1 hat1;clear hat1;obtain ⟨A1,k1,rfl⟩:=DU hown1;have HV1:=CK (Lt (hg:=hg1) (hv:=by exact HV.out) (hmn:=by exact HM.out) (ht:=by exact HT.out) (hown:=by exact HO.out) (hown1:=hown1));obtain ⟨cL1,fL1⟩:=K5 (hg:=hg1) (hv:=by exact HV.out) (hown:=by exact HO.out);clear hown1 hg1)))
   go_ret
   exact ⟨rfl,by simpa using HV1.out,(hB1.setCell (show Bm+1≤Bl by omega) _).mono (by omega)⟩
  ·have c2b:decide (low≤r)=false:=decide_eq_false c2;rw [if_neg (fun h=>c2 h.2)];clear c1
   go_enter Tryz.func109,Tryz.ntmps109
   go_wp2_with (first|(go_at_call 110;refine (AJ.calls 32 left r true _ HS.out).mono ?_;rintro e w' ⟨rfl,⟨n,rfl⟩⟩)|fail)
   go_ret
   exact ⟨rfl,by simpa using HI.out.drewN n,Ag (Below.refl _ _) _⟩
 ·rw [decide_eq_false c1] at hsq;rw [if_neg (fun h=>c1 h.1)];have HS:=CK hsq;clear hsq c1
  go_enter Tryz.func109,Tryz.ntmps109
  go_wp2_with (first|(go_at_call 110;refine (AJ.calls 32 left r false _ HS.out).mono ?_;rintro e w' ⟨rfl,⟨n,rfl⟩⟩)|fail)
  go_ret
  exact ⟨rfl,by simpa using HI.out.drewN n,Ag (Below.refl _ _) _⟩
def KZ (Bm Bl Bt:Nat) (many:Int) (m:Nat):Prop := ∀(low left:Int) (xs:List Int) (w:World),Gc Bm Bl Bt many xs w→(xs.length:Int)+m+1=many→0≤low→low≤5000→0≤left→left≤5000→
  Calls Tryz.prog 109 #[.int .i64 low,.int .i64 left,.pointer (some ⟨Bl,0,none⟩),.pointer (some ⟨Bm,0,none⟩),.pointer (some ⟨Bt,0,none⟩)] w fun e w' =>
   e = .returned (.bool (sqs m low left).isSome)∧Gc Bm Bl Bt many (xs++(sqs m low left).getD []) w'∧Below Bm w w'
def SqYes (Bm Bl Bt:Nat) (many x left:Int) (xs res:List Int):Prop := ∀w:World,Gc Bm Bl Bt many (xs++[x]) w→
  Calls Tryz.prog 109 #[.int .i64 x,.int .i64 (left-x*x),.pointer (some ⟨Bl,0,none⟩),.pointer (some ⟨Bm,0,none⟩),.pointer (some ⟨Bt,0,none⟩)] w fun e w' =>
   e = .returned (.bool true)∧Gc Bm Bl Bt many (xs++x::res) w'∧Below Bm w w'
def SqNo (Bm Bl Bt:Nat) (many x left:Int) (xs:List Int):Prop := ∀w:World,Gc Bm Bl Bt many (xs++[x]) w→
  Calls Tryz.prog 109 #[.int .i64 x,.int .i64 (left-x*x),.pointer (some ⟨Bl,0,none⟩),.pointer (some ⟨Bm,0,none⟩),.pointer (some ⟨Bt,0,none⟩)] w fun e w' =>
   e = .returned (.bool false)∧(∃g c,w'.heap[Bl]? = some (.cells #[.slice (some ⟨g,0,none⟩) (xs.length+1) c] 27 (0,0))∧xs.length+1≤c∧c≤9223372036854775807∧Gc Bm Bl Bt many (xs++[x]) w')∧Below Bm w w'
theorem sq_yes {Bm Bl Bt:Nat} {many:Int} {m:Nat} (IH:KZ Bm Bl Bt many m) {x left:Int} {xs res:List Int} (hm:(xs.length:Int)+(m+1)+1=many) (h0:0≤x) (h1:x≤5000) (h2:x*x≤left) (h3:left≤5000) (hs:sqs m x (left-x*x)=some res):SqYes Bm Bl Bt many x left xs res:=by
 intro w hw;have:=IH x (left-x*x) (xs++[x]) w hw (by simp;omega) h0 h1 (by omega) (by have:=sq_nonneg x;omega);rw [hs] at this
 simpa using this
theorem sq_no {Bm Bl Bt:Nat} {many:Int} {m:Nat} (IH:KZ Bm Bl Bt many m) {x left:Int} {xs:List Int} (hm:(xs.length:Int)+(m+1)+1=many) (h0:0≤x) (h1:x≤5000) (h2:x*x≤left) (h3:left≤5000) (hs:sqs m x (left-x*x)=none):SqNo Bm Bl Bt many x left xs:=by
 intro w hw;have:=IH x (left-x*x) (xs++[x]) w hw (by simp;omega) h0 h1 (by omega) (by have:=sq_nonneg x;omega);rw [hs] at this;refine this.mono ?_;rintro e w' ⟨he,hi,hb⟩;simp only [Option.getD_none,List.append_nil] at hi;refine ⟨by simpa using he,?_,hb⟩;have hi0:=hi;obtain ⟨v,hv,_,_,hown⟩:=hi;obtain ⟨g,c,rfl,_⟩:=hown.form (by simp);refine ⟨g,c,by simpa using hv,?_,?_,hi0⟩
 ·rcases hown.2 with ⟨h',_⟩|⟨g',cap',cur,h',_,_,hn,hc,_⟩
  ·cases h'
  ·simp only [Value.slice.injEq,true_and] at h';obtain ⟨_,rfl⟩:=h';simpa using hn
 ·rcases hown.2 with ⟨h',_⟩|⟨g',cap',cur,h',_,_,hn,hc,_⟩
  ·cases h'
  ·simp only [Value.slice.injEq,true_and] at h';obtain ⟨_,rfl⟩:=h';simpa [maxLen] using hc
theorem MC {Bm Bt:Nat} {xs:List Int} {W w1:World} {v u:Value} (ht:W.heap[Bt]? = some (.cells #[u] 68 (0,0))) (hown:W.ownsRow (Bm+1) 3 1 v xs.length (nums .i64 xs)) (hg:W.grownBy w1 v.ownBlock) :
  w1.cell? ⟨Bt,0,none⟩=some u:=by
 have hl:xs.length=(nums .i64 xs).length:=(Ee _ _).symm;have nl:=F2 (by rw [← hl];exact hown) ht (by decide);exact cell_of_one ((hg.block Bt (lt_of_block ht) (fun e=>nl e.symm)).trans ht)
set_option maxHeartbeats 4000000 in
theorem sq_step (Bm Bl Bt:Nat) (many:Int) (hM:many≤4) (hlt:Bm<Bl) (hlt2:Bm<Bt) (m:Nat) (IH:KZ Bm Bl Bt many m):KZ Bm Bl Bt many (m+1):=by
 intro low left xs w h hm h0 hL hl0 hl;have hi:=h;obtain ⟨v,hv,hmn,ht,hown⟩:=h;obtain ⟨A,c,rfl⟩:=DU hown;have cL:=cell_of_one hv;have fL:=free_of_one hv;have cM:=cell_of_one hmn;have e1:(((xs.length:Nat):Int)==many-1)=false:=by rw [beq_eq_false_iff_ne];omega
 have hxl:xs.length≤3:=by omega
 have hM1:1≤many:=by omega
 have HI:=CK hi;have HX0:Hid (¬Bt=Bl):=CK (fun e=>by subst e;rw [hv] at ht;simp at ht);have HE:=CK hm;have HIH:=CK IH;clear hi hv hmn ht hown hm IH
 go_enter Tryz.func109,Tryz.ntmps109
 go_wp2;clear cL fL cM
 go_loopw [10] (fun x wr => ∃xi:Int,x = .int .i64 xi∧low≤xi∧Hid (xi≤left+1∨xi=low)∧Hid (Gc Bm Bl Bt many xs wr)∧Hid (sqs (m+1) low left=D7 (fun x=>sqs m x (left-x*x)) (m+2) left (left+2-xi).toNat xi)∧Below Bm w wr) (fun x _=>(left+2-intOf x).toNat)
 case atStart=>exact ⟨low,rfl,Int.le_refl _,CK (.inr rfl),HI,CK rfl,Below.refl _ _⟩
 case round =>
  obtain ⟨xi,rfl,hlx,HX,HW,HF,hB⟩:=hrel;have hw:=HW.out;obtain ⟨v,hv,hmn,ht,hown⟩:=hw;obtain ⟨A,c,rfl⟩:=DU hown;have cL:=cell_of_one hv;have fL:=free_of_one hv;have cM:=cell_of_one hmn;have hx5:xi≤5001:=by rcases HX.out with h|h<;>omega
  have hs:=sq_nonneg xi;have hS:=EM (show 0≤xi by omega) hx5;have em:many-(xs.length:Int)=m+2:=by have:=HE.out;omega
  have hmm:(m:Int)+2≤4:=by have:=HE.out;omega
  have hp0:0≤xi*xi*(m+2):=Int.mul_nonneg hs (by omega);have hp1:xi*xi*(m+2)≤25010001*4:=Dx hs (by omega) (by omega) hmm;have w1:wrap64 (xi*xi)=xi*xi:=w64 (by omega) (by omega);have w2:wrap64 (many-(xs.length:Int))=m+2:=by rw [em];exact w64 (by omega) (by omega)
  have w3:wrap64 (xi*xi*(m+2))=xi*xi*(m+2):=w64 (by omega) (by omega);have HV:=CK hv;have HM:=CK hmn;have HT:=CK ht;have HO:=CK hown;have HBB:Hid (Bm+1≤wr.heap.size):=CK (lt_of_block hmn);have H88:Hid ((xs.length+1)*8≤140737488355328):=CK (by omega);clear hv hmn ht hown hS hp0 hp1
  by_cases c1:xi*xi*(m+2)≤left
  ·have hbd:=Ek (c:=(m:Int)+2) (by omega) (by omega) c1;have c1b:decide (xi*xi*((m:Int)+2)≤left)=true:=decide_eq_true c1;have C1:=CK c1;clear c1;have w4:wrap64 (left-xi*xi)=left-xi*xi:=w64 (by omega) (by omega);cases hcase:sqs m xi (left-xi*xi) with
   | some res =>
    have HY:=CK (sq_yes HIH.out (xs:=xs) (many:=many) (x:=xi) (left:=left) (res:=res) HE.out (by omega) (by omega) hbd.1 (by omega) hcase);have hfin:sqs (m+1) low left=some (xi::res):=by rw [HF.out];exact F5 (by omega) (by omega) C1.out hcase
    have HN:=CK hfin;have hne : ¬Bt=Bl:=HX0.out;have hne2 : ¬Bl=Bt:=fun h=>hne h.symm
    have hxe:xi≤left:=hbd.2;clear hcase hfin hbd
    go_wp2_with (first|(at_builtin;refine EI (w0:=wr) (Bm+1) rfl (.tmp 50) (.tmp 52) 27 3 .i64 8 rfl Tryz.underlying27 Pt (by decide) (.slice A xs.length c) xs xi rfl rfl HO.out (Below.refl _ _) HBB.out H88.out ?_;intro v1 w1 hown1 hB1 hg1 hat1;clear hat1;obtain ⟨A1,k1,rfl⟩:=DU hown1;have HV1:=CK (Lt (hg:=hg1) (hv:=by exact HV.out) (hmn:=by exact HM.out) (ht:=by exact HT.out) (hown:=by exact HO.out) (hown1:=hown1));obtain ⟨cL1,fL1⟩:=K5 (hg:=hg1) (hv:=by exact HV.out) (hown:=by exact HO.out);have cT1:=MC (u := .func (.func 109) #[] #[.pointer (some ⟨Bl,0,none⟩),.pointer (some ⟨Bm,0,none⟩),.pointer (some ⟨Bt,0,none⟩)]) (xs:=xs) (W:=wr) (v := .slice A xs.length c) HT.out HO.out hg1;clear hown1 hg1 cL fL)|(go_at_call 109;refine (HY.out _ (by simpa using HV1.out)).mono ?_;rintro e w2 ⟨rfl,hI2,hB2⟩;have HI2:=CK hI2;clear hI2))
    go_ret
    rw [HN.out];exact ⟨rfl,by simpa using HI2.out,hB.trans (((hB1.setCell (show Bm+1≤Bl by omega) _).mono (by omega)).trans (by simpa using hB2))⟩
   | none =>
    have HY:=CK (sq_no HIH.out (xs:=xs) (many:=many) (x:=xi) (left:=left) HE.out (by omega) (by omega) hbd.1 (by omega) hcase);have hfin:=(HF.out).trans (FC (by omega) (by omega) C1.out hcase);have HN:=CK hfin;have hne : ¬Bt=Bl:=HX0.out;have hne2 : ¬Bl=Bt:=fun h=>hne h.symm
    have hxe:xi≤left:=hbd.2;clear hcase hfin hbd
    go_wp2_with (first|(at_builtin;refine EI (w0:=wr) (Bm+1) rfl (.tmp 50) (.tmp 52) 27 3 .i64 8 rfl Tryz.underlying27 Pt (by decide) (.slice A xs.length c) xs xi rfl rfl HO.out (Below.refl _ _) HBB.out H88.out ?_;intro v1 w1 hown1 hB1 hg1 hat1;clear hat1;obtain ⟨A1,k1,rfl⟩:=DU hown1;have HV1:=CK (Lt (hg:=hg1) (hv:=by exact HV.out) (hmn:=by exact HM.out) (ht:=by exact HT.out) (hown:=by exact HO.out) (hown1:=hown1));obtain ⟨cL1,fL1⟩:=K5 (hg:=hg1) (hv:=by exact HV.out) (hown:=by exact HO.out);have cT1:=MC (u := .func (.func 109) #[] #[.pointer (some ⟨Bl,0,none⟩),.pointer (some ⟨Bm,0,none⟩),.pointer (some ⟨Bt,0,none⟩)]) (xs:=xs) (W:=wr) (v := .slice A xs.length c) HT.out HO.out hg1;clear hown1 hg1 cL fL)|(go_at_call 109;refine (HY.out _ (by simpa using HV1.out)).mono ?_;rintro e w2 ⟨rfl,⟨g2,k2,hv2,hk2,hk3,hI2⟩,hB2⟩;have cL2:=cell_of_one hv2;have fL2:=free_of_one hv2;have HI2:=CK hI2;have HV2:=CK hv2;clear hI2 hv2))
    go_roundw
    case rel=>exact ⟨xi+1,by go_num,by omega,CK (.inl (by omega)),CK (by have:=sq_drop (y:=xi) HI2.out (by simpa using HV2.out);simpa using this),HN,(hB.trans (((hB1.setCell (show Bm+1≤Bl by omega) _).mono (by omega)).trans (by simpa using hB2))).setCell (show Bm≤Bl by omega) _⟩
    case measure=>simp [intOf];omega
  ·have c1b:decide (xi*xi*((m:Int)+2)≤left)=false:=decide_eq_false c1;have hfin:sqs (m+1) low left=none:=by rw [HF.out];exact Ec _ c1
   have HN:=CK hfin;clear c1 hfin;go_wp2;go_ret
   rw [HN.out];exact ⟨rfl,by simpa using HW.out,hB⟩
theorem sq_all (Bm Bl Bt:Nat) (many:Int) (hM:many≤4) (hlt:Bm<Bl) (hlt2:Bm<Bt) : ∀m,KZ Bm Bl Bt many m
 | 0=>fun low left xs w h hm h0 hL hl0 hl=>sq_base Bm Bl Bt many low left xs w h (by simpa using hm) hM h0 hL hl0 hl hlt hlt2
 | m+1=>sq_step Bm Bl Bt many hM hlt hlt2 m (sq_all Bm Bl Bt many hM hlt hlt2 m)
theorem sq_start (w:World) (a1:Int):Gc w.heap.size (w.heap.size+1+1) (w.heap.size+1+1+1) a1 []
  ((((w.alloc (.cells #[.int .i64 a1] 3)).alloc (.cells #[] 3)).alloc (.cells #[.slice (some ⟨w.heap.size+1,0,none⟩) 0 0] 27)).alloc
   (.cells #[.func (.func 109) #[] #[.pointer (some ⟨w.heap.size+1+1,0,none⟩),.pointer (some ⟨w.heap.size,0,none⟩),.pointer (some ⟨w.heap.size+1+1+1,0,none⟩)]] 68)):=by
 refine ⟨.slice (some ⟨w.heap.size+1,0,none⟩) 0 0,?_,?_,?_,by simp [nums],.inr ⟨w.heap.size+1,0,#[],rfl,Nat.le_refl _,?_,Nat.le_refl _,by simp [maxLen],by simp,by simp [nums]⟩⟩
 ·refine (Below.heap_alloc _ _ _ (by simp)).trans ?_
  simpa using heap_alloc_new ((w.alloc (.cells #[.int .i64 a1] 3)).alloc (.cells #[] 3)) (.cells #[.slice (some ⟨w.heap.size+1,0,none⟩) 0 0] 27)
 ·refine (Below.heap_alloc _ _ _ (by simp<;>omega)).trans ((Below.heap_alloc _ _ _ (by simp<;>omega)).trans ((Below.heap_alloc _ _ _ (by simp)).trans ?_));exact heap_alloc_new w _
 ·simpa using heap_alloc_new (((w.alloc (.cells #[.int .i64 a1] 3)).alloc (.cells #[] 3)).alloc (.cells #[.slice (some ⟨w.heap.size+1,0,none⟩) 0 0] 27)) (.cells #[.func (.func 109) #[] #[.pointer (some ⟨w.heap.size+1+1,0,none⟩),.pointer (some ⟨w.heap.size,0,none⟩),.pointer (some ⟨w.heap.size+1+1+1,0,none⟩)]] 68)
 ·refine (Below.heap_alloc _ _ _ (by simp<;>omega)).trans ((Below.heap_alloc _ _ _ (by simp)).trans ?_)
  simpa using heap_alloc_new (w.alloc (.cells #[.int .i64 a1] 3)) (.cells #[] 3)
def Dy.f (a0 a1:Int):Option (List Int×Bool) :=
 if 1≤a1∧a1≤4 then if a0<0∨a0>2000 then some ([],false) else match sqs (a1-1).toNat 0 a0 with|some r=>some (r,true)|none=>some ([],false) else none
set_option maxHeartbeats 4000000 in
theorem Dy.calls (a0 a1:Int) (r1:List Int) (r2:Bool) (w:World) (h:Dy.f a0 a1=some (r1,r2)) :
  Calls Tryz.prog 55 #[.int .i64 a0,.int .i64 a1] w fun e w' => ∃v0_:Value,e = .returned (.tuple #[v0_,.bool r2])∧Kd.R (Kd.int .i64) 3 w' w.heap.size (fun _=>True) v0_ r1∧Below w.heap.size w w':=by
 unfold Dy.f at h
 by_cases hm:1≤a1∧a1≤4
 ·rw [if_pos hm] at h;obtain ⟨hm1,hm4⟩:=hm
  by_cases hlo:a0<0
  ·rw [if_pos (.inl hlo)] at h;have h1:decide (a0<0)=true:=decide_eq_true hlo;simp only [Option.some.injEq,Prod.mk.injEq] at h;obtain ⟨rfl,rfl⟩:=h;clear hlo
   go_enter Tryz.func55,Tryz.ntmps55
   go_wp2;go_ret2
   exact ⟨_,rfl,Kd.KY _ _ _ _ _,(Below.refl _ _).alloc (Nat.le_refl _) _⟩
  ·by_cases hhi:a0>2000
   ·rw [if_pos (.inr hhi)] at h;have h1:decide (a0<0)=false:=decide_eq_false hlo;have h2:decide (2000<a0)=true:=decide_eq_true hhi;simp only [Option.some.injEq,Prod.mk.injEq] at h;obtain ⟨rfl,rfl⟩:=h;clear hlo hhi
    go_enter Tryz.func55,Tryz.ntmps55
    go_wp2;go_ret2
    exact ⟨_,rfl,Kd.KY _ _ _ _ _,(Below.refl _ _).alloc (Nat.le_refl _) _⟩
   ·rw [if_neg (by omega)] at h;have h1:decide (a0<0)=false:=decide_eq_false hlo;have h2:decide (2000<a0)=false:=decide_eq_false hhi;have hs:=sq_all w.heap.size (w.heap.size+1+1) (w.heap.size+1+1+1) a1 hm4 (by omega) (by omega) (a1-1).toNat 0 a0 [] _ (sq_start w a1) (by simp<;>omega) (by omega) (by omega) (by omega) (by omega);simp only [List.nil_append] at hs;clear hlo hhi hm1 hm4;cases hq:sqs (a1-1).toNat 0 a0 with
    | none =>
     rw [hq] at hs h;simp only [Option.some.injEq,Prod.mk.injEq] at h;obtain ⟨rfl,rfl⟩:=h;simp only [Option.isSome_none] at hs;have HS:=CK hs;clear hs hq
     go_enter Tryz.func55,Tryz.ntmps55
     go_wp2_with (go_at_call 109;refine HS.out.mono ?_;rintro e w2 ⟨rfl,hI2,hB2⟩;clear hI2)
     go_ret2
     exact ⟨_,rfl,Kd.KY _ _ _ _ _,(((((Below.refl _ w).alloc (Nat.le_refl _) _).alloc (by simp) _).alloc (by simp<;>omega) _).alloc (by simp<;>omega) _).trans (by simpa using hB2)⟩
    | some r =>
     rw [hq] at hs h;simp only [Option.some.injEq,Prod.mk.injEq] at h;obtain ⟨rfl,rfl⟩:=h;simp only [Option.isSome_some,Option.getD_some] at hs;have HS:=CK hs;clear hs hq
     go_enter Tryz.func55,Tryz.ntmps55
     go_wp2_with (go_at_call 109;refine HS.out.mono ?_;rintro e w2 ⟨rfl,⟨v2,hv2,_,_,hown2⟩,hB2⟩;obtain ⟨A2,k2,rfl⟩:=DU hown2;have cL2:=cell_of_one hv2;clear hv2)
     go_ret2
     exact ⟨_,rfl,Kd.F9 (Jb hown2 (Nat.le_succ _)) (fun _ _=>trivial),(((((Below.refl _ w).alloc (Nat.le_refl _) _).alloc (by simp) _).alloc (by simp<;>omega) _).alloc (by simp<;>omega) _).trans (by simpa using hB2)⟩
 ·rw [if_neg hm] at h;cases h
end
def Da.f (a0:Int):Option (List Int×Bool):=(Dy.f a0 4).bind fun bt3=>(some (bt3.1,bt3.2))
theorem Da.calls (a0:Int) (r1:List Int) (r2:Bool) (w:World) (h:Da.f a0=some (r1,r2)) :
  Calls Tryz.prog 19 #[.int .i64 a0] w fun e w' => ∃v0_:Value,e = .returned (.tuple #[v0_,.bool r2])∧Kd.R (Kd.int .i64) 3 w' w.heap.size (fun _=>True) v0_ r1∧Below w.heap.size w w':=by
 have HB:=Aa.mk (Below.refl w.heap.size w);unfold Da.f at h;have H:=h;clear h;obtain ⟨t4,t5,A2,H⟩:=Zq.bp H;try dsimp only at H;obtain ⟨rfl,rfl⟩:=Zq.pi H
 go_enter Tryz.func19,Tryz.ntmps19
 go_wp2_with (((with_reducible refine Ab (f:=55) rfl ?_);refine Zq.gc (some 5) Tryz.func55 (Dy.calls _ _ _ _ _ A2.out) ?_;rintro e w3 ⟨v6,rfl,ho0,hb⟩;refine ⟨_,rfl,?_⟩;have HO7:=Zq.lw ho0;replace HB:=Zq.st hb;(try clear hb);(try clear ho0)))
 go_ret2
 exact ⟨_,Zs.auR,(Zs.mvR HO7.out),Zs.auHB⟩
end Go.Proofs.YtacfcoilmdhgnaaGreatDoor.PFnExecuteWhat
