/- A function's Lean twin and its walk, written by a program of this session. -/
import Derived.Test.YtacfcoilmdhgnaaGreatDoorYPFnExecuteWhatx1
set_option maxHeartbeats 8000000
set_option maxRecDepth 100000
namespace Go.Proofs.YtacfcoilmdhgnaaGreatDoor.PFnExecuteWhat
open Go.RowKit Go.Proofs.YtacfcoilmdhgnaaGreatDoorW.PrintWords Go.Proofs.YtacfcoilmdhgnaaGreatDoorW.PrintLast Go.Proofs.YtacfcoilmdhgnaaGreatDoorW.PrintMore
attribute [local go_sem] DN DO El En Du Dt DP DK   -- for this text's walks alone
set_option linter.unusedVariables false
set_option linter.unusedSimpArgs false
mutual
def Ax.j0:Nat→ByteArray→Bool→Bool→Option (Int)
 | 0,_,_,_=>none
 | k+1,x3,x4,x19=>if x19=true then some 99999 else Ax.l0 k x3 x4 0 (x3.size:Int) 0
def Ax.l0:Nat→ByteArray→Bool→Int→Int→Int→Option (Int)
 | 0,_,_,_,_,_=>none
 | k+1,x3,x4,x5,x21,x22=>if x22<x21 then if 0≤x22 then if x22<(x3.size:Int) then if (bt x3 x22)<48 then some 99999 else if (bt x3 x22)>57 then some 99999 else Ax.l0 k x3 x4 (wrap64 ((wrap64 (x5*10))+(((bt x3 x22)-48)%256))) x21 (wrap64 (x22+1)) else none else none else if x4=true then some (wrap64 (-x5)) else some x5
end
def Ax.f (k:Nat) (a0:ByteArray):Option (Int):=(CF.f a0 (⟨#[45]⟩:ByteArray)).bind fun bt3=>(if (bt3.1.size:Int)<1 then Ax.j0 k bt3.1 bt3.2 true else Ax.j0 k bt3.1 bt3.2 (decide ((bt3.1.size:Int)>4)))
theorem Ax.calls (k:Nat) (a0:ByteArray) (r:Int) (w:World) (h:Ax.f k a0=some r) :
  Calls Tryz.prog 96 #[.string a0] w fun e w'=>e = .returned (.int .i64 r)∧Bo w w':=by
 unfold Ax.f at h;have H:=h;clear h;obtain ⟨t14,t15,A2,H⟩:=Zq.bp H;try dsimp only at H;have HC3:=Aa.mk H;clear H
 go_enter Tryz.func96,Tryz.ntmps96
 go_upto_region 2 with (((with_reducible refine Ab (f:=144) rfl ?_);refine Zq.gp Tryz.func144 (CF.calls _ _ _ _ _ A2.out) ?_;intro nd))
 (try simp only [Act.put,List.setIfInBounds_toArray,List.set_cons_zero,List.set_cons_succ])
 go_cut [19] (fun v19 wc => ∃(kq:Nat) (x19_2:Bool),v19 = .bool x19_2∧Aa (Ax.j0 kq t14 t15 x19_2=some r)∧Aa (kq≤k)∧Bo w wc)
 case first =>
  have H:=HC3.out;clear HC3
  rcases Zq.jd H with ⟨c4b0,H⟩|⟨c4b0,H⟩
  ·have H':=Aa.mk H;clear H;go_wp2
   go_meet
   case rel=>exact ⟨_,(true),Zs.auS,H',⟨Zs.auN⟩,Zq.dr⟩
  ·have H':=Aa.mk H;clear H;go_wp2
   go_meet
   case rel=>exact ⟨_,(decide ((t14.size:Int)>4)),Zs.auS,H',⟨Zs.auN⟩,Zq.dr⟩
 case rest =>
  clear HC3
  obtain ⟨kq,x19_2,rfl,HA,HJ2,⟨mc2,rfl⟩⟩:=hcut;cases kq with
  | zero=>exact absurd HA.out (by simp [Ax.j0])
  | succ kj2 =>
   have H:=HA.out;clear HA;simp only [Ax.j0] at H
   cases x19_2
   ·replace H:=Zq.fh H;have H':=Aa.mk H;clear H;go_wp2
    go_loopg [5,22] kj2 (fun kq v5 v22 w' => ∃x5_2 x22_2:Int,v5 = .int .i64 x5_2∧v22 = .int .i64 x22_2∧Aa (Ax.l0 kq t14 t15 x5_2 (t14.size:Int) x22_2=some r)∧Aa (kq≤kj2)∧Bo w w')
    case atStart=>exact ⟨(0),(0),Zs.auS,Zs.auS,H',⟨Nat.le_refl _⟩,Zq.dr⟩
    case round =>
     clear H'
     obtain ⟨x5_2,x22_2,rfl,rfl,HA,HK2,⟨m2,rfl⟩⟩:=hrel;cases gk with
     | zero=>exact absurd HA.out (by simp [Ax.l0])
     | succ k2 =>
      have H:=HA.out;clear HA;simp only [Ax.l0] at H
      rcases Zq.jd H with ⟨c6b0,H⟩|⟨c6b0,H⟩
      ·obtain ⟨c7b0,H⟩:=Zq.pd H
       obtain ⟨c8b0,H⟩:=Zq.pd H
       rcases Zq.jd H with ⟨c10b0,H⟩|⟨c10b0,H⟩
       ·obtain rfl:=Option.some.inj H;have p9:0≤(x22_2:Int):=Zs.od;have q9:x22_2<(t14.size:Int):=Zs.od;have hx9:=Fz t14 x22_2;replace p9:=eq_true p9;replace q9:=eq_true q9;go_wp2;go_ret
        exact ⟨Zs.auS,Zq.dr⟩
       ·rcases Zq.jg H with ⟨c12b0,H⟩|⟨c12b0,H⟩
        ·obtain rfl:=Option.some.inj H;have p9:0≤(x22_2:Int):=Zs.od;have q9:x22_2<(t14.size:Int):=Zs.od;have hx9:=Fz t14 x22_2;replace p9:=eq_true p9;replace q9:=eq_true q9;have p11:0≤(x22_2:Int):=Zs.od;have q11:x22_2<(t14.size:Int):=Zs.od;have hx11:=Fz t14 x22_2;replace p11:=eq_true p11;replace q11:=eq_true q11;go_wp2;go_ret
         exact ⟨Zs.auS,Zq.dr⟩
        ·have H':=Aa.mk H;clear H;have p9:0≤(x22_2:Int):=Zs.od;have q9:x22_2<(t14.size:Int):=Zs.od;have hx9:=Fz t14 x22_2;replace p9:=eq_true p9;replace q9:=eq_true q9;have p11:0≤(x22_2:Int):=Zs.od;have q11:x22_2<(t14.size:Int):=Zs.od;have hx11:=Fz t14 x22_2;replace p11:=eq_true p11;replace q11:=eq_true q11;have p13:0≤(x22_2:Int):=Zs.od;have q13:x22_2<(t14.size:Int):=Zs.od;have hx13:=Fz t14 x22_2;replace p13:=eq_true p13;replace q13:=eq_true q13;go_wp2
         go_roundg k2
         case measure=>have:=HJ2.out;have:=HK2.out;omega
         case rel=>exact ⟨(wrap64 ((wrap64 (x5_2*10))+(((bt t14 x22_2)-48)%256))),(wrap64 (x22_2+1)),Zs.auS,Zs.auS,H',⟨by have:=HJ2.out;have:=HK2.out;omega⟩,Zq.dr⟩
      ·cases t15
       ·replace H:=Zq.fh H;obtain rfl:=Option.some.inj H;go_wp2;go_ret
        exact ⟨Zs.auS,Zq.dr⟩
       ·replace H:=Zq.th H;obtain rfl:=Option.some.inj H;go_wp2;go_ret
        exact ⟨Zs.auS,Zq.dr⟩
   ·replace H:=Zq.th H;obtain rfl:=Option.some.inj H;go_wp2;go_ret
    exact ⟨Zs.auS,Zq.dr⟩
def CG.f (k:Nat) (a0:ByteArray):Option (Int):=if a0.toList=([114]:List UInt8) then some 0 else (Ax.f k a0).bind fun t3=>(if t3=0 then some (-1) else some t3)
theorem CG.calls (k:Nat) (a0:ByteArray) (r:Int) (w:World) (h:CG.f k a0=some r) :
  Calls Tryz.prog 100 #[.string a0] w fun e w'=>e = .returned (.int .i64 r)∧Bo w w':=by
 unfold CG.f at h;have H:=h;clear h
 rcases Zq.jn H with ⟨c2b0,H⟩|⟨c2,c2b0,H⟩
 ·obtain rfl:=Option.some.inj H
  go_enter Tryz.func100,Tryz.ntmps100
  go_wp2;go_ret
  exact ⟨Zs.auS,Zq.dr⟩
 ·obtain ⟨t5,A3,H⟩:=Zs.be H
  rcases Zq.ii H with ⟨c4,H⟩|⟨c4,H⟩
  ·have c4b1:=bne_eq_false_iff_eq.mpr c4;clear c4;obtain rfl:=Option.some.inj H
   go_enter Tryz.func100,Tryz.ntmps100
   go_wp2_with (((with_reducible refine Ab (f:=96) rfl ?_);refine Zq.gp Tryz.func96 (Ax.calls _ _ _ _ A3.out) ?_;intro nd))
   go_ret
   exact ⟨Zs.auS,Zq.dr⟩
  ·have c4b1:=bne_iff_ne.mpr c4;obtain rfl:=Option.some.inj H
   go_enter Tryz.func100,Tryz.ntmps100
   go_wp2_with (((with_reducible refine Ab (f:=96) rfl ?_);refine Zq.gp Tryz.func96 (Ax.calls _ _ _ _ A3.out) ?_;intro nd))
   go_ret
   exact ⟨Zs.auS,Zq.dr⟩
def BB.f (a0:Int):Option (Int):=some (mx a0 (wrap64 (-a0)))
theorem BB.calls (a0 r:Int) (w:World) (h:BB.f a0=some r) :
  Calls Tryz.prog 112 #[.int .i64 a0] w fun e w'=>e = .returned (.int .i64 r)∧Below w.heap.size w w':=by
 have HB:=Aa.mk (Below.refl w.heap.size w);unfold BB.f at h;have H:=h;clear h;obtain ⟨ji2,hji2⟩ : ∃j_:Int,(mx a0 (wrap64 (-a0)))=j_:=⟨_,rfl⟩
 replace H:(some ji2)=some r:=by first|(rw [hji2] at H;exact H)|(simp only [hji2] at H ⊢;exact H)
 have hji2_:(if a0<(wrap64 (-a0)) then wrap64 (-a0) else a0)=ji2:=hji2;obtain rfl:=Option.some.inj H
 go_enter Tryz.func112,Tryz.ntmps112
 go_wp2;go_ret
 exact ⟨by first|rfl|(simp [Cv,Cw]<;>rfl)|(simp only [← hji2];first|rfl|(simp [Cv,Cw]<;>rfl))|(simp [*,Cv,Cw]<;>rfl),Zs.auHB⟩
def Am.l0:Nat→List Int→List Int→Int→Int→Option (Bool)
 | 0,_,_,_,_=>none
 | k+1,x0,x5,x6,x7=>if x7<x6 then if 0≤x7 then if x7<(x5.length:Int) then if (rd x5 x7)=0 then some false else (BB.f (rd x5 x7)).bind fun t3=>(if t3>30 then some false else Am.l0 k x0 x5 x6 (wrap64 (x7+1))) else none else none else if (x0.length:Int)≥1 then some (decide ((x0.length:Int)≤4)) else some false
def Am.f (k:Nat) (l0:List Int):Option (Bool):=Am.l0 k l0 l0 (l0.length:Int) 0
theorem Am.calls (k:Nat) (A0:Option Addr) (c0:Nat) (l0:List Int) (r:Bool) (w:World) (hr0:Kd.C (Kd.int .i64) w A0 l0.length l0) (hc0:l0.length≤c0) (h:Am.f k l0=some r) :
  Calls Tryz.prog 59 #[.slice A0 l0.length c0] w fun e w'=>e = .returned (.bool r)∧Below w.heap.size w w':=by
 have HR0:=Aa.mk hr0;have HC0:=Aa.mk hc0;clear hr0 hc0;have HB:=Aa.mk (Below.refl w.heap.size w);unfold Am.f at h;have H:=h;clear h;have H':=Aa.mk H;clear H
 go_enter Tryz.func59,Tryz.ntmps59
 go_wp2
 go_loopg [7] k (fun kq v7 w' => ∃x7_1:Int,v7 = .int .i64 x7_1∧Aa (Am.l0 kq l0 l0 (l0.length:Int) x7_1=some r)∧Aa (kq≤k)∧Aa (Below w.heap.size w w'))
 case atStart=>exact ⟨(0),Zs.auS,H',⟨Nat.le_refl _⟩,⟨Zs.auHB⟩⟩
 case round =>
  clear H';obtain ⟨x7_1,rfl,HA,HK1,HB⟩:=hrel;cases gk with
  | zero=>exact absurd HA.out (by simp [Am.l0])
  | succ k1 =>
   have H:=HA.out;clear HA;simp only [Am.l0] at H
   rcases Zq.jd H with ⟨c2b0,H⟩|⟨c2b0,H⟩
   ·obtain ⟨c3b0,H⟩:=Zq.pd H
    obtain ⟨c4b0,H⟩:=Zq.pd H
    rcases Zq.jn H with ⟨c5b0,H⟩|⟨c5,c5b0,H⟩
    ·obtain rfl:=Option.some.inj H;obtain ⟨ad11,e11,hx11_0,p11,q11⟩:=Zq.at_ HR0.out x7_1;cases e11;replace hx11_0:=Zq.ce HB.out hx11_0;go_wp2;go_ret
     exact ⟨Zs.auR,Zs.auHB⟩
    ·obtain ⟨t12,A6,H⟩:=Zs.be H
     rcases Zq.jg H with ⟨c7b0,H⟩|⟨c7b0,H⟩
     ·obtain rfl:=Option.some.inj H;obtain ⟨ad11,e11,hx11_0,p11,q11⟩:=Zq.at_ HR0.out x7_1;cases e11;replace hx11_0:=Zq.ce HB.out hx11_0
      go_wp2_with ((go_at_call 112;(with_reducible refine (BB.calls (rd l0 x7_1) t12 _ A6.out).mono ?_);rintro e w8 ⟨rfl,hb⟩;replace HB:=Zq.st hb;(try clear hb)))
      go_ret
      exact ⟨Zs.auR,Zs.auHB⟩
     ·have H':=Aa.mk H;clear H;obtain ⟨ad11,e11,hx11_0,p11,q11⟩:=Zq.at_ HR0.out x7_1;cases e11;replace hx11_0:=Zq.ce HB.out hx11_0
      go_wp2_with ((go_at_call 112;(with_reducible refine (BB.calls (rd l0 x7_1) t12 _ A6.out).mono ?_);rintro e w9 ⟨rfl,hb⟩;replace HB:=Zq.st hb;(try clear hb)))
      go_roundg k1
      case measure=>have:=HK1.out;omega
      case rel=>exact ⟨(wrap64 (x7_1+1)),Zs.auS,H',⟨by have:=HK1.out;omega⟩,⟨Zs.auHB⟩⟩
   ·rcases Zq.jh H with ⟨c10b0,H⟩|⟨c10b0,H⟩
    ·obtain rfl:=Option.some.inj H;go_wp2;go_ret
     exact ⟨Zs.auR,Zs.auHB⟩
    ·obtain rfl:=Option.some.inj H;go_wp2;go_ret
     exact ⟨Zs.auR,Zs.auHB⟩
def CO.f (a0:Int):Option (Bool):=if a0≥(-5000) then some (decide (a0≤5000)) else some false
theorem CO.calls (a0:Int) (r:Bool) (w:World) (h:CO.f a0=some r) :
  Calls Tryz.prog 60 #[.int .i64 a0] w fun e w'=>e = .returned (.bool r)∧Bo w w':=by
 unfold CO.f at h;have H:=h;clear h
 rcases Zq.jh H with ⟨c2b0,H⟩|⟨c2b0,H⟩
 ·obtain rfl:=Option.some.inj H
  go_enter Tryz.func60,Tryz.ntmps60
  go_wp2;go_ret
  exact ⟨Zs.auS,Zq.dr⟩
 ·obtain rfl:=Option.some.inj H
  go_enter Tryz.func60,Tryz.ntmps60
  go_wp2;go_ret
  exact ⟨Zs.auS,Zq.dr⟩
def BX.l0:Nat→Int→Int→Int→Option (Int×Int)
 | 0,_,_,_=>none
 | k+1,x0,x1,x6=>if x1=0 then none else if (Int.tmod x0 x1)=0 then BX.l0 k (wrap64 (Int.tdiv x0 x1)) x1 (wrap64 (x6+1)) else some (x6,x0)
def BX.f (k:Nat) (a0 a1:Int):Option (Int×Int):=BX.l0 k a0 a1 0
theorem BX.calls (k:Nat) (a0 a1 r1 r2:Int) (w:World) (h:BX.f k a0 a1=some (r1,r2)) :
  Calls Tryz.prog 117 #[.int .i64 a0,.int .i64 a1] w fun e w'=>e = .returned (.tuple #[.int .i64 r1,.int .i64 r2])∧Bo w w':=by
 unfold BX.f at h;have H:=h;clear h;have H':=Aa.mk H;clear H
 go_enter Tryz.func117,Tryz.ntmps117
 go_wp2
 go_loopg [0,6] k (fun kq v0 v6 w' => ∃x0_1 x6_1:Int,v0 = .int .i64 x0_1∧v6 = .int .i64 x6_1∧Aa (BX.l0 kq x0_1 a1 x6_1=some (r1,r2))∧Aa (kq≤k)∧Bo w w')
 case atStart=>exact ⟨(a0),(0),Zs.auS,Zs.auS,H',⟨Nat.le_refl _⟩,Zq.dr⟩
 case round =>
  clear H'
  obtain ⟨x0_1,x6_1,rfl,rfl,HA,HK1,⟨m1,rfl⟩⟩:=hrel;cases gk with
  | zero=>exact absurd HA.out (by simp [BX.l0])
  | succ k1 =>
   have H:=HA.out;clear HA;simp only [BX.l0] at H
   rcases Zq.ii H with ⟨c3,H⟩|⟨c3,H⟩
   ·exact absurd H (by simp)
   ·rcases Zq.jn H with ⟨c4b0,H⟩|⟨c4,c4b0,H⟩
    ·have H':=Aa.mk H;clear H;go_wp2
     go_roundg k1
     case measure=>have:=HK1.out;omega
     case rel=>exact ⟨(wrap64 (Int.tdiv x0_1 a1)),(wrap64 (x6_1+1)),Zs.auS,Zs.auS,H',⟨by have:=HK1.out;omega⟩,Zq.dr⟩
    ·obtain ⟨rfl,rfl⟩:=Zq.pi H;go_wp2;go_ret2
     exact ⟨Zs.auS,Zq.dr⟩
def Bw.l0:Nat→Int→List Int→Int→Option (List Int)
 | 0,_,_,_=>none
 | k+1,x0,x3,x4=>if (wrap64 (x4*x4))≤x0 then if x4=0 then none else if (Int.tmod x0 x4)=0 then if x3.length<17592186044416 then (BX.f k x0 x4).bind fun bt5=>(Bw.l0 k bt5.2 (x3++[x4]) (wrap64 (x4+1))) else none else Bw.l0 k x0 x3 (wrap64 (x4+1)) else if x0>1 then if x3.length<17592186044416 then some (x3++[x0]) else none else some x3
def Bw.f (k:Nat) (a0:Int):Option (List Int):=(BB.f a0).bind fun t3=>(Bw.l0 k t3 (([]:List Int)) 2)
theorem Bw.calls (k:Nat) (a0:Int) (r:List Int) (w:World) (h:Bw.f k a0=some r) :
  Calls Tryz.prog 113 #[.int .i64 a0] w fun e w' => ∃v0_:Value,e = .returned (v0_)∧Kd.R (Kd.int .i64) 3 w' w.heap.size (fun _=>True) v0_ r∧Below w.heap.size w w':=by
 have HB:=Aa.mk (Below.refl w.heap.size w);unfold Bw.f at h;have H:=h;clear h;obtain ⟨y15,hyy⟩ : ∃y_:List Int,y_=(([]:List Int)):=⟨_,rfl⟩
 replace H:((BB.f a0).bind fun t18=>(Bw.l0 k t18 y15 2))=some r:=Zs.auY
 have Ny15:=Aa.mk hyy;clear hyy;obtain ⟨t18,A2,H⟩:=Zs.be H;have H':=Aa.mk H;clear H
 go_enter Tryz.func113,Tryz.ntmps113
 go_wp2_with (first|((with_reducible refine Bb (N:=5) rfl ?_);refine Zq.li ([]:List Int) ?_;intro v16 w3 ho4 hb;(first|rw [← Ny15.out] at ho4|(simp only [Int.reduceToNat] at ho4;rw [← Ny15.out] at ho4));have HO17:=Zq.lw ho4;replace HB:=Zq.st hb;clear hb ho4)|((with_reducible refine Ab (f:=112) rfl ?_);refine Zq.gb Tryz.func112 (BB.calls _ _ _ A2.out) ?_;intro w5 hb;replace HO17:=Zq.rb HO17.out hb;replace HB:=Zq.st hb;(try clear hb)))
 go_loopg [0,3,4] k (fun kq v0 v3 v4 w' => ∃(x0_1:Int) (x3_1:List Int) (x4_1:Int),v0 = .int .i64 x0_1∧v4 = .int .i64 x4_1∧Aa (Bw.l0 kq x0_1 x3_1 x4_1=some r)∧Aa (kq≤k)∧Aa (Kd.R (Kd.int .i64) 3 w' w.heap.size (fun _=>True) v3 x3_1)∧Aa (Below w.heap.size w w'))
 case atStart=>exact ⟨(t18),(y15),(2),Zs.auS,Zs.auS,H',⟨Nat.le_refl _⟩,⟨(Zs.mvR HO17.out)⟩,⟨Zs.auHB⟩⟩
 case round =>
  clear H'
  obtain ⟨x0_1,x3_1,x4_1,rfl,rfl,HA,HK1,HO_3,HB⟩:=hrel;cases gk with
  | zero=>exact absurd HA.out (by simp [Bw.l0])
  | succ k1 =>
   have H:=HA.out;clear HA;simp only [Bw.l0] at H
   rcases Zq.jd H with ⟨c6b0,H⟩|⟨c6b0,H⟩
   ·rcases Zq.ii H with ⟨c7,H⟩|⟨c7,H⟩
    ·exact absurd H (by simp)
    ·rcases Zq.jn H with ⟨c8b0,H⟩|⟨c8,c8b0,H⟩
     ·obtain ⟨c9,H⟩:=Zq.ip H;have LMc9:=Aa.mk c9;clear c9;generalize hyy:(x3_1++[x4_1]:List Int)=y19 at H;have Ny19:=Aa.mk hyy.symm;clear hyy;obtain ⟨t22,t23,A10,H⟩:=Zq.bp H;try dsimp only at H;have H':=Aa.mk H;clear H
      go_wp2_with (first|((with_reducible refine AY (b := .append) (xs:=#[.tmp 19,.tmp 21]) rfl ?_);at_builtin;refine Zq.ap (.tmp 19) (.tmp 21) 27 Tryz.underlying27 DS u3 x3_1 x4_1 (fun _=>True) (fun _ _=>trivial) ((Zs.mvR HO_3.out)) LMc9.out ?_;intro v20 w11 ho hb hg hat;rw [← Ny19.out] at ho;replace HB:=Aa.mk (hb);have HO21:=Aa.mk (ho);clear HO_3;clear ho hb hg hat)|((with_reducible refine Ab (f:=117) rfl ?_);refine Zq.gp Tryz.func117 (BX.calls _ _ _ _ _ _ A10.out) ?_;intro nd))
      go_roundg k1
      case measure=>have:=HK1.out;omega
      case rel=>exact ⟨(t23),(y19),(wrap64 (x4_1+1)),Zs.auS,Zs.auS,H',⟨by have:=HK1.out;omega⟩,⟨(Zs.mvR HO21.out)⟩,⟨Zs.auHB⟩⟩
     ·have H':=Aa.mk H;clear H;go_wp2
      go_roundg k1
      case measure=>have:=HK1.out;omega
      case rel=>exact ⟨(x0_1),(x3_1),(wrap64 (x4_1+1)),Zs.auS,Zs.auS,H',⟨by have:=HK1.out;omega⟩,⟨(Zs.mvR HO_3.out)⟩,⟨Zs.auHB⟩⟩
   ·rcases Zq.jg H with ⟨c12b0,H⟩|⟨c12b0,H⟩
    ·obtain ⟨c13,H⟩:=Zq.ip H;have LMc13:=Aa.mk c13;clear c13;generalize hyy:(x3_1++[x0_1]:List Int)=y24 at H;have Ny24:=Aa.mk hyy.symm;clear hyy;obtain rfl:=Option.some.inj H
     go_wp2_with (((with_reducible refine AY (b := .append) (xs:=#[.tmp 31,.tmp 33]) rfl ?_);at_builtin;refine Zq.ap (.tmp 31) (.tmp 33) 27 Tryz.underlying27 DS u3 x3_1 x0_1 (fun _=>True) (fun _ _=>trivial) ((Zs.mvR HO_3.out)) LMc13.out ?_;intro v25 w14 ho hb hg hat;rw [← Ny24.out] at ho;replace HB:=Aa.mk (hb);have HO26:=Aa.mk (ho);clear HO_3;clear ho hb hg hat))
     go_ret
     exact ⟨_,Zs.auR,(Zs.mvR HO26.out),Zs.auHB⟩
    ·obtain rfl:=Option.some.inj H;go_wp2;go_ret
     exact ⟨_,Zs.auR,(Zs.mvR HO_3.out),Zs.auHB⟩
mutual
def AW.l0:Nat→Int→Int→List Int→Int→Int→Option (Int×Int)
 | 0,_,_,_,_,_=>none
 | k+1,x0,x4,x8,x9,x10=>if x10<x9 then if 0≤x10 then if x10<(x8.length:Int) then AW.l1 k x0 x4 (rd x8 x10) x8 x9 x10 else none else none else some (x0,x4)
def AW.l1:Nat→Int→Int→Int→List Int→Int→Int→Option (Int×Int)
 | 0,_,_,_,_,_,_=>none
 | k+1,x0,x4,x6,x8,x9,x10=>if (wrap64 (x6*x6))=0 then none else if (Int.tmod x0 (wrap64 (x6*x6)))=0 then AW.l1 k (wrap64 (Int.tdiv x0 (wrap64 (x6*x6)))) (wrap64 (x4*x6)) x6 x8 x9 x10 else AW.l0 k x0 x4 x8 x9 (wrap64 (x10+1))
end
def AW.f (k:Nat) (a0:Int):Option (Int×Int):=(Bw.f k a0).bind fun t3=>(AW.l0 k a0 1 t3 (t3.length:Int) 0)
theorem AW.calls (k:Nat) (a0 r1 r2:Int) (w:World) (h:AW.f k a0=some (r1,r2)) :
  Calls Tryz.prog 61 #[.int .i64 a0] w fun e w'=>e = .returned (.tuple #[.int .i64 r1,.int .i64 r2])∧Below w.heap.size w w':=by
 have HB:=Aa.mk (Below.refl w.heap.size w);unfold AW.f at h;have H:=h;clear h;obtain ⟨t11,A2,H⟩:=Zs.be H;have H':=Aa.mk H;clear H
 go_enter Tryz.func61,Tryz.ntmps61
 go_wp2_with (((with_reducible refine Ab (f:=113) rfl ?_);refine Zq.gc (some 8) Tryz.func113 (Bw.calls _ _ _ _ A2.out) ?_;rintro e w3 ⟨v12,rfl,ho0,hb⟩;refine ⟨_,rfl,?_⟩;have HO13:=Zq.lw ho0;replace HB:=Zq.st hb;(try clear hb);(try clear ho0);obtain ⟨Ao4,co4,eo4⟩:=Kd.Az HO13.out;subst eo4))
 go_loopg [0,4,10] k (fun kq v0 v4 v10 w' => ∃x0_1 x4_1 x10_1:Int,v0 = .int .i64 x0_1∧v4 = .int .i64 x4_1∧v10 = .int .i64 x10_1∧Aa (AW.l0 kq x0_1 x4_1 t11 (t11.length:Int) x10_1=some (r1,r2))∧Aa (kq≤k)∧Aa (Kd.R (Kd.int .i64) 3 w' w.heap.size (fun _=>True) (.slice Ao4 t11.length co4) t11)∧Aa (Below w.heap.size w w'))
 case atStart=>exact ⟨(a0),(1),(0),Zs.auS,Zs.auS,Zs.auS,H',⟨Nat.le_refl _⟩,⟨(Zs.mvR HO13.out)⟩,⟨Zs.auHB⟩⟩
 case round =>
  clear H'
  obtain ⟨x0_1,x4_1,x10_1,rfl,rfl,rfl,HA,HK1,HO_8,HB⟩:=hrel;cases gk with
  | zero=>exact absurd HA.out (by simp [AW.l0])
  | succ k1 =>
   have H:=HA.out;clear HA;simp only [AW.l0] at H
   rcases Zq.jd H with ⟨c5b0,H⟩|⟨c5b0,H⟩
   ·obtain ⟨c6b0,H⟩:=Zq.pd H
    obtain ⟨c7b0,H⟩:=Zq.pd H;have H':=Aa.mk H;clear H;obtain ⟨ad14,e14,hx14_0,p14,q14⟩:=Zq.at_ (Kd.Ac HO_8.out).2.2 x10_1;cases e14;go_wp2
    go_loopg [0,4] k1 (fun kq v0 v4 w' => ∃x0_2 x4_2:Int,v0 = .int .i64 x0_2∧v4 = .int .i64 x4_2∧Aa (AW.l1 kq x0_2 x4_2 (rd t11 x10_1) t11 (t11.length:Int) x10_1=some (r1,r2))∧Aa (kq≤k1)∧Aa (Kd.R (Kd.int .i64) 3 w' w.heap.size (fun _=>True) (.slice (some ad14) t11.length co4) t11)∧Aa (Below w.heap.size w w'))
    case atStart=>exact ⟨(x0_1),(x4_1),Zs.auS,Zs.auS,H',⟨Nat.le_refl _⟩,⟨(Zs.mvR HO_8.out)⟩,⟨Zs.auHB⟩⟩
    case round =>
     clear H'
     obtain ⟨x0_2,x4_2,rfl,rfl,HA,HK2,HO_8,HB⟩:=hrel;cases gk with
     | zero=>exact absurd HA.out (by simp [AW.l1])
     | succ k2 =>
      have H:=HA.out;clear HA;simp only [AW.l1] at H
      rcases Zq.ii H with ⟨c8,H⟩|⟨c8,H⟩
      ·exact absurd H (by simp)
      ·rcases Zq.jn H with ⟨c9b0,H⟩|⟨c9,c9b0,H⟩
       ·have H':=Aa.mk H;clear H;go_wp2
        go_roundg k2
        case measure=>have:=HK1.out;have:=HK2.out;omega
        case rel=>exact ⟨(wrap64 (Int.tdiv x0_2 (wrap64 ((rd t11 x10_1)*(rd t11 x10_1))))),(wrap64 (x4_2*(rd t11 x10_1))),Zs.auS,Zs.auS,H',⟨by have:=HK1.out;have:=HK2.out;omega⟩,⟨(Zs.mvR HO_8.out)⟩,⟨Zs.auHB⟩⟩
       ·have H':=Aa.mk H;clear H;go_wp2
        go_roundg k2
        case measure=>have:=HK1.out;have:=HK2.out;omega
        case rel=>exact ⟨(x0_2),(x4_2),(wrap64 (x10_1+1)),Zs.auS,Zs.auS,Zs.auS,H',⟨by have:=HK1.out;have:=HK2.out;omega⟩,⟨(Zs.mvR HO_8.out)⟩,⟨Zs.auHB⟩⟩
   ·obtain ⟨rfl,rfl⟩:=Zq.pi H;go_wp2;go_ret2
    exact ⟨Zs.auR,Zs.auHB⟩
mutual
def AU.j0:Nat→List Int→Int→Bool→Option (List Int×Bool)
 | 0,_,_,_=>none
 | k+1,x0,x1,x22=>if x22=true then some (([]:List Int),false) else AU.l0 k x1 (([]:List Int)) x0 (x0.length:Int) 0
def AU.l0:Nat→Int→List Int→List Int→Int→Int→Option (List Int×Bool)
 | 0,_,_,_,_,_=>none
 | k+1,x1,x6,x24,x25,x26=>if x26<x25 then if 0≤x26 then if x26<(x24.length:Int) then (AW.f k (wrap64 ((rd x24 x26)*x1))).bind fun bt3=>(if x6.length<17592186044416 then AU.l0 k x1 (x6++[bt3.1]) x24 x25 (wrap64 (x26+1)) else none) else none else none else (Am.f k x6).bind fun t4=>(if t4=true then some (x6,true) else some (([]:List Int),false))
end
def AU.f (k:Nat) (l0:List Int) (a1:Int):Option (List Int×Bool):=(Am.f k l0).bind fun t3=>(if t3=true then if a1=0 then AU.j0 k l0 a1 true else (CO.f a1).bind fun t4=>(AU.j0 k l0 a1 (!t4)) else AU.j0 k l0 a1 true)
theorem AU.calls (k:Nat) (A0:Option Addr) (c0:Nat) (l0:List Int) (a1:Int) (r1:List Int) (r2:Bool) (w:World) (hr0:Kd.C (Kd.int .i64) w A0 l0.length l0) (hc0:l0.length≤c0) (h:AU.f k l0 a1=some (r1,r2)) :
  Calls Tryz.prog 27 #[.slice A0 l0.length c0,.int .i64 a1] w fun e w' => ∃v0_:Value,e = .returned (.tuple #[v0_,.bool r2])∧Kd.R (Kd.int .i64) 3 w' w.heap.size (fun _=>True) v0_ r1∧Below w.heap.size w w':=by
 have HR0:=Aa.mk hr0;have HC0:=Aa.mk hc0;clear hr0 hc0;have HB:=Aa.mk (Below.refl w.heap.size w);unfold AU.f at h;have H:=h;clear h;have HC3:=Aa.mk H;clear H
 go_enter Tryz.func27,Tryz.ntmps27
 go_upto_region 1 with (fail)
 go_cut [22] (fun v22 wc => ∃(kq:Nat) (x22_2:Bool),v22 = .bool x22_2∧Aa (AU.j0 kq l0 a1 x22_2=some (r1,r2))∧Aa (kq≤k)∧Aa (Below w.heap.size w wc))
 case first =>
  have H:=HC3.out;clear HC3;obtain ⟨t5,A4,H⟩:=Zs.be H
  cases t5
  ·replace H:=Zq.fh H;have H':=Aa.mk H;clear H
   go_wp2_with (((with_reducible refine Ab (f:=59) rfl ?_);refine Zq.gb Tryz.func59 (Am.calls _ _ _ _ _ _ (Zs.mvC ((Kd.BF HR0.out HB.out))) HC0.out A4.out) ?_;intro w10 hb;replace HB:=Zq.st hb;(try clear hb)))
   go_meet
   case rel=>exact ⟨_,(true),Zs.auS,H',⟨Zs.auN⟩,⟨Zs.auHB⟩⟩
  ·replace H:=Zq.th H
   rcases Zq.jn H with ⟨c6b0,H⟩|⟨c6,c6b0,H⟩
   ·have H':=Aa.mk H;clear H
    go_wp2_with (((with_reducible refine Ab (f:=59) rfl ?_);refine Zq.gb Tryz.func59 (Am.calls _ _ _ _ _ _ (Zs.mvC ((Kd.BF HR0.out HB.out))) HC0.out A4.out) ?_;intro w7 hb;replace HB:=Zq.st hb;(try clear hb)))
    go_meet
    case rel=>exact ⟨_,(true),Zs.auS,H',⟨Zs.auN⟩,⟨Zs.auHB⟩⟩
   ·obtain ⟨t11,A8,H⟩:=Zs.be H;have H':=Aa.mk H;clear H
    go_wp2_with (first|((with_reducible refine Ab (f:=59) rfl ?_);refine Zq.gb Tryz.func59 (Am.calls _ _ _ _ _ _ (Zs.mvC ((Kd.BF HR0.out HB.out))) HC0.out A4.out) ?_;intro w9 hb;replace HB:=Zq.st hb;(try clear hb))|(go_at_call 60;(with_reducible refine (CO.calls a1 t11 _ A8.out).mono ?_);rintro e w' ⟨rfl,⟨nd,rfl⟩⟩))
    go_meet
    case rel=>exact ⟨_,(!t11),Zs.auS,H',⟨Zs.auN⟩,⟨Zs.auHB⟩⟩
 case rest =>
  clear HC3
  obtain ⟨kq,x22_2,rfl,HA,HJ2,HB⟩:=hcut;cases kq with
  | zero=>exact absurd HA.out (by simp [AU.j0])
  | succ kj2 =>
   have H:=HA.out;clear HA;simp only [AU.j0] at H
   cases x22_2
   ·replace H:=Zq.fh H;obtain ⟨y28,hyy⟩ : ∃y_:List Int,y_=(([]:List Int)):=⟨_,rfl⟩
    replace H:(AU.l0 kj2 a1 y28 l0 (l0.length:Int) 0)=some (r1,r2):=Zs.auY
    have Ny28:=Aa.mk hyy;clear hyy;have H':=Aa.mk H;clear H
    go_wp2_with (((with_reducible refine Bb (N:=23) rfl ?_);refine Zq.li ([]:List Int) ?_;intro v29 w12 ho13 hb;(first|rw [← Ny28.out] at ho13|(simp only [Int.reduceToNat] at ho13;rw [← Ny28.out] at ho13));have HO30:=Zq.lw ho13;replace HB:=Zq.st hb;clear hb ho13))
    go_loopg [6,26] kj2 (fun kq v6 v26 w' => ∃(x6_2:List Int) (x26_2:Int),v26 = .int .i64 x26_2∧Aa (AU.l0 kq a1 x6_2 l0 (l0.length:Int) x26_2=some (r1,r2))∧Aa (kq≤kj2)∧Aa (Kd.R (Kd.int .i64) 3 w' w.heap.size (fun _=>True) v6 x6_2)∧Aa (Below w.heap.size w w'))
    case atStart=>exact ⟨(y28),(0),Zs.auS,H',⟨Nat.le_refl _⟩,⟨(Zs.mvR HO30.out)⟩,⟨Zs.auHB⟩⟩
    case round =>
     clear H'
     obtain ⟨x6_2,x26_2,rfl,HA,HK2,HO_6,HB⟩:=hrel;cases gk with
     | zero=>exact absurd HA.out (by simp [AU.l0])
     | succ k2 =>
      have H:=HA.out;clear HA;simp only [AU.l0] at H
      rcases Zq.jd H with ⟨c14b0,H⟩|⟨c14b0,H⟩
      ·obtain ⟨c15b0,H⟩:=Zq.pd H
       obtain ⟨c16b0,H⟩:=Zq.pd H;obtain ⟨t32,t33,A17,H⟩:=Zq.bp H;try dsimp only at H
       obtain ⟨c18,H⟩:=Zq.ip H;have LMc18:=Aa.mk c18;clear c18;generalize hyy:(x6_2++[t32]:List Int)=y34 at H;have Ny34:=Aa.mk hyy.symm;clear hyy;have H':=Aa.mk H;clear H;obtain ⟨ad31,e31,hx31_0,p31,q31⟩:=Zq.at_ HR0.out x26_2;cases e31;replace hx31_0:=Zq.ce HB.out hx31_0
       go_wp2_with (first|((with_reducible refine Ab (f:=61) rfl ?_);refine Zq.gb Tryz.func61 (AW.calls _ _ _ _ _ A17.out) ?_;intro w19 hb;replace HO_6:=Zq.rb HO_6.out hb;replace HB:=Zq.st hb;(try clear hb))|((with_reducible refine AY (b := .append) (xs:=#[.tmp 37,.tmp 39]) rfl ?_);at_builtin;refine Zq.ap (.tmp 37) (.tmp 39) 27 Tryz.underlying27 DS u6 x6_2 t32 (fun _=>True) (fun _ _=>trivial) ((Zs.mvR HO_6.out)) LMc18.out ?_;intro v35 w20 ho hb hg hat;rw [← Ny34.out] at ho;replace HB:=Aa.mk (hb);have HO36:=Aa.mk (ho);clear HO_6;clear ho hb hg hat))
       go_roundg k2
       case measure=>have:=HJ2.out;have:=HK2.out;omega
       case rel=>exact ⟨(y34),(wrap64 (x26_2+1)),Zs.auS,H',⟨by have:=HJ2.out;have:=HK2.out;omega⟩,⟨(Zs.mvR HO36.out)⟩,⟨Zs.auHB⟩⟩
      ·obtain ⟨t37,A21,H⟩:=Zs.be H
       cases t37
       ·replace H:=Zq.fh H;obtain ⟨rfl,rfl⟩:=Zq.pi H;obtain ⟨Ao25,co25,eo25⟩:=Kd.Az HO_6.out;subst eo25
        go_wp2_with (((with_reducible refine Ab (f:=59) rfl ?_);refine Zq.gb Tryz.func59 (Am.calls _ _ _ _ _ _ (Zs.mvC ((Kd.Ac HO_6.out).2.2)) ((Kd.Ac HO_6.out).2.1) A21.out) ?_;intro w26 hb;replace HO_6:=Zq.rb HO_6.out hb;replace HB:=Zq.st hb;(try clear hb)))
        go_ret2
        exact ⟨_,Zs.auR,Zq.nl,Zs.auHB⟩
       ·replace H:=Zq.th H;obtain ⟨rfl,rfl⟩:=Zq.pi H;obtain ⟨Ao23,co23,eo23⟩:=Kd.Az HO_6.out;subst eo23
        go_wp2_with (((with_reducible refine Ab (f:=59) rfl ?_);refine Zq.gb Tryz.func59 (Am.calls _ _ _ _ _ _ (Zs.mvC ((Kd.Ac HO_6.out).2.2)) ((Kd.Ac HO_6.out).2.1) A21.out) ?_;intro w24 hb;replace HO_6:=Zq.rb HO_6.out hb;replace HB:=Zq.st hb;(try clear hb)))
        go_ret2
        exact ⟨_,Zs.auR,(Zs.mvR HO_6.out),Zs.auHB⟩
   ·replace H:=Zq.th H;obtain ⟨rfl,rfl⟩:=Zq.pi H;go_wp2;go_ret2
    exact ⟨_,Zs.auR,Zq.nl,Zs.auHB⟩
def CX.f (k:Nat) (l0:List Int):Option (List Int×Bool):=(AU.f k l0 1).bind fun bt3=>(some (bt3.1,bt3.2))
theorem CX.calls (k:Nat) (A0:Option Addr) (c0:Nat) (l0 r1:List Int) (r2:Bool) (w:World) (hr0:Kd.C (Kd.int .i64) w A0 l0.length l0) (hc0:l0.length≤c0) (h:CX.f k l0=some (r1,r2)) :
  Calls Tryz.prog 98 #[.slice A0 l0.length c0] w fun e w' => ∃v0_:Value,e = .returned (.tuple #[v0_,.bool r2])∧Kd.R (Kd.int .i64) 3 w' w.heap.size (fun _=>True) v0_ r1∧Below w.heap.size w w':=by
 have HR0:=Aa.mk hr0;have HC0:=Aa.mk hc0;clear hr0 hc0;have HB:=Aa.mk (Below.refl w.heap.size w);unfold CX.f at h;have H:=h;clear h;obtain ⟨t4,t5,A2,H⟩:=Zq.bp H;try dsimp only at H;obtain ⟨rfl,rfl⟩:=Zq.pi H
 go_enter Tryz.func98,Tryz.ntmps98
 go_wp2_with (((with_reducible refine Ab (f:=27) rfl ?_);refine Zq.gc (some 5) Tryz.func27 (AU.calls _ _ _ _ _ _ _ _ (Zs.mvC (HR0.out)) HC0.out A2.out) ?_;rintro e w3 ⟨v6,rfl,ho0,hb⟩;refine ⟨_,rfl,?_⟩;have HO7:=Zq.lw ho0;replace HB:=Zq.st hb;(try clear hb);(try clear ho0)))
 go_ret2
 exact ⟨_,Zs.auR,(Zs.mvR HO7.out),Zs.auHB⟩
section
open Locg
def GW (w:World):Prop:=(∃m:Int,w.cell? ⟨0,0,none⟩=some (.int .i64 m))∧Lib.TabIs Tryz.prog w "internal/strconv.uint64pow10" .u64 Lib.pow10Tab
theorem Oo:Tryz.prog.globalNamed "internal/strconv.uint64pow10" = some 1:=by kernel_rfl
theorem GW.below {w w':World} (h:GW w) (hb:Below w.heap.size w w'):GW w':=by
 obtain ⟨⟨m,hm⟩,ht⟩:=h;refine ⟨⟨m,(hb.cell (World.block_lt_of_cell? w _ hm)).trans hm⟩,?_⟩
 unfold Lib.TabIs World.var? at ht ⊢
 rw [Oo] at ht ⊢;simp only [Option.bind_some] at ht ⊢
 have hlt:1<w.heap.size:=by
  rcases Nat.lt_or_ge 1 w.heap.size with h'|h'
  ·exact h'
  ·rw [Array.getElem?_eq_none h'] at ht;cases ht
 rw [hb.block _ hlt];exact ht
def strconv_Itoa.f (a0:Int):Option ByteArray:=if -9223372036854775808≤a0∧a0≤9223372036854775807 then some ⟨(Lib.itoa a0).toArray⟩ else none
theorem strconv_Itoa.calls (a0:Int) (r:ByteArray) (w:World) (hG:GW w) (h:strconv_Itoa.f a0=some r) :
  Calls Tryz.prog 49 #[.int .i64 a0] w fun e w'=>e = .returned (.string r)∧Below w.heap.size w w':=by
 unfold strconv_Itoa.f at h
 by_cases c : -9223372036854775808≤a0∧a0≤9223372036854775807
 ·rw [if_pos c] at h;obtain rfl:=Option.some.inj h;refine (Tryz.strconv_Itoa a0 c.1 c.2 w hG.2).mono ?_;rintro e w' ⟨rfl,k,os,rfl⟩;exact ⟨rfl,Lib.below_grow w.heap.size w (Nat.le_refl _) k os⟩
 ·rw [if_neg c] at h;cases h
def strings_Join.f (l0:List ByteArray) (a1:ByteArray):Option ByteArray:=if l0.length≤140737488355328∧(Lib.join (l0.map (·.data.toList)) a1.data.toList).length≤140737488355328 then some ⟨(Lib.join (l0.map (·.data.toList)) a1.data.toList).toArray⟩ else none
theorem strings_Join.calls (A0:Option Addr) (c0:Nat) (l0:List ByteArray) (a1 r:ByteArray) (w:World) (hr0:Kd.C Kd.string w A0 l0.length l0) (hc0:l0.length≤c0) (h:strings_Join.f l0 a1=some r) :
  Calls Tryz.prog 103 #[.slice A0 l0.length c0,.string a1] w fun e w'=>e = .returned (.string r)∧Below w.heap.size w w':=by
 unfold strings_Join.f at h
 by_cases c:l0.length≤140737488355328∧(Lib.join (l0.map (·.data.toList)) a1.data.toList).length≤140737488355328
 ·rw [if_pos c] at h;obtain rfl:=Option.some.inj h;cases l0 with
  | nil =>
   refine (Tryz.strings_Join_none A0 c0 a1 w).mono ?_;rintro e w' ⟨rfl,rfl⟩;exact ⟨rfl,Below.refl _ _⟩
  | cons x xs =>
   obtain ⟨_,_,hcells⟩:=Kd.EV (d:=ByteArray.empty) hr0;obtain ⟨⟨bk,o,fl⟩,rfl,hc⟩:=hcells (by simp);have h0:=hc 0 (by simp);cases fl with
   | some q =>
    exfalso
    simp only [World.cell?,Addr.add] at h0
    split at h0
    ·simp at h0
    ·cases h0
   | none =>
    refine (Tryz.strings_Join bk o c0 (x::xs) a1 w (fun j y hj=>?_) (World.block_lt_of_cell? w _ h0) c.1 hc0 c.2).mono ?_
    ·have hl:=(List.getElem?_eq_some_iff.1 hj).1;have:=hc j hl;rw [List.getD_eq_getElem?_getD,hj] at this;have e:(⟨bk,o,none⟩:Addr).add j=⟨bk,o+j,none⟩:=by cases j<;>simp [Addr.add]
     rw [e] at this;exact this
    ·rintro e w' ⟨rfl,hb⟩;exact ⟨rfl,hb⟩
 ·rw [if_neg c] at h;cases h
def strings_Split.f (a0 a1:ByteArray):Option (List ByteArray):=if a0.size<4294967281∧1≤a1.size then some (Lib.splitB a1 0 (Lib.countB a0 a1) a0) else none
theorem strings_Split.calls (a0 a1:ByteArray) (r:List ByteArray) (w:World) (hG:GW w) (h:strings_Split.f a0 a1=some r) :
  Calls Tryz.prog 46 #[.string a0,.string a1] w fun e w' => ∃v0_:Value,e = .returned v0_∧Kd.R Kd.string 9 w' w.heap.size (fun _=>True) v0_ r∧Below w.heap.size w w':=by
 unfold strings_Split.f at h
 by_cases c:a0.size<4294967281∧1≤a1.size
 ·rw [if_pos c] at h;obtain rfl:=Option.some.inj h;obtain ⟨⟨m,hm⟩,_⟩:=hG;refine (Tryz.strings_Split a0 a1 m w c.1 hm c.2).mono ?_;rintro e w' ⟨rfl,rfl⟩;have hl:=Lib.splitB_all a1 c.2 0 _ a0 rfl;have hle:=Lib.countB_le a1 c.2 a0.size a0 (Nat.le_refl _);refine ⟨_,rfl,?_,(Below.refl _ w).alloc (Nat.le_refl _) _⟩;have ho:=World.ownsRow_lit (base:=w.heap.size) (e:=9) (size:=1) w ((Lib.splitB a1 0 (Lib.countB a0 a1) a0).map Value.string).toArray (Lib.countB a0 a1+1) (Nat.le_refl _) (by unfold maxLen;omega) (by simp [hl]);rw [← hl] at ho ⊢;exact Kd.F9 (by simpa [encs] using ho) (fun _ _=>trivial)
 ·rw [if_neg c] at h;cases h
structure KeepB (b:Nat) (w w':World):Prop where
 os:w'.os=w.os
 tape:w'.tape=w.tape
 output:w'.output=w.output
 size:w.heap.size≤w'.heap.size
 block : ∀k,k<w.heap.size→k≠b→(∀cells,w.heap[k]? ≠some (.cells cells 5 (0,0)))→w'.heap[k]? = w.heap[k]?
set_option maxHeartbeats 4000000 in
theorem NR (B b:Nat) (bs:List Value) (w:World) (h:Lib.IsBuilder 53 5 B b bs w) :
  Calls Tryz.prog 95 #[.pointer (some ⟨b,0,none⟩)] w fun e w'=>e = .returned (.tuple #[])∧(Lib.BuilderAt 53 5 B b (.pointer (some ⟨b,0,none⟩)) bs w'∧Below B w w'∧∀k,k≠b→w'.heap[k]? = w.heap[k]?):=by
 rcases h with h|h
 ·have c0:=h.cell0;have f0:=h.frozen0;have sh:=h.shape;have HH:=Aa.mk h;clear h;obtain ⟨j,hj,hjs⟩:=Option.map_eq_some_iff.1 (show (Tryz.prog.info? 53).map (fun i=>i.size)=some 2 by kernel_rfl);have HJ:=Aa.mk hj;have HJS:=Aa.mk hjs;clear hj hjs
  go_enter Tryz.func95,Tryz.ntmps95
  go_wp2;rw [Lib.run_to_unsafe w ⟨b,0,none⟩ Tryz.underlying51 Tryz.underlying109 HJ.out (by rw [HJS.out];decide) sh (Nat.zero_lt_succ 1)];simp only [Result.andThen];rw [Oper.upon_value];go_wp2;rw [run_callFunc_extern Tryz.func143 (by kernel_rfl) (by kernel_rfl) (by kernel_rfl) (e:=Extern.AbiNoEscape.same) (by kernel_rfl)];rw [Lib.run_noEscape];simp only [Result.andThen];rw [Oper.upon_value];go_wp2;rw [Lib.run_from_unsafe w ⟨b,0,none⟩ Tryz.underlying109 Tryz.underlying51 HJ.out sh (by kernel_rfl)];simp only [Result.andThen];rw [Oper.upon_value];go_wp2
  go_end0
  exact ⟨rfl,HH.out.used _,(Below.refl B w).setCell (p:=⟨b,0,none⟩) HH.out.1 _,fun k hk=>Below.heap_setCell _ _ _ _ hk⟩
 ·have c0:=h.cell0;have HH:=Aa.mk h;clear h;obtain ⟨j,hj,_⟩:=Option.map_eq_some_iff.1 (show (Tryz.prog.info? 53).map (fun i=>i.size)=some 2 by kernel_rfl);have HJ:=Aa.mk hj;clear hj
  go_enter Tryz.func95,Tryz.ntmps95
  go_wp2;rw [Lib.run_neq_ptr_same w _ Tryz.underlying51 HJ.out];go_wp2
  go_end0
  exact ⟨rfl,HH.out,Below.refl B _,fun _ _=>rfl⟩
theorem ob_slice {w:World} {B n:Nat} {e:TypeId} {size:Nat} {v:Value} {xs:List Value} (h:w.ownsRow B e size v n xs) : ∃ao n' cap,v = .slice ao n' cap:=by
 obtain ⟨A,c,hv⟩:=DU h;exact ⟨_,_,_,hv⟩
set_option maxHeartbeats 4000000 in
theorem Ks (B b:Nat) (bs:List Value) (s:ByteArray) (w:World) (h:Lib.IsBuilder 53 5 B b bs w) (hlen:bs.length+s.size≤140737488355328) (hBw:B≤w.heap.size) :
  Calls Tryz.prog 47 #[.pointer (some ⟨b,0,none⟩),.string s] w fun e w'=>e = .returned (.tuple #[.int .i64 s.size,.nilIface])∧(Lib.BuilderAt 53 5 B b (.pointer (some ⟨b,0,none⟩)) (bs++Lib.strCells s) w'∧Below B w w'∧KeepB b w w'):=by
 obtain ⟨i0,hi,hz0,hz1,hz2⟩:=info_parts (show (Tryz.prog.info? 5).map (fun i=>(i.zero,i.size,i.bytes))=some (some (.int .u8 0),1,1) by kernel_rfl);have HI:=Aa.mk h;clear h
 go_enter Tryz.func47,Tryz.ntmps47
 go_wp2_with (first|(go_at_call 95;refine (NR B b bs _ HI.out).mono ?_;rintro e w1 ⟨rfl,h1,hb1,hk1⟩;obtain ⟨hB,v,hbk,hown,hne⟩:=h1;have HK:=Aa.mk hk1;clear hk1;have c0:w1.cell? ⟨b,0,none⟩=some (.pointer (some ⟨b,0,none⟩)):=(by rw [Lib.cell_of_heap hbk];rfl);have c1:w1.cell? ⟨b,1,none⟩=some v:=(by rw [Lib.cell_of_heap hbk];rfl);have HD:=Aa.mk (show _∧_∧_∧_ from ⟨hbk,hown,hne,hb1⟩);have HB:=Aa.mk hB;clear hbk hown hne hb1 hB)|(at_builtin;refine Lib.wpList_append_own_string _ rfl _ _ 22 9 rfl B 5 i0 Tryz.underlying22 Tryz.underlying9 hi hz0 hz1 hz2 _ _ _ rfl HD.out.2.1 s rfl ?c3 ?c4 ?c5 ?_;(case c3=>(unfold maxLen;omega));(case c4=>omega);(case c5=>(have:=HD.out.2.2.2.size;omega));intro v' w2 hown' hgrow _;have hlt:b<w1.heap.size:=lt_of_block HD.out.1;have hb2:w2.heap[b]? = some (.cells #[.pointer (some ⟨b,0,none⟩),v] 53 (0,0)):=(hgrow.block b hlt (fun e=>HD.out.2.2.1 e.symm)).trans HD.out.1;have d0:w2.cell? ⟨b,0,none⟩=some (.pointer (some ⟨b,0,none⟩)):=(by rw [Lib.cell_of_heap hb2];rfl);have d1:w2.cell? ⟨b,1,none⟩=some v:=(by rw [Lib.cell_of_heap hb2];rfl);have f1:w2.frozen? ⟨b,1,none⟩=false:=Lib.frozen_of_heap hb2 1;have HE:=Aa.mk (show _∧_∧_ from ⟨hown',hgrow,hb2⟩);obtain ⟨ao,n',cap,ev⟩:=ob_slice hown';subst ev;clear hown' hgrow hb2 c0 c1))
 go_ret2
 obtain ⟨hown',hgrow,hb2⟩:=HE.out;obtain ⟨_,hown,hne,hb1⟩:=HD.out;refine ⟨rfl,?_,?_,?_⟩
 ·exact Lib.BuilderAt.put (T:=53) (e:=5) HB.out hb2 (bs':=bs++Lib.strCells s) (by simpa [Lib.strCells_length] using hown') (by decide)
 ·exact (hb1.grown hgrow (by have:=hb1.size;omega) (fun k hk=>(hown.lt k hk).1)).setCell (p:=⟨b,1,none⟩) HB.out _
 ·refine ⟨hgrow.os.trans hb1.os,hgrow.tape.trans hb1.tape,hgrow.output.trans hb1.output,by simp only [World.setCell,Array.size_modify];exact Nat.le_trans hb1.size hgrow.size,fun k hk hkb hty=>?_⟩;refine (Below.heap_setCell _ _ _ _ hkb).trans ((hgrow.block k (Nat.lt_of_lt_of_le hk hb1.size) (fun e=>?_)).trans (HK.out k hkb));obtain ⟨cells,hc⟩:=D8 hown k e.symm;exact hty cells ((HK.out k hkb).symm.trans hc)
end
section
open Locg
end
def Bx.l0:Nat→List ByteArray→List Int→Int→Int→Option (ByteArray)
 | 0,_,_,_,_=>none
 | k+1,x3,x7,x8,x9=>if x9<x8 then if 0≤x9 then if x9<(x7.length:Int) then (strconv_Itoa.f (rd x7 x9)).bind fun t4=>(if x3.length<8796093022208 then Bx.l0 k (x3++[t4]) x7 x8 (wrap64 (x9+1)) else none) else none else none else (strings_Join.f x3 (⟨#[32]⟩:ByteArray)).bind fun t5=>(some t5)
def Bx.f (k:Nat) (l0:List Int):Option (ByteArray):=Bx.l0 k (([]:List ByteArray)) l0 (l0.length:Int) 0
theorem Bx.calls (k:Nat) (A0:Option Addr) (c0:Nat) (l0:List Int) (r:ByteArray) (w:World) (hG:GW w) (hr0:Kd.C (Kd.int .i64) w A0 l0.length l0) (hc0:l0.length≤c0) (h:Bx.f k l0=some r) :
  Calls Tryz.prog 99 #[.slice A0 l0.length c0] w fun e w'=>e = .returned (.string r)∧Below w.heap.size w w':=by
 have HG:=Aa.mk hG;clear hG;have HR0:=Aa.mk hr0;have HC0:=Aa.mk hc0;clear hr0 hc0;have HB:=Aa.mk (Below.refl w.heap.size w);unfold Bx.f at h;have H:=h;clear h;obtain ⟨y14,hyy⟩ : ∃y_:List ByteArray,y_=(([]:List ByteArray)):=⟨_,rfl⟩
 replace H:(Bx.l0 k y14 l0 (l0.length:Int) 0)=some r:=Zs.auY
 have Ny14:=Aa.mk hyy;clear hyy;have H':=Aa.mk H;clear H
 go_enter Tryz.func99,Tryz.ntmps99
 go_wp2_with (((with_reducible refine Bb (N:=6) rfl ?_);refine Kd.I2 Kd.string _ 9 ?hg (N:=6) ?hd (xs:=([]:List ByteArray)) (inner:=[]) (ok:=fun _=>True) (okp:=fun _=>True) ?hr ?hp (fun _ hk=>hk) trivial (Below.refl _ _) (Nat.le_refl _) (by simp) ?_;(case hd=>rfl);(case hg=>rfl);(case hr=>first|(go_simp;done)|(go_simp;rfl));(case hp=>exact (Reps.none _ _));intro v15 w2 ho3 hb hg_ hnew_;clear hg_ hnew_;(first|rw [← Ny14.out] at ho3|(simp only [Int.reduceToNat] at ho3;rw [← Ny14.out] at ho3));have HO16:=Zq.lw ho3;replace HB:=Zq.st hb;clear hb ho3))
 go_loopg [3,9] k (fun kq v3 v9 w' => ∃(x3_1:List ByteArray) (x9_1:Int),v9 = .int .i64 x9_1∧Aa (Bx.l0 kq x3_1 l0 (l0.length:Int) x9_1=some r)∧Aa (kq≤k)∧Aa (Kd.R Kd.string 9 w' w.heap.size (fun _=>True) v3 x3_1)∧Aa (Below w.heap.size w w'))
 case atStart=>exact ⟨(y14),(0),Zs.auS,H',⟨Nat.le_refl _⟩,⟨(Zs.mvR HO16.out)⟩,⟨Zs.auHB⟩⟩
 case round =>
  clear H'
  obtain ⟨x3_1,x9_1,rfl,HA,HK1,HO_3,HB⟩:=hrel;cases gk with
  | zero=>exact absurd HA.out (by simp [Bx.l0])
  | succ k1 =>
   have H:=HA.out;clear HA;simp only [Bx.l0] at H
   rcases Zq.jd H with ⟨c4b0,H⟩|⟨c4b0,H⟩
   ·obtain ⟨c5b0,H⟩:=Zq.pd H
    obtain ⟨c6b0,H⟩:=Zq.pd H;obtain ⟨t18,A7,H⟩:=Zs.be H
    obtain ⟨c8,H⟩:=Zq.ip H;have LMc8:=Aa.mk c8;clear c8;(try rw [Option.bind_some] at H);generalize hyy:(x3_1++[t18]:List ByteArray)=y19 at H;have Ny19:=Aa.mk hyy.symm;clear hyy;have H':=Aa.mk H;clear H;obtain ⟨ad17,e17,hx17_0,p17,q17⟩:=Zq.at_ HR0.out x9_1;cases e17;replace hx17_0:=Zq.ce HB.out hx17_0
    go_wp2_with (first|((with_reducible refine Ab (f:=49) rfl ?_);refine Zq.gb Tryz.func49 (strconv_Itoa.calls _ _ _ (GW.below HG.out Zs.auHB) A7.out) ?_;intro w9 hb;replace HO_3:=Zq.rb HO_3.out hb;replace HB:=Zq.st hb;(try clear hb))|((with_reducible refine AY (b := .append) (xs:=#[.tmp 13,.tmp 16]) rfl ?_);at_builtin;refine Kd.Ea Kd.string (w0:=w) w.heap.size rfl (.tmp 13) (.tmp 16) 54 9 (.string ⟨#[]⟩) 16 rfl Tryz.underlying54 OV rfl (by decide) (by omega) u3 x3_1 t18 [.string t18] (fun _=>True) (fun _=>False) rfl rfl ?aP (fun _ hk=>hk.elim) ?aF ?aO ?aB ?aS ?aL ?_;(case aP=>exact rfl);(case aB=>exact (Zs.auHB));(case aF=>exact (fun _ _=>trivial));(case aO=>exact ((Zs.mvR HO_3.out)));(case aS=>exact (Ay (Zs.auHB)));(case aL=>have:=LMc8.out;omega);intro v20 w10 ho hb hg hat;rw [← Ny19.out] at ho;replace HB:=Aa.mk (hb);have HO21:=Aa.mk (ho);clear HO_3;clear ho hb hg hat))
    go_roundg k1
    case measure=>have:=HK1.out;omega
    case rel=>exact ⟨(y19),(wrap64 (x9_1+1)),Zs.auS,H',⟨by have:=HK1.out;omega⟩,⟨(Zs.mvR HO21.out)⟩,⟨Zs.auHB⟩⟩
   ·obtain ⟨t22,A11,H⟩:=Zs.be H;obtain rfl:=Option.some.inj H;obtain ⟨Ao12,co12,eo12⟩:=Kd.Az HO_3.out;subst eo12
    go_wp2_with (((with_reducible refine Ab (f:=103) rfl ?_);refine Zq.gb Tryz.func103 (strings_Join.calls _ _ _ _ _ _ (Zs.mvC ((Kd.Ac HO_3.out).2.2)) ((Kd.Ac HO_3.out).2.1) A11.out) ?_;intro w13 hb;replace HO_3:=Zq.rb HO_3.out hb;replace HB:=Zq.st hb;(try clear hb)))
    go_ret
    exact ⟨Zs.auR,Zs.auHB⟩
def Be.l0:Nat→Int→List Int→Int→Int→Option (Int)
 | 0,_,_,_,_=>none
 | k+1,x3,x6,x7,x8=>if x8<x7 then if 0≤x8 then if x8<(x6.length:Int) then Be.l0 k (wrap64 (x3*(rd x6 x8))) x6 x7 (wrap64 (x8+1)) else none else none else some x3
def Be.f (k:Nat) (l0:List Int):Option (Int):=Be.l0 k 1 l0 (l0.length:Int) 0
theorem Be.calls (k:Nat) (A0:Option Addr) (c0:Nat) (l0:List Int) (r:Int) (w:World) (hr0:Kd.C (Kd.int .i64) w A0 l0.length l0) (hc0:l0.length≤c0) (h:Be.f k l0=some r) :
  Calls Tryz.prog 65 #[.slice A0 l0.length c0] w fun e w'=>e = .returned (.int .i64 r)∧Bo w w':=by
 have HR0:=Aa.mk hr0;have HC0:=Aa.mk hc0;clear hr0 hc0;unfold Be.f at h;have H:=h;clear h;have H':=Aa.mk H;clear H
 go_enter Tryz.func65,Tryz.ntmps65
 go_wp2
 go_loopg [3,8] k (fun kq v3 v8 w' => ∃x3_1 x8_1:Int,v3 = .int .i64 x3_1∧v8 = .int .i64 x8_1∧Aa (Be.l0 kq x3_1 l0 (l0.length:Int) x8_1=some r)∧Aa (kq≤k)∧Bo w w')
 case atStart=>exact ⟨(1),(0),Zs.auS,Zs.auS,H',⟨Nat.le_refl _⟩,Zq.dr⟩
 case round =>
  clear H';obtain ⟨x3_1,x8_1,rfl,rfl,HA,HK1,⟨m1,rfl⟩⟩:=hrel;cases gk with
  | zero=>exact absurd HA.out (by simp [Be.l0])
  | succ k1 =>
   have H:=HA.out;clear HA;simp only [Be.l0] at H
   rcases Zq.jd H with ⟨c2b0,H⟩|⟨c2b0,H⟩
   ·obtain ⟨c3b0,H⟩:=Zq.pd H
    obtain ⟨c4b0,H⟩:=Zq.pd H;have H':=Aa.mk H;clear H;obtain ⟨ad5,e5,hx5_0,p5,q5⟩:=Zq.at_ HR0.out x8_1;cases e5;go_wp2
    go_roundg k1
    case measure=>have:=HK1.out;omega
    case rel=>exact ⟨(wrap64 (x3_1*(rd l0 x8_1))),(wrap64 (x8_1+1)),Zs.auS,Zs.auS,H',⟨by have:=HK1.out;omega⟩,Zq.dr⟩
   ·obtain rfl:=Option.some.inj H;go_wp2;go_ret
    exact ⟨Zs.auS,Zq.dr⟩
def C5.f (k:Nat) (l0:List Int):Option (Int):=(Am.f k l0).bind fun t3=>(if t3=true then (Be.f k l0).bind fun t4=>((AW.f k t4).bind fun bt6=>(some bt6.1)) else some 0)
theorem C5.calls (k:Nat) (A0:Option Addr) (c0:Nat) (l0:List Int) (r:Int) (w:World) (hr0:Kd.C (Kd.int .i64) w A0 l0.length l0) (hc0:l0.length≤c0) (h:C5.f k l0=some r) :
  Calls Tryz.prog 29 #[.slice A0 l0.length c0] w fun e w'=>e = .returned (.int .i64 r)∧Below w.heap.size w w':=by
 have HR0:=Aa.mk hr0;have HC0:=Aa.mk hc0;clear hr0 hc0;have HB:=Aa.mk (Below.refl w.heap.size w);unfold C5.f at h;have H:=h;clear h;obtain ⟨t3,A2,H⟩:=Zs.be H
 cases t3
 ·replace H:=Zq.fh H;obtain rfl:=Option.some.inj H
  go_enter Tryz.func29,Tryz.ntmps29
  go_wp2_with (((with_reducible refine Ab (f:=59) rfl ?_);refine Zq.gb Tryz.func59 (Am.calls _ _ _ _ _ _ (Zs.mvC (HR0.out)) HC0.out A2.out) ?_;intro w8 hb;replace HB:=Zq.st hb;(try clear hb)))
  go_ret
  exact ⟨Zs.auR,Zs.auHB⟩
 ·replace H:=Zq.th H;obtain ⟨t9,A4,H⟩:=Zs.be H;obtain ⟨t10,t11,A5,H⟩:=Zq.bp H;try dsimp only at H;obtain rfl:=Option.some.inj H
  go_enter Tryz.func29,Tryz.ntmps29
  go_wp2_with (first|((with_reducible refine Ab (f:=59) rfl ?_);refine Zq.gb Tryz.func59 (Am.calls _ _ _ _ _ _ (Zs.mvC (HR0.out)) HC0.out A2.out) ?_;intro w6 hb;replace HB:=Zq.st hb;(try clear hb))|((with_reducible refine Ab (f:=65) rfl ?_);refine Zq.gp Tryz.func65 (Be.calls _ _ _ _ _ _ (Zs.mvC ((Kd.BF HR0.out HB.out))) HC0.out A4.out) ?_;intro nd)|((with_reducible refine Ab (f:=61) rfl ?_);refine Zq.gb Tryz.func61 (AW.calls _ _ _ _ _ A5.out) ?_;intro w7 hb;replace HB:=Zq.st hb;(try clear hb)))
  go_ret
  exact ⟨Zs.auR,Zs.auHB⟩
def CN.f (a0 a1:Int):Option (Bool):=if a0=0 then some false else if a1=0 then some false else (CO.f a0).bind fun t3=>(if t3=true then (CO.f a1).bind fun t4=>(some t4) else some false)
theorem CN.calls (a0 a1:Int) (r:Bool) (w:World) (h:CN.f a0 a1=some r) :
  Calls Tryz.prog 67 #[.int .i64 a0,.int .i64 a1] w fun e w'=>e = .returned (.bool r)∧Bo w w':=by
 unfold CN.f at h;have H:=h;clear h
 rcases Zq.ii H with ⟨c3,H⟩|⟨c3,H⟩
 ·have c3b1:=bne_eq_false_iff_eq.mpr c3;clear c3;obtain rfl:=Option.some.inj H
  go_enter Tryz.func67,Tryz.ntmps67
  go_wp2;go_ret
  exact ⟨Zs.auS,Zq.dr⟩
 ·have c3b1:=bne_iff_ne.mpr c3
  rcases Zq.ii H with ⟨c4,H⟩|⟨c4,H⟩
  ·have c4b1:=bne_eq_false_iff_eq.mpr c4;clear c4;obtain rfl:=Option.some.inj H
   go_enter Tryz.func67,Tryz.ntmps67
   go_wp2;go_ret
   exact ⟨Zs.auS,Zq.dr⟩
  ·have c4b1:=bne_iff_ne.mpr c4;obtain ⟨t6,A5,H⟩:=Zs.be H
   cases t6
   ·replace H:=Zq.fh H;obtain rfl:=Option.some.inj H
    go_enter Tryz.func67,Tryz.ntmps67
    go_wp2_with ((go_at_call 60;(with_reducible refine (CO.calls a0 false _ A5.out).mono ?_);rintro e w' ⟨rfl,⟨nd,rfl⟩⟩))
    go_ret
    exact ⟨Zs.auS,Zq.dr⟩
   ·replace H:=Zq.th H;obtain ⟨t8,A7,H⟩:=Zs.be H;obtain rfl:=Option.some.inj H
    go_enter Tryz.func67,Tryz.ntmps67
    go_wp2_with (first|(go_at_call 60;(with_reducible refine (CO.calls a0 true _ A5.out).mono ?_);rintro e w' ⟨rfl,⟨nd,rfl⟩⟩)|(go_at_call 60;(with_reducible refine (CO.calls a1 t8 _ A7.out).mono ?_);rintro e w' ⟨rfl,⟨nd,rfl⟩⟩))
    go_ret
    exact ⟨Zs.auS,Zq.dr⟩
def CS.l0:Nat→Int→Int→Option (Bool)
 | 0,_,_=>none
 | k+1,x0,x3=>if (wrap64 (x3*x3))≤x0 then if x3=0 then none else if (Int.tmod x0 x3)=0 then some false else CS.l0 k x0 (wrap64 (x3+1)) else some (decide (x0≥2))
def CS.f (k:Nat) (a0:Int):Option (Bool):=CS.l0 k a0 2
theorem CS.calls (k:Nat) (a0:Int) (r:Bool) (w:World) (h:CS.f k a0=some r) :
  Calls Tryz.prog 156 #[.int .i64 a0] w fun e w'=>e = .returned (.bool r)∧Bo w w':=by
 unfold CS.f at h;have H:=h;clear h;have H':=Aa.mk H;clear H
 go_enter Tryz.func156,Tryz.ntmps156
 go_wp2
 go_loopg [3] k (fun kq v3 w' => ∃x3_1:Int,v3 = .int .i64 x3_1∧Aa (CS.l0 kq a0 x3_1=some r)∧Aa (kq≤k)∧Bo w w')
 case atStart=>exact ⟨(2),Zs.auS,H',⟨Nat.le_refl _⟩,Zq.dr⟩
 case round =>
  clear H'
  obtain ⟨x3_1,rfl,HA,HK1,⟨m1,rfl⟩⟩:=hrel;cases gk with
  | zero=>exact absurd HA.out (by simp [CS.l0])
  | succ k1 =>
   have H:=HA.out;clear HA;simp only [CS.l0] at H
   rcases Zq.jd H with ⟨c2b0,H⟩|⟨c2b0,H⟩
   ·rcases Zq.ii H with ⟨c3,H⟩|⟨c3,H⟩
    ·exact absurd H (by simp)
    ·rcases Zq.jn H with ⟨c4b0,H⟩|⟨c4,c4b0,H⟩
     ·obtain rfl:=Option.some.inj H;go_wp2;go_ret
      exact ⟨Zs.auS,Zq.dr⟩
     ·have H':=Aa.mk H;clear H;go_wp2
      go_roundg k1
      case measure=>have:=HK1.out;omega
      case rel=>exact ⟨(wrap64 (x3_1+1)),Zs.auS,H',⟨by have:=HK1.out;omega⟩,Zq.dr⟩
   ·obtain rfl:=Option.some.inj H;go_wp2;go_ret
    exact ⟨Zs.auS,Zq.dr⟩
def DX.f (k:Nat) (a0:Int):Option (Bool):=if a0≤5000 then (CS.f k a0).bind fun t3=>(some t3) else some false
theorem DX.calls (k:Nat) (a0:Int) (r:Bool) (w:World) (h:DX.f k a0=some r) :
  Calls Tryz.prog 116 #[.int .i64 a0] w fun e w'=>e = .returned (.bool r)∧Bo w w':=by
 unfold DX.f at h;have H:=h;clear h
 rcases Zq.jd H with ⟨c2b0,H⟩|⟨c2b0,H⟩
 ·obtain ⟨t4,A3,H⟩:=Zs.be H;obtain rfl:=Option.some.inj H
  go_enter Tryz.func116,Tryz.ntmps116
  go_wp2_with ((go_at_call 156;(with_reducible refine (CS.calls k a0 t4 _ A3.out).mono ?_);rintro e w' ⟨rfl,⟨nd,rfl⟩⟩))
  go_ret
  exact ⟨Zs.auS,Zq.dr⟩
 ·obtain rfl:=Option.some.inj H
  go_enter Tryz.func116,Tryz.ntmps116
  go_wp2;go_ret
  exact ⟨Zs.auS,Zq.dr⟩
def BD.f (k:Nat) (a0:Int):Option (Bool):=if a0=0 then some true else (DX.f k a0).bind fun t3=>(some t3)
theorem BD.calls (k:Nat) (a0:Int) (r:Bool) (w:World) (h:BD.f k a0=some r) :
  Calls Tryz.prog 68 #[.int .i64 a0] w fun e w'=>e = .returned (.bool r)∧Bo w w':=by
 unfold BD.f at h;have H:=h;clear h
 rcases Zq.jn H with ⟨c2b0,H⟩|⟨c2,c2b0,H⟩
 ·obtain rfl:=Option.some.inj H
  go_enter Tryz.func68,Tryz.ntmps68
  go_wp2;go_ret
  exact ⟨Zs.auS,Zq.dr⟩
 ·obtain ⟨t4,A3,H⟩:=Zs.be H;obtain rfl:=Option.some.inj H
  go_enter Tryz.func68,Tryz.ntmps68
  go_wp2_with ((go_at_call 116;(with_reducible refine (DX.calls k a0 t4 _ A3.out).mono ?_);rintro e w' ⟨rfl,⟨nd,rfl⟩⟩))
  go_ret
  exact ⟨Zs.auS,Zq.dr⟩
def CE.l0:Nat→Int→Int→Int→Int→Option (Int)
 | 0,_,_,_,_=>none
 | k+1,x0,x5,x6,x7=>if x7<x6 then CE.l0 k x0 (wrap64 (x5*x0)) x6 (wrap64 (x7+1)) else some x5
def CE.f (k:Nat) (a0 a1:Int):Option (Int):=CE.l0 k a0 1 a1 0
theorem CE.calls (k:Nat) (a0 a1 r:Int) (w:World) (h:CE.f k a0 a1=some r) :
  Calls Tryz.prog 118 #[.int .i64 a0,.int .i64 a1] w fun e w'=>e = .returned (.int .i64 r)∧Bo w w':=by
 unfold CE.f at h;have H:=h;clear h;have H':=Aa.mk H;clear H
 go_enter Tryz.func118,Tryz.ntmps118
 go_wp2
 go_loopg [5,7] k (fun kq v5 v7 w' => ∃x5_1 x7_1:Int,v5 = .int .i64 x5_1∧v7 = .int .i64 x7_1∧Aa (CE.l0 kq a0 x5_1 a1 x7_1=some r)∧Aa (kq≤k)∧Bo w w')
 case atStart=>exact ⟨(1),(0),Zs.auS,Zs.auS,H',⟨Nat.le_refl _⟩,Zq.dr⟩
 case round =>
  clear H'
  obtain ⟨x5_1,x7_1,rfl,rfl,HA,HK1,⟨m1,rfl⟩⟩:=hrel;cases gk with
  | zero=>exact absurd HA.out (by simp [CE.l0])
  | succ k1 =>
   have H:=HA.out;clear HA;simp only [CE.l0] at H
   rcases Zq.jd H with ⟨c3b0,H⟩|⟨c3b0,H⟩
   ·have H':=Aa.mk H;clear H;go_wp2
    go_roundg k1
    case measure=>have:=HK1.out;omega
    case rel=>exact ⟨(wrap64 (x5_1*a0)),(wrap64 (x7_1+1)),Zs.auS,Zs.auS,H',⟨by have:=HK1.out;omega⟩,Zq.dr⟩
   ·obtain rfl:=Option.some.inj H;go_wp2;go_ret
    exact ⟨Zs.auS,Zq.dr⟩
def Dn.f (a0 a1:Int):Option (Int):=if a1=0 then none else some (Int.tmod (wrap64 ((Int.tmod a0 a1)+a1)) a1)
theorem Dn.calls (a0 a1 r:Int) (w:World) (h:Dn.f a0 a1=some r) :
  Calls Tryz.prog 120 #[.int .i64 a0,.int .i64 a1] w fun e w'=>e = .returned (.int .i64 r)∧Bo w w':=by
 unfold Dn.f at h;have H:=h;clear h
 rcases Zq.ii H with ⟨c3,H⟩|⟨c3,H⟩
 ·exact absurd H (by simp)
 ·obtain rfl:=Option.some.inj H
  go_enter Tryz.func120,Tryz.ntmps120
  go_wp2;go_ret
  exact ⟨Zs.auS,Zq.dr⟩
end Go.Proofs.YtacfcoilmdhgnaaGreatDoor.PFnExecuteWhat
