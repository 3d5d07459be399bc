/- A function's Lean twin and its walk, written by a program of this session. -/
import Derived.Test.YtacfcoilmdhgnaaGreatDoorYPFnExecuteWhatx2
set_option maxHeartbeats 8000000
set_option maxRecDepth 100000
namespace Go.Proofs.YtacfcoilmdhgnaaGreatDoor.PFnExecuteWhat
open Go.RowKit Go.Proofs.YtacfcoilmdhgnaaGreatDoorW.PrintWords Go.Proofs.YtacfcoilmdhgnaaGreatDoorW.PrintLast Go.Proofs.YtacfcoilmdhgnaaGreatDoorW.PrintMore
attribute [local go_sem] DN DO El En Du Dt DP DK   -- for this text's walks alone
set_option linter.unusedVariables false
set_option linter.unusedSimpArgs false
def BN.l0:Nat→Int→Int→Int→Option (Int)
 | 0,_,_,_=>none
 | k+1,x1,x5,x6=>if x6≤(wrap64 (Int.tdiv x1 2)) then if x1=0 then none else if (Int.tmod (wrap64 (x6*x6)) x1)=x5 then some 1 else BN.l0 k x1 x5 (wrap64 (x6+1)) else some (-1)
def BN.f (k:Nat) (a0 a1:Int):Option (Int):=(Dn.f a0 a1).bind fun t3=>(if t3=0 then some 0 else BN.l0 k a1 t3 1)
theorem BN.calls (k:Nat) (a0 a1 r:Int) (w:World) (h:BN.f k a0 a1=some r) :
  Calls Tryz.prog 119 #[.int .i64 a0,.int .i64 a1] w fun e w'=>e = .returned (.int .i64 r)∧Bo w w':=by
 unfold BN.f at h;have H:=h;clear h;obtain ⟨t8,A3,H⟩:=Zs.be H
 rcases Zq.jn H with ⟨c4b0,H⟩|⟨c4,c4b0,H⟩
 ·obtain rfl:=Option.some.inj H
  go_enter Tryz.func119,Tryz.ntmps119
  go_wp2_with (((with_reducible refine Ab (f:=120) rfl ?_);refine Zq.gp Tryz.func120 (Dn.calls _ _ _ _ A3.out) ?_;intro nd))
  go_ret
  exact ⟨Zs.auS,Zq.dr⟩
 ·have H':=Aa.mk H;clear H
  go_enter Tryz.func119,Tryz.ntmps119
  go_wp2_with (((with_reducible refine Ab (f:=120) rfl ?_);refine Zq.gp Tryz.func120 (Dn.calls _ _ _ _ A3.out) ?_;intro nd))
  go_loopg [6] k (fun kq v6 w' => ∃x6_1:Int,v6 = .int .i64 x6_1∧Aa (BN.l0 kq a1 t8 x6_1=some r)∧Aa (kq≤k)∧Bo w w')
  case atStart=>exact ⟨(1),Zs.auS,H',⟨Nat.le_refl _⟩,Zq.dr⟩
  case round =>
   clear H'
   obtain ⟨x6_1,rfl,HA,HK1,⟨m1,rfl⟩⟩:=hrel;cases gk with
   | zero=>exact absurd HA.out (by simp [BN.l0])
   | succ k1 =>
    have H:=HA.out;clear HA;simp only [BN.l0] at H
    rcases Zq.jd H with ⟨c5b0,H⟩|⟨c5b0,H⟩
    ·rcases Zq.ii H with ⟨c6,H⟩|⟨c6,H⟩
     ·exact absurd H (by simp)
     ·rcases Zq.jn H with ⟨c7b0,H⟩|⟨c7,c7b0,H⟩
      ·obtain rfl:=Option.some.inj H;go_wp2;go_ret
       exact ⟨Zs.auS,Zq.dr⟩
      ·have H':=Aa.mk H;clear H;go_wp2
       go_roundg k1
       case measure=>have:=HK1.out;omega
       case rel=>exact ⟨(wrap64 (x6_1+1)),Zs.auS,H',⟨by have:=HK1.out;omega⟩,Zq.dr⟩
    ·obtain rfl:=Option.some.inj H;go_wp2;go_ret
     exact ⟨Zs.auS,Zq.dr⟩
def CH.f (k:Nat) (a0 a1 a2:Int):Option (Int):=if a2=0 then if a0<0 then if a1<0 then some (-1) else some 1 else some 1 else (BX.f k a0 a2).bind fun bt3=>((BX.f k a1 a2).bind fun bt4=>(if a2=2 then (Dn.f bt3.2 8).bind fun t5=>((Dn.f bt4.2 8).bind fun t6=>((CE.f k (-1) (Int.tmod (wrap64 ((wrap64 ((wrap64 ((wrap64 (Int.tdiv (wrap64 (t5-1)) 2))*(wrap64 (Int.tdiv (wrap64 (t6-1)) 2))))+(wrap64 (Int.tdiv (wrap64 (bt3.1*(wrap64 ((wrap64 (t6*t6))-1)))) 8))))+(wrap64 (Int.tdiv (wrap64 (bt4.1*(wrap64 ((wrap64 (t5*t5))-1)))) 8)))) 2)).bind fun t7=>(some t7))) else (CE.f k (-1) (Int.tmod (wrap64 (Int.tdiv (wrap64 ((wrap64 (bt3.1*bt4.1))*(wrap64 (a2-1)))) 2)) 2)).bind fun t8=>((BN.f k bt3.2 a2).bind fun t9=>((CE.f k t9 (Int.tmod bt4.1 2)).bind fun t10=>((BN.f k bt4.2 a2).bind fun t11=>((CE.f k t11 (Int.tmod bt3.1 2)).bind fun t12=>(some (wrap64 ((wrap64 (t8*t10))*t12)))))))))
theorem CH.calls (k:Nat) (a0 a1 a2 r:Int) (w:World) (h:CH.f k a0 a1 a2=some r) :
  Calls Tryz.prog 69 #[.int .i64 a0,.int .i64 a1,.int .i64 a2] w fun e w'=>e = .returned (.int .i64 r)∧Bo w w':=by
 unfold CH.f at h;have H:=h;clear h
 rcases Zq.jn H with ⟨c4b0,H⟩|⟨c4,c4b0,H⟩
 ·rcases Zq.jd H with ⟨c5b0,H⟩|⟨c5b0,H⟩
  ·rcases Zq.jd H with ⟨c6b0,H⟩|⟨c6b0,H⟩
   ·obtain rfl:=Option.some.inj H
    go_enter Tryz.func69,Tryz.ntmps69
    go_wp2;go_ret
    exact ⟨Zs.auS,Zq.dr⟩
   ·obtain rfl:=Option.some.inj H
    go_enter Tryz.func69,Tryz.ntmps69
    go_wp2;go_ret
    exact ⟨Zs.auS,Zq.dr⟩
  ·obtain rfl:=Option.some.inj H
   go_enter Tryz.func69,Tryz.ntmps69
   go_wp2;go_ret
   exact ⟨Zs.auS,Zq.dr⟩
 ·obtain ⟨t3,t18,A7,H⟩:=Zq.bp H;try dsimp only at H;obtain ⟨t19,t20,A8,H⟩:=Zq.bp H;try dsimp only at H
  rcases Zq.ii H with ⟨c9,H⟩|⟨c9,H⟩
  ·have c9b1:=bne_eq_false_iff_eq.mpr c9;clear c9;obtain ⟨t21,A10,H⟩:=Zs.be H;obtain ⟨t22,A11,H⟩:=Zs.be H;obtain ⟨t23,A12,H⟩:=Zs.be H;obtain rfl:=Option.some.inj H
   go_enter Tryz.func69,Tryz.ntmps69
   go_wp2_with (first|((with_reducible refine Ab (f:=117) rfl ?_);refine Zq.gc (some 24) Tryz.func117 (BX.calls _ _ _ _ _ _ A7.out) ?_;rintro e w' ⟨rfl,⟨nd,rfl⟩⟩;refine ⟨_,rfl,?_⟩)|((with_reducible refine Ab (f:=117) rfl ?_);refine Zq.gc (some 30) Tryz.func117 (BX.calls _ _ _ _ _ _ A8.out) ?_;rintro e w' ⟨rfl,⟨nd,rfl⟩⟩;refine ⟨_,rfl,?_⟩)|((with_reducible refine Ab (f:=120) rfl ?_);refine Zq.gc (some 59) Tryz.func120 (Dn.calls _ _ _ _ A10.out) ?_;rintro e w' ⟨rfl,⟨nd,rfl⟩⟩;refine ⟨_,rfl,?_⟩)|((with_reducible refine Ab (f:=120) rfl ?_);refine Zq.gc (some 61) Tryz.func120 (Dn.calls _ _ _ _ A11.out) ?_;rintro e w' ⟨rfl,⟨nd,rfl⟩⟩;refine ⟨_,rfl,?_⟩)|((with_reducible refine Ab (f:=118) rfl ?_);refine Zq.gp Tryz.func118 (CE.calls _ _ _ _ _ A12.out) ?_;intro nd))
   go_ret
   exact ⟨Zs.auS,Zq.dr⟩
  ·have c9b1:=bne_iff_ne.mpr c9;obtain ⟨t24,A13,H⟩:=Zs.be H;obtain ⟨t25,A14,H⟩:=Zs.be H;obtain ⟨t26,A15,H⟩:=Zs.be H;obtain ⟨t27,A16,H⟩:=Zs.be H;obtain ⟨t28,A17,H⟩:=Zs.be H;obtain rfl:=Option.some.inj H
   go_enter Tryz.func69,Tryz.ntmps69
   go_wp2_with (first|((with_reducible refine Ab (f:=117) rfl ?_);refine Zq.gc (some 24) Tryz.func117 (BX.calls _ _ _ _ _ _ A7.out) ?_;rintro e w' ⟨rfl,⟨nd,rfl⟩⟩;refine ⟨_,rfl,?_⟩)|((with_reducible refine Ab (f:=117) rfl ?_);refine Zq.gc (some 30) Tryz.func117 (BX.calls _ _ _ _ _ _ A8.out) ?_;rintro e w' ⟨rfl,⟨nd,rfl⟩⟩;refine ⟨_,rfl,?_⟩)|((with_reducible refine Ab (f:=118) rfl ?_);refine Zq.gc (some 43) Tryz.func118 (CE.calls _ _ _ _ _ A13.out) ?_;rintro e w' ⟨rfl,⟨nd,rfl⟩⟩;refine ⟨_,rfl,?_⟩)|((with_reducible refine Ab (f:=119) rfl ?_);refine Zq.gc (some 46) Tryz.func119 (BN.calls _ _ _ _ _ A14.out) ?_;rintro e w' ⟨rfl,⟨nd,rfl⟩⟩;refine ⟨_,rfl,?_⟩)|((with_reducible refine Ab (f:=118) rfl ?_);refine Zq.gc (some 49) Tryz.func118 (CE.calls _ _ _ _ _ A15.out) ?_;rintro e w' ⟨rfl,⟨nd,rfl⟩⟩;refine ⟨_,rfl,?_⟩)|((with_reducible refine Ab (f:=119) rfl ?_);refine Zq.gc (some 53) Tryz.func119 (BN.calls _ _ _ _ _ A16.out) ?_;rintro e w' ⟨rfl,⟨nd,rfl⟩⟩;refine ⟨_,rfl,?_⟩)|((with_reducible refine Ab (f:=118) rfl ?_);refine Zq.gc (some 56) Tryz.func118 (CE.calls _ _ _ _ _ A17.out) ?_;rintro e w' ⟨rfl,⟨nd,rfl⟩⟩;refine ⟨_,rfl,?_⟩))
   go_ret
   exact ⟨Zs.auS,Zq.dr⟩
def C8.f (k:Nat) (a0 a1 a2:Int):Option (Int):=(CN.f a0 a1).bind fun t3=>(if t3=true then (BD.f k a2).bind fun t4=>(if t4=true then (CH.f k a0 a1 a2).bind fun t5=>(some t5) else some 0) else some 0)
theorem C8.calls (k:Nat) (a0 a1 a2 r:Int) (w:World) (h:C8.f k a0 a1 a2=some r) :
  Calls Tryz.prog 31 #[.int .i64 a0,.int .i64 a1,.int .i64 a2] w fun e w'=>e = .returned (.int .i64 r)∧Bo w w':=by
 unfold C8.f at h;have H:=h;clear h;obtain ⟨t3,A4,H⟩:=Zs.be H
 cases t3
 ·replace H:=Zq.fh H;obtain rfl:=Option.some.inj H
  go_enter Tryz.func31,Tryz.ntmps31
  go_wp2_with (((with_reducible refine Ab (f:=67) rfl ?_);refine Zq.gp Tryz.func67 (CN.calls _ _ _ _ A4.out) ?_;intro nd))
  go_ret
  exact ⟨Zs.auS,Zq.dr⟩
 ·replace H:=Zq.th H;obtain ⟨t5,A6,H⟩:=Zs.be H
  cases t5
  ·replace H:=Zq.fh H;obtain rfl:=Option.some.inj H
   go_enter Tryz.func31,Tryz.ntmps31
   go_wp2_with (first|((with_reducible refine Ab (f:=67) rfl ?_);refine Zq.gp Tryz.func67 (CN.calls _ _ _ _ A4.out) ?_;intro nd)|(go_at_call 68;(with_reducible refine (BD.calls k a2 false _ A6.out).mono ?_);rintro e w' ⟨rfl,⟨nd,rfl⟩⟩))
   go_ret
   exact ⟨Zs.auS,Zq.dr⟩
  ·replace H:=Zq.th H;obtain ⟨t7,A8,H⟩:=Zs.be H;obtain rfl:=Option.some.inj H
   go_enter Tryz.func31,Tryz.ntmps31
   go_wp2_with (first|((with_reducible refine Ab (f:=67) rfl ?_);refine Zq.gp Tryz.func67 (CN.calls _ _ _ _ A4.out) ?_;intro nd)|(go_at_call 68;(with_reducible refine (BD.calls k a2 true _ A6.out).mono ?_);rintro e w' ⟨rfl,⟨nd,rfl⟩⟩)|((with_reducible refine Ab (f:=69) rfl ?_);refine Zq.gp Tryz.func69 (CH.calls _ _ _ _ _ _ A8.out) ?_;intro nd))
   go_ret
   exact ⟨Zs.auS,Zq.dr⟩
def CJ.f (k:Nat) (l0:List Int) (a1:Bool):Option (ByteArray):=if a1=true then (Bx.f k l0).bind fun t3=>(some t3) else some (⟨#[110,111]⟩:ByteArray)
theorem CJ.calls (k:Nat) (A0:Option Addr) (c0:Nat) (l0:List Int) (a1:Bool) (r:ByteArray) (w:World) (hG:GW w) (hr0:Kd.C (Kd.int .i64) w A0 l0.length l0) (hc0:l0.length≤c0) (h:CJ.f k l0 a1=some r) :
  Calls Tryz.prog 101 #[.slice A0 l0.length c0,.bool a1] w fun e w'=>e = .returned (.string r)∧Below w.heap.size w w':=by
 have HG:=Aa.mk hG;clear hG;have HR0:=Aa.mk hr0;have HC0:=Aa.mk hc0;clear hr0 hc0;have HB:=Aa.mk (Below.refl w.heap.size w);unfold CJ.f at h;have H:=h;clear h
 cases a1
 ·replace H:=Zq.fh H;obtain rfl:=Option.some.inj H
  go_enter Tryz.func101,Tryz.ntmps101
  go_wp2;go_ret
  exact ⟨Zs.auR,Zs.auHB⟩
 ·replace H:=Zq.th H;obtain ⟨t3,A4,H⟩:=Zs.be H;obtain rfl:=Option.some.inj H
  go_enter Tryz.func101,Tryz.ntmps101
  go_wp2_with (((with_reducible refine Ab (f:=99) rfl ?_);refine Zq.gb Tryz.func99 (Bx.calls _ _ _ _ _ _ (GW.below HG.out Zs.auHB) (Zs.mvC (HR0.out)) HC0.out A4.out) ?_;intro w5 hb;replace HB:=Zq.st hb;(try clear hb)))
  go_ret
  exact ⟨Zs.auR,Zs.auHB⟩
def BA.l0:Nat→Int→List Int→Int→Int→Option (Int)
 | 0,_,_,_,_=>none
 | k+1,x3,x6,x7,x8=>if x8<x7 then if 0≤x8 then if x8<(x6.length:Int) then if (rd x6 x8)<0 then BA.l0 k (wrap64 (x3+1)) x6 x7 (wrap64 (x8+1)) else BA.l0 k x3 x6 x7 (wrap64 (x8+1)) else none else none else some x3
def BA.f (k:Nat) (l0:List Int):Option (Int):=BA.l0 k 0 l0 (l0.length:Int) 0
theorem BA.calls (k:Nat) (A0:Option Addr) (c0:Nat) (l0:List Int) (r:Int) (w:World) (hr0:Kd.C (Kd.int .i64) w A0 l0.length l0) (hc0:l0.length≤c0) (h:BA.f k l0=some r) :
  Calls Tryz.prog 127 #[.slice A0 l0.length c0] w fun e w'=>e = .returned (.int .i64 r)∧Bo w w':=by
 have HR0:=Aa.mk hr0;have HC0:=Aa.mk hc0;clear hr0 hc0;unfold BA.f at h;have H:=h;clear h;have H':=Aa.mk H;clear H
 go_enter Tryz.func127,Tryz.ntmps127
 go_wp2
 go_loopg [3,8] k (fun kq v3 v8 w' => ∃x3_1 x8_1:Int,v3 = .int .i64 x3_1∧v8 = .int .i64 x8_1∧Aa (BA.l0 kq x3_1 l0 (l0.length:Int) x8_1=some r)∧Aa (kq≤k)∧Bo w w')
 case atStart=>exact ⟨(0),(0),Zs.auS,Zs.auS,H',⟨Nat.le_refl _⟩,Zq.dr⟩
 case round =>
  clear H'
  obtain ⟨x3_1,x8_1,rfl,rfl,HA,HK1,⟨m1,rfl⟩⟩:=hrel;cases gk with
  | zero=>exact absurd HA.out (by simp [BA.l0])
  | succ k1 =>
   have H:=HA.out;clear HA;simp only [BA.l0] at H
   rcases Zq.jd H with ⟨c2b0,H⟩|⟨c2b0,H⟩
   ·obtain ⟨c3b0,H⟩:=Zq.pd H
    obtain ⟨c4b0,H⟩:=Zq.pd H
    rcases Zq.jd H with ⟨c5b0,H⟩|⟨c5b0,H⟩
    ·have H':=Aa.mk H;clear H;obtain ⟨ad6,e6,hx6_0,p6,q6⟩:=Zq.at_ HR0.out x8_1;cases e6;go_wp2
     go_roundg k1
     case measure=>have:=HK1.out;omega
     case rel=>exact ⟨(wrap64 (x3_1+1)),(wrap64 (x8_1+1)),Zs.auS,Zs.auS,H',⟨by have:=HK1.out;omega⟩,Zq.dr⟩
    ·have H':=Aa.mk H;clear H;obtain ⟨ad6,e6,hx6_0,p6,q6⟩:=Zq.at_ HR0.out x8_1;cases e6;go_wp2
     go_roundg k1
     case measure=>have:=HK1.out;omega
     case rel=>exact ⟨(x3_1),(wrap64 (x8_1+1)),Zs.auS,Zs.auS,H',⟨by have:=HK1.out;omega⟩,Zq.dr⟩
   ·obtain rfl:=Option.some.inj H;go_wp2;go_ret
    exact ⟨Zs.auS,Zq.dr⟩
def BS.f (k:Nat) (a0 a1:Int):Option (Bool):=if a1=0 then some (decide (a0>0)) else (BX.f k a0 a1).bind fun bt3=>(if (Int.tmod bt3.1 2)=0 then if a1=2 then (Dn.f bt3.2 8).bind fun t4=>(some (t4==1)) else (BN.f k bt3.2 a1).bind fun t5=>(some (t5==1)) else some false)
theorem BS.calls (k:Nat) (a0 a1:Int) (r:Bool) (w:World) (h:BS.f k a0 a1=some r) :
  Calls Tryz.prog 128 #[.int .i64 a0,.int .i64 a1] w fun e w'=>e = .returned (.bool r)∧Bo w w':=by
 unfold BS.f at h;have H:=h;clear h
 rcases Zq.jn H with ⟨c3b0,H⟩|⟨c3,c3b0,H⟩
 ·obtain rfl:=Option.some.inj H
  go_enter Tryz.func128,Tryz.ntmps128
  go_wp2;go_ret
  exact ⟨Zs.auS,Zq.dr⟩
 ·obtain ⟨t9,t10,A4,H⟩:=Zq.bp H;try dsimp only at H
  rcases Zq.ii H with ⟨c5,H⟩|⟨c5,H⟩
  ·have c5b1:=bne_eq_false_iff_eq.mpr c5;clear c5
   rcases Zq.jn H with ⟨c6b0,H⟩|⟨c6,c6b0,H⟩
   ·obtain ⟨t11,A7,H⟩:=Zs.be H;obtain rfl:=Option.some.inj H
    go_enter Tryz.func128,Tryz.ntmps128
    go_wp2_with (first|((with_reducible refine Ab (f:=117) rfl ?_);refine Zq.gp Tryz.func117 (BX.calls _ _ _ _ _ _ A4.out) ?_;intro nd)|((with_reducible refine Ab (f:=120) rfl ?_);refine Zq.gp Tryz.func120 (Dn.calls _ _ _ _ A7.out) ?_;intro nd))
    go_ret
    exact ⟨Zs.auS,Zq.dr⟩
   ·obtain ⟨t12,A8,H⟩:=Zs.be H;obtain rfl:=Option.some.inj H
    go_enter Tryz.func128,Tryz.ntmps128
    go_wp2_with (first|((with_reducible refine Ab (f:=117) rfl ?_);refine Zq.gp Tryz.func117 (BX.calls _ _ _ _ _ _ A4.out) ?_;intro nd)|((with_reducible refine Ab (f:=119) rfl ?_);refine Zq.gp Tryz.func119 (BN.calls _ _ _ _ _ A8.out) ?_;intro nd))
    go_ret
    exact ⟨Zs.auS,Zq.dr⟩
  ·have c5b1:=bne_iff_ne.mpr c5;obtain rfl:=Option.some.inj H
   go_enter Tryz.func128,Tryz.ntmps128
   go_wp2_with (((with_reducible refine Ab (f:=117) rfl ?_);refine Zq.gp Tryz.func117 (BX.calls _ _ _ _ _ _ A4.out) ?_;intro nd))
   go_ret
   exact ⟨Zs.auS,Zq.dr⟩
mutual
def AV.l0:Nat→List Int→Int→Int→List Int→Int→Int→Option (Int)
 | 0,_,_,_,_,_,_=>none
 | k+1,x0,x1,x5,x10,x11,x12=>if x12<x11 then (if 0≤x12 then (if x12<(x10.length:Int) then (if x12≤(x0.length:Int) then (AV.l1 k x0 x1 x5 (rd x10 x12) x10 x11 x12 (x0.take (x12:Int).toNat) ((x0.take (x12:Int).toNat).length:Int) 0) else none) else none) else none) else some x5
def AV.l1:Nat→List Int→Int→Int→Int→List Int→Int→Int→List Int→Int→Int→Option (Int)
 | 0,_,_,_,_,_,_,_,_,_,_=>none
 | k+1,x0,x1,x5,x7,x10,x11,x12,x19,x20,x21=>if x21<x20 then if 0≤x21 then if x21<(x19.length:Int) then (CH.f k x7 (rd x19 x21) x1).bind fun t3=>(AV.l1 k x0 x1 (wrap64 (x5*t3)) x7 x10 x11 x12 x19 x20 (wrap64 (x21+1))) else none else none else AV.l0 k x0 x1 x5 x10 x11 (wrap64 (x12+1))
end
def AV.f (k:Nat) (l0:List Int) (a1:Int):Option (Int):=AV.l0 k l0 a1 1 l0 (l0.length:Int) 0
theorem AV.calls (k:Nat) (A0:Option Addr) (c0:Nat) (l0:List Int) (a1 r:Int) (w:World) (hr0:Kd.C (Kd.int .i64) w A0 l0.length l0) (hc0:l0.length≤c0) (h:AV.f k l0 a1=some r) :
  Calls Tryz.prog 129 #[.slice A0 l0.length c0,.int .i64 a1] w fun e w'=>e = .returned (.int .i64 r)∧Bo w w':=by
 have HR0:=Aa.mk hr0;have HC0:=Aa.mk hc0;clear hr0 hc0;unfold AV.f at h;have H:=h;clear h;have H':=Aa.mk H;clear H
 go_enter Tryz.func129,Tryz.ntmps129
 go_wp2
 go_loopg [5,12] k (fun kq v5 v12 w' => ∃x5_1 x12_1:Int,v5 = .int .i64 x5_1∧v12 = .int .i64 x12_1∧Aa (AV.l0 kq l0 a1 x5_1 l0 (l0.length:Int) x12_1=some r)∧Aa (kq≤k)∧Bo w w')
 case atStart=>exact ⟨(1),(0),Zs.auS,Zs.auS,H',⟨Nat.le_refl _⟩,Zq.dr⟩
 case round =>
  clear H'
  obtain ⟨x5_1,x12_1,rfl,rfl,HA,HK1,⟨m1,rfl⟩⟩:=hrel;cases gk with
  | zero=>exact absurd HA.out (by simp [AV.l0])
  | succ k1 =>
   have H:=HA.out;clear HA;simp only [AV.l0] at H
   rcases Zq.jd H with ⟨c3b0,H⟩|⟨c3b0,H⟩
   ·obtain ⟨c4b0,H⟩:=Zq.pd H
    obtain ⟨c5b0,H⟩:=Zq.pd H;have c6b0:=eq_true (Zs.od:0≤x12_1)
    obtain ⟨c7,H⟩:=Zq.ip H;have c7b0:=eq_true c7;have c7b1:=decide_eq_true c7;clear c7;have H':=Aa.mk H;clear H;obtain ⟨ad13,e13,hx13_0,p13,q13⟩:=Zq.at_ HR0.out x12_1;cases e13;obtain ⟨i08,hi08,_,hsz8,_⟩:=info_parts DS;obtain ⟨hcut8,hA8,hC8⟩:=GL (P:=Tryz.prog) (Value.int .i64) 0 27 3 .i64 Tryz.underlying27 hi08 hsz8 (some ad13) c0 l0 x12_1 (Zs.od) (Zs.od) HC0.out;have HR14:=Aa.mk (Kd.G2 (h1:=fun _=>rfl) (hA8 _ (Kd.EV HR0.out)));have HZ_:Aa (x12_1<(l0.length:Int)):=⟨by first|exact of_decide_eq_true (by assumption)|exact of_eq_true (by assumption)⟩;have HC14:=Aa.mk hC8;clear hA8 hC8 hi08 hsz8;go_wp2
    go_loopg [5,21] k1 (fun kq v5 v21 w' => ∃x5_2 x21_2:Int,v5 = .int .i64 x5_2∧v21 = .int .i64 x21_2∧Aa (AV.l1 kq l0 a1 x5_2 (rd l0 x12_1) l0 (l0.length:Int) x12_1 (l0.take (x12_1:Int).toNat) ((l0.take (x12_1:Int).toNat).length:Int) x21_2=some r)∧Aa (kq≤k1)∧Bo w w')
    case atStart=>exact ⟨(x5_1),(0),Zs.auS,Zs.auS,H',⟨Nat.le_refl _⟩,Zq.dr⟩
    case round =>
     clear H'
     obtain ⟨x5_2,x21_2,rfl,rfl,HA,HK2,⟨m2,rfl⟩⟩:=hrel;cases gk with
     | zero=>exact absurd HA.out (by simp [AV.l1])
     | succ k2 =>
      have H:=HA.out;clear HA;simp only [AV.l1] at H
      rcases Zq.ii H with ⟨c9,H⟩|⟨c9,H⟩
      ·clear c9
       obtain ⟨c10b0,H⟩:=Zq.pd H
       obtain ⟨c11b0,H⟩:=Zq.pd H;obtain ⟨t16,A12,H⟩:=Zs.be H;have H':=Aa.mk H;clear H;obtain ⟨ad15,e15,hx15_0,p15,q15⟩:=Zq.at_ HR14.out x21_2;obtain rfl:ad13=ad15:=(by injection e15);have q183m:(x21_2<max x12_1 0)=True:=eq_true (by have h_:=of_eq_true q15;simp only [List.length_take] at h_;omega)
       go_wp2_with (((with_reducible refine Ab (f:=69) rfl ?_);refine Zq.gp Tryz.func69 (CH.calls _ _ _ _ _ _ A12.out) ?_;intro nd))
       go_roundg k2
       case measure=>have:=HK1.out;have:=HK2.out;omega
       case rel=>exact ⟨(wrap64 (x5_2*t16)),(wrap64 (x21_2+1)),Zs.auS,Zs.auS,H',⟨by have:=HK1.out;have:=HK2.out;omega⟩,Zq.dr⟩
      ·have c9bm:decide (x21_2<max x12_1 0)=false:=decide_eq_false (by have h_:=HZ_.out;simp only [List.length_take] at c9;omega);clear c9;have H':=Aa.mk H;clear H;go_wp2
       go_roundg k2
       case measure=>have:=HK1.out;have:=HK2.out;omega
       case rel=>exact ⟨(x5_2),(wrap64 (x12_1+1)),Zs.auS,Zs.auS,H',⟨by have:=HK1.out;have:=HK2.out;omega⟩,Zq.dr⟩
   ·obtain rfl:=Option.some.inj H;go_wp2;go_ret
    exact ⟨Zs.auS,Zq.dr⟩
def Ce.f (k:Nat) (l0:List Int) (a1:Int):Option (Bool):=(Be.f k l0).bind fun t3=>(if a1=0 then (BA.f k l0).bind fun t4=>(if t4>0 then some (decide (t4<(l0.length:Int))) else some false) else if (l0.length:Int)=2 then (BS.f k (wrap64 (-t3)) a1).bind fun t5=>(some t5) else if (l0.length:Int)=3 then (AV.f k l0 a1).bind fun t6=>((CH.f k (-1) (wrap64 (-t3)) a1).bind fun t7=>(some (t6==t7))) else if (l0.length:Int)=4 then (BS.f k t3 a1).bind fun t8=>(if t8=true then (AV.f k l0 a1).bind fun t9=>((CH.f k (-1) (-1) a1).bind fun t10=>(some (t9==t10))) else some true) else some false)
theorem Ce.calls (k:Nat) (A0:Option Addr) (c0:Nat) (l0:List Int) (a1:Int) (r:Bool) (w:World) (hr0:Kd.C (Kd.int .i64) w A0 l0.length l0) (hc0:l0.length≤c0) (h:Ce.f k l0 a1=some r) :
  Calls Tryz.prog 74 #[.slice A0 l0.length c0,.int .i64 a1] w fun e w'=>e = .returned (.bool r)∧Bo w w':=by
 have HR0:=Aa.mk hr0;have HC0:=Aa.mk hc0;clear hr0 hc0;unfold Ce.f at h;have H:=h;clear h;obtain ⟨t14,A3,H⟩:=Zs.be H
 rcases Zq.jn H with ⟨c4b0,H⟩|⟨c4,c4b0,H⟩
 ·obtain ⟨t17,A5,H⟩:=Zs.be H
  rcases Zq.jg H with ⟨c6b0,H⟩|⟨c6b0,H⟩
  ·obtain rfl:=Option.some.inj H
   go_enter Tryz.func74,Tryz.ntmps74
   go_wp2_with (first|((with_reducible refine Ab (f:=65) rfl ?_);refine Zq.gp Tryz.func65 (Be.calls _ _ _ _ _ _ (Zs.mvC (HR0.out)) HC0.out A3.out) ?_;intro nd)|((with_reducible refine Ab (f:=127) rfl ?_);refine Zq.gp Tryz.func127 (BA.calls _ _ _ _ _ _ (Zs.mvC (HR0.out)) HC0.out A5.out) ?_;intro nd))
   go_ret
   exact ⟨Zs.auS,Zq.dr⟩
  ·obtain rfl:=Option.some.inj H
   go_enter Tryz.func74,Tryz.ntmps74
   go_wp2_with (first|((with_reducible refine Ab (f:=65) rfl ?_);refine Zq.gp Tryz.func65 (Be.calls _ _ _ _ _ _ (Zs.mvC (HR0.out)) HC0.out A3.out) ?_;intro nd)|((with_reducible refine Ab (f:=127) rfl ?_);refine Zq.gp Tryz.func127 (BA.calls _ _ _ _ _ _ (Zs.mvC (HR0.out)) HC0.out A5.out) ?_;intro nd))
   go_ret
   exact ⟨Zs.auS,Zq.dr⟩
 ·rcases Zq.jn H with ⟨c7b0,H⟩|⟨c7,c7b0,H⟩
  ·obtain ⟨t18,A8,H⟩:=Zs.be H;obtain rfl:=Option.some.inj H
   go_enter Tryz.func74,Tryz.ntmps74
   go_wp2_with (first|((with_reducible refine Ab (f:=65) rfl ?_);refine Zq.gp Tryz.func65 (Be.calls _ _ _ _ _ _ (Zs.mvC (HR0.out)) HC0.out A3.out) ?_;intro nd)|((with_reducible refine Ab (f:=128) rfl ?_);refine Zq.gp Tryz.func128 (BS.calls _ _ _ _ _ A8.out) ?_;intro nd))
   go_ret
   exact ⟨Zs.auS,Zq.dr⟩
  ·rcases Zq.jn H with ⟨c9b0,H⟩|⟨c9,c9b0,H⟩
   ·obtain ⟨t19,A10,H⟩:=Zs.be H;obtain ⟨t20,A11,H⟩:=Zs.be H;obtain rfl:=Option.some.inj H
    go_enter Tryz.func74,Tryz.ntmps74
    go_wp2_with (first|((with_reducible refine Ab (f:=65) rfl ?_);refine Zq.gp Tryz.func65 (Be.calls _ _ _ _ _ _ (Zs.mvC (HR0.out)) HC0.out A3.out) ?_;intro nd)|((with_reducible refine Ab (f:=129) rfl ?_);refine Zq.gp Tryz.func129 (AV.calls _ _ _ _ _ _ _ (Zs.mvC (HR0.out)) HC0.out A10.out) ?_;intro nd)|((with_reducible refine Ab (f:=69) rfl ?_);refine Zq.gp Tryz.func69 (CH.calls _ _ _ _ _ _ A11.out) ?_;intro nd))
    go_ret
    exact ⟨Zs.auS,Zq.dr⟩
   ·rcases Zq.jn H with ⟨c12b0,H⟩|⟨c12,c12b0,H⟩
    ·obtain ⟨t21,A13,H⟩:=Zs.be H
     cases t21
     ·replace H:=Zq.fh H;obtain rfl:=Option.some.inj H
      go_enter Tryz.func74,Tryz.ntmps74
      go_wp2_with (first|((with_reducible refine Ab (f:=65) rfl ?_);refine Zq.gp Tryz.func65 (Be.calls _ _ _ _ _ _ (Zs.mvC (HR0.out)) HC0.out A3.out) ?_;intro nd)|((with_reducible refine Ab (f:=128) rfl ?_);refine Zq.gp Tryz.func128 (BS.calls _ _ _ _ _ A13.out) ?_;intro nd))
      go_ret
      exact ⟨Zs.auS,Zq.dr⟩
     ·replace H:=Zq.th H;obtain ⟨t22,A15,H⟩:=Zs.be H;obtain ⟨t23,A16,H⟩:=Zs.be H;obtain rfl:=Option.some.inj H
      go_enter Tryz.func74,Tryz.ntmps74
      go_wp2_with (first|((with_reducible refine Ab (f:=65) rfl ?_);refine Zq.gp Tryz.func65 (Be.calls _ _ _ _ _ _ (Zs.mvC (HR0.out)) HC0.out A3.out) ?_;intro nd)|((with_reducible refine Ab (f:=128) rfl ?_);refine Zq.gp Tryz.func128 (BS.calls _ _ _ _ _ A13.out) ?_;intro nd)|(go_at_call 129;(with_reducible refine (AV.calls k _ _ l0 a1 t22 _ ?side1 ?side2 A15.out).mono ?_);(case side1=>exact Zs.mvC (HR0.out));(case side2=>exact HC0.out);rintro e w' ⟨rfl,⟨nd,rfl⟩⟩)|(go_at_call 69;(with_reducible refine (CH.calls k (-1) (-1) a1 t23 _ A16.out).mono ?_);rintro e w' ⟨rfl,⟨nd,rfl⟩⟩))
      go_ret
      exact ⟨Zs.auS,Zq.dr⟩
    ·obtain rfl:=Option.some.inj H
     go_enter Tryz.func74,Tryz.ntmps74
     go_wp2_with (((with_reducible refine Ab (f:=65) rfl ?_);refine Zq.gp Tryz.func65 (Be.calls _ _ _ _ _ _ (Zs.mvC (HR0.out)) HC0.out A3.out) ?_;intro nd))
     go_ret
     exact ⟨Zs.auS,Zq.dr⟩
def Ct.f (k:Nat) (l0:List Int) (a1:Int):Option (Bool):=(Am.f k l0).bind fun t3=>(if t3=true then (BD.f k a1).bind fun t4=>(if t4=true then (Ce.f k l0 a1).bind fun t5=>(some t5) else some false) else some false)
theorem Ct.calls (k:Nat) (A0:Option Addr) (c0:Nat) (l0:List Int) (a1:Int) (r:Bool) (w:World) (hr0:Kd.C (Kd.int .i64) w A0 l0.length l0) (hc0:l0.length≤c0) (h:Ct.f k l0 a1=some r) :
  Calls Tryz.prog 34 #[.slice A0 l0.length c0,.int .i64 a1] w fun e w'=>e = .returned (.bool r)∧Below w.heap.size w w':=by
 have HR0:=Aa.mk hr0;have HC0:=Aa.mk hc0;clear hr0 hc0;have HB:=Aa.mk (Below.refl w.heap.size w);unfold Ct.f at h;have H:=h;clear h;obtain ⟨t4,A3,H⟩:=Zs.be H
 cases t4
 ·replace H:=Zq.fh H;obtain rfl:=Option.some.inj H
  go_enter Tryz.func34,Tryz.ntmps34
  go_wp2_with (((with_reducible refine Ab (f:=59) rfl ?_);refine Zq.gb Tryz.func59 (Am.calls _ _ _ _ _ _ (Zs.mvC (HR0.out)) HC0.out A3.out) ?_;intro w10 hb;replace HB:=Zq.st hb;(try clear hb)))
  go_ret
  exact ⟨Zs.auR,Zs.auHB⟩
 ·replace H:=Zq.th H;obtain ⟨t6,A5,H⟩:=Zs.be H
  cases t6
  ·replace H:=Zq.fh H;obtain rfl:=Option.some.inj H
   go_enter Tryz.func34,Tryz.ntmps34
   go_wp2_with (first|((with_reducible refine Ab (f:=59) rfl ?_);refine Zq.gb Tryz.func59 (Am.calls _ _ _ _ _ _ (Zs.mvC (HR0.out)) HC0.out A3.out) ?_;intro w9 hb;replace HB:=Zq.st hb;(try clear hb))|(go_at_call 68;(with_reducible refine (BD.calls k a1 false _ A5.out).mono ?_);rintro e w' ⟨rfl,⟨nd,rfl⟩⟩))
   go_ret
   exact ⟨Zs.auR,Zs.auHB⟩
  ·replace H:=Zq.th H;obtain ⟨t11,A7,H⟩:=Zs.be H;obtain rfl:=Option.some.inj H
   go_enter Tryz.func34,Tryz.ntmps34
   go_wp2_with (first|((with_reducible refine Ab (f:=59) rfl ?_);refine Zq.gb Tryz.func59 (Am.calls _ _ _ _ _ _ (Zs.mvC (HR0.out)) HC0.out A3.out) ?_;intro w8 hb;replace HB:=Zq.st hb;(try clear hb))|(go_at_call 68;(with_reducible refine (BD.calls k a1 true _ A5.out).mono ?_);rintro e w' ⟨rfl,⟨nd,rfl⟩⟩)|(go_at_call 74;(with_reducible refine (Ce.calls k _ _ l0 a1 t11 _ ?side1 ?side2 A7.out).mono ?_);(case side1=>repeat (first|exact (Kd.BF HR0.out (Zs.auHB))|(with_reducible refine Kd.Gl ?_ _)|(with_reducible refine Kd.G1 ?_ _)|(with_reducible refine Kd.H5 ?_)));(case side2=>exact HC0.out);rintro e w' ⟨rfl,⟨nd,rfl⟩⟩))
   go_ret
   exact ⟨Zs.auR,Zs.auHB⟩
def Bi.l0:Nat→List Int→Int→Int→Int→Option (Int)
 | 0,_,_,_,_=>none
 | k+1,x0,x1,x7,x8=>if x8<x7 then if 0≤x8 then if x8<(x0.length:Int) then if x1=(rd x0 x8) then some x8 else Bi.l0 k x0 x1 x7 (wrap64 (x8+1)) else none else none else some (-1)
def Bi.f (k:Nat) (l0:List Int) (a1:Int):Option (Int):=Bi.l0 k l0 a1 (l0.length:Int) 0
theorem Bi.calls (k:Nat) (A0:Option Addr) (c0:Nat) (l0:List Int) (a1 r:Int) (w:World) (hr0:Kd.C (Kd.int .i64) w A0 l0.length l0) (hc0:l0.length≤c0) (h:Bi.f k l0 a1=some r) :
  Calls Tryz.prog 183 #[.slice A0 l0.length c0,.int .i64 a1] w fun e w'=>e = .returned (.int .i64 r)∧Bo w w':=by
 have HR0:=Aa.mk hr0;have HC0:=Aa.mk hc0;clear hr0 hc0;unfold Bi.f at h;have H:=h;clear h;have H':=Aa.mk H;clear H
 go_enter Tryz.func183,Tryz.ntmps183
 go_wp2
 go_loopg [8] k (fun kq v8 w' => ∃x8_1:Int,v8 = .int .i64 x8_1∧Aa (Bi.l0 kq l0 a1 (l0.length:Int) x8_1=some r)∧Aa (kq≤k)∧Bo w w')
 case atStart=>exact ⟨(0),Zs.auS,H',⟨Nat.le_refl _⟩,Zq.dr⟩
 case round =>
  clear H'
  obtain ⟨x8_1,rfl,HA,HK1,⟨m1,rfl⟩⟩:=hrel;cases gk with
  | zero=>exact absurd HA.out (by simp [Bi.l0])
  | succ k1 =>
   have H:=HA.out;clear HA;simp only [Bi.l0] at H
   rcases Zq.jd H with ⟨c3b0,H⟩|⟨c3b0,H⟩
   ·obtain ⟨c4b0,H⟩:=Zq.pd H
    obtain ⟨c5b0,H⟩:=Zq.pd H
    rcases Zq.jn H with ⟨c6b0,H⟩|⟨c6,c6b0,H⟩
    ·obtain rfl:=Option.some.inj H;obtain ⟨ad7,e7,hx7_0,p7,q7⟩:=Zq.at_ HR0.out x8_1;cases e7;go_wp2;go_ret
     exact ⟨Zs.auS,Zq.dr⟩
    ·have H':=Aa.mk H;clear H;obtain ⟨ad7,e7,hx7_0,p7,q7⟩:=Zq.at_ HR0.out x8_1;cases e7;go_wp2
     go_roundg k1
     case measure=>have:=HK1.out;omega
     case rel=>exact ⟨(wrap64 (x8_1+1)),Zs.auS,H',⟨by have:=HK1.out;omega⟩,Zq.dr⟩
   ·obtain rfl:=Option.some.inj H;go_wp2;go_ret
    exact ⟨Zs.auS,Zq.dr⟩
def BU.f (k:Nat) (l0:List Int) (a1:Int):Option (Bool):=(Bi.f k l0 a1).bind fun t3=>(some (decide (t3≥0)))
theorem BU.calls (k:Nat) (A0:Option Addr) (c0:Nat) (l0:List Int) (a1:Int) (r:Bool) (w:World) (hr0:Kd.C (Kd.int .i64) w A0 l0.length l0) (hc0:l0.length≤c0) (h:BU.f k l0 a1=some r) :
  Calls Tryz.prog 166 #[.slice A0 l0.length c0,.int .i64 a1] w fun e w'=>e = .returned (.bool r)∧Bo w w':=by
 have HR0:=Aa.mk hr0;have HC0:=Aa.mk hc0;clear hr0 hc0;unfold BU.f at h;have H:=h;clear h;obtain ⟨t4,A3,H⟩:=Zs.be H;obtain rfl:=Option.some.inj H
 go_enter Tryz.func166,Tryz.ntmps166
 go_wp2_with (((with_reducible refine Ab (f:=183) rfl ?_);refine Zq.gp Tryz.func183 (Bi.calls _ _ _ _ _ _ _ (Zs.mvC (HR0.out)) HC0.out A3.out) ?_;intro nd))
 go_ret
 exact ⟨Zs.auS,Zq.dr⟩
section
open Locg
def CL.f (l0:List Int):Option (List Int):=if 1≤l0.length∧l0.length≤17592186044416 then some (l0.mergeSort fun x y=>decide (x≤y)) else none
theorem CL.calls (P0_:Nat→Prop) (u9000_:Value) (l0 r:List Int) (w0 w:World) (hB:Below w0.heap.size w0 w) (ho0:Kd.R (Kd.int .i64) 3 w w0.heap.size P0_ u9000_ l0) (h:CL.f l0=some r) :
  Calls Tryz.prog 167 #[u9000_] w fun e w'=>e = .returned (.tuple #[])∧Kd.R (Kd.int .i64) 3 w' w0.heap.size (fun k_=>(P0_ k_∨w.heap.size≤k_)) u9000_ r∧Below w0.heap.size w0 w'∧Kept w w' (fun k_=>P0_ k_):=by
 unfold CL.f at h
 by_cases hl:1≤l0.length∧l0.length≤17592186044416
 ·rw [if_pos hl] at h;injection h with h
  subst h;have hok:=ho0.1;obtain ⟨_,h2⟩:=Kd.EE (enc:=Value.int .i64) (h1:=fun _=>rfl) ho0
  rcases h2 with ⟨_,h2⟩|⟨g,cap,cur,rfl,hb,hh,hn,hc,hs,ht⟩
  ·omega
  ·have ht':cur.toList.take l0.length=l0.map (Value.int .i64):=by rw [Nat.mul_one] at ht;exact ht
   have hlt:=lt_of_block hh;refine (Tryz.slices_Sort_int g 0 cap l0 w (holds_of_blockI hh ht') hlt (by omega)).mono ?_;rintro e w' ⟨rfl,n,os,rfl⟩;have hlen:(l0.mergeSort fun x y=>decide (x≤y)).length=l0.length:=List.length_mergeSort l0;have hg:=grownBy_sortedI (w:=w) (g:=g) (n:=n) (os:=os) (l0.mergeSort fun x y=>decide (x≤y)).toArray;have hown:=ownsRow_sortedI (n:=n) (os:=os) hlen hb hh hn hc hs;refine ⟨rfl,?_,hB.grown hg hB.size (fun k hk=>by injection hk with hk;omega),Kept.ET hg (Kept.refl _ _) (fun k hk=>Or.inl (hok k hk))⟩;refine Kd.F9 (enc:=Value.int .i64) (h1:=fun _=>rfl) ?_ (fun k hk=>Or.inl (hok k hk));rw [hlen];exact hown
 ·rw [if_neg hl] at h;cases h
end
mutual
def Bk.l0:Nat→List Int→List Int→Int→Int→Option (List Int)
 | 0,_,_,_,_=>none
 | k+1,x3,x9,x10,x11=>if x11<x10 then if 0≤x11 then if x11<(x9.length:Int) then (Bw.f k (rd x9 x11)).bind fun t5=>(Bk.l1 k x3 x9 x10 x11 t5 (t5.length:Int) 0) else none else none else (CL.f x3).bind fun t4=>(some t4)
def Bk.l1:Nat→List Int→List Int→Int→Int→List Int→Int→Int→Option (List Int)
 | 0,_,_,_,_,_,_,_=>none
 | k+1,x3,x9,x10,x11,x16,x17,x18=>if x18<x17 then if 0≤x18 then if x18<(x16.length:Int) then (BU.f k x3 (rd x16 x18)).bind fun t4=>(if t4=true then Bk.l1 k x3 x9 x10 x11 x16 x17 (wrap64 (x18+1)) else if x3.length<17592186044416 then Bk.l1 k (x3++[rd x16 x18]) x9 x10 x11 x16 x17 (wrap64 (x18+1)) else none) else none else none else Bk.l0 k x3 x9 x10 (wrap64 (x11+1))
end
def Bk.f (k:Nat) (l0:List Int):Option (List Int):=Bk.l0 k (([0,2]:List Int)) l0 (l0.length:Int) 0
theorem Bk.calls (k:Nat) (A0:Option Addr) (c0:Nat) (l0 r:List Int) (w:World) (hr0:Kd.C (Kd.int .i64) w A0 l0.length l0) (hc0:l0.length≤c0) (h:Bk.f k l0=some r) :
  Calls Tryz.prog 147 #[.slice A0 l0.length c0] w fun e w' => ∃v0_:Value,e = .returned (v0_)∧Kd.R (Kd.int .i64) 3 w' w.heap.size (fun _=>True) v0_ r∧Below w.heap.size w w':=by
 have HR0:=Aa.mk hr0;have HC0:=Aa.mk hc0;clear hr0 hc0;have HB:=Aa.mk (Below.refl w.heap.size w);unfold Bk.f at h;have H:=h;clear h;generalize hyy:([0,2]:List Int)=y14 at H;have Ny14:=Aa.mk hyy.symm;clear hyy;have H':=Aa.mk H;clear H
 go_enter Tryz.func147,Tryz.ntmps147
 go_wp2_with (((with_reducible refine Bb (N:=8) rfl ?_);refine Zq.li ([0,2]:List Int) ?_;intro v22 w2 ho3 hb;(first|rw [← Ny14.out] at ho3|(simp only [Int.reduceToNat] at ho3;rw [← Ny14.out] at ho3));have HO23:=Zq.lw ho3;replace HB:=Zq.st hb;clear hb ho3))
 go_loopg [3,11] k (fun kq v3 v11 w' => ∃(x3_1:List Int) (x11_1:Int),v11 = .int .i64 x11_1∧Aa (Bk.l0 kq x3_1 l0 (l0.length:Int) x11_1=some r)∧Aa (kq≤k)∧Aa (Kd.R (Kd.int .i64) 3 w' w.heap.size (fun _=>True) v3 x3_1)∧Aa (Below w.heap.size w w'))
 case atStart=>exact ⟨(y14),(0),Zs.auS,H',⟨Nat.le_refl _⟩,⟨(Zs.mvR HO23.out)⟩,⟨Zs.auHB⟩⟩
 case round =>
  clear H'
  obtain ⟨x3_1,x11_1,rfl,HA,HK1,HO_3,HB⟩:=hrel;cases gk with
  | zero=>exact absurd HA.out (by simp [Bk.l0])
  | succ k1 =>
   have H:=HA.out;clear HA;simp only [Bk.l0] at H
   rcases Zq.jd H with ⟨c4b0,H⟩|⟨c4b0,H⟩
   ·obtain ⟨c5b0,H⟩:=Zq.pd H
    obtain ⟨c6b0,H⟩:=Zq.pd H;obtain ⟨t26,A7,H⟩:=Zs.be H;have H':=Aa.mk H;clear H;obtain ⟨ad25,e25,hx25_0,p25,q25⟩:=Zq.at_ HR0.out x11_1;cases e25;replace hx25_0:=Zq.ce HB.out hx25_0
    go_wp2_with (((with_reducible refine Ab (f:=113) rfl ?_);refine Zq.gc (some 16) Tryz.func113 (Bw.calls _ _ _ _ A7.out) ?_;rintro e w8 ⟨v28,rfl,ho0,hb⟩;refine ⟨_,rfl,?_⟩;have HO29:=Aa.mk (Kd.Bp (Kd.Br ho0 (Zq.lt HO_3.out)) (Ay (Zs.auHB)));replace HO_3:=Zq.el HO_3.out ho0 hb;replace HB:=Zq.st hb;(try clear hb);(try clear ho0);obtain ⟨Ao9,co9,eo9⟩:=Kd.Az HO29.out;subst eo9))
    go_loopg [3,18] k1 (fun kq v3 v18 w' => ∃(x3_2:List Int) (x18_2:Int),v18 = .int .i64 x18_2∧Aa (Bk.l1 kq x3_2 l0 (l0.length:Int) x11_1 t26 (t26.length:Int) x18_2=some r)∧Aa (kq≤k1)∧Aa (Kd.R (Kd.int .i64) 3 w' w.heap.size (fun k_=>some k_≠((.slice Ao9 t26.length co9):Value).ownBlock) v3 x3_2)∧Aa (Kd.R (Kd.int .i64) 3 w' w.heap.size (fun k_=>some k_≠(v3:Value).ownBlock) (.slice Ao9 t26.length co9) t26)∧Aa (Below w.heap.size w w'))
    case atStart=>exact ⟨(x3_1),(0),Zs.auS,H',⟨Nat.le_refl _⟩,⟨(Zs.mvR (Kd.AB HO_3.out Zq.tk))⟩,⟨(Zs.mvR (Kd.AB HO29.out Zq.tk))⟩,⟨Zs.auHB⟩⟩
    case round =>
     clear H'
     obtain ⟨x3_2,x18_2,rfl,HA,HK2,HO_3,HO_16,HB⟩:=hrel;cases gk with
     | zero=>exact absurd HA.out (by simp [Bk.l1])
     | succ k2 =>
      have H:=HA.out;clear HA;simp only [Bk.l1] at H
      rcases Zq.jd H with ⟨c10b0,H⟩|⟨c10b0,H⟩
      ·obtain ⟨c11b0,H⟩:=Zq.pd H
       obtain ⟨c12b0,H⟩:=Zq.pd H;obtain ⟨t31,A13,H⟩:=Zs.be H
       cases t31
       ·replace H:=Zq.fh H
        obtain ⟨c16,H⟩:=Zq.ip H;have LMc16:=Aa.mk c16;clear c16;generalize hyy:(x3_2++[rd t26 x18_2]:List Int)=y32 at H;have Ny32:=Aa.mk hyy.symm;clear hyy;have H':=Aa.mk H;clear H;obtain ⟨ad30,e30,hx30_0,p30,q30⟩:=Zq.at_ (Kd.Ac HO_16.out).2.2 x18_2;cases e30;obtain ⟨Ao17,co17,eo17⟩:=Kd.Az HO_3.out;subst eo17
        go_wp2_with (first|((with_reducible refine Ab (f:=166) rfl ?_);refine Zq.gp Tryz.func166 (BU.calls _ _ _ _ _ _ _ (Zs.mvC ((Kd.Ac HO_3.out).2.2)) ((Kd.Ac HO_3.out).2.1) A13.out) ?_;intro nd)|((with_reducible refine AY (b := .append) (xs:=#[.tmp 26,.tmp 28]) rfl ?_);at_builtin;refine Kd.Ea (Kd.int .i64) (w0:=w) w.heap.size rfl (.tmp 26) (.tmp 28) 27 3 (.int .i64 0) 8 rfl Tryz.underlying27 DS rfl (by decide) (by omega) (.slice Ao17 x3_2.length co17) x3_2 (rd t26 x18_2) [.int .i64 (rd t26 x18_2)] (fun k_=>some k_≠(.slice (some ad30) t26.length co9:Value).ownBlock) (fun _=>False) rfl rfl ?aP (fun _ hk=>hk.elim) ?aF ?aO ?aB ?aS ?aL ?_;(case aP=>exact rfl);(case aB=>exact (Zs.auHB));(case aF=>exact (fun k_ hk=>Kd.DF (Zq.lt HO_16.out) k_ hk));(case aO=>exact ((Zs.mvR HO_3.out)));(case aS=>exact (Ay (Zs.auHB)));(case aL=>have:=LMc16.out;omega);intro v33 w18 ho hb hg hat;rw [← Ny32.out] at ho;replace HO_16:=Aa.mk (Kd.BW (ok:=(fun _=>True)) ((Zs.mvR (Kd.AB HO_16.out (fun _ hk=>⟨trivial,hk⟩)))) hg hat);replace HB:=Aa.mk (hb);have HO34:=Aa.mk (ho);clear HO_3;clear ho hb hg hat))
        go_roundg k2
        case measure=>have:=HK1.out;have:=HK2.out;omega
        case rel=>exact ⟨(y32),(wrap64 (x18_2+1)),Zs.auS,H',⟨by have:=HK1.out;have:=HK2.out;omega⟩,⟨(Zs.mvR HO34.out)⟩,⟨(Zs.mvR (Kd.AB HO_16.out Zq.tk))⟩,⟨Zs.auHB⟩⟩
       ·replace H:=Zq.th H;have H':=Aa.mk H;clear H;obtain ⟨ad30,e30,hx30_0,p30,q30⟩:=Zq.at_ (Kd.Ac HO_16.out).2.2 x18_2;cases e30;obtain ⟨Ao15,co15,eo15⟩:=Kd.Az HO_3.out;subst eo15
        go_wp2_with (((with_reducible refine Ab (f:=166) rfl ?_);refine Zq.gp Tryz.func166 (BU.calls _ _ _ _ _ _ _ (Zs.mvC ((Kd.Ac HO_3.out).2.2)) ((Kd.Ac HO_3.out).2.1) A13.out) ?_;intro nd))
        go_roundg k2
        case measure=>have:=HK1.out;have:=HK2.out;omega
        case rel=>exact ⟨(x3_2),(wrap64 (x18_2+1)),Zs.auS,H',⟨by have:=HK1.out;have:=HK2.out;omega⟩,⟨(Zs.mvR HO_3.out)⟩,⟨(Zs.mvR HO_16.out)⟩,⟨Zs.auHB⟩⟩
      ·have H':=Aa.mk H;clear H;go_wp2
       go_roundg k2
       case measure=>have:=HK1.out;have:=HK2.out;omega
       case rel=>exact ⟨(x3_2),(wrap64 (x11_1+1)),Zs.auS,H',⟨by have:=HK1.out;have:=HK2.out;omega⟩,⟨(Zs.mvR (Kd.AB HO_3.out (fun _ hk=>trivial)))⟩,⟨Zs.auHB⟩⟩
   ·obtain ⟨t24,A19,H⟩:=Zs.be H;obtain rfl:=Option.some.inj H;obtain ⟨Ao20,co20,eo20⟩:=Kd.Az HO_3.out;subst eo20
    go_wp2_with (((with_reducible refine Ab (f:=167) rfl ?_);refine Zq.gc (some 33) Tryz.func167 (CL.calls _ _ _ _ _ _ Zs.auHB (Kd.Jt rfl HO_3.out) A19.out) ?_;rintro e w21 ⟨rfl,hy0,hb,hkp⟩;refine ⟨_,rfl,?_⟩;replace HO_3:=Aa.mk (Kd.R_reok rfl hy0 (fun k_ e_=>HO_3.out.1 k_ e_));replace HB:=Aa.mk (hb);(try clear hb);(try clear hkp);(try clear hy0)))
    go_ret
    exact ⟨_,Zs.auR,(Zs.mvR HO_3.out),Zs.auHB⟩
def CY.f (k:Nat) (l0:List Int):Option (List Int):=(Am.f k l0).bind fun t3=>(if t3=true then (Bk.f k l0).bind fun t4=>(some t4) else some ([]:List Int))
theorem CY.calls (k:Nat) (A0:Option Addr) (c0:Nat) (l0 r:List Int) (w:World) (hr0:Kd.C (Kd.int .i64) w A0 l0.length l0) (hc0:l0.length≤c0) (h:CY.f k l0=some r) :
  Calls Tryz.prog 145 #[.slice A0 l0.length c0] w fun e w' => ∃v0_:Value,e = .returned (v0_)∧Kd.R (Kd.int .i64) 3 w' w.heap.size (fun _=>True) v0_ r∧Below w.heap.size w w':=by
 have HR0:=Aa.mk hr0;have HC0:=Aa.mk hc0;clear hr0 hc0;have HB:=Aa.mk (Below.refl w.heap.size w);unfold CY.f at h;have H:=h;clear h;obtain ⟨t3,A2,H⟩:=Zs.be H
 cases t3
 ·replace H:=Zq.fh H;obtain rfl:=Option.some.inj H
  go_enter Tryz.func145,Tryz.ntmps145
  go_wp2_with (((with_reducible refine Ab (f:=59) rfl ?_);refine Zq.gb Tryz.func59 (Am.calls _ _ _ _ _ _ (Zs.mvC (HR0.out)) HC0.out A2.out) ?_;intro w7 hb;replace HB:=Zq.st hb;(try clear hb)))
  go_ret
  exact ⟨_,Zs.auR,Zq.nl,Zs.auHB⟩
 ·replace H:=Zq.th H;obtain ⟨t8,A4,H⟩:=Zs.be H;obtain rfl:=Option.some.inj H
  go_enter Tryz.func145,Tryz.ntmps145
  go_wp2_with (first|((with_reducible refine Ab (f:=59) rfl ?_);refine Zq.gb Tryz.func59 (Am.calls _ _ _ _ _ _ (Zs.mvC (HR0.out)) HC0.out A2.out) ?_;intro w5 hb;replace HB:=Zq.st hb;(try clear hb))|((with_reducible refine Ab (f:=147) rfl ?_);refine Zq.gc (some 7) Tryz.func147 (Bk.calls _ _ _ _ _ _ (Zs.mvC ((Kd.BF HR0.out HB.out))) HC0.out A4.out) ?_;rintro e w6 ⟨v9,rfl,ho0,hb⟩;refine ⟨_,rfl,?_⟩;have HO10:=Zq.lw ho0;replace HB:=Zq.st hb;(try clear hb);(try clear ho0)))
  go_ret
  exact ⟨_,Zs.auR,(Zs.mvR HO10.out),Zs.auHB⟩
def BM.l0:Nat→List Int→List Int→List Int→Int→Int→Option (List Int)
 | 0,_,_,_,_,_=>none
 | k+1,x0,x3,x8,x9,x10=>if x10<x9 then if 0≤x10 then if x10<(x8.length:Int) then (Ce.f k x0 (rd x8 x10)).bind fun t4=>(if t4=true then BM.l0 k x0 x3 x8 x9 (wrap64 (x10+1)) else if x3.length<17592186044416 then BM.l0 k x0 (x3++[rd x8 x10]) x8 x9 (wrap64 (x10+1)) else none) else none else none else some x3
def BM.f (k:Nat) (l0:List Int):Option (List Int):=(CY.f k l0).bind fun t3=>(BM.l0 k l0 (([]:List Int)) t3 (t3.length:Int) 0)
theorem BM.calls (k:Nat) (A0:Option Addr) (c0:Nat) (l0 r:List Int) (w:World) (hr0:Kd.C (Kd.int .i64) w A0 l0.length l0) (hc0:l0.length≤c0) (h:BM.f k l0=some r) :
  Calls Tryz.prog 102 #[.slice A0 l0.length c0] w fun e w' => ∃v0_:Value,e = .returned (v0_)∧Kd.R (Kd.int .i64) 3 w' w.heap.size (fun _=>True) v0_ r∧Below w.heap.size w w':=by
 have HR0:=Aa.mk hr0;have HC0:=Aa.mk hc0;clear hr0 hc0;have HB:=Aa.mk (Below.refl w.heap.size w);unfold BM.f at h;have H:=h;clear h;obtain ⟨y11,hyy⟩ : ∃y_:List Int,y_=(([]:List Int)):=⟨_,rfl⟩
 replace H:((CY.f k l0).bind fun t16=>(BM.l0 k l0 y11 t16 (t16.length:Int) 0))=some r:=Zs.auY
 have Ny11:=Aa.mk hyy;clear hyy;obtain ⟨t16,A2,H⟩:=Zs.be H;have H':=Aa.mk H;clear H
 go_enter Tryz.func102,Tryz.ntmps102
 go_wp2_with (first|((with_reducible refine Bb (N:=6) rfl ?_);refine Zq.li ([]:List Int) ?_;intro v14 w3 ho4 hb;(first|rw [← Ny11.out] at ho4|(simp only [Int.reduceToNat] at ho4;rw [← Ny11.out] at ho4));have HO15:=Zq.lw ho4;replace HB:=Zq.st hb;clear hb ho4)|((with_reducible refine Ab (f:=145) rfl ?_);refine Zq.gc (some 8) Tryz.func145 (CY.calls _ _ _ _ _ _ (Zs.mvC ((Kd.BF HR0.out HB.out))) HC0.out A2.out) ?_;rintro e w5 ⟨v17,rfl,ho0,hb⟩;refine ⟨_,rfl,?_⟩;have HO18:=Aa.mk (Kd.Bp (Kd.Br ho0 (Zq.lt HO15.out)) (Ay (Zs.auHB)));replace HO15:=Zq.el HO15.out ho0 hb;replace HB:=Zq.st hb;(try clear hb);(try clear ho0);obtain ⟨Ao6,co6,eo6⟩:=Kd.Az HO18.out;subst eo6))
 go_loopg [3,10] k (fun kq v3 v10 w' => ∃(x3_1:List Int) (x10_1:Int),v10 = .int .i64 x10_1∧Aa (BM.l0 kq l0 x3_1 t16 (t16.length:Int) x10_1=some r)∧Aa (kq≤k)∧Aa (Kd.R (Kd.int .i64) 3 w' w.heap.size (fun k_=>some k_≠((.slice Ao6 t16.length co6):Value).ownBlock) v3 x3_1)∧Aa (Kd.R (Kd.int .i64) 3 w' w.heap.size (fun k_=>some k_≠(v3:Value).ownBlock) (.slice Ao6 t16.length co6) t16)∧Aa (Below w.heap.size w w'))
 case atStart=>exact ⟨(y11),(0),Zs.auS,H',⟨Nat.le_refl _⟩,⟨(Zs.mvR (Kd.AB HO15.out Zq.tk))⟩,⟨(Zs.mvR (Kd.AB HO18.out Zq.tk))⟩,⟨Zs.auHB⟩⟩
 case round =>
  clear H'
  obtain ⟨x3_1,x10_1,rfl,HA,HK1,HO_3,HO_8,HB⟩:=hrel;cases gk with
  | zero=>exact absurd HA.out (by simp [BM.l0])
  | succ k1 =>
   have H:=HA.out;clear HA;simp only [BM.l0] at H
   rcases Zq.jd H with ⟨c7b0,H⟩|⟨c7b0,H⟩
   ·obtain ⟨c8b0,H⟩:=Zq.pd H
    obtain ⟨c9b0,H⟩:=Zq.pd H;obtain ⟨t20,A10,H⟩:=Zs.be H
    cases t20
    ·replace H:=Zq.fh H
     obtain ⟨c12,H⟩:=Zq.ip H;have LMc12:=Aa.mk c12;clear c12;generalize hyy:(x3_1++[rd t16 x10_1]:List Int)=y21 at H;have Ny21:=Aa.mk hyy.symm;clear hyy;have H':=Aa.mk H;clear H;obtain ⟨ad19,e19,hx19_0,p19,q19⟩:=Zq.at_ (Kd.Ac HO_8.out).2.2 x10_1;cases e19
     go_wp2_with (first|((with_reducible refine Ab (f:=74) rfl ?_);refine Zq.gp Tryz.func74 (Ce.calls _ _ _ _ _ _ _ (Zs.mvC ((Kd.BF HR0.out HB.out))) HC0.out A10.out) ?_;intro nd)|((with_reducible refine AY (b := .append) (xs:=#[.tmp 18,.tmp 20]) rfl ?_);at_builtin;refine Zq.ap (.tmp 18) (.tmp 20) 27 Tryz.underlying27 DS u3 x3_1 (rd t16 x10_1) (fun k_=>some k_≠(.slice (some ad19) t16.length co6:Value).ownBlock) (fun k_ hk=>Kd.DF (Zq.lt HO_8.out) k_ hk) ((Zs.mvR HO_3.out)) LMc12.out ?_;intro v22 w13 ho hb hg hat;rw [← Ny21.out] at ho;replace HO_8:=Aa.mk (Kd.BW (ok:=(fun _=>True)) ((Zs.mvR (Kd.AB HO_8.out (fun _ hk=>⟨trivial,hk⟩)))) hg hat);replace HB:=Aa.mk (hb);have HO23:=Aa.mk (ho);clear HO_3;clear ho hb hg hat))
     go_roundg k1
     case measure=>have:=HK1.out;omega
     case rel=>exact ⟨(y21),(wrap64 (x10_1+1)),Zs.auS,H',⟨by have:=HK1.out;omega⟩,⟨(Zs.mvR HO23.out)⟩,⟨(Zs.mvR (Kd.AB HO_8.out Zq.tk))⟩,⟨Zs.auHB⟩⟩
    ·replace H:=Zq.th H;have H':=Aa.mk H;clear H;obtain ⟨ad19,e19,hx19_0,p19,q19⟩:=Zq.at_ (Kd.Ac HO_8.out).2.2 x10_1;cases e19
     go_wp2_with (((with_reducible refine Ab (f:=74) rfl ?_);refine Zq.gp Tryz.func74 (Ce.calls _ _ _ _ _ _ _ (Zs.mvC ((Kd.BF HR0.out HB.out))) HC0.out A10.out) ?_;intro nd))
     go_roundg k1
     case measure=>have:=HK1.out;omega
     case rel=>exact ⟨(x3_1),(wrap64 (x10_1+1)),Zs.auS,H',⟨by have:=HK1.out;omega⟩,⟨(Zs.mvR HO_3.out)⟩,⟨(Zs.mvR HO_8.out)⟩,⟨Zs.auHB⟩⟩
   ·obtain rfl:=Option.some.inj H;go_wp2;go_ret
    exact ⟨_,Zs.auR,(Zs.mvR (Kd.AB HO_3.out (fun _ hk=>trivial))),Zs.auHB⟩
mutual
def Cj.l0:Nat→Int→List Int→Int→Int→Option (Int)
 | 0,_,_,_,_=>none
 | k+1,x3,x6,x7,x8=>if x8<x7 then if 0≤x8 then if x8<(x6.length:Int) then (BB.f (rd x6 x8)).bind fun t4=>(Cj.l1 k x3 t4 x6 x7 x8) else none else none else some x3
def Cj.l1:Nat→Int→Int→List Int→Int→Int→Option (Int)
 | 0,_,_,_,_,_=>none
 | k+1,x3,x5,x6,x7,x8=>if x5=0 then Cj.l0 k x3 x6 x7 (wrap64 (x8+1)) else Cj.l1 k x5 (Int.tmod x3 x5) x6 x7 x8
end
def Cj.f (k:Nat) (l0:List Int):Option (Int):=Cj.l0 k 0 l0 (l0.length:Int) 0
theorem Cj.calls (k:Nat) (A0:Option Addr) (c0:Nat) (l0:List Int) (r:Int) (w:World) (hr0:Kd.C (Kd.int .i64) w A0 l0.length l0) (hc0:l0.length≤c0) (h:Cj.f k l0=some r) :
  Calls Tryz.prog 88 #[.slice A0 l0.length c0] w fun e w'=>e = .returned (.int .i64 r)∧Below w.heap.size w w':=by
 have HR0:=Aa.mk hr0;have HC0:=Aa.mk hc0;clear hr0 hc0;have HB:=Aa.mk (Below.refl w.heap.size w);unfold Cj.f at h;have H:=h;clear h;have H':=Aa.mk H;clear H
 go_enter Tryz.func88,Tryz.ntmps88
 go_wp2
 go_loopg [3,8] k (fun kq v3 v8 w' => ∃x3_1 x8_1:Int,v3 = .int .i64 x3_1∧v8 = .int .i64 x8_1∧Aa (Cj.l0 kq x3_1 l0 (l0.length:Int) x8_1=some r)∧Aa (kq≤k)∧Aa (Below w.heap.size w w'))
 case atStart=>exact ⟨(0),(0),Zs.auS,Zs.auS,H',⟨Nat.le_refl _⟩,⟨Zs.auHB⟩⟩
 case round =>
  clear H';obtain ⟨x3_1,x8_1,rfl,rfl,HA,HK1,HB⟩:=hrel;cases gk with
  | zero=>exact absurd HA.out (by simp [Cj.l0])
  | succ k1 =>
   have H:=HA.out;clear HA;simp only [Cj.l0] at H
   rcases Zq.jd H with ⟨c2b0,H⟩|⟨c2b0,H⟩
   ·obtain ⟨c3b0,H⟩:=Zq.pd H
    obtain ⟨c4b0,H⟩:=Zq.pd H;obtain ⟨t10,A5,H⟩:=Zs.be H;have H':=Aa.mk H;clear H;obtain ⟨ad9,e9,hx9_0,p9,q9⟩:=Zq.at_ HR0.out x8_1;cases e9;replace hx9_0:=Zq.ce HB.out hx9_0
    go_wp2_with ((go_at_call 112;(with_reducible refine (BB.calls (rd l0 x8_1) t10 _ A5.out).mono ?_);rintro e w6 ⟨rfl,hb⟩;replace HB:=Zq.st hb;(try clear hb)))
    go_loopg [3,5] k1 (fun kq v3 v5 w' => ∃x3_2 x5_2:Int,v3 = .int .i64 x3_2∧v5 = .int .i64 x5_2∧Aa (Cj.l1 kq x3_2 x5_2 l0 (l0.length:Int) x8_1=some r)∧Aa (kq≤k1)∧Aa (Below w.heap.size w w'))
    case atStart=>exact ⟨(x3_1),(t10),Zs.auS,Zs.auS,H',⟨Nat.le_refl _⟩,⟨Zs.auHB⟩⟩
    case round =>
     clear H'
     obtain ⟨x3_2,x5_2,rfl,rfl,HA,HK2,HB⟩:=hrel;cases gk with
     | zero=>exact absurd HA.out (by simp [Cj.l1])
     | succ k2 =>
      have H:=HA.out;clear HA;simp only [Cj.l1] at H
      rcases Zq.ii H with ⟨c7,H⟩|⟨c7,H⟩
      ·have c7b1:=bne_eq_false_iff_eq.mpr c7;clear c7;have H':=Aa.mk H;clear H;go_wp2
       go_roundg k2
       case measure=>have:=HK1.out;have:=HK2.out;omega
       case rel=>exact ⟨(x3_2),(wrap64 (x8_1+1)),Zs.auS,Zs.auS,H',⟨by have:=HK1.out;have:=HK2.out;omega⟩,⟨Zs.auHB⟩⟩
      ·have c7b1:=bne_iff_ne.mpr c7;have H':=Aa.mk H;clear H;go_wp2
       repeat (go_quiet (fail);try go_wp2)
       go_roundg k2
       case measure=>have:=HK1.out;have:=HK2.out;omega
       case rel=>exact ⟨(x5_2),(Int.tmod x3_2 x5_2),Zs.auS,Zs.auS,H',⟨by have:=HK1.out;have:=HK2.out;omega⟩,⟨Zs.auHB⟩⟩
   ·obtain rfl:=Option.some.inj H;go_wp2
    go_ret
    exact ⟨Zs.auR,Zs.auHB⟩
mutual
def Bf.j1:Nat→List Int→Int→Option (List Int)
 | 0,_,_=>none
 | k+1,x0,x3=>Bf.l1 k x3 (([]:List Int)) x0 (x0.length:Int) 0
def Bf.l1:Nat→Int→List Int→List Int→Int→Int→Option (List Int)
 | 0,_,_,_,_,_=>none
 | k+1,x3,x6,x25,x26,x27=>if x27<x26 then if 0≤x27 then if x27<(x25.length:Int) then if x3=0 then none else if x6.length<17592186044416 then Bf.l1 k x3 (x6++[wrap64 (Int.tdiv (rd x25 x27) x3)]) x25 x26 (wrap64 (x27+1)) else none else none else none else some x6
def Bf.l0:Nat→List Int→Int→List Int→Int→Int→Option (List Int)
 | 0,_,_,_,_,_=>none
 | k+1,x0,x3,x11,x12,x13=>if x13<x12 then if 0≤x13 then if x13<(x11.length:Int) then if (rd x11 x13)=0 then Bf.l0 k x0 x3 x11 x12 (wrap64 (x13+1)) else if (rd x11 x13)<0 then Bf.j1 k x0 (wrap64 (-x3)) else Bf.j1 k x0 x3 else none else none else Bf.j1 k x0 x3
end
def Bf.f (k:Nat) (l0:List Int):Option (List Int):=(Cj.f k l0).bind fun t3=>(Bf.l0 k l0 t3 l0 (l0.length:Int) 0)
theorem Bf.calls (k:Nat) (A0:Option Addr) (c0:Nat) (l0 r:List Int) (w:World) (hr0:Kd.C (Kd.int .i64) w A0 l0.length l0) (hc0:l0.length≤c0) (h:Bf.f k l0=some r) :
  Calls Tryz.prog 77 #[.slice A0 l0.length c0] w fun e w' => ∃v0_:Value,e = .returned (v0_)∧Kd.R (Kd.int .i64) 3 w' w.heap.size (fun _=>True) v0_ r∧Below w.heap.size w w':=by
 have HR0:=Aa.mk hr0;have HC0:=Aa.mk hc0;clear hr0 hc0;have HB:=Aa.mk (Below.refl w.heap.size w);unfold Bf.f at h;have H:=h;clear h;obtain ⟨t18,A2,H⟩:=Zs.be H;have HC3:=Aa.mk H;clear H
 go_enter Tryz.func77,Tryz.ntmps77
 go_upto_block 0 with (((with_reducible refine Ab (f:=88) rfl ?_);refine Zq.gb Tryz.func88 (Cj.calls _ _ _ _ _ _ (Zs.mvC (HR0.out)) HC0.out A2.out) ?_;intro w4 hb;replace HB:=Zq.st hb;(try clear hb)))
 (try simp only [Act.put,List.setIfInBounds_toArray,List.set_cons_zero,List.set_cons_succ])
 go_cut [3] (fun v3 wc => ∃(kq:Nat) (x3_2:Int),v3 = .int .i64 x3_2∧Aa (Bf.j1 kq l0 x3_2=some r)∧Aa (kq≤k)∧Aa (Below w.heap.size w wc))
 case first =>
  have H:=HC3.out;clear HC3;have H':=Aa.mk H;clear H;go_wp2
  go_loopg [3,13] k (fun kq v3 v13 w' => ∃x3_1 x13_1:Int,v3 = .int .i64 x3_1∧v13 = .int .i64 x13_1∧Aa (Bf.l0 kq l0 x3_1 l0 (l0.length:Int) x13_1=some r)∧Aa (kq≤k)∧Aa (Below w.heap.size w w'))
  case atStart=>exact ⟨(t18),(0),Zs.auS,Zs.auS,H',⟨Nat.le_refl _⟩,⟨Zs.auHB⟩⟩
  case round =>
   clear H'
   obtain ⟨x3_1,x13_1,rfl,rfl,HA,HK1,HB⟩:=hrel;cases gk with
   | zero=>exact absurd HA.out (by simp [Bf.l0])
   | succ k1 =>
    have H:=HA.out;clear HA;simp only [Bf.l0] at H
    rcases Zq.jd H with ⟨c5b0,H⟩|⟨c5b0,H⟩
    ·obtain ⟨c6b0,H⟩:=Zq.pd H
     obtain ⟨c7b0,H⟩:=Zq.pd H
     rcases Zq.ii H with ⟨c8,H⟩|⟨c8,H⟩
     ·have c8b1:=bne_eq_false_iff_eq.mpr c8;clear c8;have H':=Aa.mk H;clear H;obtain ⟨ad19,e19,hx19_0,p19,q19⟩:=Zq.at_ HR0.out x13_1;cases e19;replace hx19_0:=Zq.ce HB.out hx19_0;go_wp2
      go_roundg k1
      case measure=>have:=HK1.out;omega
      case rel=>exact ⟨(x3_1),(wrap64 (x13_1+1)),Zs.auS,Zs.auS,H',⟨by have:=HK1.out;omega⟩,⟨Zs.auHB⟩⟩
     ·have c8b1:=bne_iff_ne.mpr c8
      rcases Zq.jd H with ⟨c9b0,H⟩|⟨c9b0,H⟩
      ·have H':=Aa.mk H;clear H;obtain ⟨ad19,e19,hx19_0,p19,q19⟩:=Zq.at_ HR0.out x13_1;cases e19;replace hx19_0:=Zq.ce HB.out hx19_0;go_wp2
       go_meet
       case rel=>exact ⟨_,(wrap64 (-x3_1)),Zs.auS,H',⟨by have:=HK1.out;first|omega|exact Nat.le_refl _⟩,⟨Zs.auHB⟩⟩
      ·have H':=Aa.mk H;clear H;obtain ⟨ad19,e19,hx19_0,p19,q19⟩:=Zq.at_ HR0.out x13_1;cases e19;replace hx19_0:=Zq.ce HB.out hx19_0;go_wp2
       go_meet
       case rel=>exact ⟨_,(x3_1),Zs.auS,H',⟨by have:=HK1.out;first|omega|exact Nat.le_refl _⟩,⟨Zs.auHB⟩⟩
    ·have H':=Aa.mk H;clear H;go_wp2
     go_meet
     case rel=>exact ⟨_,(x3_1),Zs.auS,H',⟨by have:=HK1.out;first|omega|exact Nat.le_refl _⟩,⟨Zs.auHB⟩⟩
 case rest =>
  clear HC3
  obtain ⟨kq,x3_2,rfl,HA,HJ2,HB⟩:=hcut;cases kq with
  | zero=>exact absurd HA.out (by simp [Bf.j1])
  | succ kj2 =>
   have H:=HA.out;clear HA;simp only [Bf.j1] at H;obtain ⟨y20,hyy⟩ : ∃y_:List Int,y_=(([]:List Int)):=⟨_,rfl⟩
   replace H:(Bf.l1 kj2 x3_2 y20 l0 (l0.length:Int) 0)=some r:=Zs.auY
   have Ny20:=Aa.mk hyy;clear hyy;have H':=Aa.mk H;clear H
   go_wp2_with (((with_reducible refine Bb (N:=24) rfl ?_);refine Zq.li ([]:List Int) ?_;intro v21 w10 ho11 hb;(first|rw [← Ny20.out] at ho11|(simp only [Int.reduceToNat] at ho11;rw [← Ny20.out] at ho11));have HO22:=Zq.lw ho11;replace HB:=Zq.st hb;clear hb ho11))
   go_loopg [6,27] kj2 (fun kq v6 v27 w' => ∃(x6_2:List Int) (x27_2:Int),v27 = .int .i64 x27_2∧Aa (Bf.l1 kq x3_2 x6_2 l0 (l0.length:Int) x27_2=some r)∧Aa (kq≤kj2)∧Aa (Kd.R (Kd.int .i64) 3 w' w.heap.size (fun _=>True) v6 x6_2)∧Aa (Below w.heap.size w w'))
   case atStart=>exact ⟨(y20),(0),Zs.auS,H',⟨Nat.le_refl _⟩,⟨(Zs.mvR HO22.out)⟩,⟨Zs.auHB⟩⟩
   case round =>
    clear H'
    obtain ⟨x6_2,x27_2,rfl,HA,HK2,HO_6,HB⟩:=hrel;cases gk with
    | zero=>exact absurd HA.out (by simp [Bf.l1])
    | succ k2 =>
     have H:=HA.out;clear HA;simp only [Bf.l1] at H
     rcases Zq.jd H with ⟨c12b0,H⟩|⟨c12b0,H⟩
     ·obtain ⟨c13b0,H⟩:=Zq.pd H
      obtain ⟨c14b0,H⟩:=Zq.pd H
      rcases Zq.ii H with ⟨c15,H⟩|⟨c15,H⟩
      ·exact absurd H (by simp)
      ·obtain ⟨c16,H⟩:=Zq.ip H;have LMc16:=Aa.mk c16;clear c16;generalize hyy:(x6_2++[wrap64 (Int.tdiv (rd l0 x27_2) x3_2)]:List Int)=y24 at H;have Ny24:=Aa.mk hyy.symm;clear hyy;have H':=Aa.mk H;clear H;obtain ⟨ad23,e23,hx23_0,p23,q23⟩:=Zq.at_ HR0.out x27_2;cases e23;replace hx23_0:=Zq.ce HB.out hx23_0
       go_wp2_with (((with_reducible refine AY (b := .append) (xs:=#[.tmp 31,.tmp 35]) rfl ?_);at_builtin;refine Zq.ap (.tmp 31) (.tmp 35) 27 Tryz.underlying27 DS u6 x6_2 (wrap64 (Int.tdiv (rd l0 x27_2) x3_2)) (fun _=>True) (fun _ _=>trivial) ((Zs.mvR HO_6.out)) LMc16.out ?_;intro v25 w17 ho hb hg hat;rw [← Ny24.out] at ho;replace HB:=Aa.mk (hb);have HO26:=Aa.mk (ho);clear HO_6;clear ho hb hg hat))
       go_roundg k2
       case measure=>have:=HJ2.out;have:=HK2.out;omega
       case rel=>exact ⟨(y24),(wrap64 (x27_2+1)),Zs.auS,H',⟨by have:=HJ2.out;have:=HK2.out;omega⟩,⟨(Zs.mvR HO26.out)⟩,⟨Zs.auHB⟩⟩
     ·obtain rfl:=Option.some.inj H;go_wp2;go_ret
      exact ⟨_,Zs.auR,(Zs.mvR HO_6.out),Zs.auHB⟩
section
open Locg
theorem ON:(Tryz.prog.info? 3).map (fun i=>(i.zero,i.size,i.bytes))=some (some (.int .i64 0),1,8):=by kernel_rfl
def Bn.f (l0:List Int):Option (List Int):=if l0.length≤17592186044416 then some l0 else none
set_option maxHeartbeats 4000000 in
theorem Bn.calls (A0:Option Addr) (c0:Nat) (l0 r:List Int) (w:World) (hr0:Kd.C (Kd.int .i64) w A0 l0.length l0) (hc0:l0.length≤c0) (h:Bn.f l0=some r) :
  Calls Tryz.prog 87 #[.slice A0 l0.length c0] w fun e w' => ∃v0_:Value,e = .returned (v0_)∧Kd.R (Kd.int .i64) 3 w' w.heap.size (fun _=>True) v0_ r∧Below w.heap.size w w':=by
 unfold Bn.f at h
 by_cases hl:l0.length≤17592186044416
 ·rw [if_pos hl] at h;injection h with h
  subst h;have hR:CT w .i64 A0 l0.length l0:=Kd.EV (enc:=Value.int .i64) (d:=(0:Int)) (h1:=fun _=>rfl) hr0
  rcases A0 with _|ad
  ·obtain rfl:l0=[]:=by
    rcases Nat.eq_zero_or_pos l0.length with h0|h0
    ·exact List.eq_nil_of_length_eq_zero h0
    ·obtain ⟨ad,he,_⟩:=hR.2.2 h0;cases he
   clear hR hr0 hl;have he:=fun W=>Lib.run_eql_slice_nil (P:=Tryz.prog) W 27 3 none (List.length ([]:List Int)) c0 0 0 Tryz.underlying27
   simp only [List.length_nil] at he ⊢
   go_enter Tryz.func87,Tryz.ntmps87
   go_wp2;go_ret
   exact ⟨_,rfl,Kd.KY _ _ _ _ _,Below.refl _ _⟩
  ·have he:=fun W=>Lib.run_eql_slice_nil (P:=Tryz.prog) W 27 3 (some ad) l0.length c0 0 0 Tryz.underlying27
   have HR:=Lib.hid hR;have HL:=Lib.hid hl;clear hR hr0 hl
   go_enter Tryz.func87,Tryz.ntmps87
   go_wp2_with (at_builtin;refine Hr (w0:=w) w.heap.size rfl (.tmp 5) (.tmp 6) 27 3 .i64 8 rfl Tryz.underlying27 ON (by decide) (.slice (some ⟨w.heap.size,0,none⟩) 0 0) [] l0 (some ad) l0.length c0 rfl rfl (own_lit w w.heap.size 3 .i64 [] (Nat.le_refl _) (by simp)) (HR.out.below (Ah (Below.refl _ _) _)) (Ah (Below.refl _ _) _) (by simp) (by have:=HL.out;simp;omega) ?_;intro v1 w1 hown1 hB1 hg1 hat1;clear hat1;obtain ⟨A1,k1,rfl⟩:=DU hown1)
   go_ret
   exact ⟨_,rfl,Kd.F9 hown1 (fun _ _=>trivial),hB1⟩
 ·rw [if_neg hl] at h;cases h
end
end Go.Proofs.YtacfcoilmdhgnaaGreatDoor.PFnExecuteWhat
