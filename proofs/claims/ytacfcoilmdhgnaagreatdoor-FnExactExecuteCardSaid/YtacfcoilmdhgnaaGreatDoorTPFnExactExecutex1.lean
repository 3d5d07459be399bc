/- A function's Lean twin and its walk, written by a program of this session. -/
import Derived.Test.YtacfcoilmdhgnaaGreatDoorTPFnExactExecutex0
set_option maxHeartbeats 8000000
set_option maxRecDepth 100000
namespace Go.Proofs.YtacfcoilmdhgnaaGreatDoor.PFnExactExecute
open Go.RowKit Go.Proofs.YtacfcoilmdhgnaaGreatDoorW.PrintWords Go.Proofs.YtacfcoilmdhgnaaGreatDoorW.PrintLast Go.Proofs.YtacfcoilmdhgnaaGreatDoorW.PrintMore
attribute [local go_sem] Dy Dx D0 D1 Dc De DA Dz   -- for this text's walks alone
set_option linter.unusedVariables false
set_option linter.unusedSimpArgs false
def BB.l0:Nat→Int→Int→Int→Option (Int)
 | 0,_,_,_=>none
 | k+1,x1,x5,x6=>if x6≤(wrap64 (Int.tdiv x1 2)) then (if x1=0 then (none) else (if (Int.tmod (wrap64 (x6*x6)) x1)=x5 then (some 1) else (BB.l0 k x1 x5 (wrap64 (x6+1))))) else (some (-1))
def BB.f (k:Nat) (a0:Int) (a1:Int):Option (Int):=(C8.f a0 a1).bind fun t159=>(if t159=0 then (some 0) else (BB.l0 k a1 t159 1))
theorem BB.calls (k:Nat) (a0:Int) (a1:Int) (r:Int) (w:World) (h:BB.f k a0 a1=some r) :
  Calls Tryz.prog 119 #[.int .i64 a0,.int .i64 a1] w fun e w'=>e = .returned (.int .i64 r)∧Bh w w':=by
 unfold BB.f at h;have H:=h;clear h;obtain ⟨t159,A3,H⟩:=Zs.be H
 rcases Zq.ii H with ⟨c4,H⟩|⟨c4,H⟩
 ·have c4b0:=beq_iff_eq.mpr c4;clear c4;obtain rfl:=Option.some.inj H
  go_enter Tryz.func119,Tryz.ntmps119
  go_wp2_with (((with_reducible refine Ab (f:=120) rfl ?_);refine Zq.gp Tryz.func120 (C8.calls _ _ _ _ A3.out) ?_;intro nd))
  go_ret
  exact ⟨Zs.auS,Zq.dr⟩
 ·have c4b0:=beq_eq_false_iff_ne.mpr c4;have H':=Aa.mk H;clear H
  go_enter Tryz.func119,Tryz.ntmps119
  go_wp2_with (((with_reducible refine Ab (f:=120) rfl ?_);refine Zq.gp Tryz.func120 (C8.calls _ _ _ _ A3.out) ?_;intro nd))
  go_loopg [6] k (fun kq v6 w' => ∃(x6_1:Int),v6 = .int .i64 x6_1∧Aa (BB.l0 kq a1 t159 x6_1=some r)∧Aa (kq≤k)∧Bh w w')
  case atStart=>exact ⟨(1),Zs.auS,H',⟨Nat.le_refl _⟩,Zq.dr⟩
  case round =>
   clear H'
   obtain ⟨x6_1,rfl,HA,HK1,⟨m1,rfl⟩⟩:=hrel;cases gk with
   | zero=>exact absurd HA.out (by simp [BB.l0])
   | succ k1 =>
    have H:=HA.out;clear HA;simp only [BB.l0] at H
    rcases Zq.ii H with ⟨c5,H⟩|⟨c5,H⟩
    ·have c5b0:=decide_eq_true c5;clear c5
     by_cases c6:a1=0
     ·rw [if_pos c6] at H;exact absurd H (by simp)
     ·rw [if_neg c6] at H
      rcases Zq.ii H with ⟨c7,H⟩|⟨c7,H⟩
      ·have c7b0:=beq_iff_eq.mpr c7;clear c7;obtain rfl:=Option.some.inj H;go_wp2;go_ret
       exact ⟨Zs.auS,Zq.dr⟩
      ·have c7b0:=beq_eq_false_iff_ne.mpr c7;have H':=Aa.mk H;clear H;go_wp2
       go_roundg k1
       case measure=>have:=HK1.out;omega
       case rel=>exact ⟨(wrap64 (x6_1+1)),Zs.auS,H',⟨by have:=HK1.out;omega⟩,Zq.dr⟩
    ·have c5b0:=decide_eq_false c5;clear c5;obtain rfl:=Option.some.inj H;go_wp2;go_ret
     exact ⟨Zs.auS,Zq.dr⟩
def Cw.f (k:Nat) (a0:Int) (a1:Int) (a2:Int):Option (Int):=if a2=0 then (if a0<0 then (if a1<0 then (some (-1)) else (some 1)) else (some 1)) else ((BP.f k a0 a2).bind fun bt160=>((BP.f k a1 a2).bind fun bt162=>(if a2=2 then ((C8.f bt160.2 8).bind fun t164=>((C8.f bt162.2 8).bind fun t165=>((Ct.f k (-1) (Int.tmod (wrap64 ((wrap64 ((wrap64 ((wrap64 (Int.tdiv (wrap64 (t164-1)) 2))*(wrap64 (Int.tdiv (wrap64 (t165-1)) 2))))+(wrap64 (Int.tdiv (wrap64 (bt160.1*(wrap64 ((wrap64 (t165*t165))-1)))) 8))))+(wrap64 (Int.tdiv (wrap64 (bt162.1*(wrap64 ((wrap64 (t164*t164))-1)))) 8)))) 2)).bind fun t166=>(some t166)))) else ((Ct.f k (-1) (Int.tmod (wrap64 (Int.tdiv (wrap64 ((wrap64 (bt160.1*bt162.1))*(wrap64 (a2-1)))) 2)) 2)).bind fun t167=>((BB.f k bt160.2 a2).bind fun t168=>((Ct.f k t168 (Int.tmod bt162.1 2)).bind fun t169=>((BB.f k bt162.2 a2).bind fun t170=>((Ct.f k t170 (Int.tmod bt160.1 2)).bind fun t171=>(some (wrap64 ((wrap64 (t167*t169))*t171)))))))))))
theorem Cw.calls (k:Nat) (a0:Int) (a1:Int) (a2:Int) (r:Int) (w:World) (h:Cw.f k a0 a1 a2=some r) :
  Calls Tryz.prog 69 #[.int .i64 a0,.int .i64 a1,.int .i64 a2] w fun e w'=>e = .returned (.int .i64 r)∧Bh w w':=by
 unfold Cw.f at h;have H:=h;clear h
 rcases Zq.ii H with ⟨c4,H⟩|⟨c4,H⟩
 ·have c4b0:=beq_iff_eq.mpr c4;clear c4
  rcases Zq.ii H with ⟨c5,H⟩|⟨c5,H⟩
  ·have c5b0:=decide_eq_true c5;clear c5
   rcases Zq.ii H with ⟨c6,H⟩|⟨c6,H⟩
   ·have c6b0:=decide_eq_true c6;clear c6;obtain rfl:=Option.some.inj H
    go_enter Tryz.func69,Tryz.ntmps69
    go_wp2;go_ret
    exact ⟨Zs.auS,Zq.dr⟩
   ·have c6b0:=decide_eq_false c6;clear c6;obtain rfl:=Option.some.inj H
    go_enter Tryz.func69,Tryz.ntmps69
    go_wp2;go_ret
    exact ⟨Zs.auS,Zq.dr⟩
  ·have c5b0:=decide_eq_false c5;clear c5;obtain rfl:=Option.some.inj H
   go_enter Tryz.func69,Tryz.ntmps69
   go_wp2;go_ret
   exact ⟨Zs.auS,Zq.dr⟩
 ·have c4b0:=beq_eq_false_iff_ne.mpr c4;replace H:=Option.bind_eq_some_iff.mp H;obtain ⟨⟨t160,t161⟩,A70,H⟩:=H;try dsimp only at H;have A7:=Aa.mk A70;clear A70;replace H:=Option.bind_eq_some_iff.mp H;obtain ⟨⟨t162,t163⟩,A80,H⟩:=H;try dsimp only at H;have A8:=Aa.mk A80;clear A80
  rcases Zq.ii H with ⟨c9,H⟩|⟨c9,H⟩
  ·have c9b1:=bne_eq_false_iff_eq.mpr c9;clear c9;obtain ⟨t164,A10,H⟩:=Zs.be H;obtain ⟨t165,A11,H⟩:=Zs.be H;obtain ⟨t166,A12,H⟩:=Zs.be H;obtain rfl:=Option.some.inj H
   go_enter Tryz.func69,Tryz.ntmps69
   go_wp2_with (first|((with_reducible refine Ab (f:=117) rfl ?_);refine Zq.gc (some 24) Tryz.func117 (BP.calls _ _ _ _ _ _ A7.out) ?_;rintro e w' ⟨rfl,⟨nd,rfl⟩⟩;refine ⟨_,rfl,?_⟩)|((with_reducible refine Ab (f:=117) rfl ?_);refine Zq.gc (some 30) Tryz.func117 (BP.calls _ _ _ _ _ _ A8.out) ?_;rintro e w' ⟨rfl,⟨nd,rfl⟩⟩;refine ⟨_,rfl,?_⟩)|((with_reducible refine Ab (f:=120) rfl ?_);refine Zq.gc (some 59) Tryz.func120 (C8.calls _ _ _ _ A10.out) ?_;rintro e w' ⟨rfl,⟨nd,rfl⟩⟩;refine ⟨_,rfl,?_⟩)|((with_reducible refine Ab (f:=120) rfl ?_);refine Zq.gc (some 61) Tryz.func120 (C8.calls _ _ _ _ A11.out) ?_;rintro e w' ⟨rfl,⟨nd,rfl⟩⟩;refine ⟨_,rfl,?_⟩)|((with_reducible refine Ab (f:=118) rfl ?_);refine Zq.gp Tryz.func118 (Ct.calls _ _ _ _ _ A12.out) ?_;intro nd))
   go_ret
   exact ⟨Zs.auS,Zq.dr⟩
  ·have c9b1:=bne_iff_ne.mpr c9;obtain ⟨t167,A13,H⟩:=Zs.be H;obtain ⟨t168,A14,H⟩:=Zs.be H;obtain ⟨t169,A15,H⟩:=Zs.be H;obtain ⟨t170,A16,H⟩:=Zs.be H;obtain ⟨t171,A17,H⟩:=Zs.be H;obtain rfl:=Option.some.inj H
   go_enter Tryz.func69,Tryz.ntmps69
   go_wp2_with (first|((with_reducible refine Ab (f:=117) rfl ?_);refine Zq.gc (some 24) Tryz.func117 (BP.calls _ _ _ _ _ _ A7.out) ?_;rintro e w' ⟨rfl,⟨nd,rfl⟩⟩;refine ⟨_,rfl,?_⟩)|((with_reducible refine Ab (f:=117) rfl ?_);refine Zq.gc (some 30) Tryz.func117 (BP.calls _ _ _ _ _ _ A8.out) ?_;rintro e w' ⟨rfl,⟨nd,rfl⟩⟩;refine ⟨_,rfl,?_⟩)|((with_reducible refine Ab (f:=118) rfl ?_);refine Zq.gc (some 43) Tryz.func118 (Ct.calls _ _ _ _ _ A13.out) ?_;rintro e w' ⟨rfl,⟨nd,rfl⟩⟩;refine ⟨_,rfl,?_⟩)|((with_reducible refine Ab (f:=119) rfl ?_);refine Zq.gc (some 46) Tryz.func119 (BB.calls _ _ _ _ _ A14.out) ?_;rintro e w' ⟨rfl,⟨nd,rfl⟩⟩;refine ⟨_,rfl,?_⟩)|((with_reducible refine Ab (f:=118) rfl ?_);refine Zq.gc (some 49) Tryz.func118 (Ct.calls _ _ _ _ _ A15.out) ?_;rintro e w' ⟨rfl,⟨nd,rfl⟩⟩;refine ⟨_,rfl,?_⟩)|((with_reducible refine Ab (f:=119) rfl ?_);refine Zq.gc (some 53) Tryz.func119 (BB.calls _ _ _ _ _ A16.out) ?_;rintro e w' ⟨rfl,⟨nd,rfl⟩⟩;refine ⟨_,rfl,?_⟩)|((with_reducible refine Ab (f:=118) rfl ?_);refine Zq.gc (some 56) Tryz.func118 (Ct.calls _ _ _ _ _ A17.out) ?_;rintro e w' ⟨rfl,⟨nd,rfl⟩⟩;refine ⟨_,rfl,?_⟩))
   go_ret
   exact ⟨Zs.auS,Zq.dr⟩
def CQ.f (k:Nat) (a0:Int) (a1:Int) (a2:Int):Option (Int):=(CC.f a0 a1).bind fun t172=>(if t172=true then ((Bs.f k a2).bind fun t173=>(if t173=true then ((Cw.f k a0 a1 a2).bind fun t174=>(some t174)) else (some 0))) else (some 0))
theorem CQ.calls (k:Nat) (a0:Int) (a1:Int) (a2:Int) (r:Int) (w:World) (h:CQ.f k a0 a1 a2=some r) :
  Calls Tryz.prog 31 #[.int .i64 a0,.int .i64 a1,.int .i64 a2] w fun e w'=>e = .returned (.int .i64 r)∧Bh w w':=by
 unfold CQ.f at h;have H:=h;clear h;obtain ⟨t172,A4,H⟩:=Zs.be H
 by_cases c5:t172=true
 ·subst c5;rw [if_pos rfl] at H;obtain ⟨t173,A6,H⟩:=Zs.be H
  by_cases c7:t173=true
  ·subst c7;rw [if_pos rfl] at H;obtain ⟨t174,A8,H⟩:=Zs.be H;obtain rfl:=Option.some.inj H
   go_enter Tryz.func31,Tryz.ntmps31
   go_wp2_with (first|((with_reducible refine Ab (f:=67) rfl ?_);refine Zq.gp Tryz.func67 (CC.calls _ _ _ _ A4.out) ?_;intro nd)|(go_at_call 68;(with_reducible refine (Bs.calls k a2 true _ A6.out).mono ?_);rintro e w' ⟨rfl,⟨nd,rfl⟩⟩)|((with_reducible refine Ab (f:=69) rfl ?_);refine Zq.gp Tryz.func69 (Cw.calls _ _ _ _ _ _ A8.out) ?_;intro nd))
   go_ret
   exact ⟨Zs.auS,Zq.dr⟩
  ·replace c7:=Bool.eq_false_iff.mpr c7;subst c7;rw [if_neg (show ¬(false=true) by decide)] at H;obtain rfl:=Option.some.inj H
   go_enter Tryz.func31,Tryz.ntmps31
   go_wp2_with (first|((with_reducible refine Ab (f:=67) rfl ?_);refine Zq.gp Tryz.func67 (CC.calls _ _ _ _ A4.out) ?_;intro nd)|(go_at_call 68;(with_reducible refine (Bs.calls k a2 false _ A6.out).mono ?_);rintro e w' ⟨rfl,⟨nd,rfl⟩⟩))
   go_ret
   exact ⟨Zs.auS,Zq.dr⟩
 ·replace c5:=Bool.eq_false_iff.mpr c5;subst c5;rw [if_neg (show ¬(false=true) by decide)] at H;obtain rfl:=Option.some.inj H
  go_enter Tryz.func31,Tryz.ntmps31
  go_wp2_with (((with_reducible refine Ab (f:=67) rfl ?_);refine Zq.gp Tryz.func67 (CC.calls _ _ _ _ A4.out) ?_;intro nd))
  go_ret
  exact ⟨Zs.auS,Zq.dr⟩
def Cz.f (k:Nat) (l0:List Int) (a1:Bool):Option (ByteArray):=if a1=true then ((Bn.f k l0).bind fun t175=>(some t175)) else (some (⟨#[110,111]⟩:ByteArray))
theorem Cz.calls (k:Nat) (A0:Option Addr) (c0:Nat) (l0:List Int) (a1:Bool) (r:ByteArray) (w:World) (hG:GW w) (hr0:Kd.C (Kd.int .i64) w A0 l0.length l0) (hc0:l0.length≤c0) (h:Cz.f k l0 a1=some r) :
  Calls Tryz.prog 101 #[.slice A0 l0.length c0,.bool a1] w fun e w'=>e = .returned (.string r)∧Below w.heap.size w w':=by
 have HG:=Aa.mk hG;clear hG;have HR0:=Aa.mk hr0;have HC0:=Aa.mk hc0;clear hr0 hc0;have HB:=Aa.mk (Below.refl w.heap.size w);unfold Cz.f at h;have H:=h;clear h
 by_cases c3:a1=true
 ·subst c3;rw [if_pos rfl] at H;obtain ⟨t175,A4,H⟩:=Zs.be H;obtain rfl:=Option.some.inj H
  go_enter Tryz.func101,Tryz.ntmps101
  go_wp2_with (((with_reducible refine Ab (f:=99) rfl ?_);refine Zq.gb Tryz.func99 (Bn.calls _ _ _ _ _ _ (GW.below HG.out (by repeat (first|(with_reducible first|exact HB.out|apply Al|apply As|apply Ax)|exact HB.out))) (Zs.mvC (HR0.out)) HC0.out A4.out) ?_;intro w5 hb;replace HB:=Zq.st hb;(try clear hb)))
  go_ret
  exact ⟨Zs.auR,Zs.auHB⟩
 ·replace c3:=Bool.eq_false_iff.mpr c3;subst c3;rw [if_neg (show ¬(false=true) by decide)] at H;obtain rfl:=Option.some.inj H
  go_enter Tryz.func101,Tryz.ntmps101
  go_wp2;go_ret
  exact ⟨Zs.auR,Zs.auHB⟩
def Bo.l0:Nat→Int→List Int→Int→Int→Option (Int)
 | 0,_,_,_,_=>none
 | k+1,x3,x6,x7,x8=>if x8<x7 then (if 0≤x8 then (if x8<(x6.length:Int) then (if (rd x6 x8)<0 then (Bo.l0 k (wrap64 (x3+1)) x6 x7 (wrap64 (x8+1))) else (Bo.l0 k x3 x6 x7 (wrap64 (x8+1)))) else (none)) else (none)) else (some x3)
def Bo.f (k:Nat) (l0:List Int):Option (Int):=Bo.l0 k 0 l0 (l0.length:Int) 0
theorem Bo.calls (k:Nat) (A0:Option Addr) (c0:Nat) (l0:List Int) (r:Int) (w:World) (hr0:Kd.C (Kd.int .i64) w A0 l0.length l0) (hc0:l0.length≤c0) (h:Bo.f k l0=some r) :
  Calls Tryz.prog 127 #[.slice A0 l0.length c0] w fun e w'=>e = .returned (.int .i64 r)∧Bh w w':=by
 have HR0:=Aa.mk hr0;have HC0:=Aa.mk hc0;clear hr0 hc0;unfold Bo.f at h;have H:=h;clear h;have H':=Aa.mk H;clear H
 go_enter Tryz.func127,Tryz.ntmps127
 go_wp2
 go_loopg [3,8] k (fun kq v3 v8 w' => ∃(x3_1:Int) (x8_1:Int),v3 = .int .i64 x3_1∧v8 = .int .i64 x8_1∧Aa (Bo.l0 kq x3_1 l0 (l0.length:Int) x8_1=some r)∧Aa (kq≤k)∧Bh w w')
 case atStart=>exact ⟨(0),(0),Zs.auS,Zs.auS,H',⟨Nat.le_refl _⟩,Zq.dr⟩
 case round =>
  clear H'
  obtain ⟨x3_1,x8_1,rfl,rfl,HA,HK1,⟨m1,rfl⟩⟩:=hrel;cases gk with
  | zero=>exact absurd HA.out (by simp [Bo.l0])
  | succ k1 =>
   have H:=HA.out;clear HA;simp only [Bo.l0] at H
   rcases Zq.ii H with ⟨c2,H⟩|⟨c2,H⟩
   ·have c2b0:=decide_eq_true c2;clear c2
    obtain ⟨c3,H⟩:=Zq.ip H;have c3b0:=decide_eq_true c3;clear c3
    obtain ⟨c4,H⟩:=Zq.ip H;have c4b0:=decide_eq_true c4;clear c4
    rcases Zq.ii H with ⟨c5,H⟩|⟨c5,H⟩
    ·have c5b0:=decide_eq_true c5;clear c5;have H':=Aa.mk H;clear H;obtain ⟨ad176,e176,hx176_0,p176,q176⟩:=Zq.at_ HR0.out x8_1;cases e176;go_wp2
     go_roundg k1
     case measure=>have:=HK1.out;omega
     case rel=>exact ⟨(wrap64 (x3_1+1)),(wrap64 (x8_1+1)),Zs.auS,Zs.auS,H',⟨by have:=HK1.out;omega⟩,Zq.dr⟩
    ·have c5b0:=decide_eq_false c5;clear c5;have H':=Aa.mk H;clear H;obtain ⟨ad176,e176,hx176_0,p176,q176⟩:=Zq.at_ HR0.out x8_1;cases e176;go_wp2
     go_roundg k1
     case measure=>have:=HK1.out;omega
     case rel=>exact ⟨(x3_1),(wrap64 (x8_1+1)),Zs.auS,Zs.auS,H',⟨by have:=HK1.out;omega⟩,Zq.dr⟩
   ·have c2b0:=decide_eq_false c2;clear c2;obtain rfl:=Option.some.inj H;go_wp2;go_ret
    exact ⟨Zs.auS,Zq.dr⟩
def BJ.f (k:Nat) (a0:Int) (a1:Int):Option (Bool):=if a1=0 then (some (decide (a0>0))) else ((BP.f k a0 a1).bind fun bt177=>(if (Int.tmod bt177.1 2)=0 then (if a1=2 then ((C8.f bt177.2 8).bind fun t179=>(some (t179==1))) else ((BB.f k bt177.2 a1).bind fun t180=>(some (t180==1)))) else (some false)))
theorem BJ.calls (k:Nat) (a0:Int) (a1:Int) (r:Bool) (w:World) (h:BJ.f k a0 a1=some r) :
  Calls Tryz.prog 128 #[.int .i64 a0,.int .i64 a1] w fun e w'=>e = .returned (.bool r)∧Bh w w':=by
 unfold BJ.f at h;have H:=h;clear h
 rcases Zq.ii H with ⟨c3,H⟩|⟨c3,H⟩
 ·have c3b0:=beq_iff_eq.mpr c3;clear c3;obtain rfl:=Option.some.inj H
  go_enter Tryz.func128,Tryz.ntmps128
  go_wp2;go_ret
  exact ⟨Zs.auS,Zq.dr⟩
 ·have c3b0:=beq_eq_false_iff_ne.mpr c3;replace H:=Option.bind_eq_some_iff.mp H;obtain ⟨⟨t177,t178⟩,A40,H⟩:=H;try dsimp only at H;have A4:=Aa.mk A40;clear A40
  rcases Zq.ii H with ⟨c5,H⟩|⟨c5,H⟩
  ·have c5b1:=bne_eq_false_iff_eq.mpr c5;clear c5
   rcases Zq.ii H with ⟨c6,H⟩|⟨c6,H⟩
   ·have c6b0:=beq_iff_eq.mpr c6;clear c6;obtain ⟨t179,A7,H⟩:=Zs.be H;obtain rfl:=Option.some.inj H
    go_enter Tryz.func128,Tryz.ntmps128
    go_wp2_with (first|((with_reducible refine Ab (f:=117) rfl ?_);refine Zq.gp Tryz.func117 (BP.calls _ _ _ _ _ _ A4.out) ?_;intro nd)|((with_reducible refine Ab (f:=120) rfl ?_);refine Zq.gp Tryz.func120 (C8.calls _ _ _ _ A7.out) ?_;intro nd))
    go_ret
    exact ⟨Zs.auS,Zq.dr⟩
   ·have c6b0:=beq_eq_false_iff_ne.mpr c6;obtain ⟨t180,A8,H⟩:=Zs.be H;obtain rfl:=Option.some.inj H
    go_enter Tryz.func128,Tryz.ntmps128
    go_wp2_with (first|((with_reducible refine Ab (f:=117) rfl ?_);refine Zq.gp Tryz.func117 (BP.calls _ _ _ _ _ _ A4.out) ?_;intro nd)|((with_reducible refine Ab (f:=119) rfl ?_);refine Zq.gp Tryz.func119 (BB.calls _ _ _ _ _ A8.out) ?_;intro nd))
    go_ret
    exact ⟨Zs.auS,Zq.dr⟩
  ·have c5b1:=bne_iff_ne.mpr c5;obtain rfl:=Option.some.inj H
   go_enter Tryz.func128,Tryz.ntmps128
   go_wp2_with (((with_reducible refine Ab (f:=117) rfl ?_);refine Zq.gp Tryz.func117 (BP.calls _ _ _ _ _ _ A4.out) ?_;intro nd))
   go_ret
   exact ⟨Zs.auS,Zq.dr⟩
mutual
def AN.l0:Nat→List Int→Int→Int→List Int→Int→Int→Option (Int)
 | 0,_,_,_,_,_,_=>none
 | k+1,x0,x1,x5,x10,x11,x12=>if x12<x11 then (if 0≤x12 then (if x12<(x10.length:Int) then (if x12≤(x0.length:Int) then (AN.l1 k x0 x1 x5 (rd x10 x12) x10 x11 x12 (x0.take (x12:Int).toNat) ((x0.take (x12:Int).toNat).length:Int) 0) else (none)) else (none)) else (none)) else (some x5)
def AN.l1:Nat→List Int→Int→Int→Int→List Int→Int→Int→List Int→Int→Int→Option (Int)
 | 0,_,_,_,_,_,_,_,_,_,_=>none
 | k+1,x0,x1,x5,x7,x10,x11,x12,x19,x20,x21=>if x21<x20 then (if 0≤x21 then (if x21<(x19.length:Int) then ((Cw.f k x7 (rd x19 x21) x1).bind fun t184=>(AN.l1 k x0 x1 (wrap64 (x5*t184)) x7 x10 x11 x12 x19 x20 (wrap64 (x21+1)))) else (none)) else (none)) else (AN.l0 k x0 x1 x5 x10 x11 (wrap64 (x12+1)))
end
def AN.f (k:Nat) (l0:List Int) (a1:Int):Option (Int):=AN.l0 k l0 a1 1 l0 (l0.length:Int) 0
theorem AN.calls (k:Nat) (A0:Option Addr) (c0:Nat) (l0:List Int) (a1:Int) (r:Int) (w:World) (hr0:Kd.C (Kd.int .i64) w A0 l0.length l0) (hc0:l0.length≤c0) (h:AN.f k l0 a1=some r) :
  Calls Tryz.prog 129 #[.slice A0 l0.length c0,.int .i64 a1] w fun e w'=>e = .returned (.int .i64 r)∧Bh w w':=by
 have HR0:=Aa.mk hr0;have HC0:=Aa.mk hc0;clear hr0 hc0;unfold AN.f at h;have H:=h;clear h;have H':=Aa.mk H;clear H
 go_enter Tryz.func129,Tryz.ntmps129
 go_wp2
 go_loopg [5,12] k (fun kq v5 v12 w' => ∃(x5_1:Int) (x12_1:Int),v5 = .int .i64 x5_1∧v12 = .int .i64 x12_1∧Aa (AN.l0 kq l0 a1 x5_1 l0 (l0.length:Int) x12_1=some r)∧Aa (kq≤k)∧Bh w w')
 case atStart=>exact ⟨(1),(0),Zs.auS,Zs.auS,H',⟨Nat.le_refl _⟩,Zq.dr⟩
 case round =>
  clear H'
  obtain ⟨x5_1,x12_1,rfl,rfl,HA,HK1,⟨m1,rfl⟩⟩:=hrel;cases gk with
  | zero=>exact absurd HA.out (by simp [AN.l0])
  | succ k1 =>
   have H:=HA.out;clear HA;simp only [AN.l0] at H
   rcases Zq.ii H with ⟨c3,H⟩|⟨c3,H⟩
   ·have c3b0:=decide_eq_true c3;clear c3
    obtain ⟨c4,H⟩:=Zq.ip H;have c4b0:=decide_eq_true c4;clear c4
    obtain ⟨c5,H⟩:=Zq.ip H;have c5b0:=decide_eq_true c5;clear c5;have c6b0:=eq_true (Zs.od:0≤x12_1)
    obtain ⟨c7,H⟩:=Zq.ip H;have c7b0:=eq_true c7;have c7b1:=decide_eq_true c7;clear c7;have H':=Aa.mk H;clear H;obtain ⟨ad181,e181,hx181_0,p181,q181⟩:=Zq.at_ HR0.out x12_1;cases e181;obtain ⟨i08,hi08,_,hsz8,_⟩:=info_parts DQ;obtain ⟨hcut8,hA8,hC8⟩:=I5 (P:=Tryz.prog) (Value.int .i64) 0 27 3 .i64 Tryz.underlying27 hi08 hsz8 (some ad181) c0 l0 x12_1 (Zs.od) (Zs.od) HC0.out;have HR182:=Aa.mk (Kd.Mt (h1:=fun _=>rfl) (hA8 _ (Kd.E0 HR0.out)));have HZ_:Aa (x12_1<(l0.length:Int)):=⟨by first|exact of_decide_eq_true (by assumption)|exact of_eq_true (by assumption)⟩;have HC182:=Aa.mk hC8;clear hA8 hC8 hi08 hsz8;go_wp2
    go_loopg [5,21] k1 (fun kq v5 v21 w' => ∃(x5_2:Int) (x21_2:Int),v5 = .int .i64 x5_2∧v21 = .int .i64 x21_2∧Aa (AN.l1 kq l0 a1 x5_2 (rd l0 x12_1) l0 (l0.length:Int) x12_1 (l0.take (x12_1:Int).toNat) ((l0.take (x12_1:Int).toNat).length:Int) x21_2=some r)∧Aa (kq≤k1)∧Bh w w')
    case atStart=>exact ⟨(x5_1),(0),Zs.auS,Zs.auS,H',⟨Nat.le_refl _⟩,Zq.dr⟩
    case round =>
     clear H'
     obtain ⟨x5_2,x21_2,rfl,rfl,HA,HK2,⟨m2,rfl⟩⟩:=hrel;cases gk with
     | zero=>exact absurd HA.out (by simp [AN.l1])
     | succ k2 =>
      have H:=HA.out;clear HA;simp only [AN.l1] at H
      rcases Zq.ii H with ⟨c9,H⟩|⟨c9,H⟩
      ·clear c9
       obtain ⟨c10,H⟩:=Zq.ip H;have c10b0:=decide_eq_true c10;clear c10
       obtain ⟨c11,H⟩:=Zq.ip H;have c11b0:=decide_eq_true c11;clear c11;obtain ⟨t184,A12,H⟩:=Zs.be H;have H':=Aa.mk H;clear H;obtain ⟨ad183,e183,hx183_0,p183,q183⟩:=Zq.at_ HR182.out x21_2;obtain rfl:ad181=ad183:=(by injection e183);have q183m:(x21_2<max x12_1 0)=True:=eq_true (by have h_:=of_eq_true q183;simp only [List.length_take] at h_;omega)
       go_wp2_with (((with_reducible refine Ab (f:=69) rfl ?_);refine Zq.gp Tryz.func69 (Cw.calls _ _ _ _ _ _ A12.out) ?_;intro nd))
       go_roundg k2
       case measure=>have:=HK1.out;have:=HK2.out;omega
       case rel=>exact ⟨(wrap64 (x5_2*t184)),(wrap64 (x21_2+1)),Zs.auS,Zs.auS,H',⟨by have:=HK1.out;have:=HK2.out;omega⟩,Zq.dr⟩
      ·have c9bm:decide (x21_2<max x12_1 0)=false:=decide_eq_false (by have h_:=HZ_.out;simp only [List.length_take] at c9;omega);clear c9;have H':=Aa.mk H;clear H;go_wp2
       go_roundg k2
       case measure=>have:=HK1.out;have:=HK2.out;omega
       case rel=>exact ⟨(x5_2),(wrap64 (x12_1+1)),Zs.auS,Zs.auS,H',⟨by have:=HK1.out;have:=HK2.out;omega⟩,Zq.dr⟩
   ·have c3b0:=decide_eq_false c3;clear c3;obtain rfl:=Option.some.inj H;go_wp2;go_ret
    exact ⟨Zs.auS,Zq.dr⟩
def BX.f (k:Nat) (l0:List Int) (a1:Int):Option (Bool):=(AR.f k l0).bind fun t185=>(if a1=0 then ((Bo.f k l0).bind fun t186=>(if t186>0 then (some (decide (t186<(l0.length:Int)))) else (some false))) else (if (l0.length:Int)=2 then ((BJ.f k (wrap64 (-t185)) a1).bind fun t187=>(some t187)) else (if (l0.length:Int)=3 then ((AN.f k l0 a1).bind fun t188=>((Cw.f k (-1) (wrap64 (-t185)) a1).bind fun t189=>(some (t188==t189)))) else (if (l0.length:Int)=4 then ((BJ.f k t185 a1).bind fun t190=>(if t190=true then ((AN.f k l0 a1).bind fun t191=>((Cw.f k (-1) (-1) a1).bind fun t192=>(some (t191==t192)))) else (some true))) else (some false)))))
theorem BX.calls (k:Nat) (A0:Option Addr) (c0:Nat) (l0:List Int) (a1:Int) (r:Bool) (w:World) (hr0:Kd.C (Kd.int .i64) w A0 l0.length l0) (hc0:l0.length≤c0) (h:BX.f k l0 a1=some r) :
  Calls Tryz.prog 74 #[.slice A0 l0.length c0,.int .i64 a1] w fun e w'=>e = .returned (.bool r)∧Bh w w':=by
 have HR0:=Aa.mk hr0;have HC0:=Aa.mk hc0;clear hr0 hc0;unfold BX.f at h;have H:=h;clear h;obtain ⟨t185,A3,H⟩:=Zs.be H
 rcases Zq.ii H with ⟨c4,H⟩|⟨c4,H⟩
 ·have c4b0:=beq_iff_eq.mpr c4;clear c4;obtain ⟨t186,A5,H⟩:=Zs.be H
  rcases Zq.ii H with ⟨c6,H⟩|⟨c6,H⟩
  ·have c6b0:decide (0<t186)=true:=decide_eq_true c6;clear c6;obtain rfl:=Option.some.inj H
   go_enter Tryz.func74,Tryz.ntmps74
   go_wp2_with (first|((with_reducible refine Ab (f:=65) rfl ?_);refine Zq.gp Tryz.func65 (AR.calls _ _ _ _ _ _ (Zs.mvC (HR0.out)) HC0.out A3.out) ?_;intro nd)|((with_reducible refine Ab (f:=127) rfl ?_);refine Zq.gp Tryz.func127 (Bo.calls _ _ _ _ _ _ (Zs.mvC (HR0.out)) HC0.out A5.out) ?_;intro nd))
   go_ret
   exact ⟨Zs.auS,Zq.dr⟩
  ·have c6b0:decide (0<t186)=false:=decide_eq_false c6;clear c6;obtain rfl:=Option.some.inj H
   go_enter Tryz.func74,Tryz.ntmps74
   go_wp2_with (first|((with_reducible refine Ab (f:=65) rfl ?_);refine Zq.gp Tryz.func65 (AR.calls _ _ _ _ _ _ (Zs.mvC (HR0.out)) HC0.out A3.out) ?_;intro nd)|((with_reducible refine Ab (f:=127) rfl ?_);refine Zq.gp Tryz.func127 (Bo.calls _ _ _ _ _ _ (Zs.mvC (HR0.out)) HC0.out A5.out) ?_;intro nd))
   go_ret
   exact ⟨Zs.auS,Zq.dr⟩
 ·have c4b0:=beq_eq_false_iff_ne.mpr c4
  rcases Zq.ii H with ⟨c7,H⟩|⟨c7,H⟩
  ·have c7b0:=beq_iff_eq.mpr c7;clear c7;obtain ⟨t187,A8,H⟩:=Zs.be H;obtain rfl:=Option.some.inj H
   go_enter Tryz.func74,Tryz.ntmps74
   go_wp2_with (first|((with_reducible refine Ab (f:=65) rfl ?_);refine Zq.gp Tryz.func65 (AR.calls _ _ _ _ _ _ (Zs.mvC (HR0.out)) HC0.out A3.out) ?_;intro nd)|((with_reducible refine Ab (f:=128) rfl ?_);refine Zq.gp Tryz.func128 (BJ.calls _ _ _ _ _ A8.out) ?_;intro nd))
   go_ret
   exact ⟨Zs.auS,Zq.dr⟩
  ·have c7b0:=beq_eq_false_iff_ne.mpr c7
   rcases Zq.ii H with ⟨c9,H⟩|⟨c9,H⟩
   ·have c9b0:=beq_iff_eq.mpr c9;clear c9;obtain ⟨t188,A10,H⟩:=Zs.be H;obtain ⟨t189,A11,H⟩:=Zs.be H;obtain rfl:=Option.some.inj H
    go_enter Tryz.func74,Tryz.ntmps74
    go_wp2_with (first|((with_reducible refine Ab (f:=65) rfl ?_);refine Zq.gp Tryz.func65 (AR.calls _ _ _ _ _ _ (Zs.mvC (HR0.out)) HC0.out A3.out) ?_;intro nd)|((with_reducible refine Ab (f:=129) rfl ?_);refine Zq.gp Tryz.func129 (AN.calls _ _ _ _ _ _ _ (Zs.mvC (HR0.out)) HC0.out A10.out) ?_;intro nd)|((with_reducible refine Ab (f:=69) rfl ?_);refine Zq.gp Tryz.func69 (Cw.calls _ _ _ _ _ _ A11.out) ?_;intro nd))
    go_ret
    exact ⟨Zs.auS,Zq.dr⟩
   ·have c9b0:=beq_eq_false_iff_ne.mpr c9
    rcases Zq.ii H with ⟨c12,H⟩|⟨c12,H⟩
    ·have c12b0:=beq_iff_eq.mpr c12;clear c12;obtain ⟨t190,A13,H⟩:=Zs.be H
     by_cases c14:t190=true
     ·subst c14;rw [if_pos rfl] at H;obtain ⟨t191,A15,H⟩:=Zs.be H;obtain ⟨t192,A16,H⟩:=Zs.be H;obtain rfl:=Option.some.inj H
      go_enter Tryz.func74,Tryz.ntmps74
      go_wp2_with (first|((with_reducible refine Ab (f:=65) rfl ?_);refine Zq.gp Tryz.func65 (AR.calls _ _ _ _ _ _ (Zs.mvC (HR0.out)) HC0.out A3.out) ?_;intro nd)|((with_reducible refine Ab (f:=128) rfl ?_);refine Zq.gp Tryz.func128 (BJ.calls _ _ _ _ _ A13.out) ?_;intro nd)|(go_at_call 129;(with_reducible refine (AN.calls k _ _ l0 a1 t191 _ ?side1 ?side2 A15.out).mono ?_);(case side1=>exact Zs.mvC (HR0.out));(case side2=>exact HC0.out);rintro e w' ⟨rfl,⟨nd,rfl⟩⟩)|(go_at_call 69;(with_reducible refine (Cw.calls k (-1) (-1) a1 t192 _ A16.out).mono ?_);rintro e w' ⟨rfl,⟨nd,rfl⟩⟩))
      go_ret
      exact ⟨Zs.auS,Zq.dr⟩
     ·replace c14:=Bool.eq_false_iff.mpr c14;subst c14;rw [if_neg (show ¬(false=true) by decide)] at H;obtain rfl:=Option.some.inj H
      go_enter Tryz.func74,Tryz.ntmps74
      go_wp2_with (first|((with_reducible refine Ab (f:=65) rfl ?_);refine Zq.gp Tryz.func65 (AR.calls _ _ _ _ _ _ (Zs.mvC (HR0.out)) HC0.out A3.out) ?_;intro nd)|((with_reducible refine Ab (f:=128) rfl ?_);refine Zq.gp Tryz.func128 (BJ.calls _ _ _ _ _ A13.out) ?_;intro nd))
      go_ret
      exact ⟨Zs.auS,Zq.dr⟩
    ·have c12b0:=beq_eq_false_iff_ne.mpr c12;obtain rfl:=Option.some.inj H
     go_enter Tryz.func74,Tryz.ntmps74
     go_wp2_with (((with_reducible refine Ab (f:=65) rfl ?_);refine Zq.gp Tryz.func65 (AR.calls _ _ _ _ _ _ (Zs.mvC (HR0.out)) HC0.out A3.out) ?_;intro nd))
     go_ret
     exact ⟨Zs.auS,Zq.dr⟩
def Ck.f (k:Nat) (l0:List Int) (a1:Int):Option (Bool):=(Ai.f k l0).bind fun t193=>(if t193=true then ((Bs.f k a1).bind fun t194=>(if t194=true then ((BX.f k l0 a1).bind fun t195=>(some t195)) else (some false))) else (some false))
theorem Ck.calls (k:Nat) (A0:Option Addr) (c0:Nat) (l0:List Int) (a1:Int) (r:Bool) (w:World) (hr0:Kd.C (Kd.int .i64) w A0 l0.length l0) (hc0:l0.length≤c0) (h:Ck.f k l0 a1=some r) :
  Calls Tryz.prog 34 #[.slice A0 l0.length c0,.int .i64 a1] w fun e w'=>e = .returned (.bool r)∧Below w.heap.size w w':=by
 have HR0:=Aa.mk hr0;have HC0:=Aa.mk hc0;clear hr0 hc0;have HB:=Aa.mk (Below.refl w.heap.size w);unfold Ck.f at h;have H:=h;clear h;obtain ⟨t193,A3,H⟩:=Zs.be H
 by_cases c4:t193=true
 ·subst c4;rw [if_pos rfl] at H;obtain ⟨t194,A5,H⟩:=Zs.be H
  by_cases c6:t194=true
  ·subst c6;rw [if_pos rfl] at H;obtain ⟨t195,A7,H⟩:=Zs.be H;obtain rfl:=Option.some.inj H
   go_enter Tryz.func34,Tryz.ntmps34
   go_wp2_with (first|((with_reducible refine Ab (f:=59) rfl ?_);refine Zq.gb Tryz.func59 (Ai.calls _ _ _ _ _ _ (Zs.mvC (HR0.out)) HC0.out A3.out) ?_;intro w8 hb;replace HB:=Zq.st hb;(try clear hb))|(go_at_call 68;(with_reducible refine (Bs.calls k a1 true _ A5.out).mono ?_);rintro e w' ⟨rfl,⟨nd,rfl⟩⟩)|(go_at_call 74;(with_reducible refine (BX.calls k _ _ l0 a1 t195 _ ?side1 ?side2 A7.out).mono ?_);(case side1=>repeat (first|exact (Kd.Bw HR0.out (Zs.auHB))|(with_reducible refine Kd.F4 ?_ _)|(with_reducible refine Kd.GJ ?_ _)|(with_reducible refine Kd.Hb ?_)));(case side2=>exact HC0.out);rintro e w' ⟨rfl,⟨nd,rfl⟩⟩))
   go_ret
   exact ⟨Zs.auR,Zs.auHB⟩
  ·replace c6:=Bool.eq_false_iff.mpr c6;subst c6;rw [if_neg (show ¬(false=true) by decide)] at H;obtain rfl:=Option.some.inj H
   go_enter Tryz.func34,Tryz.ntmps34
   go_wp2_with (first|((with_reducible refine Ab (f:=59) rfl ?_);refine Zq.gb Tryz.func59 (Ai.calls _ _ _ _ _ _ (Zs.mvC (HR0.out)) HC0.out A3.out) ?_;intro w9 hb;replace HB:=Zq.st hb;(try clear hb))|(go_at_call 68;(with_reducible refine (Bs.calls k a1 false _ A5.out).mono ?_);rintro e w' ⟨rfl,⟨nd,rfl⟩⟩))
   go_ret
   exact ⟨Zs.auR,Zs.auHB⟩
 ·replace c4:=Bool.eq_false_iff.mpr c4;subst c4;rw [if_neg (show ¬(false=true) by decide)] at H;obtain rfl:=Option.some.inj H
  go_enter Tryz.func34,Tryz.ntmps34
  go_wp2_with (((with_reducible refine Ab (f:=59) rfl ?_);refine Zq.gb Tryz.func59 (Ai.calls _ _ _ _ _ _ (Zs.mvC (HR0.out)) HC0.out A3.out) ?_;intro w10 hb;replace HB:=Zq.st hb;(try clear hb)))
  go_ret
  exact ⟨Zs.auR,Zs.auHB⟩
def AZ.l0:Nat→List Int→Int→Int→Int→Option (Int)
 | 0,_,_,_,_=>none
 | k+1,x0,x1,x7,x8=>if x8<x7 then (if 0≤x8 then (if x8<(x0.length:Int) then (if x1=(rd x0 x8) then (some x8) else (AZ.l0 k x0 x1 x7 (wrap64 (x8+1)))) else (none)) else (none)) else (some (-1))
def AZ.f (k:Nat) (l0:List Int) (a1:Int):Option (Int):=AZ.l0 k l0 a1 (l0.length:Int) 0
theorem AZ.calls (k:Nat) (A0:Option Addr) (c0:Nat) (l0:List Int) (a1:Int) (r:Int) (w:World) (hr0:Kd.C (Kd.int .i64) w A0 l0.length l0) (hc0:l0.length≤c0) (h:AZ.f k l0 a1=some r) :
  Calls Tryz.prog 183 #[.slice A0 l0.length c0,.int .i64 a1] w fun e w'=>e = .returned (.int .i64 r)∧Bh w w':=by
 have HR0:=Aa.mk hr0;have HC0:=Aa.mk hc0;clear hr0 hc0;unfold AZ.f at h;have H:=h;clear h;have H':=Aa.mk H;clear H
 go_enter Tryz.func183,Tryz.ntmps183
 go_wp2
 go_loopg [8] k (fun kq v8 w' => ∃(x8_1:Int),v8 = .int .i64 x8_1∧Aa (AZ.l0 kq l0 a1 (l0.length:Int) x8_1=some r)∧Aa (kq≤k)∧Bh w w')
 case atStart=>exact ⟨(0),Zs.auS,H',⟨Nat.le_refl _⟩,Zq.dr⟩
 case round =>
  clear H'
  obtain ⟨x8_1,rfl,HA,HK1,⟨m1,rfl⟩⟩:=hrel;cases gk with
  | zero=>exact absurd HA.out (by simp [AZ.l0])
  | succ k1 =>
   have H:=HA.out;clear HA;simp only [AZ.l0] at H
   rcases Zq.ii H with ⟨c3,H⟩|⟨c3,H⟩
   ·have c3b0:=decide_eq_true c3;clear c3
    obtain ⟨c4,H⟩:=Zq.ip H;have c4b0:=decide_eq_true c4;clear c4
    obtain ⟨c5,H⟩:=Zq.ip H;have c5b0:=decide_eq_true c5;clear c5
    rcases Zq.ii H with ⟨c6,H⟩|⟨c6,H⟩
    ·have c6b0:=beq_iff_eq.mpr c6;clear c6;obtain rfl:=Option.some.inj H;obtain ⟨ad196,e196,hx196_0,p196,q196⟩:=Zq.at_ HR0.out x8_1;cases e196;go_wp2;go_ret
     exact ⟨Zs.auS,Zq.dr⟩
    ·have c6b0:=beq_eq_false_iff_ne.mpr c6;have H':=Aa.mk H;clear H;obtain ⟨ad196,e196,hx196_0,p196,q196⟩:=Zq.at_ HR0.out x8_1;cases e196;go_wp2
     go_roundg k1
     case measure=>have:=HK1.out;omega
     case rel=>exact ⟨(wrap64 (x8_1+1)),Zs.auS,H',⟨by have:=HK1.out;omega⟩,Zq.dr⟩
   ·have c3b0:=decide_eq_false c3;clear c3;obtain rfl:=Option.some.inj H;go_wp2;go_ret
    exact ⟨Zs.auS,Zq.dr⟩
def BL.f (k:Nat) (l0:List Int) (a1:Int):Option (Bool):=(AZ.f k l0 a1).bind fun t197=>(some (decide (t197≥0)))
theorem BL.calls (k:Nat) (A0:Option Addr) (c0:Nat) (l0:List Int) (a1:Int) (r:Bool) (w:World) (hr0:Kd.C (Kd.int .i64) w A0 l0.length l0) (hc0:l0.length≤c0) (h:BL.f k l0 a1=some r) :
  Calls Tryz.prog 166 #[.slice A0 l0.length c0,.int .i64 a1] w fun e w'=>e = .returned (.bool r)∧Bh w w':=by
 have HR0:=Aa.mk hr0;have HC0:=Aa.mk hc0;clear hr0 hc0;unfold BL.f at h;have H:=h;clear h;obtain ⟨t197,A3,H⟩:=Zs.be H;obtain rfl:=Option.some.inj H
 go_enter Tryz.func166,Tryz.ntmps166
 go_wp2_with (((with_reducible refine Ab (f:=183) rfl ?_);refine Zq.gp Tryz.func183 (AZ.calls _ _ _ _ _ _ _ (Zs.mvC (HR0.out)) HC0.out A3.out) ?_;intro nd))
 go_ret
 exact ⟨Zs.auS,Zq.dr⟩
section
open Locg
def CB.f (l0:List Int):Option (List Int):=if 1≤l0.length∧l0.length≤17592186044416 then some (l0.mergeSort fun x y=>decide (x≤y)) else none
theorem CB.calls (P0_:Nat→Prop) (u9000_:Value) (l0:List Int) (r:List Int) (w0 w:World) (hB:Below w0.heap.size w0 w) (ho0:Kd.R (Kd.int .i64) 3 w w0.heap.size P0_ u9000_ l0) (h:CB.f l0=some r) :
  Calls Tryz.prog 167 #[u9000_] w fun e w'=>e = .returned (.tuple #[])∧Kd.R (Kd.int .i64) 3 w' w0.heap.size (fun k_=>(P0_ k_∨w.heap.size≤k_)) u9000_ r∧Below w0.heap.size w0 w'∧Kept w w' (fun k_=>P0_ k_):=by
 unfold CB.f at h
 by_cases hl:1≤l0.length∧l0.length≤17592186044416
 ·rw [if_pos hl] at h;injection h with h
  subst h;have hok:=ho0.1;obtain ⟨_,h2⟩:=Kd.Eg (enc:=Value.int .i64) (h1:=fun _=>rfl) ho0
  rcases h2 with ⟨_,h2⟩|⟨g,cap,cur,rfl,hb,hh,hn,hc,hs,ht⟩
  ·omega
  ·have ht':cur.toList.take l0.length=l0.map (Value.int .i64):=by rw [Nat.mul_one] at ht;exact ht
   have hlt:=lt_of_block hh;refine (Tryz.slices_Sort_int g 0 cap l0 w (holds_of_blockI hh ht') hlt (by omega)).mono ?_;rintro e w' ⟨rfl,n,os,rfl⟩;have hlen:(l0.mergeSort fun x y=>decide (x≤y)).length=l0.length:=List.length_mergeSort l0;have hg:=grownBy_sortedI (w:=w) (g:=g) (n:=n) (os:=os) (l0.mergeSort fun x y=>decide (x≤y)).toArray;have hown:=ownsRow_sortedI (n:=n) (os:=os) hlen hb hh hn hc hs;refine ⟨rfl,?_,hB.grown hg hB.size (fun k hk=>by injection hk with hk;omega),Kept.Jk hg (Kept.refl _ _) (fun k hk=>Or.inl (hok k hk))⟩;refine Kd.FL (enc:=Value.int .i64) (h1:=fun _=>rfl) ?_ (fun k hk=>Or.inl (hok k hk));rw [hlen];exact hown
 ·rw [if_neg hl] at h;cases h
end
mutual
def Bb.l0:Nat→List Int→List Int→Int→Int→Option (List Int)
 | 0,_,_,_,_=>none
 | k+1,x3,x9,x10,x11=>if x11<x10 then (if 0≤x11 then (if x11<(x9.length:Int) then ((Bk.f k (rd x9 x11)).bind fun t203=>(Bb.l1 k x3 x9 x10 x11 t203 (t203.length:Int) 0)) else (none)) else (none)) else ((CB.f x3).bind fun t201=>(some t201))
def Bb.l1:Nat→List Int→List Int→Int→Int→List Int→Int→Int→Option (List Int)
 | 0,_,_,_,_,_,_,_=>none
 | k+1,x3,x9,x10,x11,x16,x17,x18=>if x18<x17 then (if 0≤x18 then (if x18<(x16.length:Int) then ((BL.f k x3 (rd x16 x18)).bind fun t207=>(if t207=true then (Bb.l1 k x3 x9 x10 x11 x16 x17 (wrap64 (x18+1))) else (if x3.length<17592186044416 then (Bb.l1 k (x3++[rd x16 x18]) x9 x10 x11 x16 x17 (wrap64 (x18+1))) else (none)))) else (none)) else (none)) else (Bb.l0 k x3 x9 x10 (wrap64 (x11+1)))
end
def Bb.f (k:Nat) (l0:List Int):Option (List Int):=Bb.l0 k (([0,2]:List Int)) l0 (l0.length:Int) 0
theorem Bb.calls (k:Nat) (A0:Option Addr) (c0:Nat) (l0:List Int) (r:List Int) (w:World) (hr0:Kd.C (Kd.int .i64) w A0 l0.length l0) (hc0:l0.length≤c0) (h:Bb.f k l0=some r) :
  Calls Tryz.prog 147 #[.slice A0 l0.length c0] w fun e w' => ∃v0_:Value,e = .returned (v0_)∧Kd.R (Kd.int .i64) 3 w' w.heap.size (fun _=>True) v0_ r∧Below w.heap.size w w':=by
 have HR0:=Aa.mk hr0;have HC0:=Aa.mk hc0;clear hr0 hc0;have HB:=Aa.mk (Below.refl w.heap.size w);unfold Bb.f at h;have H:=h;clear h;(try rw [Option.bind_some] at H);generalize hyy:([0,2]:List Int)=y198 at H;have Ny198:=Aa.mk hyy.symm;clear hyy;have H':=Aa.mk H;clear H
 go_enter Tryz.func147,Tryz.ntmps147
 go_wp2_with (((with_reducible refine Bg (N:=8) rfl ?_);refine Zq.li ([0,2]:List Int) ?_;intro v199 w2 ho3 hb;(first|rw [← Ny198.out] at ho3|(simp only [Int.reduceToNat] at ho3;rw [← Ny198.out] at ho3));have HO200:=Zq.lw ho3;replace HB:=Zq.st hb;clear hb ho3))
 go_loopg [3,11] k (fun kq v3 v11 w' => ∃(x3_1:List Int) (x11_1:Int),v11 = .int .i64 x11_1∧Aa (Bb.l0 kq x3_1 l0 (l0.length:Int) x11_1=some r)∧Aa (kq≤k)∧Aa (Kd.R (Kd.int .i64) 3 w' w.heap.size (fun _=>True) v3 x3_1)∧Aa (Below w.heap.size w w'))
 case atStart=>exact ⟨(y198),(0),Zs.auS,H',⟨Nat.le_refl _⟩,⟨(Zs.mvR HO200.out)⟩,⟨Zs.auHB⟩⟩
 case round =>
  clear H'
  obtain ⟨x3_1,x11_1,rfl,HA,HK1,HO_3,HB⟩:=hrel;cases gk with
  | zero=>exact absurd HA.out (by simp [Bb.l0])
  | succ k1 =>
   have H:=HA.out;clear HA;simp only [Bb.l0] at H
   rcases Zq.ii H with ⟨c4,H⟩|⟨c4,H⟩
   ·have c4b0:=decide_eq_true c4;clear c4
    obtain ⟨c5,H⟩:=Zq.ip H;have c5b0:=decide_eq_true c5;clear c5
    obtain ⟨c6,H⟩:=Zq.ip H;have c6b0:=decide_eq_true c6;clear c6;obtain ⟨t203,A7,H⟩:=Zs.be H;have H':=Aa.mk H;clear H;obtain ⟨ad202,e202,hx202_0,p202,q202⟩:=Zq.at_ HR0.out x11_1;cases e202;replace hx202_0:=Zq.ce HB.out hx202_0
    go_wp2_with (((with_reducible refine Ab (f:=113) rfl ?_);refine Zq.gc (some 16) Tryz.func113 (Bk.calls _ _ _ _ A7.out) ?_;rintro e w8 ⟨v204,rfl,ho0,hb⟩;refine ⟨_,rfl,?_⟩;have HO205:=Aa.mk (Kd.Bp (Kd.Bj ho0 (Zq.lt HO_3.out)) (Av (Zs.auHB)));replace HO_3:=Zq.el HO_3.out ho0 hb;replace HB:=Zq.st hb;(try clear hb);(try clear ho0);obtain ⟨Ao9,co9,eo9⟩:=Kd.AD HO205.out;subst eo9))
    go_loopg [3,18] k1 (fun kq v3 v18 w' => ∃(x3_2:List Int) (x18_2:Int),v18 = .int .i64 x18_2∧Aa (Bb.l1 kq x3_2 l0 (l0.length:Int) x11_1 t203 (t203.length:Int) x18_2=some r)∧Aa (kq≤k1)∧Aa (Kd.R (Kd.int .i64) 3 w' w.heap.size (fun k_=>some k_≠((.slice Ao9 t203.length co9):Value).ownBlock) v3 x3_2)∧Aa (Kd.R (Kd.int .i64) 3 w' w.heap.size (fun k_=>some k_≠(v3:Value).ownBlock) (.slice Ao9 t203.length co9) t203)∧Aa (Below w.heap.size w w'))
    case atStart=>exact ⟨(x3_1),(0),Zs.auS,H',⟨Nat.le_refl _⟩,⟨(Zs.mvR (Kd.AJ HO_3.out (fun _ hk=>(by first|exact hk.2|exact trivial))))⟩,⟨(Zs.mvR (Kd.AJ HO205.out (fun _ hk=>(by first|exact hk.2|exact trivial))))⟩,⟨Zs.auHB⟩⟩
    case round =>
     clear H'
     obtain ⟨x3_2,x18_2,rfl,HA,HK2,HO_3,HO_16,HB⟩:=hrel;cases gk with
     | zero=>exact absurd HA.out (by simp [Bb.l1])
     | succ k2 =>
      have H:=HA.out;clear HA;simp only [Bb.l1] at H
      rcases Zq.ii H with ⟨c10,H⟩|⟨c10,H⟩
      ·have c10b0:=decide_eq_true c10;clear c10
       obtain ⟨c11,H⟩:=Zq.ip H;have c11b0:=decide_eq_true c11;clear c11
       obtain ⟨c12,H⟩:=Zq.ip H;have c12b0:=decide_eq_true c12;clear c12;obtain ⟨t207,A13,H⟩:=Zs.be H
       by_cases c14:t207=true
       ·subst c14;rw [if_pos rfl] at H;have H':=Aa.mk H;clear H;obtain ⟨ad206,e206,hx206_0,p206,q206⟩:=Zq.at_ (Kd.Ac HO_16.out).2.2 x18_2;cases e206;obtain ⟨Ao15,co15,eo15⟩:=Kd.AD HO_3.out;subst eo15
        go_wp2_with (((with_reducible refine Ab (f:=166) rfl ?_);refine Zq.gp Tryz.func166 (BL.calls _ _ _ _ _ _ _ (Zs.mvC ((Kd.Ac HO_3.out).2.2)) ((Kd.Ac HO_3.out).2.1) A13.out) ?_;intro nd))
        go_roundg k2
        case measure=>have:=HK1.out;have:=HK2.out;omega
        case rel=>exact ⟨(x3_2),(wrap64 (x18_2+1)),Zs.auS,H',⟨by have:=HK1.out;have:=HK2.out;omega⟩,⟨(Zs.mvR HO_3.out)⟩,⟨(Zs.mvR HO_16.out)⟩,⟨Zs.auHB⟩⟩
       ·replace c14:=Bool.eq_false_iff.mpr c14;subst c14;rw [if_neg (show ¬(false=true) by decide)] at H
        obtain ⟨c16,H⟩:=Zq.ip H;have LMc16:=Aa.mk c16;clear c16;(try rw [Option.bind_some] at H);generalize hyy:(x3_2++[rd t203 x18_2]:List Int)=y208 at H;have Ny208:=Aa.mk hyy.symm;clear hyy;have H':=Aa.mk H;clear H;obtain ⟨ad206,e206,hx206_0,p206,q206⟩:=Zq.at_ (Kd.Ac HO_16.out).2.2 x18_2;cases e206;obtain ⟨Ao17,co17,eo17⟩:=Kd.AD HO_3.out;subst eo17
        go_wp2_with (first|((with_reducible refine Ab (f:=166) rfl ?_);refine Zq.gp Tryz.func166 (BL.calls _ _ _ _ _ _ _ (Zs.mvC ((Kd.Ac HO_3.out).2.2)) ((Kd.Ac HO_3.out).2.1) A13.out) ?_;intro nd)|((with_reducible refine AW (b := .append) (xs:=#[.tmp 26,.tmp 28]) rfl ?_);at_builtin;refine Kd.Ei (Kd.int .i64) (w0:=w) w.heap.size rfl (.tmp 26) (.tmp 28) 27 3 (.int .i64 0) 8 rfl Tryz.underlying27 DQ rfl (by decide) (by omega) (.slice Ao17 x3_2.length co17) x3_2 (rd t203 x18_2) [.int .i64 (rd t203 x18_2)] (fun k_=>some k_≠(.slice (some ad206) t203.length co9:Value).ownBlock) (fun _=>False) rfl rfl ?aP (fun _ hk=>hk.elim) ?aF ?aO ?aB ?aS ?aL ?_;(case aP=>exact rfl);(case aB=>exact (Zs.auHB));(case aF=>exact (fun k_ hk=>Kd.DE (Zq.lt HO_16.out) k_ hk));(case aO=>exact ((Zs.mvR HO_3.out)));(case aS=>exact (Av (Zs.auHB)));(case aL=>have:=LMc16.out;omega);intro v209 w18 ho hb hg hat;rw [← Ny208.out] at ho;replace HO_16:=Aa.mk (Kd.BV (ok:=(fun _=>True)) ((Zs.mvR (Kd.AJ HO_16.out (fun _ hk=>⟨trivial,hk⟩)))) hg hat);replace HB:=Aa.mk (hb);have HO210:=Aa.mk (ho);clear HO_3;clear ho hb hg hat))
        go_roundg k2
        case measure=>have:=HK1.out;have:=HK2.out;omega
        case rel=>exact ⟨(y208),(wrap64 (x18_2+1)),Zs.auS,H',⟨by have:=HK1.out;have:=HK2.out;omega⟩,⟨(Zs.mvR HO210.out)⟩,⟨(Zs.mvR (Kd.AJ HO_16.out (fun _ hk=>(by first|exact hk.2|exact trivial))))⟩,⟨Zs.auHB⟩⟩
      ·have c10b0:=decide_eq_false c10;clear c10;have H':=Aa.mk H;clear H;go_wp2
       go_roundg k2
       case measure=>have:=HK1.out;have:=HK2.out;omega
       case rel=>exact ⟨(x3_2),(wrap64 (x11_1+1)),Zs.auS,H',⟨by have:=HK1.out;have:=HK2.out;omega⟩,⟨(Zs.mvR (Kd.AJ HO_3.out (fun _ hk=>trivial)))⟩,⟨Zs.auHB⟩⟩
   ·have c4b0:=decide_eq_false c4;clear c4;obtain ⟨t201,A19,H⟩:=Zs.be H;obtain rfl:=Option.some.inj H;obtain ⟨Ao20,co20,eo20⟩:=Kd.AD HO_3.out;subst eo20
    go_wp2_with (((with_reducible refine Ab (f:=167) rfl ?_);refine Zq.gc (some 33) Tryz.func167 (CB.calls _ _ _ _ _ _ (by repeat (first|(with_reducible first|exact HB.out|apply Al|apply As|apply Ax)|exact HB.out)) (Kd.Jt rfl HO_3.out) A19.out) ?_;rintro e w21 ⟨rfl,hy0,hb,hkp⟩;refine ⟨_,rfl,?_⟩;replace HO_3:=Aa.mk (Kd.R_reok rfl hy0 (fun k_ e_=>HO_3.out.1 k_ e_));replace HB:=Aa.mk (hb);(try clear hb);(try clear hkp);(try clear hy0)))
    go_ret
    exact ⟨_,Zs.auR,(Zs.mvR HO_3.out),Zs.auHB⟩
def CI.f (k:Nat) (l0:List Int):Option (List Int):=(Ai.f k l0).bind fun t211=>(if t211=true then ((Bb.f k l0).bind fun t212=>(some t212)) else (some ([]:List Int)))
theorem CI.calls (k:Nat) (A0:Option Addr) (c0:Nat) (l0:List Int) (r:List Int) (w:World) (hr0:Kd.C (Kd.int .i64) w A0 l0.length l0) (hc0:l0.length≤c0) (h:CI.f k l0=some r) :
  Calls Tryz.prog 145 #[.slice A0 l0.length c0] w fun e w' => ∃v0_:Value,e = .returned (v0_)∧Kd.R (Kd.int .i64) 3 w' w.heap.size (fun _=>True) v0_ r∧Below w.heap.size w w':=by
 have HR0:=Aa.mk hr0;have HC0:=Aa.mk hc0;clear hr0 hc0;have HB:=Aa.mk (Below.refl w.heap.size w);unfold CI.f at h;have H:=h;clear h;obtain ⟨t211,A2,H⟩:=Zs.be H
 by_cases c3:t211=true
 ·subst c3;rw [if_pos rfl] at H;obtain ⟨t212,A4,H⟩:=Zs.be H;obtain rfl:=Option.some.inj H
  go_enter Tryz.func145,Tryz.ntmps145
  go_wp2_with (first|((with_reducible refine Ab (f:=59) rfl ?_);refine Zq.gb Tryz.func59 (Ai.calls _ _ _ _ _ _ (Zs.mvC (HR0.out)) HC0.out A2.out) ?_;intro w5 hb;replace HB:=Zq.st hb;(try clear hb))|((with_reducible refine Ab (f:=147) rfl ?_);refine Zq.gc (some 7) Tryz.func147 (Bb.calls _ _ _ _ _ _ (Zs.mvC ((Kd.Bw HR0.out HB.out))) HC0.out A4.out) ?_;rintro e w6 ⟨v213,rfl,ho0,hb⟩;refine ⟨_,rfl,?_⟩;have HO214:=Zq.lw ho0;replace HB:=Zq.st hb;(try clear hb);(try clear ho0)))
  go_ret
  exact ⟨_,Zs.auR,(Zs.mvR HO214.out),Zs.auHB⟩
 ·replace c3:=Bool.eq_false_iff.mpr c3;subst c3;rw [if_neg (show ¬(false=true) by decide)] at H;obtain rfl:=Option.some.inj H
  go_enter Tryz.func145,Tryz.ntmps145
  go_wp2_with (((with_reducible refine Ab (f:=59) rfl ?_);refine Zq.gb Tryz.func59 (Ai.calls _ _ _ _ _ _ (Zs.mvC (HR0.out)) HC0.out A2.out) ?_;intro w7 hb;replace HB:=Zq.st hb;(try clear hb)))
  go_ret
  exact ⟨_,Zs.auR,by first|exact Kd.Es _ _ _ _ _|exact Kd.Fq _ _ _ _ _|exact Kd.Fz _ _ _ _ _|exact Kd.FB _ _ _ _ _|exact Kd.Fy _ _ _ _ _,Zs.auHB⟩
def BD.l0:Nat→List Int→List Int→List Int→Int→Int→Option (List Int)
 | 0,_,_,_,_,_=>none
 | k+1,x0,x3,x8,x9,x10=>if x10<x9 then (if 0≤x10 then (if x10<(x8.length:Int) then ((BX.f k x0 (rd x8 x10)).bind fun t222=>(if t222=true then (BD.l0 k x0 x3 x8 x9 (wrap64 (x10+1))) else (if x3.length<17592186044416 then (BD.l0 k x0 (x3++[rd x8 x10]) x8 x9 (wrap64 (x10+1))) else (none)))) else (none)) else (none)) else (some x3)
def BD.f (k:Nat) (l0:List Int):Option (List Int):=(CI.f k l0).bind fun t218=>(BD.l0 k l0 (([]:List Int)) t218 (t218.length:Int) 0)
theorem BD.calls (k:Nat) (A0:Option Addr) (c0:Nat) (l0:List Int) (r:List Int) (w:World) (hr0:Kd.C (Kd.int .i64) w A0 l0.length l0) (hc0:l0.length≤c0) (h:BD.f k l0=some r) :
  Calls Tryz.prog 102 #[.slice A0 l0.length c0] w fun e w' => ∃v0_:Value,e = .returned (v0_)∧Kd.R (Kd.int .i64) 3 w' w.heap.size (fun _=>True) v0_ r∧Below w.heap.size w w':=by
 have HR0:=Aa.mk hr0;have HC0:=Aa.mk hc0;clear hr0 hc0;have HB:=Aa.mk (Below.refl w.heap.size w);unfold BD.f at h;have H:=h;clear h;obtain ⟨y215,hyy⟩ : ∃y_:List Int,y_=(([]:List Int)):=⟨_,rfl⟩
 replace H:((CI.f k l0).bind fun t218=>(BD.l0 k l0 y215 t218 (t218.length:Int) 0))=some r:=Zs.auY
 have Ny215:=Aa.mk hyy;clear hyy;obtain ⟨t218,A2,H⟩:=Zs.be H;have H':=Aa.mk H;clear H
 go_enter Tryz.func102,Tryz.ntmps102
 go_wp2_with (first|((with_reducible refine Bg (N:=6) rfl ?_);refine Zq.li ([]:List Int) ?_;intro v216 w3 ho4 hb;(first|rw [← Ny215.out] at ho4|(simp only [Int.reduceToNat] at ho4;rw [← Ny215.out] at ho4));have HO217:=Zq.lw ho4;replace HB:=Zq.st hb;clear hb ho4)|((with_reducible refine Ab (f:=145) rfl ?_);refine Zq.gc (some 8) Tryz.func145 (CI.calls _ _ _ _ _ _ (Zs.mvC ((Kd.Bw HR0.out HB.out))) HC0.out A2.out) ?_;rintro e w5 ⟨v219,rfl,ho0,hb⟩;refine ⟨_,rfl,?_⟩;have HO220:=Aa.mk (Kd.Bp (Kd.Bj ho0 (Zq.lt HO217.out)) (Av (Zs.auHB)));replace HO217:=Zq.el HO217.out ho0 hb;replace HB:=Zq.st hb;(try clear hb);(try clear ho0);obtain ⟨Ao6,co6,eo6⟩:=Kd.AD HO220.out;subst eo6))
 go_loopg [3,10] k (fun kq v3 v10 w' => ∃(x3_1:List Int) (x10_1:Int),v10 = .int .i64 x10_1∧Aa (BD.l0 kq l0 x3_1 t218 (t218.length:Int) x10_1=some r)∧Aa (kq≤k)∧Aa (Kd.R (Kd.int .i64) 3 w' w.heap.size (fun k_=>some k_≠((.slice Ao6 t218.length co6):Value).ownBlock) v3 x3_1)∧Aa (Kd.R (Kd.int .i64) 3 w' w.heap.size (fun k_=>some k_≠(v3:Value).ownBlock) (.slice Ao6 t218.length co6) t218)∧Aa (Below w.heap.size w w'))
 case atStart=>exact ⟨(y215),(0),Zs.auS,H',⟨Nat.le_refl _⟩,⟨(Zs.mvR (Kd.AJ HO217.out (fun _ hk=>(by first|exact hk.2|exact trivial))))⟩,⟨(Zs.mvR (Kd.AJ HO220.out (fun _ hk=>(by first|exact hk.2|exact trivial))))⟩,⟨Zs.auHB⟩⟩
 case round =>
  clear H'
  obtain ⟨x3_1,x10_1,rfl,HA,HK1,HO_3,HO_8,HB⟩:=hrel;cases gk with
  | zero=>exact absurd HA.out (by simp [BD.l0])
  | succ k1 =>
   have H:=HA.out;clear HA;simp only [BD.l0] at H
   rcases Zq.ii H with ⟨c7,H⟩|⟨c7,H⟩
   ·have c7b0:=decide_eq_true c7;clear c7
    obtain ⟨c8,H⟩:=Zq.ip H;have c8b0:=decide_eq_true c8;clear c8
    obtain ⟨c9,H⟩:=Zq.ip H;have c9b0:=decide_eq_true c9;clear c9;obtain ⟨t222,A10,H⟩:=Zs.be H
    by_cases c11:t222=true
    ·subst c11;rw [if_pos rfl] at H;have H':=Aa.mk H;clear H;obtain ⟨ad221,e221,hx221_0,p221,q221⟩:=Zq.at_ (Kd.Ac HO_8.out).2.2 x10_1;cases e221
     go_wp2_with (((with_reducible refine Ab (f:=74) rfl ?_);refine Zq.gp Tryz.func74 (BX.calls _ _ _ _ _ _ _ (Zs.mvC ((Kd.Bw HR0.out HB.out))) HC0.out A10.out) ?_;intro nd))
     go_roundg k1
     case measure=>have:=HK1.out;omega
     case rel=>exact ⟨(x3_1),(wrap64 (x10_1+1)),Zs.auS,H',⟨by have:=HK1.out;omega⟩,⟨(Zs.mvR HO_3.out)⟩,⟨(Zs.mvR HO_8.out)⟩,⟨Zs.auHB⟩⟩
    ·replace c11:=Bool.eq_false_iff.mpr c11;subst c11;rw [if_neg (show ¬(false=true) by decide)] at H
     obtain ⟨c12,H⟩:=Zq.ip H;have LMc12:=Aa.mk c12;clear c12;(try rw [Option.bind_some] at H);generalize hyy:(x3_1++[rd t218 x10_1]:List Int)=y223 at H;have Ny223:=Aa.mk hyy.symm;clear hyy;have H':=Aa.mk H;clear H;obtain ⟨ad221,e221,hx221_0,p221,q221⟩:=Zq.at_ (Kd.Ac HO_8.out).2.2 x10_1;cases e221
     go_wp2_with (first|((with_reducible refine Ab (f:=74) rfl ?_);refine Zq.gp Tryz.func74 (BX.calls _ _ _ _ _ _ _ (Zs.mvC ((Kd.Bw HR0.out HB.out))) HC0.out A10.out) ?_;intro nd)|((with_reducible refine AW (b := .append) (xs:=#[.tmp 18,.tmp 20]) rfl ?_);at_builtin;refine Zq.ap (.tmp 18) (.tmp 20) 27 Tryz.underlying27 DQ u3 x3_1 (rd t218 x10_1) (fun k_=>some k_≠(.slice (some ad221) t218.length co6:Value).ownBlock) (fun k_ hk=>Kd.DE (Zq.lt HO_8.out) k_ hk) ((Zs.mvR HO_3.out)) LMc12.out ?_;intro v224 w13 ho hb hg hat;rw [← Ny223.out] at ho;replace HO_8:=Aa.mk (Kd.BV (ok:=(fun _=>True)) ((Zs.mvR (Kd.AJ HO_8.out (fun _ hk=>⟨trivial,hk⟩)))) hg hat);replace HB:=Aa.mk (hb);have HO225:=Aa.mk (ho);clear HO_3;clear ho hb hg hat))
     go_roundg k1
     case measure=>have:=HK1.out;omega
     case rel=>exact ⟨(y223),(wrap64 (x10_1+1)),Zs.auS,H',⟨by have:=HK1.out;omega⟩,⟨(Zs.mvR HO225.out)⟩,⟨(Zs.mvR (Kd.AJ HO_8.out (fun _ hk=>(by first|exact hk.2|exact trivial))))⟩,⟨Zs.auHB⟩⟩
   ·have c7b0:=decide_eq_false c7;clear c7;obtain rfl:=Option.some.inj H;go_wp2;go_ret
    exact ⟨_,Zs.auR,(Zs.mvR (Kd.AJ HO_3.out (fun _ hk=>trivial))),Zs.auHB⟩
mutual
def B2.l0:Nat→Int→List Int→Int→Int→Option (Int)
 | 0,_,_,_,_=>none
 | k+1,x3,x6,x7,x8=>if x8<x7 then (if 0≤x8 then (if x8<(x6.length:Int) then ((Bq.f (rd x6 x8)).bind fun t227=>(B2.l1 k x3 t227 x6 x7 x8)) else (none)) else (none)) else (some x3)
def B2.l1:Nat→Int→Int→List Int→Int→Int→Option (Int)
 | 0,_,_,_,_,_=>none
 | k+1,x3,x5,x6,x7,x8=>if x5=0 then (B2.l0 k x3 x6 x7 (wrap64 (x8+1))) else (B2.l1 k x5 (Int.tmod x3 x5) x6 x7 x8)
end
def B2.f (k:Nat) (l0:List Int):Option (Int):=B2.l0 k 0 l0 (l0.length:Int) 0
theorem B2.calls (k:Nat) (A0:Option Addr) (c0:Nat) (l0:List Int) (r:Int) (w:World) (hr0:Kd.C (Kd.int .i64) w A0 l0.length l0) (hc0:l0.length≤c0) (h:B2.f k l0=some r) :
  Calls Tryz.prog 88 #[.slice A0 l0.length c0] w fun e w'=>e = .returned (.int .i64 r)∧Below w.heap.size w w':=by
 have HR0:=Aa.mk hr0;have HC0:=Aa.mk hc0;clear hr0 hc0;have HB:=Aa.mk (Below.refl w.heap.size w);unfold B2.f at h;have H:=h;clear h;have H':=Aa.mk H;clear H
 go_enter Tryz.func88,Tryz.ntmps88
 go_wp2
 go_loopg [3,8] k (fun kq v3 v8 w' => ∃(x3_1:Int) (x8_1:Int),v3 = .int .i64 x3_1∧v8 = .int .i64 x8_1∧Aa (B2.l0 kq x3_1 l0 (l0.length:Int) x8_1=some r)∧Aa (kq≤k)∧Aa (Below w.heap.size w w'))
 case atStart=>exact ⟨(0),(0),Zs.auS,Zs.auS,H',⟨Nat.le_refl _⟩,⟨Zs.auHB⟩⟩
 case round =>
  clear H';obtain ⟨x3_1,x8_1,rfl,rfl,HA,HK1,HB⟩:=hrel;cases gk with
  | zero=>exact absurd HA.out (by simp [B2.l0])
  | succ k1 =>
   have H:=HA.out;clear HA;simp only [B2.l0] at H
   rcases Zq.ii H with ⟨c2,H⟩|⟨c2,H⟩
   ·have c2b0:=decide_eq_true c2;clear c2
    obtain ⟨c3,H⟩:=Zq.ip H;have c3b0:=decide_eq_true c3;clear c3
    obtain ⟨c4,H⟩:=Zq.ip H;have c4b0:=decide_eq_true c4;clear c4;obtain ⟨t227,A5,H⟩:=Zs.be H;have H':=Aa.mk H;clear H;obtain ⟨ad226,e226,hx226_0,p226,q226⟩:=Zq.at_ HR0.out x8_1;cases e226;replace hx226_0:=Zq.ce HB.out hx226_0
    go_wp2_with ((go_at_call 112;(with_reducible refine (Bq.calls (rd l0 x8_1) t227 _ A5.out).mono ?_);rintro e w6 ⟨rfl,hb⟩;replace HB:=Zq.st hb;(try clear hb)))
    go_loopg [3,5] k1 (fun kq v3 v5 w' => ∃(x3_2:Int) (x5_2:Int),v3 = .int .i64 x3_2∧v5 = .int .i64 x5_2∧Aa (B2.l1 kq x3_2 x5_2 l0 (l0.length:Int) x8_1=some r)∧Aa (kq≤k1)∧Aa (Below w.heap.size w w'))
    case atStart=>exact ⟨(x3_1),(t227),Zs.auS,Zs.auS,H',⟨Nat.le_refl _⟩,⟨Zs.auHB⟩⟩
    case round =>
     clear H'
     obtain ⟨x3_2,x5_2,rfl,rfl,HA,HK2,HB⟩:=hrel;cases gk with
     | zero=>exact absurd HA.out (by simp [B2.l1])
     | succ k2 =>
      have H:=HA.out;clear HA;simp only [B2.l1] at H
      rcases Zq.ii H with ⟨c7,H⟩|⟨c7,H⟩
      ·have c7b1:=bne_eq_false_iff_eq.mpr c7;clear c7;have H':=Aa.mk H;clear H;go_wp2
       go_roundg k2
       case measure=>have:=HK1.out;have:=HK2.out;omega
       case rel=>exact ⟨(x3_2),(wrap64 (x8_1+1)),Zs.auS,Zs.auS,H',⟨by have:=HK1.out;have:=HK2.out;omega⟩,⟨Zs.auHB⟩⟩
      ·have c7b1:=bne_iff_ne.mpr c7;have H':=Aa.mk H;clear H;go_wp2
       repeat (go_quiet (fail);try go_wp2)
       go_roundg k2
       case measure=>have:=HK1.out;have:=HK2.out;omega
       case rel=>exact ⟨(x5_2),(Int.tmod x3_2 x5_2),Zs.auS,Zs.auS,H',⟨by have:=HK1.out;have:=HK2.out;omega⟩,⟨Zs.auHB⟩⟩
   ·have c2b0:=decide_eq_false c2;clear c2;obtain rfl:=Option.some.inj H;go_wp2
    go_ret
    exact ⟨Zs.auR,Zs.auHB⟩
mutual
def AU.j1:Nat→List Int→Int→Option (List Int)
 | 0,_,_=>none
 | k+1,x0,x3=>AU.l1 k x3 (([]:List Int)) x0 (x0.length:Int) 0
def AU.l1:Nat→Int→List Int→List Int→Int→Int→Option (List Int)
 | 0,_,_,_,_,_=>none
 | k+1,x3,x6,x25,x26,x27=>if x27<x26 then (if 0≤x27 then (if x27<(x25.length:Int) then (if x3=0 then (none) else (if x6.length<17592186044416 then (AU.l1 k x3 (x6++[wrap64 (Int.tdiv (rd x25 x27) x3)]) x25 x26 (wrap64 (x27+1))) else (none))) else (none)) else (none)) else (some x6)
def AU.l0:Nat→List Int→Int→List Int→Int→Int→Option (List Int)
 | 0,_,_,_,_,_=>none
 | k+1,x0,x3,x11,x12,x13=>if x13<x12 then (if 0≤x13 then (if x13<(x11.length:Int) then (if (rd x11 x13)=0 then (AU.l0 k x0 x3 x11 x12 (wrap64 (x13+1))) else (if (rd x11 x13)<0 then (AU.j1 k x0 (wrap64 (-x3))) else (AU.j1 k x0 x3))) else (none)) else (none)) else (AU.j1 k x0 x3)
end
def AU.f (k:Nat) (l0:List Int):Option (List Int):=(B2.f k l0).bind fun t228=>(AU.l0 k l0 t228 l0 (l0.length:Int) 0)
theorem AU.calls (k:Nat) (A0:Option Addr) (c0:Nat) (l0:List Int) (r:List Int) (w:World) (hr0:Kd.C (Kd.int .i64) w A0 l0.length l0) (hc0:l0.length≤c0) (h:AU.f k l0=some r) :
  Calls Tryz.prog 77 #[.slice A0 l0.length c0] w fun e w' => ∃v0_:Value,e = .returned (v0_)∧Kd.R (Kd.int .i64) 3 w' w.heap.size (fun _=>True) v0_ r∧Below w.heap.size w w':=by
 have HR0:=Aa.mk hr0;have HC0:=Aa.mk hc0;clear hr0 hc0;have HB:=Aa.mk (Below.refl w.heap.size w);unfold AU.f at h;have H:=h;clear h;obtain ⟨t228,A2,H⟩:=Zs.be H;have HC3:=Aa.mk H;clear H
 go_enter Tryz.func77,Tryz.ntmps77
 go_upto_block 0 with (((with_reducible refine Ab (f:=88) rfl ?_);refine Zq.gb Tryz.func88 (B2.calls _ _ _ _ _ _ (Zs.mvC (HR0.out)) HC0.out A2.out) ?_;intro w4 hb;replace HB:=Zq.st hb;(try clear hb)))
 (try simp only [Act.put,List.setIfInBounds_toArray,List.set_cons_zero,List.set_cons_succ])
 go_cut [3] (fun v3 wc => ∃(kq:Nat) (x3_2:Int),v3 = .int .i64 x3_2∧Aa (AU.j1 kq l0 x3_2=some r)∧Aa (kq≤k)∧Aa (Below w.heap.size w wc))
 case first =>
  have H:=HC3.out;clear HC3;have H':=Aa.mk H;clear H;go_wp2
  go_loopg [3,13] k (fun kq v3 v13 w' => ∃(x3_1:Int) (x13_1:Int),v3 = .int .i64 x3_1∧v13 = .int .i64 x13_1∧Aa (AU.l0 kq l0 x3_1 l0 (l0.length:Int) x13_1=some r)∧Aa (kq≤k)∧Aa (Below w.heap.size w w'))
  case atStart=>exact ⟨(t228),(0),Zs.auS,Zs.auS,H',⟨Nat.le_refl _⟩,⟨Zs.auHB⟩⟩
  case round =>
   clear H'
   obtain ⟨x3_1,x13_1,rfl,rfl,HA,HK1,HB⟩:=hrel;cases gk with
   | zero=>exact absurd HA.out (by simp [AU.l0])
   | succ k1 =>
    have H:=HA.out;clear HA;simp only [AU.l0] at H
    rcases Zq.ii H with ⟨c5,H⟩|⟨c5,H⟩
    ·have c5b0:=decide_eq_true c5;clear c5
     obtain ⟨c6,H⟩:=Zq.ip H;have c6b0:=decide_eq_true c6;clear c6
     obtain ⟨c7,H⟩:=Zq.ip H;have c7b0:=decide_eq_true c7;clear c7
     rcases Zq.ii H with ⟨c8,H⟩|⟨c8,H⟩
     ·have c8b1:=bne_eq_false_iff_eq.mpr c8;clear c8;have H':=Aa.mk H;clear H;obtain ⟨ad229,e229,hx229_0,p229,q229⟩:=Zq.at_ HR0.out x13_1;cases e229;replace hx229_0:=Zq.ce HB.out hx229_0;go_wp2
      go_roundg k1
      case measure=>have:=HK1.out;omega
      case rel=>exact ⟨(x3_1),(wrap64 (x13_1+1)),Zs.auS,Zs.auS,H',⟨by have:=HK1.out;omega⟩,⟨Zs.auHB⟩⟩
     ·have c8b1:=bne_iff_ne.mpr c8
      rcases Zq.ii H with ⟨c9,H⟩|⟨c9,H⟩
      ·have c9b0:=decide_eq_true c9;clear c9;have H':=Aa.mk H;clear H;obtain ⟨ad229,e229,hx229_0,p229,q229⟩:=Zq.at_ HR0.out x13_1;cases e229;replace hx229_0:=Zq.ce HB.out hx229_0;go_wp2
       go_meet
       case rel=>exact ⟨_,(wrap64 (-x3_1)),Zs.auS,H',⟨by have:=HK1.out;first|omega|exact Nat.le_refl _⟩,⟨Zs.auHB⟩⟩
      ·have c9b0:=decide_eq_false c9;clear c9;have H':=Aa.mk H;clear H;obtain ⟨ad229,e229,hx229_0,p229,q229⟩:=Zq.at_ HR0.out x13_1;cases e229;replace hx229_0:=Zq.ce HB.out hx229_0;go_wp2
       go_meet
       case rel=>exact ⟨_,(x3_1),Zs.auS,H',⟨by have:=HK1.out;first|omega|exact Nat.le_refl _⟩,⟨Zs.auHB⟩⟩
    ·have c5b0:=decide_eq_false c5;clear c5
     have H':=Aa.mk H;clear H;go_wp2
     go_meet
     case rel=>exact ⟨_,(x3_1),Zs.auS,H',⟨by have:=HK1.out;first|omega|exact Nat.le_refl _⟩,⟨Zs.auHB⟩⟩
 case rest =>
  clear HC3
  obtain ⟨kq,x3_2,rfl,HA,HJ2,HB⟩:=hcut;cases kq with
  | zero=>exact absurd HA.out (by simp [AU.j1])
  | succ kj2 =>
   have H:=HA.out;clear HA;simp only [AU.j1] at H;obtain ⟨y230,hyy⟩ : ∃y_:List Int,y_=(([]:List Int)):=⟨_,rfl⟩
   replace H:(AU.l1 kj2 x3_2 y230 l0 (l0.length:Int) 0)=some r:=Zs.auY
   have Ny230:=Aa.mk hyy;clear hyy;have H':=Aa.mk H;clear H
   go_wp2_with (((with_reducible refine Bg (N:=24) rfl ?_);refine Zq.li ([]:List Int) ?_;intro v231 w10 ho11 hb;(first|rw [← Ny230.out] at ho11|(simp only [Int.reduceToNat] at ho11;rw [← Ny230.out] at ho11));have HO232:=Zq.lw ho11;replace HB:=Zq.st hb;clear hb ho11))
   go_loopg [6,27] kj2 (fun kq v6 v27 w' => ∃(x6_2:List Int) (x27_2:Int),v27 = .int .i64 x27_2∧Aa (AU.l1 kq x3_2 x6_2 l0 (l0.length:Int) x27_2=some r)∧Aa (kq≤kj2)∧Aa (Kd.R (Kd.int .i64) 3 w' w.heap.size (fun _=>True) v6 x6_2)∧Aa (Below w.heap.size w w'))
   case atStart=>exact ⟨(y230),(0),Zs.auS,H',⟨Nat.le_refl _⟩,⟨(Zs.mvR HO232.out)⟩,⟨Zs.auHB⟩⟩
   case round =>
    clear H'
    obtain ⟨x6_2,x27_2,rfl,HA,HK2,HO_6,HB⟩:=hrel;cases gk with
    | zero=>exact absurd HA.out (by simp [AU.l1])
    | succ k2 =>
     have H:=HA.out;clear HA;simp only [AU.l1] at H
     rcases Zq.ii H with ⟨c12,H⟩|⟨c12,H⟩
     ·have c12b0:=decide_eq_true c12;clear c12
      obtain ⟨c13,H⟩:=Zq.ip H;have c13b0:=decide_eq_true c13;clear c13
      obtain ⟨c14,H⟩:=Zq.ip H;have c14b0:=decide_eq_true c14;clear c14
      by_cases c15:x3_2=0
      ·rw [if_pos c15] at H;exact absurd H (by simp)
      ·rw [if_neg c15] at H
       obtain ⟨c16,H⟩:=Zq.ip H;have LMc16:=Aa.mk c16;clear c16;(try rw [Option.bind_some] at H);generalize hyy:(x6_2++[wrap64 (Int.tdiv (rd l0 x27_2) x3_2)]:List Int)=y234 at H;have Ny234:=Aa.mk hyy.symm;clear hyy;have H':=Aa.mk H;clear H;obtain ⟨ad233,e233,hx233_0,p233,q233⟩:=Zq.at_ HR0.out x27_2;cases e233;replace hx233_0:=Zq.ce HB.out hx233_0
       go_wp2_with (((with_reducible refine AW (b := .append) (xs:=#[.tmp 31,.tmp 35]) rfl ?_);at_builtin;refine Zq.ap (.tmp 31) (.tmp 35) 27 Tryz.underlying27 DQ u6 x6_2 (wrap64 (Int.tdiv (rd l0 x27_2) x3_2)) (fun _=>True) (fun _ _=>trivial) ((Zs.mvR HO_6.out)) LMc16.out ?_;intro v235 w17 ho hb hg hat;rw [← Ny234.out] at ho;replace HB:=Aa.mk (hb);have HO236:=Aa.mk (ho);clear HO_6;clear ho hb hg hat))
       go_roundg k2
       case measure=>have:=HJ2.out;have:=HK2.out;omega
       case rel=>exact ⟨(y234),(wrap64 (x27_2+1)),Zs.auS,H',⟨by have:=HJ2.out;have:=HK2.out;omega⟩,⟨(Zs.mvR HO236.out)⟩,⟨Zs.auHB⟩⟩
     ·have c12b0:=decide_eq_false c12;clear c12;obtain rfl:=Option.some.inj H;go_wp2;go_ret
      exact ⟨_,Zs.auR,(Zs.mvR HO_6.out),Zs.auHB⟩
section
open Locg
theorem Na:(Tryz.prog.info? 3).map (fun i=>(i.zero,i.size,i.bytes))=some (some (.int .i64 0),1,8):=by kernel_rfl
def Be.f (l0:List Int):Option (List Int):=if l0.length≤17592186044416 then some l0 else none
set_option maxHeartbeats 4000000 in
theorem Be.calls (A0:Option Addr) (c0:Nat) (l0:List Int) (r:List Int) (w:World) (hr0:Kd.C (Kd.int .i64) w A0 l0.length l0) (hc0:l0.length≤c0) (h:Be.f l0=some r) :
  Calls Tryz.prog 87 #[.slice A0 l0.length c0] w fun e w' => ∃v0_:Value,e = .returned (v0_)∧Kd.R (Kd.int .i64) 3 w' w.heap.size (fun _=>True) v0_ r∧Below w.heap.size w w':=by
 unfold Be.f at h
 by_cases hl:l0.length≤17592186044416
 ·rw [if_pos hl] at h;injection h with h
  subst h;have hR:C9 w .i64 A0 l0.length l0:=Kd.E0 (enc:=Value.int .i64) (d:=(0:Int)) (h1:=fun _=>rfl) hr0
  rcases A0 with _|ad
  ·obtain rfl:l0=[]:=by
    rcases Nat.eq_zero_or_pos l0.length with h0|h0
    ·exact List.eq_nil_of_length_eq_zero h0
    ·obtain ⟨ad,he,_⟩:=hR.2.2 h0;cases he
   clear hR hr0 hl;have he:=fun W=>Lib.run_eql_slice_nil (P:=Tryz.prog) W 27 3 none (List.length ([]:List Int)) c0 0 0 Tryz.underlying27
   simp only [List.length_nil] at he ⊢
   go_enter Tryz.func87,Tryz.ntmps87
   go_wp2;go_ret
   exact ⟨_,rfl,Kd.Es _ _ _ _ _,Below.refl _ _⟩
  ·have he:=fun W=>Lib.run_eql_slice_nil (P:=Tryz.prog) W 27 3 (some ad) l0.length c0 0 0 Tryz.underlying27
   have HR:=Lib.hid hR;have HL:=Lib.hid hl;clear hR hr0 hl
   go_enter Tryz.func87,Tryz.ntmps87
   go_wp2_with (at_builtin;refine GX (w0:=w) w.heap.size rfl (.tmp 5) (.tmp 6) 27 3 .i64 8 rfl Tryz.underlying27 Na (by decide) (.slice (some ⟨w.heap.size,0,none⟩) 0 0) [] l0 (some ad) l0.length c0 rfl rfl (own_lit w w.heap.size 3 .i64 [] (Nat.le_refl _) (by simp)) (HR.out.below (Al (Below.refl _ _) _)) (Al (Below.refl _ _) _) (by simp) (by have:=HL.out;simp;omega) ?_;intro v1 w1 hown1 hB1 hg1 hat1;clear hat1;obtain ⟨A1,k1,rfl⟩:=DC hown1)
   go_ret
   exact ⟨_,rfl,Kd.FL hown1 (fun _ _=>trivial),hB1⟩
 ·rw [if_neg hl] at h;cases h
end
end Go.Proofs.YtacfcoilmdhgnaaGreatDoor.PFnExactExecute
