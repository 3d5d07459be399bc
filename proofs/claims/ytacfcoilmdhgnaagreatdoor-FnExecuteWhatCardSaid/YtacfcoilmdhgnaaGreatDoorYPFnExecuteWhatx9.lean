/- A function's Lean twin and its walk, written by a program of this session. -/
import Derived.Test.YtacfcoilmdhgnaaGreatDoorYPFnExecuteWhatx8
set_option maxHeartbeats 8000000
set_option maxRecDepth 100000
namespace Go.Proofs.YtacfcoilmdhgnaaGreatDoor.PFnExecuteWhat
open Go.RowKit Go.Proofs.YtacfcoilmdhgnaaGreatDoorW.PrintWords Go.Proofs.YtacfcoilmdhgnaaGreatDoorW.PrintLast Go.Proofs.YtacfcoilmdhgnaaGreatDoorW.PrintMore
attribute [local go_sem] DN DO El En Du Dt DP DK   -- for this text's walks alone
set_option linter.unusedVariables false
set_option linter.unusedSimpArgs false
def B9.l0:Nat→Int→Int→Int→Int→Option (Int)
 | 0,_,_,_,_=>none
 | k+1,x0,x1,x2,x7=>if x1>0 then if (Int.tmod x1 2)=1 then if x2=0 then none else B9.l0 k (Int.tmod (wrap64 (x0*x0)) x2) (wrap64 (Int.tdiv x1 2)) x2 (Int.tmod (wrap64 (x7*x0)) x2) else if x2=0 then none else B9.l0 k (Int.tmod (wrap64 (x0*x0)) x2) (wrap64 (Int.tdiv x1 2)) x2 x7 else some x7
def B9.f (k:Nat) (a0 a1 a2:Int):Option (Int):=if a2=0 then none else (Db.f a0 a2).bind fun t3=>(B9.l0 k t3 a1 a2 ((1:Int)%a2))
theorem B9.calls (k:Nat) (a0 a1 a2 r:Int) (w:World) (h:B9.f k a0 a1 a2=some r) :
  Calls Tryz.prog 157 #[.int .i64 a0,.int .i64 a1,.int .i64 a2] w fun e w'=>e = .returned (.int .i64 r)∧Bo w w':=by
 unfold B9.f at h;have H:=h;clear h
 rcases Zq.ii H with ⟨c4,H⟩|⟨c4,H⟩
 ·exact absurd H (by simp)
 ·obtain ⟨t3,A5,H⟩:=Zs.be H;have H':=Aa.mk H;clear H
  go_enter Tryz.func157,Tryz.ntmps157
  go_wp2_with (((with_reducible refine Ab (f:=123) rfl ?_);refine Zq.gp Tryz.func123 (Db.calls _ _ _ _ A5.out) ?_;intro nd))
  go_loopg [0,1,7] k (fun kq v0 v1 v7 w' => ∃x0_1 x1_1 x7_1:Int,v0 = .int .i64 x0_1∧v1 = .int .i64 x1_1∧v7 = .int .i64 x7_1∧Aa (B9.l0 kq x0_1 x1_1 a2 x7_1=some r)∧Aa (kq≤k)∧Bo w w')
  case atStart=>exact ⟨(t3),(a1),((1:Int)%a2),Zs.auS,Zs.auS,Zs.auS,H',⟨Nat.le_refl _⟩,Zq.dr⟩
  case round =>
   clear H'
   obtain ⟨x0_1,x1_1,x7_1,rfl,rfl,rfl,HA,HK1,⟨m1,rfl⟩⟩:=hrel;cases gk with
   | zero=>exact absurd HA.out (by simp [B9.l0])
   | succ k1 =>
    have H:=HA.out;clear HA;simp only [B9.l0] at H
    rcases Zq.jg H with ⟨c6b0,H⟩|⟨c6b0,H⟩
    ·rcases Zq.jn H with ⟨c7b0,H⟩|⟨c7,c7b0,H⟩
     ·rcases Zq.ii H with ⟨c8,H⟩|⟨c8,H⟩
      ·exact absurd H (by simp)
      ·have H':=Aa.mk H;clear H;go_wp2
       go_roundg k1
       case measure=>have:=HK1.out;omega
       case rel=>exact ⟨(Int.tmod (wrap64 (x0_1*x0_1)) a2),(wrap64 (Int.tdiv x1_1 2)),(Int.tmod (wrap64 (x7_1*x0_1)) a2),Zs.auS,Zs.auS,Zs.auS,H',⟨by have:=HK1.out;omega⟩,Zq.dr⟩
     ·rcases Zq.ii H with ⟨c9,H⟩|⟨c9,H⟩
      ·exact absurd H (by simp)
      ·have H':=Aa.mk H;clear H;go_wp2
       go_roundg k1
       case measure=>have:=HK1.out;omega
       case rel=>exact ⟨(Int.tmod (wrap64 (x0_1*x0_1)) a2),(wrap64 (Int.tdiv x1_1 2)),(x7_1),Zs.auS,Zs.auS,Zs.auS,H',⟨by have:=HK1.out;omega⟩,Zq.dr⟩
    ·obtain rfl:=Option.some.inj H;go_wp2;go_ret
     exact ⟨Zs.auS,Zq.dr⟩
def Cm.f (k:Nat) (a0 a1:Int):Option (Int):=(B9.f k a0 (wrap64 (Int.tdiv (wrap64 (a1-1)) 2)) a1).bind fun t3=>(if t3=(wrap64 (a1-1)) then some (-1) else some t3)
theorem Cm.calls (k:Nat) (a0 a1 r:Int) (w:World) (h:Cm.f k a0 a1=some r) :
  Calls Tryz.prog 125 #[.int .i64 a0,.int .i64 a1] w fun e w'=>e = .returned (.int .i64 r)∧Bo w w':=by
 unfold Cm.f at h;have H:=h;clear h;obtain ⟨t5,A3,H⟩:=Zs.be H
 rcases Zq.jn H with ⟨c4b0,H⟩|⟨c4,c4b0,H⟩
 ·obtain rfl:=Option.some.inj H
  go_enter Tryz.func125,Tryz.ntmps125
  go_wp2_with (((with_reducible refine Ab (f:=157) rfl ?_);refine Zq.gp Tryz.func157 (B9.calls _ _ _ _ _ _ A3.out) ?_;intro nd))
  go_ret
  exact ⟨Zs.auS,Zq.dr⟩
 ·obtain rfl:=Option.some.inj H
  go_enter Tryz.func125,Tryz.ntmps125
  go_wp2_with (((with_reducible refine Ab (f:=157) rfl ?_);refine Zq.gp Tryz.func157 (B9.calls _ _ _ _ _ _ A3.out) ?_;intro nd))
  go_ret
  exact ⟨Zs.auS,Zq.dr⟩
def Ch.f (k:Nat) (a0 a1 a2:Int):Option (Int):=if a2=0 then if a0<0 then if a1<0 then some (-1) else some 1 else some 1 else (AM.f k a0 a2).bind fun bt3=>((AM.f k a1 a2).bind fun bt5=>(if a2=2 then (Db.f bt3.2 16).bind fun t6=>((Db.f bt5.2 16).bind fun t7=>((C4.f (wrap64 ((wrap64 ((wrap64 ((wrap64 (Int.tdiv (wrap64 (t6-1)) 2))*(wrap64 (Int.tdiv (wrap64 (t7-1)) 2))))+(wrap64 (bt3.1*(wrap64 (Int.tdiv (wrap64 ((wrap64 (t7*t7))-1)) 8))))))+(wrap64 (bt5.1*(wrap64 (Int.tdiv (wrap64 ((wrap64 (t6*t6))-1)) 8))))))).bind fun t8=>(some t8))) else (C4.f (wrap64 ((wrap64 (bt3.1*bt5.1))*(wrap64 (Int.tdiv (wrap64 (a2-1)) 2))))).bind fun t9=>(if (Int.tmod bt5.1 2)=1 then (Cm.f k bt3.2 a2).bind fun t10=>(if (Int.tmod bt3.1 2)=1 then (Cm.f k bt5.2 a2).bind fun t11=>(some (wrap64 ((wrap64 (t9*t10))*t11))) else some (wrap64 (t9*t10))) else if (Int.tmod bt3.1 2)=1 then (Cm.f k bt5.2 a2).bind fun t12=>(some (wrap64 (t9*t12))) else some t9)))
theorem Ch.calls (k:Nat) (a0 a1 a2 r:Int) (w:World) (h:Ch.f k a0 a1 a2=some r) :
  Calls Tryz.prog 72 #[.int .i64 a0,.int .i64 a1,.int .i64 a2] w fun e w'=>e = .returned (.int .i64 r)∧Bo w w':=by
 unfold Ch.f at h;have H:=h;clear h
 rcases Zq.jn H with ⟨c4b0,H⟩|⟨c4,c4b0,H⟩
 ·rcases Zq.jd H with ⟨c5b0,H⟩|⟨c5b0,H⟩
  ·rcases Zq.jd H with ⟨c6b0,H⟩|⟨c6b0,H⟩
   ·obtain rfl:=Option.some.inj H
    go_enter Tryz.func72,Tryz.ntmps72
    go_wp2;go_ret
    exact ⟨Zs.auS,Zq.dr⟩
   ·obtain rfl:=Option.some.inj H
    go_enter Tryz.func72,Tryz.ntmps72
    go_wp2;go_ret
    exact ⟨Zs.auS,Zq.dr⟩
  ·obtain rfl:=Option.some.inj H
   go_enter Tryz.func72,Tryz.ntmps72
   go_wp2;go_ret
   exact ⟨Zs.auS,Zq.dr⟩
 ·obtain ⟨t3,t20,A7,H⟩:=Zq.bp H;try dsimp only at H;obtain ⟨t21,t22,A8,H⟩:=Zq.bp H;try dsimp only at H
  rcases Zq.jn H with ⟨c9b0,H⟩|⟨c9,c9b0,H⟩
  ·obtain ⟨t23,A10,H⟩:=Zs.be H;obtain ⟨t24,A11,H⟩:=Zs.be H;obtain ⟨t25,A12,H⟩:=Zs.be H;obtain rfl:=Option.some.inj H
   go_enter Tryz.func72,Tryz.ntmps72
   go_wp2_with (first|((with_reducible refine Ab (f:=122) rfl ?_);refine Zq.gc (some 23) Tryz.func122 (AM.calls _ _ _ _ _ _ A7.out) ?_;rintro e w' ⟨rfl,⟨nd,rfl⟩⟩;refine ⟨_,rfl,?_⟩)|((with_reducible refine Ab (f:=122) rfl ?_);refine Zq.gc (some 29) Tryz.func122 (AM.calls _ _ _ _ _ _ A8.out) ?_;rintro e w' ⟨rfl,⟨nd,rfl⟩⟩;refine ⟨_,rfl,?_⟩)|((with_reducible refine Ab (f:=123) rfl ?_);refine Zq.gc (some 35) Tryz.func123 (Db.calls _ _ _ _ A10.out) ?_;rintro e w' ⟨rfl,⟨nd,rfl⟩⟩;refine ⟨_,rfl,?_⟩)|((with_reducible refine Ab (f:=123) rfl ?_);refine Zq.gc (some 37) Tryz.func123 (Db.calls _ _ _ _ A11.out) ?_;rintro e w' ⟨rfl,⟨nd,rfl⟩⟩;refine ⟨_,rfl,?_⟩)|((with_reducible refine Ab (f:=124) rfl ?_);refine Zq.gp Tryz.func124 (C4.calls _ _ _ A12.out) ?_;intro nd))
   go_ret
   exact ⟨Zs.auS,Zq.dr⟩
  ·obtain ⟨t26,A13,H⟩:=Zs.be H
   rcases Zq.jn H with ⟨c14b0,H⟩|⟨c14,c14b0,H⟩
   ·obtain ⟨t27,A15,H⟩:=Zs.be H
    rcases Zq.jn H with ⟨c16b0,H⟩|⟨c16,c16b0,H⟩
    ·obtain ⟨t28,A17,H⟩:=Zs.be H;obtain rfl:=Option.some.inj H
     go_enter Tryz.func72,Tryz.ntmps72
     go_wp2_with (first|((with_reducible refine Ab (f:=122) rfl ?_);refine Zq.gc (some 23) Tryz.func122 (AM.calls _ _ _ _ _ _ A7.out) ?_;rintro e w' ⟨rfl,⟨nd,rfl⟩⟩;refine ⟨_,rfl,?_⟩)|((with_reducible refine Ab (f:=122) rfl ?_);refine Zq.gc (some 29) Tryz.func122 (AM.calls _ _ _ _ _ _ A8.out) ?_;rintro e w' ⟨rfl,⟨nd,rfl⟩⟩;refine ⟨_,rfl,?_⟩)|((with_reducible refine Ab (f:=124) rfl ?_);refine Zq.gp Tryz.func124 (C4.calls _ _ _ A13.out) ?_;intro nd)|((with_reducible refine Ab (f:=125) rfl ?_);refine Zq.gc (some 76) Tryz.func125 (Cm.calls _ _ _ _ _ A15.out) ?_;rintro e w' ⟨rfl,⟨nd,rfl⟩⟩;refine ⟨_,rfl,?_⟩)|((with_reducible refine Ab (f:=125) rfl ?_);refine Zq.gc (some 84) Tryz.func125 (Cm.calls _ _ _ _ _ A17.out) ?_;rintro e w' ⟨rfl,⟨nd,rfl⟩⟩;refine ⟨_,rfl,?_⟩))
     go_ret
     exact ⟨Zs.auS,Zq.dr⟩
    ·obtain rfl:=Option.some.inj H
     go_enter Tryz.func72,Tryz.ntmps72
     go_wp2_with (first|((with_reducible refine Ab (f:=122) rfl ?_);refine Zq.gc (some 23) Tryz.func122 (AM.calls _ _ _ _ _ _ A7.out) ?_;rintro e w' ⟨rfl,⟨nd,rfl⟩⟩;refine ⟨_,rfl,?_⟩)|((with_reducible refine Ab (f:=122) rfl ?_);refine Zq.gc (some 29) Tryz.func122 (AM.calls _ _ _ _ _ _ A8.out) ?_;rintro e w' ⟨rfl,⟨nd,rfl⟩⟩;refine ⟨_,rfl,?_⟩)|((with_reducible refine Ab (f:=124) rfl ?_);refine Zq.gp Tryz.func124 (C4.calls _ _ _ A13.out) ?_;intro nd)|((with_reducible refine Ab (f:=125) rfl ?_);refine Zq.gp Tryz.func125 (Cm.calls _ _ _ _ _ A15.out) ?_;intro nd))
     go_ret
     exact ⟨Zs.auS,Zq.dr⟩
   ·rcases Zq.jn H with ⟨c18b0,H⟩|⟨c18,c18b0,H⟩
    ·obtain ⟨t29,A19,H⟩:=Zs.be H;obtain rfl:=Option.some.inj H
     go_enter Tryz.func72,Tryz.ntmps72
     go_wp2_with (first|((with_reducible refine Ab (f:=122) rfl ?_);refine Zq.gc (some 23) Tryz.func122 (AM.calls _ _ _ _ _ _ A7.out) ?_;rintro e w' ⟨rfl,⟨nd,rfl⟩⟩;refine ⟨_,rfl,?_⟩)|((with_reducible refine Ab (f:=122) rfl ?_);refine Zq.gc (some 29) Tryz.func122 (AM.calls _ _ _ _ _ _ A8.out) ?_;rintro e w' ⟨rfl,⟨nd,rfl⟩⟩;refine ⟨_,rfl,?_⟩)|((with_reducible refine Ab (f:=124) rfl ?_);refine Zq.gp Tryz.func124 (C4.calls _ _ _ A13.out) ?_;intro nd)|((with_reducible refine Ab (f:=125) rfl ?_);refine Zq.gp Tryz.func125 (Cm.calls _ _ _ _ _ A19.out) ?_;intro nd))
     go_ret
     exact ⟨Zs.auS,Zq.dr⟩
    ·obtain rfl:=Option.some.inj H
     go_enter Tryz.func72,Tryz.ntmps72
     go_wp2_with (first|((with_reducible refine Ab (f:=122) rfl ?_);refine Zq.gc (some 23) Tryz.func122 (AM.calls _ _ _ _ _ _ A7.out) ?_;rintro e w' ⟨rfl,⟨nd,rfl⟩⟩;refine ⟨_,rfl,?_⟩)|((with_reducible refine Ab (f:=122) rfl ?_);refine Zq.gc (some 29) Tryz.func122 (AM.calls _ _ _ _ _ _ A8.out) ?_;rintro e w' ⟨rfl,⟨nd,rfl⟩⟩;refine ⟨_,rfl,?_⟩)|((with_reducible refine Ab (f:=124) rfl ?_);refine Zq.gp Tryz.func124 (C4.calls _ _ _ A13.out) ?_;intro nd))
     go_ret
     exact ⟨Zs.auS,Zq.dr⟩
def C6.f (k:Nat) (a0 a1 a2:Int):Option (Int):=(D9.f a0 a1).bind fun t3=>(if t3=true then (Cs.f k a2).bind fun t4=>(if t4=true then (Ch.f k a0 a1 a2).bind fun t5=>(some t5) else some 0) else some 0)
theorem C6.calls (k:Nat) (a0 a1 a2 r:Int) (w:World) (h:C6.f k a0 a1 a2=some r) :
  Calls Tryz.prog 32 #[.int .i64 a0,.int .i64 a1,.int .i64 a2] w fun e w'=>e = .returned (.int .i64 r)∧Bo w w':=by
 unfold C6.f at h;have H:=h;clear h;obtain ⟨t3,A4,H⟩:=Zs.be H
 cases t3
 ·replace H:=Zq.fh H;obtain rfl:=Option.some.inj H
  go_enter Tryz.func32,Tryz.ntmps32
  go_wp2_with (((with_reducible refine Ab (f:=70) rfl ?_);refine Zq.gp Tryz.func70 (D9.calls _ _ _ _ A4.out) ?_;intro nd))
  go_ret
  exact ⟨Zs.auS,Zq.dr⟩
 ·replace H:=Zq.th H;obtain ⟨t5,A6,H⟩:=Zs.be H
  cases t5
  ·replace H:=Zq.fh H;obtain rfl:=Option.some.inj H
   go_enter Tryz.func32,Tryz.ntmps32
   go_wp2_with (first|((with_reducible refine Ab (f:=70) rfl ?_);refine Zq.gp Tryz.func70 (D9.calls _ _ _ _ A4.out) ?_;intro nd)|(go_at_call 71;(with_reducible refine (Cs.calls k a2 false _ A6.out).mono ?_);rintro e w' ⟨rfl,⟨nd,rfl⟩⟩))
   go_ret
   exact ⟨Zs.auS,Zq.dr⟩
  ·replace H:=Zq.th H;obtain ⟨t7,A8,H⟩:=Zs.be H;obtain rfl:=Option.some.inj H
   go_enter Tryz.func32,Tryz.ntmps32
   go_wp2_with (first|((with_reducible refine Ab (f:=70) rfl ?_);refine Zq.gp Tryz.func70 (D9.calls _ _ _ _ A4.out) ?_;intro nd)|(go_at_call 71;(with_reducible refine (Cs.calls k a2 true _ A6.out).mono ?_);rintro e w' ⟨rfl,⟨nd,rfl⟩⟩)|((with_reducible refine Ab (f:=72) rfl ?_);refine Zq.gp Tryz.func72 (Ch.calls _ _ _ _ _ _ A8.out) ?_;intro nd))
   go_ret
   exact ⟨Zs.auS,Zq.dr⟩
def Cd.l0:Nat→Int→Int→Option (Int)
 | 0,_,_=>none
 | k+1,x0,x1=>if x1=0 then some x0 else Cd.l0 k x1 (Int.tmod x0 x1)
def Cd.f (k:Nat) (a0 a1:Int):Option (Int):=(Bc.f a0).bind fun t3=>((Bc.f a1).bind fun t4=>(Cd.l0 k t3 t4))
theorem Cd.calls (k:Nat) (a0 a1 r:Int) (w:World) (h:Cd.f k a0 a1=some r) :
  Calls Tryz.prog 136 #[.int .i64 a0,.int .i64 a1] w fun e w'=>e = .returned (.int .i64 r)∧Below w.heap.size w w':=by
 have HB:=Aa.mk (Below.refl w.heap.size w);unfold Cd.f at h;have H:=h;clear h;obtain ⟨t8,A3,H⟩:=Zs.be H;obtain ⟨t9,A4,H⟩:=Zs.be H;have H':=Aa.mk H;clear H
 go_enter Tryz.func136,Tryz.ntmps136
 go_wp2_with (first|((with_reducible refine Ab (f:=134) rfl ?_);refine Zq.gc (some 7) Tryz.func134 (Bc.calls _ _ _ A3.out) ?_;rintro e w5 ⟨rfl,hb⟩;refine ⟨_,rfl,?_⟩;replace HB:=Zq.st hb;(try clear hb))|((with_reducible refine Ab (f:=134) rfl ?_);refine Zq.gc (some 9) Tryz.func134 (Bc.calls _ _ _ A4.out) ?_;rintro e w6 ⟨rfl,hb⟩;refine ⟨_,rfl,?_⟩;replace HB:=Zq.st hb;(try clear hb)))
 go_loopg [0,1] k (fun kq v0 v1 w' => ∃x0_1 x1_1:Int,v0 = .int .i64 x0_1∧v1 = .int .i64 x1_1∧Aa (Cd.l0 kq x0_1 x1_1=some r)∧Aa (kq≤k)∧Aa (Below w.heap.size w w'))
 case atStart=>exact ⟨(t8),(t9),Zs.auS,Zs.auS,H',⟨Nat.le_refl _⟩,⟨Zs.auHB⟩⟩
 case round =>
  clear H'
  obtain ⟨x0_1,x1_1,rfl,rfl,HA,HK1,HB⟩:=hrel;cases gk with
  | zero=>exact absurd HA.out (by simp [Cd.l0])
  | succ k1 =>
   have H:=HA.out;clear HA;simp only [Cd.l0] at H
   rcases Zq.ii H with ⟨c7,H⟩|⟨c7,H⟩
   ·have c7b1:=bne_eq_false_iff_eq.mpr c7;clear c7;obtain rfl:=Option.some.inj H;go_wp2;go_ret
    exact ⟨Zs.auR,Zs.auHB⟩
   ·have c7b1:=bne_iff_ne.mpr c7;have H':=Aa.mk H;clear H;go_wp2
    go_roundg k1
    case measure=>have:=HK1.out;omega
    case rel=>exact ⟨(x1_1),(Int.tmod x0_1 x1_1),Zs.auS,Zs.auS,H',⟨by have:=HK1.out;omega⟩,⟨Zs.auHB⟩⟩
mutual
def AL.l0:Nat→List Int→Int→Int→Bool→Int→Option (List Int)
 | 0,_,_,_,_,_=>none
 | k+1,x0,x3,x4,x5,x6=>if x6<(x0.length:Int) then if 0≤x6 then (Cd.f k x3 (rd x0 x6)).bind fun t7=>(if (rd x0 x6)=0 then AL.j1 k x0 t7 x4 x5 x6 false else AL.j1 k x0 t7 x4 x5 x6 x5) else none else AL.l1 k x0 x3 x4 (([]:List Int)) 0
def AL.j1:Nat→List Int→Int→Int→Bool→Int→Bool→Option (List Int)
 | 0,_,_,_,_,_,_=>none
 | k+1,x0,x3,x4,x5,x6,x28=>if x28=true then if 0≤x6 then if x6<(x0.length:Int) then if (rd x0 x6)<0 then AL.l0 k x0 x3 (-1) false (wrap64 (x6+1)) else AL.l0 k x0 x3 x4 false (wrap64 (x6+1)) else none else none else AL.l0 k x0 x3 x4 x5 (wrap64 (x6+1))
def AL.l1:Nat→List Int→Int→Int→List Int→Int→Option (List Int)
 | 0,_,_,_,_,_=>none
 | k+1,x0,x3,x4,x7,x8=>if x8<(x0.length:Int) then if 0≤x8 then if x3=0 then none else if x7.length<17592186044416 then AL.l1 k x0 x3 x4 (x7++[wrap64 (Int.tdiv (wrap64 (x4*(rd x0 x8))) x3)]) (wrap64 (x8+1)) else none else none else some x7
end
def AL.f (k:Nat) (l0:List Int):Option (List Int):=AL.l0 k l0 0 1 true 0
theorem AL.calls (k:Nat) (A0:Option Addr) (c0:Nat) (l0 r:List Int) (w:World) (hr0:Kd.C (Kd.int .i64) w A0 l0.length l0) (hc0:l0.length≤c0) (h:AL.f k l0=some r) :
  Calls Tryz.prog 82 #[.slice A0 l0.length c0] w fun e w' => ∃v0_:Value,e = .returned (v0_)∧Kd.R (Kd.int .i64) 3 w' w.heap.size (fun _=>True) v0_ r∧Below w.heap.size w w':=by
 have HR0:=Aa.mk hr0;have HC0:=Aa.mk hc0;clear hr0 hc0;have HB:=Aa.mk (Below.refl w.heap.size w);unfold AL.f at h;have H:=h;clear h;have H':=Aa.mk H;clear H
 go_enter Tryz.func82,Tryz.ntmps82
 go_wp2
 go_loopg [3,4,5,6] k (fun kq v3 v4 v5 v6 w' => ∃(x3_1 x4_1:Int) (x5_1:Bool) (x6_1:Int),v3 = .int .i64 x3_1∧v4 = .int .i64 x4_1∧v5 = .bool x5_1∧v6 = .int .i64 x6_1∧Aa (AL.l0 kq l0 x3_1 x4_1 x5_1 x6_1=some r)∧Aa (kq≤k)∧Aa (Below w.heap.size w w'))
 case atStart=>exact ⟨(0),(1),(true),(0),Zs.auS,Zs.auS,Zs.auS,Zs.auS,H',⟨Nat.le_refl _⟩,⟨Zs.auHB⟩⟩
 case round =>
  clear H';obtain ⟨x3_1,x4_1,x5_1,x6_1,rfl,rfl,rfl,rfl,HA,HK1,HB⟩:=hrel;cases gk with
  | zero=>exact absurd HA.out (by simp [AL.l0])
  | succ k1 =>
   have H:=HA.out;clear HA;simp only [AL.l0] at H
   rcases Zq.jd H with ⟨c2b0,H⟩|⟨c2b0,H⟩
   ·obtain ⟨c3b0,H⟩:=Zq.pd H;obtain ⟨t20,A4,H⟩:=Zs.be H;have HC5:=Aa.mk H;clear H;obtain ⟨ad19,e19,hx19_0,p19,q19⟩:=Zq.at_ HR0.out x6_1;cases e19;replace hx19_0:=Zq.ce HB.out hx19_0
    go_upto_region 8 with (((with_reducible refine Ab (f:=136) rfl ?_);refine Zq.gb Tryz.func136 (Cd.calls _ _ _ _ _ A4.out) ?_;intro w6 hb;replace HB:=Zq.st hb;(try clear hb)))
    (try simp only [Act.put,List.setIfInBounds_toArray,List.set_cons_zero,List.set_cons_succ])
    go_cut [28] (fun v28 wc => ∃(kq:Nat) (x28_4:Bool),v28 = .bool x28_4∧Aa (AL.j1 kq l0 t20 x4_1 x5_1 x6_1 x28_4=some r)∧Aa (kq≤k1)∧Aa (Below w.heap.size w wc))
    case first =>
     have H:=HC5.out;clear HC5
     rcases Zq.ii H with ⟨c7,H⟩|⟨c7,H⟩
     ·have c7b1:=bne_eq_false_iff_eq.mpr c7;clear c7
      have H':=Aa.mk H;clear H;obtain ⟨ad21,e21,hx21_0,p21,q21⟩:=Zq.at_ HR0.out x6_1;obtain rfl:ad19=ad21:=(by injection e21);replace hx21_0:=Zq.ce HB.out hx21_0;go_wp2
      go_meet
      case rel=>exact ⟨_,(false),Zs.auS,H',⟨by have:=HK1.out;first|omega|exact Nat.le_refl _⟩,⟨Zs.auHB⟩⟩
     ·have c7b1:=bne_iff_ne.mpr c7
      have H':=Aa.mk H;clear H;obtain ⟨ad21,e21,hx21_0,p21,q21⟩:=Zq.at_ HR0.out x6_1;obtain rfl:ad19=ad21:=(by injection e21);replace hx21_0:=Zq.ce HB.out hx21_0;go_wp2
      go_meet
      case rel=>exact ⟨_,(x5_1),Zs.auS,H',⟨by have:=HK1.out;first|omega|exact Nat.le_refl _⟩,⟨Zs.auHB⟩⟩
    case rest =>
     clear HC5
     obtain ⟨kq,x28_4,rfl,HA,HJ4,HB⟩:=hcut;cases kq with
     | zero=>exact absurd HA.out (by simp [AL.j1])
     | succ kj4 =>
      have H:=HA.out;clear HA;simp only [AL.j1] at H
      cases x28_4
      ·replace H:=Zq.fh H;have H':=Aa.mk H;clear H;go_wp2
       go_roundg kj4
       case measure=>have:=HK1.out;have:=HJ4.out;omega
       case rel=>exact ⟨(t20),(x4_1),(x5_1),(wrap64 (x6_1+1)),Zs.auS,Zs.auS,Zs.auS,Zs.auS,H',⟨by have:=HK1.out;have:=HJ4.out;omega⟩,⟨Zs.auHB⟩⟩
      ·replace H:=Zq.th H
       obtain ⟨c9b0,H⟩:=Zq.pd H
       obtain ⟨c10b0,H⟩:=Zq.pd H
       rcases Zq.jd H with ⟨c11b0,H⟩|⟨c11b0,H⟩
       ·have H':=Aa.mk H;clear H;obtain ⟨ad22,e22,hx22_0,p22,q22⟩:=Zq.at_ HR0.out x6_1;obtain rfl:ad19=ad22:=(by injection e22);replace hx22_0:=Zq.ce HB.out hx22_0;go_wp2
        go_roundg kj4
        case measure=>have:=HK1.out;have:=HJ4.out;omega
        case rel=>exact ⟨(t20),((-1)),(false),(wrap64 (x6_1+1)),Zs.auS,Zs.auS,Zs.auS,Zs.auS,H',⟨by have:=HK1.out;have:=HJ4.out;omega⟩,⟨Zs.auHB⟩⟩
       ·have H':=Aa.mk H;clear H;obtain ⟨ad22,e22,hx22_0,p22,q22⟩:=Zq.at_ HR0.out x6_1;obtain rfl:ad19=ad22:=(by injection e22);replace hx22_0:=Zq.ce HB.out hx22_0;go_wp2
        go_roundg kj4
        case measure=>have:=HK1.out;have:=HJ4.out;omega
        case rel=>exact ⟨(t20),(x4_1),(false),(wrap64 (x6_1+1)),Zs.auS,Zs.auS,Zs.auS,Zs.auS,H',⟨by have:=HK1.out;have:=HJ4.out;omega⟩,⟨Zs.auHB⟩⟩
   ·obtain ⟨y23,hyy⟩ : ∃y_:List Int,y_=(([]:List Int)):=⟨_,rfl⟩
    replace H:(AL.l1 k1 l0 x3_1 x4_1 y23 0)=some r:=Zs.auY
    have Ny23:=Aa.mk hyy;clear hyy;have H':=Aa.mk H;clear H
    go_wp2_with (((with_reducible refine Bb (N:=34) rfl ?_);refine Zq.li ([]:List Int) ?_;intro v24 w12 ho13 hb;(first|rw [← Ny23.out] at ho13|(simp only [Int.reduceToNat] at ho13;rw [← Ny23.out] at ho13));have HO25:=Zq.lw ho13;replace HB:=Zq.st hb;clear hb ho13))
    go_loopg [7,8] k1 (fun kq v7 v8 w' => ∃(x7_2:List Int) (x8_2:Int),v8 = .int .i64 x8_2∧Aa (AL.l1 kq l0 x3_1 x4_1 x7_2 x8_2=some r)∧Aa (kq≤k1)∧Aa (Kd.R (Kd.int .i64) 3 w' w.heap.size (fun _=>True) v7 x7_2)∧Aa (Below w.heap.size w w'))
    case atStart=>exact ⟨(y23),(0),Zs.auS,H',⟨Nat.le_refl _⟩,⟨(Zs.mvR HO25.out)⟩,⟨Zs.auHB⟩⟩
    case round =>
     clear H'
     obtain ⟨x7_2,x8_2,rfl,HA,HK2,HO_7,HB⟩:=hrel;cases gk with
     | zero=>exact absurd HA.out (by simp [AL.l1])
     | succ k2 =>
      have H:=HA.out;clear HA;simp only [AL.l1] at H
      rcases Zq.jd H with ⟨c14b0,H⟩|⟨c14b0,H⟩
      ·obtain ⟨c15b0,H⟩:=Zq.pd H
       rcases Zq.ii H with ⟨c16,H⟩|⟨c16,H⟩
       ·exact absurd H (by simp)
       ·obtain ⟨c17,H⟩:=Zq.ip H;have LMc17:=Aa.mk c17;clear c17;generalize hyy:(x7_2++[wrap64 (Int.tdiv (wrap64 (x4_1*(rd l0 x8_2))) x3_1)]:List Int)=y29 at H;have Ny29:=Aa.mk hyy.symm;clear hyy;have H':=Aa.mk H;clear H;obtain ⟨ad26,e26,hx26_0,p26,q26⟩:=Zq.at_ HR0.out x8_2;cases e26;replace hx26_0:=Zq.ce HB.out hx26_0
        go_wp2_with (((with_reducible refine AY (b := .append) (xs:=#[.tmp 41,.tmp 50]) rfl ?_);at_builtin;refine Zq.ap (.tmp 41) (.tmp 50) 27 Tryz.underlying27 DS u7 x7_2 (wrap64 (Int.tdiv (wrap64 (x4_1*(rd l0 x8_2))) x3_1)) (fun _=>True) (fun _ _=>trivial) ((Zs.mvR HO_7.out)) LMc17.out ?_;intro v30 w18 ho hb hg hat;rw [← Ny29.out] at ho;replace HB:=Aa.mk (hb);have HO31:=Aa.mk (ho);clear HO_7;clear ho hb hg hat))
        go_roundg k2
        case measure=>have:=HK1.out;have:=HK2.out;omega
        case rel=>exact ⟨(y29),(wrap64 (x8_2+1)),Zs.auS,H',⟨by have:=HK1.out;have:=HK2.out;omega⟩,⟨(Zs.mvR HO31.out)⟩,⟨Zs.auHB⟩⟩
      ·obtain rfl:=Option.some.inj H;go_wp2;go_ret
       exact ⟨_,Zs.auR,(Zs.mvR HO_7.out),Zs.auHB⟩
mutual
def AG.l0:Nat→Int→List Int→Int→Option (List Int)
 | 0,_,_,_=>none
 | k+1,x0,x3,x4=>if (wrap64 (x4*x4))≤x0 then if x4=0 then none else if (Int.tmod x0 x4)=0 then if x3.length<17592186044416 then AG.j1 k x0 (x3++[x4]) x4 else none else AG.j1 k x0 x3 x4 else if x0>1 then if x3.length<17592186044416 then some (x3++[x0]) else none else some x3
def AG.j1:Nat→Int→List Int→Int→Option (List Int)
 | 0,_,_,_=>none
 | k+1,x0,x3,x4=>AG.l1 k x0 x3 x4
def AG.l1:Nat→Int→List Int→Int→Option (List Int)
 | 0,_,_,_=>none
 | k+1,x0,x3,x4=>if x4=0 then none else if (Int.tmod x0 x4)=0 then AG.l1 k (wrap64 (Int.tdiv x0 x4)) x3 x4 else AG.l0 k x0 x3 (wrap64 (x4+1))
end
def AG.f (k:Nat) (a0:Int):Option (List Int):=(Bc.f a0).bind fun t3=>(AG.l0 k t3 (([]:List Int)) 2)
theorem AG.calls (k:Nat) (a0:Int) (r:List Int) (w:World) (h:AG.f k a0=some r) :
  Calls Tryz.prog 175 #[.int .i64 a0] w fun e w' => ∃v0_:Value,e = .returned (v0_)∧Kd.R (Kd.int .i64) 3 w' w.heap.size (fun _=>True) v0_ r∧Below w.heap.size w w':=by
 have HB:=Aa.mk (Below.refl w.heap.size w);unfold AG.f at h;have H:=h;clear h;obtain ⟨y17,hyy⟩ : ∃y_:List Int,y_=(([]:List Int)):=⟨_,rfl⟩
 replace H:((Bc.f a0).bind fun t20=>(AG.l0 k t20 y17 2))=some r:=Zs.auY
 have Ny17:=Aa.mk hyy;clear hyy;obtain ⟨t20,A2,H⟩:=Zs.be H;have H':=Aa.mk H;clear H
 go_enter Tryz.func175,Tryz.ntmps175
 go_wp2_with (first|((with_reducible refine Bb (N:=5) rfl ?_);refine Zq.li ([]:List Int) ?_;intro v18 w3 ho4 hb;(first|rw [← Ny17.out] at ho4|(simp only [Int.reduceToNat] at ho4;rw [← Ny17.out] at ho4));have HO19:=Zq.lw ho4;replace HB:=Zq.st hb;clear hb ho4)|((with_reducible refine Ab (f:=134) rfl ?_);refine Zq.gb Tryz.func134 (Bc.calls _ _ _ A2.out) ?_;intro w5 hb;replace HO19:=Zq.rb HO19.out hb;replace HB:=Zq.st hb;(try clear hb)))
 go_loopg [0,3,4] k (fun kq v0 v3 v4 w' => ∃(x0_1:Int) (x3_1:List Int) (x4_1:Int),v0 = .int .i64 x0_1∧v4 = .int .i64 x4_1∧Aa (AG.l0 kq x0_1 x3_1 x4_1=some r)∧Aa (kq≤k)∧Aa (Kd.R (Kd.int .i64) 3 w' w.heap.size (fun _=>True) v3 x3_1)∧Aa (Below w.heap.size w w'))
 case atStart=>exact ⟨(t20),(y17),(2),Zs.auS,Zs.auS,H',⟨Nat.le_refl _⟩,⟨(Zs.mvR HO19.out)⟩,⟨Zs.auHB⟩⟩
 case round =>
  clear H'
  obtain ⟨x0_1,x3_1,x4_1,rfl,rfl,HA,HK1,HO_3,HB⟩:=hrel;cases gk with
  | zero=>exact absurd HA.out (by simp [AG.l0])
  | succ k1 =>
   have H:=HA.out;clear HA;simp only [AG.l0] at H
   rcases Zq.jd H with ⟨c6b0,H⟩|⟨c6b0,H⟩
   ·rcases Zq.ii H with ⟨c7,H⟩|⟨c7,H⟩
    ·exact absurd H (by simp)
    ·have HC8:=Aa.mk H;clear H
     go_upto_if 18 with (fail)
     go_cut [3] (fun v3 wc => ∃(kq:Nat) (x3_7:List Int),Aa (AG.j1 kq x0_1 x3_7 x4_1=some r)∧Aa (kq≤k1)∧Aa (Kd.R (Kd.int .i64) 3 wc w.heap.size (fun _=>True) v3 x3_7)∧Aa (Below w.heap.size w wc))
     case first =>
      have H:=HC8.out;clear HC8
      rcases Zq.jn H with ⟨c9b0,H⟩|⟨c9,c9b0,H⟩
      ·rw [c9b0]
       obtain ⟨c10,H⟩:=Zq.ip H;have LMc10:=Aa.mk c10;clear c10;generalize hyy:(x3_1++[x4_1]:List Int)=y24 at H;have Ny24:=Aa.mk hyy.symm;clear hyy;have H':=Aa.mk H;clear H
       go_wp2_with (((with_reducible refine AY (b := .append) (xs:=#[.tmp 19,.tmp 21]) rfl ?_);at_builtin;refine Zq.ap (.tmp 19) (.tmp 21) 27 Tryz.underlying27 DS u3 x3_1 x4_1 (fun _=>True) (fun _ _=>trivial) ((Zs.mvR HO_3.out)) LMc10.out ?_;intro v25 w11 ho hb hg hat;rw [← Ny24.out] at ho;replace HB:=Aa.mk (hb);have HO26:=Aa.mk (ho);clear HO_3;clear ho hb hg hat))
       go_meet
       case rel=>exact ⟨_,(y24),H',⟨by have:=HK1.out;first|omega|exact Nat.le_refl _⟩,⟨(Zs.mvR HO26.out)⟩,⟨Zs.auHB⟩⟩
      ·rw [c9b0]
       have H':=Aa.mk H;clear H;go_wp2
       go_meet
       case rel=>exact ⟨_,(x3_1),H',⟨by have:=HK1.out;first|omega|exact Nat.le_refl _⟩,⟨(Zs.mvR HO_3.out)⟩,⟨Zs.auHB⟩⟩
     case rest =>
      clear HC8
      obtain ⟨kq,x3_7,HA,HJ7,HO_3,HB⟩:=hcut;cases kq with
      | zero=>exact absurd HA.out (by simp [AG.j1])
      | succ kj7 =>
       have H:=HA.out;clear HA;simp only [AG.j1] at H;have H':=Aa.mk H;clear H;go_wp2
       go_loopg [0] kj7 (fun kq v0 w' => ∃x0_3:Int,v0 = .int .i64 x0_3∧Aa (AG.l1 kq x0_3 x3_7 x4_1=some r)∧Aa (kq≤kj7)∧Aa (Kd.R (Kd.int .i64) 3 w' w.heap.size (fun _=>True) u3 x3_7)∧Aa (Below w.heap.size w w'))
       case atStart=>exact ⟨(x0_1),Zs.auS,H',⟨Nat.le_refl _⟩,⟨(Zs.mvR HO_3.out)⟩,⟨Zs.auHB⟩⟩
       case round =>
        clear H'
        obtain ⟨x0_3,rfl,HA,HK3,HO_3,HB⟩:=hrel;cases gk with
        | zero=>exact absurd HA.out (by simp [AG.l1])
        | succ k3 =>
         have H:=HA.out;clear HA;simp only [AG.l1] at H
         rcases Zq.ii H with ⟨c12,H⟩|⟨c12,H⟩
         ·exact absurd H (by simp)
         ·rcases Zq.jn H with ⟨c13b0,H⟩|⟨c13,c13b0,H⟩
          ·have H':=Aa.mk H;clear H;go_wp2
           go_roundg k3
           case measure=>have:=HK1.out;have:=HJ7.out;have:=HK3.out;omega
           case rel=>exact ⟨(wrap64 (Int.tdiv x0_3 x4_1)),Zs.auS,H',⟨by have:=HK1.out;have:=HJ7.out;have:=HK3.out;omega⟩,⟨(Zs.mvR HO_3.out)⟩,⟨Zs.auHB⟩⟩
          ·have H':=Aa.mk H;clear H;go_wp2
           go_roundg k3
           case measure=>have:=HK1.out;have:=HJ7.out;have:=HK3.out;omega
           case rel=>exact ⟨(x0_3),(x3_7),(wrap64 (x4_1+1)),Zs.auS,Zs.auS,H',⟨by have:=HK1.out;have:=HJ7.out;have:=HK3.out;omega⟩,⟨(Zs.mvR HO_3.out)⟩,⟨Zs.auHB⟩⟩
   ·rcases Zq.jg H with ⟨c14b0,H⟩|⟨c14b0,H⟩
    ·obtain ⟨c15,H⟩:=Zq.ip H;have LMc15:=Aa.mk c15;clear c15;generalize hyy:(x3_1++[x0_1]:List Int)=y21 at H;have Ny21:=Aa.mk hyy.symm;clear hyy;obtain rfl:=Option.some.inj H
     go_wp2_with (((with_reducible refine AY (b := .append) (xs:=#[.tmp 32,.tmp 34]) rfl ?_);at_builtin;refine Zq.ap (.tmp 32) (.tmp 34) 27 Tryz.underlying27 DS u3 x3_1 x0_1 (fun _=>True) (fun _ _=>trivial) ((Zs.mvR HO_3.out)) LMc15.out ?_;intro v22 w16 ho hb hg hat;rw [← Ny21.out] at ho;replace HB:=Aa.mk (hb);have HO23:=Aa.mk (ho);clear HO_3;clear ho hb hg hat))
     go_ret
     exact ⟨_,Zs.auR,(Zs.mvR HO23.out),Zs.auHB⟩
    ·obtain rfl:=Option.some.inj H;go_wp2;go_ret
     exact ⟨_,Zs.auR,(Zs.mvR HO_3.out),Zs.auHB⟩
def Bq.l0:Nat→List Int→Int→Option (Int×Int)
 | 0,_,_=>none
 | k+1,x0,x4=>if x4≥0 then if 0≤(Int.tmod (wrap64 (x4+1)) 3) then if (Int.tmod (wrap64 (x4+1)) 3)<(x0.length:Int) then if 0≤(Int.tmod (wrap64 (x4+2)) 3) then if (Int.tmod (wrap64 (x4+2)) 3)<(x0.length:Int) then (Cd.f k (rd x0 (Int.tmod (wrap64 (x4+1)) 3)) (rd x0 (Int.tmod (wrap64 (x4+2)) 3))).bind fun t3=>(if t3>1 then (AG.f k t3).bind fun t5=>(if 0<(t5.length:Int) then some (rd t5 0,x4) else none) else Bq.l0 k x0 (wrap64 (x4-1))) else none else none else none else none else some (1,0)
def Bq.f (k:Nat) (l0:List Int):Option (Int×Int):=Bq.l0 k l0 2
def Bq.T4:Bool×List (List Nat×List Nat):=(true,[([],[]),([],[]),([1],[1]),([2],[2]),([0,3],[0,3]),([4],[4]),([],[]),([],[]),([7],[7]),([8],[8]),([6,9],[6,9]),([10],[10]),([5,11],[5,11]),([12,12,0,1,2,3,4,5,6,7,8,9,10,11,12],[12])])
def Bq.B4:List Nat:=[0,0,2,6,15,31,0,0,128,384,960,1984,4095,8191]
theorem Bq.tab4:rtab .any (opsOf Tryz.f159 4)=Bq.T4:=by kernel_rfl
theorem Bq.bits4:DJ Bq.T4.2 Bq.B4=true:=by kernel_rfl
theorem Bq.calls (k:Nat) (A0:Option Addr) (c0:Nat) (l0:List Int) (r1 r2:Int) (w:World) (hr0:Kd.C (Kd.int .i64) w A0 l0.length l0) (hc0:l0.length≤c0) (h:Bq.f k l0=some (r1,r2)) :
  Calls Tryz.prog 159 #[.slice A0 l0.length c0] w fun e w'=>e = .returned (.tuple #[.int .i64 r1,.int .i64 r2])∧Below w.heap.size w w':=by
 have HR0:=Aa.mk hr0;have HC0:=Aa.mk hc0;clear hr0 hc0;have HB:=Aa.mk (Below.refl w.heap.size w);unfold Bq.f at h;have H:=h;clear h;have H':=Aa.mk H;clear H
 go_enter Tryz.func159,Tryz.ntmps159
 go_wp2
 go_loopg [4] k (fun kq v4 w' => ∃x4_1:Int,v4 = .int .i64 x4_1∧Aa (Bq.l0 kq l0 x4_1=some (r1,r2))∧Aa (kq≤k)∧Aa (Below w.heap.size w w'))
 case atStart=>exact ⟨(2),Zs.auS,H',⟨Nat.le_refl _⟩,⟨Zs.auHB⟩⟩
 case round =>
  clear H'
  obtain ⟨x4_1,rfl,HA,HK1,HB⟩:=hrel;cases gk with
  | zero=>exact absurd HA.out (by simp [Bq.l0])
  | succ k1 =>
   have H:=HA.out;clear HA;simp only [Bq.l0] at H
   rcases Zq.jh H with ⟨c2b0,H⟩|⟨c2b0,H⟩
   ·obtain ⟨ji3,hji3⟩ : ∃j_:Int,(Int.tmod (wrap64 (x4_1+1)) 3)=j_:=⟨_,rfl⟩
    replace H:(if 0≤(ji3) then if (ji3)<(l0.length:Int) then if 0≤(Int.tmod (wrap64 (x4_1+2)) 3) then if (Int.tmod (wrap64 (x4_1+2)) 3)<(l0.length:Int) then (Cd.f k1 (rd l0 (ji3)) (rd l0 (Int.tmod (wrap64 (x4_1+2)) 3))).bind fun t21=>(if t21>1 then (AG.f k1 t21).bind fun t22=>(if 0<(t22.length:Int) then some (rd t22 0,x4_1) else none) else Bq.l0 k1 l0 (wrap64 (x4_1-1))) else none else none else none else none)=some (r1,r2):=by first|(rw [hji3] at H;exact H)|(simp only [hji3] at H ⊢;exact H)
    obtain ⟨c4b0,H⟩:=Zq.pd H
    obtain ⟨c5b0,H⟩:=Zq.pd H;obtain ⟨ji6,hji6⟩ : ∃j_:Int,(Int.tmod (wrap64 (x4_1+2)) 3)=j_:=⟨_,rfl⟩
    replace H:(if 0≤(ji6) then if (ji6)<(l0.length:Int) then (Cd.f k1 (rd l0 (ji3)) (rd l0 (ji6))).bind fun t21=>(if t21>1 then (AG.f k1 t21).bind fun t22=>(if 0<(t22.length:Int) then some (rd t22 0,x4_1) else none) else Bq.l0 k1 l0 (wrap64 (x4_1-1))) else none else none)=some (r1,r2):=by first|(rw [hji6] at H;exact H)|(simp only [hji6] at H ⊢;exact H)
    obtain ⟨c7b0,H⟩:=Zq.pd H
    obtain ⟨c8b0,H⟩:=Zq.pd H;obtain ⟨t21,A9,H⟩:=Zs.be H
    rcases Zq.jg H with ⟨c10b0,H⟩|⟨c10b0,H⟩
    ·obtain ⟨t22,A11,H⟩:=Zs.be H
     obtain ⟨c12b0,H⟩:=Zq.pd H;obtain ⟨rfl,rfl⟩:=Zq.pi H
     try go_wp2
     have n0_:=Aa.mk (Al HB.out);clear HB;have HB:=n0_;clear n0_;obtain ⟨ad19,e19,hx19_0,p19,q19⟩:=Zq.at_ HR0.out (ji3);have hw19_0:=hx19_0;cases e19;replace hx19_0:=Zq.ce HB.out hx19_0;obtain ⟨ad20,e20,hx20_0,p20,q20⟩:=Zq.at_ HR0.out (ji6);have hw20_0:=hx20_0;obtain rfl:ad19=ad20:=(by injection e20);replace hx20_0:=Zq.ce HB.out hx20_0;refine D6 (n:=14) (S:=fun w'=>w'.cell? (ad19.add ((ji3)).toNat)=some (.int .i64 (rd l0 (ji3)))∧w'.cell? (ad19.add ((ji6)).toNat)=some (.int .i64 (rd l0 (ji6)))) (ds:=[]) #[false,false,false,false,false,false,false,false,false,false,false,false,false,false] (by kernel_rfl) rfl rfl ⟨(Zq.ce HB.out hw19_0),(Zq.ce HB.out hw20_0)⟩ (fun hHeld=>?_);refine CP Bq.tab4 Bq.bits4 (fun HT_ HW_=>?_);generalize wr.drew=w13 at HB hx19_0 hx20_0 hHeld ⊢;refine Zs.pu 0 (some 10) ?_;refine Zs.pu 1 (some 11) ?_;refine Zs.pu 2 (some 12) ?_;refine Zs.pu 3 (some 13) ?_;refine Zs.pu 4 (some 14) ?_;refine Zs.pu 6 (some 16) ?_;refine Zs.pu 7 (some 17) ?_;refine Zs.pu 8 (some 18) ?_;refine Zs.pu 9 (some 19) ?_;refine Zs.pu 10 (some 20) ?_;refine Zs.ta2 5 (some 15) ?_;refine Zs.ta2 11 (some 21) ?_
     refine Zq.o1 12 (some 22) (fun K hK=>?_);refine FN Tryz.func136 (by kernel_rfl) rfl #[.int .i64 (rd l0 (ji3)),.int .i64 (rd l0 (ji6))] (by rfl) rfl rfl (by (try simp only [List.map_toArray,List.map_cons,List.map_nil]);first|done|(simp only [hji3,hji6];rfl)|rfl|(simp only [List.length_drop,List.length_take];rfl)) ?_
     with_reducible refine (Cd.calls k1 (rd l0 (ji3)) (rd l0 (ji6)) t21 _ A9.out).mono ?_
     rintro e w14 ⟨rfl,hb⟩;refine ⟨_,rfl,?_⟩;have n0_:=Zq.st hb;clear HB;have HB:=n0_;clear n0_;(try clear hb);(try clear hb2);(try clear hk);(try clear hi);refine hK.out _ _ ⟨(Zq.ce HB.out hw19_0),(Zq.ce HB.out hw20_0)⟩ (fun hHeld=>?_);clear hK K;refine Zq.nm (some 22) ?_
     refine Zs.pu 13 (some 5) ?_
     refine Zq.dn ?_
     try go_wp2_with (((with_reducible refine Ab (f:=175) rfl ?_);refine Zq.gc (some 26) Tryz.func175 (AG.calls _ _ _ _ A11.out) ?_;rintro e w15 ⟨v23,rfl,ho0,hb⟩;refine ⟨_,rfl,?_⟩;have HO24:=Zq.lw ho0;replace HB:=Zq.st hb;(try clear hb);(try clear ho0);obtain ⟨Ao16,co16,eo16⟩:=Kd.Az HO24.out;subst eo16;obtain ⟨ad25,e25,hx25_0,p25,q25,qi25⟩:=Zq.a0 (Kd.Ac HO24.out).2.2;cases e25))
     go_ret2
     exact ⟨by first|rfl|(simp [Cv,Cw]<;>rfl)|(simp only [← hji3,← hji6];first|rfl|(simp [Cv,Cw]<;>rfl))|(simp [*,Cv,Cw]<;>rfl),Zs.auHB⟩
    ·have H':=Aa.mk H;clear H
     try go_wp2
     have n0_:=Aa.mk (Al HB.out);clear HB;have HB:=n0_;clear n0_;obtain ⟨ad19,e19,hx19_0,p19,q19⟩:=Zq.at_ HR0.out (ji3);have hw19_0:=hx19_0;cases e19;replace hx19_0:=Zq.ce HB.out hx19_0;obtain ⟨ad20,e20,hx20_0,p20,q20⟩:=Zq.at_ HR0.out (ji6);have hw20_0:=hx20_0;obtain rfl:ad19=ad20:=(by injection e20);replace hx20_0:=Zq.ce HB.out hx20_0;refine D6 (n:=14) (S:=fun w'=>w'.cell? (ad19.add ((ji3)).toNat)=some (.int .i64 (rd l0 (ji3)))∧w'.cell? (ad19.add ((ji6)).toNat)=some (.int .i64 (rd l0 (ji6)))) (ds:=[]) #[false,false,false,false,false,false,false,false,false,false,false,false,false,false] (by kernel_rfl) rfl rfl ⟨(Zq.ce HB.out hw19_0),(Zq.ce HB.out hw20_0)⟩ (fun hHeld=>?_);refine CP Bq.tab4 Bq.bits4 (fun HT_ HW_=>?_);generalize wr.drew=w17 at HB hx19_0 hx20_0 hHeld ⊢;refine Zs.pu 0 (some 10) ?_;refine Zs.pu 1 (some 11) ?_;refine Zs.pu 2 (some 12) ?_;refine Zs.pu 3 (some 13) ?_;refine Zs.pu 4 (some 14) ?_;refine Zs.pu 6 (some 16) ?_;refine Zs.pu 7 (some 17) ?_;refine Zs.pu 8 (some 18) ?_;refine Zs.pu 9 (some 19) ?_;refine Zs.pu 10 (some 20) ?_;refine Zs.ta2 5 (some 15) ?_;refine Zs.ta2 11 (some 21) ?_
     refine Zq.o1 12 (some 22) (fun K hK=>?_);refine FN Tryz.func136 (by kernel_rfl) rfl #[.int .i64 (rd l0 (ji3)),.int .i64 (rd l0 (ji6))] (by rfl) rfl rfl (by (try simp only [List.map_toArray,List.map_cons,List.map_nil]);first|done|(simp only [hji3,hji6];rfl)|rfl|(simp only [List.length_drop,List.length_take];rfl)) ?_
     with_reducible refine (Cd.calls k1 (rd l0 (ji3)) (rd l0 (ji6)) t21 _ A9.out).mono ?_
     rintro e w18 ⟨rfl,hb⟩;refine ⟨_,rfl,?_⟩;have n0_:=Zq.st hb;clear HB;have HB:=n0_;clear n0_;(try clear hb);(try clear hb2);(try clear hk);(try clear hi);refine hK.out _ _ ⟨(Zq.ce HB.out hw19_0),(Zq.ce HB.out hw20_0)⟩ (fun hHeld=>?_);clear hK K;refine Zq.nm (some 22) ?_
     refine Zs.pu 13 (some 5) ?_
     refine Zq.dn ?_
     try go_wp2
     go_roundg k1
     case measure=>have:=HK1.out;omega
     case rel=>exact ⟨(wrap64 (x4_1-1)),Zs.auS,H',⟨by have:=HK1.out;omega⟩,⟨Zs.auHB⟩⟩
   ·obtain ⟨rfl,rfl⟩:=Zq.pi H;go_wp2;go_ret2
    exact ⟨Zs.auR,Zs.auHB⟩
mutual
def AF.l0:Nat→List Int→List Int→List Int→Int→Option (List Int×List Int)
 | 0,_,_,_,_=>none
 | k+1,x0,x4,x5,x6=>if x6<3 then if 0≤x6 then if x6<(x0.length:Int) then (AX.f k (rd x0 x6)).bind fun bt3=>(if x4.length<17592186044416 then if 0≤(Int.tmod (wrap64 (x6+1)) 3) then if (Int.tmod (wrap64 (x6+1)) 3)<(x5.length:Int) then (some (x5.set ((Int.tmod (wrap64 (x6+1)) 3):Int).toNat (wrap64 ((rd x5 (Int.tmod (wrap64 (x6+1)) 3))*bt3.2)):List Int)).bind fun y7=>(if 0≤(Int.tmod (wrap64 (x6+2)) 3) then (if (Int.tmod (wrap64 (x6+2)) 3)<(x5.length:Int) then (AF.l0 k x0 (x4++[bt3.1]) (y7.set ((Int.tmod (wrap64 (x6+2)) 3):Int).toNat (wrap64 ((rd y7 (Int.tmod (wrap64 (x6+2)) 3))*bt3.2))) (wrap64 (x6+1))) else none) else none) else none else none else none) else none else none else (Bq.f k x4).bind fun bt8=>(AF.l1 k x4 x5 bt8.1 bt8.2)
def AF.l1:Nat→List Int→List Int→Int→Int→Option (List Int×List Int)
 | 0,_,_,_,_=>none
 | k+1,x4,x5,x9,x10=>if x9>1 then if 0≤(Int.tmod (wrap64 (x10+1)) 3) then if (Int.tmod (wrap64 (x10+1)) 3)<(x4.length:Int) then if x9=0 then none else (some (x4.set ((Int.tmod (wrap64 (x10+1)) 3):Int).toNat (wrap64 (Int.tdiv (rd x4 (Int.tmod (wrap64 (x10+1)) 3)) x9)):List Int)).bind fun y3=>(if 0≤(Int.tmod (wrap64 (x10+2)) 3) then if (Int.tmod (wrap64 (x10+2)) 3)<(x4.length:Int) then (some (y3.set ((Int.tmod (wrap64 (x10+2)) 3):Int).toNat (wrap64 (Int.tdiv (rd y3 (Int.tmod (wrap64 (x10+2)) 3)) x9)):List Int)).bind fun y6=>(if 0≤x10 then if x10<(x4.length:Int) then if (Int.tmod (rd y6 x10) x9)=0 then (some (y6.set (x10:Int).toNat (wrap64 (Int.tdiv (rd y6 x10) x9)):List Int)).bind fun y7=>((Bq.f k y7).bind fun bt8=>(AF.l1 k y7 x5 bt8.1 bt8.2)) else (some (y6.set (x10:Int).toNat (wrap64 ((rd y6 x10)*x9)):List Int)).bind fun y11=>(if x10<(x5.length:Int) then (Bq.f k y11).bind fun bt12=>(AF.l1 k y11 (x5.set (x10:Int).toNat (wrap64 ((rd x5 x10)*x9))) bt12.1 bt12.2) else none) else none else none) else none else none) else none else none else some (x4,x5)
end
def AF.f (k:Nat) (l0:List Int):Option (List Int×List Int):=AF.l0 k l0 (([]:List Int)) (([1,1,1]:List Int)) 0
theorem AF.calls (k:Nat) (A0:Option Addr) (c0:Nat) (l0 r1 r2:List Int) (w:World) (hr0:Kd.C (Kd.int .i64) w A0 l0.length l0) (hc0:l0.length≤c0) (h:AF.f k l0=some (r1,r2)) :
  Calls Tryz.prog 137 #[.slice A0 l0.length c0] w fun e w' => ∃v0_ v1_:Value,e = .returned (.tuple #[v0_,v1_])∧Kd.R (Kd.int .i64) 3 w' w.heap.size (fun k_=>some k_≠(v1_:Value).ownBlock) v0_ r1∧Kd.R (Kd.int .i64) 3 w' w.heap.size (fun k_=>some k_≠(v0_:Value).ownBlock) v1_ r2∧Below w.heap.size w w':=by
 have HR0:=Aa.mk hr0;have HC0:=Aa.mk hc0;clear hr0 hc0;have HB:=Aa.mk (Below.refl w.heap.size w);unfold AF.f at h;have H:=h;clear h;obtain ⟨y65,hyy⟩ : ∃y_:List Int,y_=(([]:List Int)):=⟨_,rfl⟩
 replace H:(AF.l0 k l0 y65 (([1,1,1]:List Int)) 0)=some (r1,r2):=Zs.auY
 have Ny65:=Aa.mk hyy;clear hyy;generalize hyy:([1,1,1]:List Int)=y68 at H;have Ny68:=Aa.mk hyy.symm;clear hyy;have H':=Aa.mk H;clear H
 go_enter Tryz.func137,Tryz.ntmps137
 go_wp2_with (first|((with_reducible refine Bb (N:=11) rfl ?_);refine Zq.li ([]:List Int) ?_;intro v66 w2 ho3 hb;(first|rw [← Ny65.out] at ho3|(simp only [Int.reduceToNat] at ho3;rw [← Ny65.out] at ho3));have HO67:=Zq.lw ho3;replace HB:=Zq.st hb;clear hb ho3)|((with_reducible refine Bb (N:=12) rfl ?_);refine Zq.li ([1,1,1]:List Int) ?_;intro v69 w4 ho5 hb;(first|rw [← Ny68.out] at ho5|(simp only [Int.reduceToNat] at ho5;rw [← Ny68.out] at ho5));have HO70:=Aa.mk (Kd.Bp (Kd.Br ho5 (Zq.lt HO67.out)) (Ay (Zs.auHB)));replace HO67:=Zq.el HO67.out ho5 hb;replace HB:=Zq.st hb;clear hb ho5))
 go_loopg [4,6] k (fun kq v4 v6 w' => ∃(x4_1 x5_1:List Int) (x6_1:Int),v6 = .int .i64 x6_1∧Aa (AF.l0 kq l0 x4_1 x5_1 x6_1=some (r1,r2))∧Aa (kq≤k)∧Aa (Kd.R (Kd.int .i64) 3 w' w.heap.size (fun k_=>some k_≠(v69:Value).ownBlock) v4 x4_1)∧Aa (Kd.R (Kd.int .i64) 3 w' w.heap.size (fun k_=>some k_≠(v4:Value).ownBlock) v69 x5_1)∧Aa (Below w.heap.size w w'))
 case atStart=>exact ⟨(y65),(y68),(0),Zs.auS,H',⟨Nat.le_refl _⟩,⟨(Zs.mvR (Kd.AB HO67.out Zq.tk))⟩,⟨(Zs.mvR (Kd.AB HO70.out Zq.tk))⟩,⟨Zs.auHB⟩⟩
 case round =>
  clear H'
  obtain ⟨x4_1,x5_1,x6_1,rfl,HA,HK1,HO_4,HO_5,HB⟩:=hrel;cases gk with
  | zero=>exact absurd HA.out (by simp [AF.l0])
  | succ k1 =>
   have H:=HA.out;clear HA;simp only [AF.l0] at H
   rcases Zq.jd H with ⟨c6b0,H⟩|⟨c6b0,H⟩
   ·obtain ⟨c7b0,H⟩:=Zq.pd H
    obtain ⟨c8b0,H⟩:=Zq.pd H;obtain ⟨t72,t73,A9,H⟩:=Zq.bp H;try dsimp only at H
    obtain ⟨c10,H⟩:=Zq.ip H;have LMc10:=Aa.mk c10;clear c10;generalize hyy:(x4_1++[t72]:List Int)=y74 at H;have Ny74:=Aa.mk hyy.symm;clear hyy;obtain ⟨ji11,hji11⟩ : ∃j_:Int,(Int.tmod (wrap64 (x6_1+1)) 3)=j_:=⟨_,rfl⟩
    replace H:(if 0≤(ji11) then if (ji11)<(x5_1.length:Int) then (some (x5_1.set ((ji11):Int).toNat (wrap64 ((rd x5_1 (ji11))*t73)):List Int)).bind fun y78=>(if 0≤(Int.tmod (wrap64 (x6_1+2)) 3) then (if (Int.tmod (wrap64 (x6_1+2)) 3)<(x5_1.length:Int) then (AF.l0 k1 l0 y74 (y78.set ((Int.tmod (wrap64 (x6_1+2)) 3):Int).toNat (wrap64 ((rd y78 (Int.tmod (wrap64 (x6_1+2)) 3))*t73))) (wrap64 (x6_1+1))) else none) else none) else none else none)=some (r1,r2):=by first|(rw [hji11] at H;exact H)|(simp only [hji11] at H ⊢;exact H)
    (try rw [hji11] at A9)
    obtain ⟨c12b0,H⟩:=Zq.pd H
    obtain ⟨c13b0,H⟩:=Zq.pd H;generalize hyy:(x5_1.set ((ji11):Int).toNat (wrap64 ((rd x5_1 (ji11))*t73)):List Int)=y78 at H;have Ny78:=Aa.mk hyy.symm;clear hyy;obtain ⟨ji15,hji15⟩ : ∃j_:Int,(Int.tmod (wrap64 (x6_1+2)) 3)=j_:=⟨_,rfl⟩
    replace H:(if 0≤(ji15) then (if (ji15)<(x5_1.length:Int) then (AF.l0 k1 l0 y74 (y78.set ((ji15):Int).toNat (wrap64 ((rd y78 (ji15))*t73))) (wrap64 (x6_1+1))) else none) else none)=some (r1,r2):=by first|(rw [hji15] at H;exact H)|(simp only [hji15] at H ⊢;exact H)
    (try rw [hji15] at A9)
    obtain ⟨c16b0,H⟩:=Zq.pd H
    obtain ⟨c17b0,H⟩:=Zq.pd H;generalize hyy:(y78.set ((ji15):Int).toNat (wrap64 ((rd y78 (ji15))*t73)):List Int)=y80 at H;have Ny80:=Aa.mk hyy.symm;clear hyy;have H':=Aa.mk H;clear H;obtain ⟨ad71,e71,hx71_0,p71,q71⟩:=Zq.at_ HR0.out x6_1;cases e71;replace hx71_0:=Zq.ce HB.out hx71_0
    go_wp2_with (first|((with_reducible refine Ab (f:=81) rfl ?_);refine Zq.gb Tryz.func81 (AX.calls _ _ _ _ _ A9.out) ?_;intro w19 hb;replace HO_4:=Zq.rb HO_4.out hb;replace HO_5:=Zq.rb HO_5.out hb;replace HB:=Zq.st hb;(try clear hb))|((with_reducible refine AY (b := .append) (xs:=#[.tmp 25,.tmp 27]) rfl ?_);at_builtin;refine Zq.ap (.tmp 25) (.tmp 27) 27 Tryz.underlying27 DS u4 x4_1 t72 (fun k_=>some k_≠(v69:Value).ownBlock) (fun k_ hk=>Kd.DF (Zq.lt HO_5.out) k_ hk) ((Zs.mvR HO_4.out)) LMc10.out ?_;intro v75 w20 ho hb hg hat;rw [← Ny74.out] at ho;replace HO_5:=Aa.mk (Kd.BW (ok:=(fun _=>True)) ((Zs.mvR (Kd.AB HO_5.out (fun _ hk=>⟨trivial,hk⟩)))) hg hat);replace HB:=Aa.mk (hb);have HO76:=Aa.mk (ho);clear HO_4;clear ho hb hg hat;obtain ⟨Ao21,co21,eo21⟩:=Kd.Az HO_5.out;subst eo21;obtain ⟨ad77,e77,hx77_0,p77,q77⟩:=Zq.at_ (Kd.Ac HO_5.out).2.2 (ji11);cases e77;have p14:0≤((ji11):Int):=Zs.od;have q14:((ji11):Int)<((x5_1.length:Int):Int):=Zs.od;obtain ⟨go14,co14,eo14,gb14,gl14,cl14,HG14⟩:=Kd.E7 HO_5.out (by omega);(first|cases eo14|(injection eo14 with ea_ en_ ec_;(first|subst ea_|(injection ea_ with ea_;subst ea_));subst ec_;clear en_));have GB14:=Aa.mk gb14;have GG14:=Aa.mk HG14;clear gb14 gl14 HG14;(first|simp only [add_plain] at hx77_0|skip);obtain ⟨hx14_0,hf14_0⟩:=Kd.Co 0 HO_5.out ((ji11):Int) p14 q14;replace p14:=eq_true p14;replace q14:=eq_true q14;have n_:=Aa.mk (Kd.AB (ok':=(fun k_=>some k_≠(v75:Value).ownBlock)) HO_5.out (fun k_ hk=>hk.2));clear HO_5;have HO_5:=n_;clear n_;obtain ⟨hy22_,hz22_⟩:=Kd.Co 0 HO_5.out ((ji11):Int) (Zs.od) (Zs.od);have HP22:=Kd.DV HO_5.out ((ji11):Int) (wrap64 ((rd x5_1 (ji11))*t73)))|((with_reducible refine CA (t:=3) (p:=41) rfl ?_);refine Cb (t:=3) (p:=41) (v:=?vo_w23) (w1:=(w20.setCell ⟨go14,((ji11):Int).toNat,none⟩ (.int .i64 (wrap64 ((rd x5_1 (ji11))*t73))))) ?hg ?ho ?hn ?hr ?_;(case ho=>rfl);(case hg=>rfl);(case hn=>rfl);(case hr=>first|(go_simp;done)|(go_simp;rfl));intro w23 hw;have hg:w20.grownBy w23 (some go14):=(by rw [hw];exact HP22.2);have hp_:Kd.R (Kd.int .i64) 3 w23 w.heap.size (fun k_=>some k_≠(v75:Value).ownBlock) (.slice (some ⟨go14,0,none⟩) x5_1.length co21) y78:=(by rw [hw,Ny78.out];exact HP22.1);clear HP22;replace HO_5:=Aa.mk (hp_);replace HO76:=Aa.mk (Kd.BW (v:=(.slice (some ⟨go14,0,none⟩) x5_1.length co21)) (v1:=(.slice (some ⟨go14,0,none⟩) x5_1.length co21)) (ok:=(fun _=>True)) ((Zs.mvR (Kd.AB HO76.out (fun _ hk=>⟨trivial,hk⟩)))) hg (.inl rfl));replace HB:=Aa.mk ((by rw [hw];exact AE (HB.out) GB14.out:Below w.heap.size w w23));clear hg hw hp_;have p79:0≤((ji15):Int):=Zs.od;have q79:(ji15)<(y78.length:Int):=(by have h_:((ji15):Int)<((x5_1.length:Int):Int):=Zs.od;first|(have e_:=(Kd.Ac HO_5.out).1;omega)|simpa only [Ny78.out,List.length_set] using h_);have ql79:(((ji15):Int)<((x5_1.length:Int):Int))=True:=eq_true (Zs.od);have hx79_0:=Zq.pl (Kd.Ac HO_5.out).2.2 (ji15) p79 q79;replace p79:=eq_true p79;replace q79:=eq_true q79;have p18:0≤((ji15):Int):=Zs.od;have q18:((ji15):Int)<((x5_1.length:Int):Int):=Zs.od;obtain ⟨hx18_0,hf18_0⟩:=Kd.Co 0 HO_5.out ((ji15):Int) p18 q18;replace p18:=eq_true p18;replace q18:=eq_true q18;obtain ⟨hy24_,hz24_⟩:=Kd.Co 0 HO_5.out ((ji15):Int) (Zs.od) (Zs.od);have HP24:=Kd.DV HO_5.out ((ji15):Int) (wrap64 ((rd y78 (ji15))*t73)))|((with_reducible refine CA (t:=3) (p:=54) rfl ?_);refine Cb (t:=3) (p:=54) (v:=?vo_w25) (w1:=(w23.setCell ⟨go14,((ji15):Int).toNat,none⟩ (.int .i64 (wrap64 ((rd y78 (ji15))*t73))))) ?hg ?ho ?hn ?hr ?_;(case ho=>rfl);(case hg=>rfl);(case hn=>rfl);(case hr=>first|(go_simp;done)|(go_simp;rfl));intro w25 hw;have hg:w23.grownBy w25 (some go14):=(by rw [hw];exact HP24.2);have hp_:Kd.R (Kd.int .i64) 3 w25 w.heap.size (fun k_=>some k_≠(v75:Value).ownBlock) (.slice (some ⟨go14,0,none⟩) x5_1.length co21) y80:=(by rw [hw,Ny80.out];exact HP24.1);clear HP24;replace HO_5:=Aa.mk (hp_);replace HO76:=Aa.mk (Kd.BW (v:=(.slice (some ⟨go14,0,none⟩) x5_1.length co21)) (v1:=(.slice (some ⟨go14,0,none⟩) x5_1.length co21)) (ok:=(fun _=>True)) ((Zs.mvR HO76.out)) hg (.inl rfl));replace HB:=Aa.mk ((by rw [hw];exact AE (HB.out) GB14.out:Below w.heap.size w w25));clear hg hw hp_))
    go_roundg k1
    case measure=>have:=HK1.out;omega
    case rel=>exact ⟨(y74),(y80),(wrap64 (x6_1+1)),Zs.auS,H',⟨by have:=HK1.out;omega⟩,⟨(Zs.mvR (Kd.AB HO76.out Zq.tk))⟩,⟨(Zs.mvR HO_5.out)⟩,⟨Zs.auHB⟩⟩
   ·obtain ⟨t82,t83,A26,H⟩:=Zq.bp H;try dsimp only at H;have H':=Aa.mk H;clear H;obtain ⟨Ao27,co27,eo27⟩:=Kd.Az HO_4.out;subst eo27
    go_wp2_with (((with_reducible refine Ab (f:=159) rfl ?_);refine Zq.gb Tryz.func159 (Bq.calls _ _ _ _ _ _ _ (Zs.mvC ((Kd.Ac HO_4.out).2.2)) ((Kd.Ac HO_4.out).2.1) A26.out) ?_;intro w28 hb;replace HO_4:=Zq.rb HO_4.out hb;replace HO_5:=Zq.rb HO_5.out hb;replace HB:=Zq.st hb;(try clear hb)))
    go_loopg [9,10] k1 (fun kq v9 v10 w' => ∃(x4_2 x5_2:List Int) (x9_2 x10_2:Int),v9 = .int .i64 x9_2∧v10 = .int .i64 x10_2∧Aa (AF.l1 kq x4_2 x5_2 x9_2 x10_2=some (r1,r2))∧Aa (kq≤k1)∧Aa (Kd.R (Kd.int .i64) 3 w' w.heap.size (fun k_=>some k_≠(v69:Value).ownBlock) (.slice Ao27 x4_1.length co27) x4_2)∧Aa (Kd.R (Kd.int .i64) 3 w' w.heap.size (fun k_=>some k_≠((.slice Ao27 x4_1.length co27):Value).ownBlock) v69 x5_2)∧Aa (Below w.heap.size w w'))
    case atStart=>exact ⟨(x4_1),(x5_1),(t82),(t83),Zs.auS,Zs.auS,H',⟨Nat.le_refl _⟩,⟨(Zs.mvR HO_4.out)⟩,⟨(Zs.mvR HO_5.out)⟩,⟨Zs.auHB⟩⟩
    case round =>
     clear H'
     obtain ⟨x4_2,x5_2,x9_2,x10_2,rfl,rfl,HA,HK2,HO_4,HO_5,HB⟩:=hrel;have hl4_2:=(Kd.Ac HO_4.out).1;rw [hl4_2] at HO_4;(try simp only [hl4_2]);(try simp only [hl4_2] at HO_5);cases gk with
     | zero=>exact absurd HA.out (by simp [AF.l1])
     | succ k2 =>
      have H:=HA.out;clear HA;simp only [AF.l1] at H
      rcases Zq.jg H with ⟨c29b0,H⟩|⟨c29b0,H⟩
      ·obtain ⟨ji30,hji30⟩ : ∃j_:Int,(Int.tmod (wrap64 (x10_2+1)) 3)=j_:=⟨_,rfl⟩
       replace H:(if 0≤(ji30) then if (ji30)<(x4_2.length:Int) then if x9_2=0 then none else (some (x4_2.set ((ji30):Int).toNat (wrap64 (Int.tdiv (rd x4_2 (ji30)) x9_2)):List Int)).bind fun y85=>(if 0≤(Int.tmod (wrap64 (x10_2+2)) 3) then if (Int.tmod (wrap64 (x10_2+2)) 3)<(x4_2.length:Int) then (some (y85.set ((Int.tmod (wrap64 (x10_2+2)) 3):Int).toNat (wrap64 (Int.tdiv (rd y85 (Int.tmod (wrap64 (x10_2+2)) 3)) x9_2)):List Int)).bind fun y87=>(if 0≤x10_2 then if x10_2<(x4_2.length:Int) then if (Int.tmod (rd y87 x10_2) x9_2)=0 then (some (y87.set (x10_2:Int).toNat (wrap64 (Int.tdiv (rd y87 x10_2) x9_2)):List Int)).bind fun y90=>((Bq.f k2 y90).bind fun bt91=>(AF.l1 k2 y90 x5_2 bt91.1 bt91.2)) else (some (y87.set (x10_2:Int).toNat (wrap64 ((rd y87 x10_2)*x9_2)):List Int)).bind fun y94=>(if x10_2<(x5_2.length:Int) then (Bq.f k2 y94).bind fun bt97=>(AF.l1 k2 y94 (x5_2.set (x10_2:Int).toNat (wrap64 ((rd x5_2 x10_2)*x9_2))) bt97.1 bt97.2) else none) else none else none) else none else none) else none else none)=some (r1,r2):=by first|(rw [hji30] at H;exact H)|(simp only [hji30] at H ⊢;exact H)
       obtain ⟨c31b0,H⟩:=Zq.pd H
       obtain ⟨c32b0,H⟩:=Zq.pd H
       rcases Zq.ii H with ⟨c33,H⟩|⟨c33,H⟩
       ·exact absurd H (by simp)
       ·generalize hyy:(x4_2.set ((ji30):Int).toNat (wrap64 (Int.tdiv (rd x4_2 (ji30)) x9_2)):List Int)=y85 at H;have Ny85:=Aa.mk hyy.symm;clear hyy;obtain ⟨ji35,hji35⟩ : ∃j_:Int,(Int.tmod (wrap64 (x10_2+2)) 3)=j_:=⟨_,rfl⟩
        replace H:(if 0≤(ji35) then if (ji35)<(x4_2.length:Int) then (some (y85.set ((ji35):Int).toNat (wrap64 (Int.tdiv (rd y85 (ji35)) x9_2)):List Int)).bind fun y87=>(if 0≤x10_2 then if x10_2<(x4_2.length:Int) then if (Int.tmod (rd y87 x10_2) x9_2)=0 then (some (y87.set (x10_2:Int).toNat (wrap64 (Int.tdiv (rd y87 x10_2) x9_2)):List Int)).bind fun y90=>((Bq.f k2 y90).bind fun bt91=>(AF.l1 k2 y90 x5_2 bt91.1 bt91.2)) else (some (y87.set (x10_2:Int).toNat (wrap64 ((rd y87 x10_2)*x9_2)):List Int)).bind fun y94=>(if x10_2<(x5_2.length:Int) then (Bq.f k2 y94).bind fun bt97=>(AF.l1 k2 y94 (x5_2.set (x10_2:Int).toNat (wrap64 ((rd x5_2 x10_2)*x9_2))) bt97.1 bt97.2) else none) else none else none) else none else none)=some (r1,r2):=by first|(rw [hji35] at H;exact H)|(simp only [hji35] at H ⊢;exact H)
        obtain ⟨c36b0,H⟩:=Zq.pd H
        obtain ⟨c37b0,H⟩:=Zq.pd H;generalize hyy:(y85.set ((ji35):Int).toNat (wrap64 (Int.tdiv (rd y85 (ji35)) x9_2)):List Int)=y87 at H;have Ny87:=Aa.mk hyy.symm;clear hyy
        obtain ⟨c39b0,H⟩:=Zq.pd H
        obtain ⟨c40b0,H⟩:=Zq.pd H
        rcases Zq.jn H with ⟨c41b0,H⟩|⟨c41,c41b0,H⟩
        ·obtain ⟨y90,Ny90,H⟩:=Zq.bs H;obtain ⟨t91,t92,A43,H⟩:=Zq.bp H;try dsimp only at H;have H':=Aa.mk H;clear H;obtain ⟨ad84,e84,hx84_0,p84,q84⟩:=Zq.at_ (Kd.Ac HO_4.out).2.2 (ji30);cases e84;have p34:0≤((ji30):Int):=Zs.od;have q34:((ji30):Int)<((x4_2.length:Int):Int):=Zs.od;obtain ⟨go34,co34,eo34,gb34,gl34,cl34,HG34⟩:=Kd.E7 HO_4.out (by omega)
         (first|cases eo34|(injection eo34 with ea_ en_ ec_;(first|subst ea_|(injection ea_ with ea_;subst ea_));subst ec_;clear en_))
         have GB34:=Aa.mk gb34;have GG34:=Aa.mk HG34;clear gb34 gl34 HG34
         (first|simp only [add_plain] at hx84_0|skip)
         obtain ⟨hx34_0,hf34_0⟩:=Kd.Co 0 HO_4.out ((ji30):Int) p34 q34;replace p34:=eq_true p34;replace q34:=eq_true q34;have HP44:=Kd.DV HO_4.out ((ji30):Int) (wrap64 (Int.tdiv (rd x4_2 (ji30)) x9_2))
         go_wp2_with (first|((with_reducible refine CA (t:=3) (p:=74) rfl ?_);refine Cb (t:=3) (p:=74) (v:=?vo_w45) (w1:=(wr.setCell ⟨go34,((ji30):Int).toNat,none⟩ (.int .i64 (wrap64 (Int.tdiv (rd x4_2 (ji30)) x9_2))))) ?hg ?ho ?hn ?hr ?_;(case ho=>rfl);(case hg=>rfl);(case hn=>rfl);(case hr=>first|(go_simp;done)|(go_simp;rfl));intro w45 hw;have hg:wr.grownBy w45 (some go34):=(by rw [hw];exact HP44.2);have hp_:Kd.R (Kd.int .i64) 3 w45 w.heap.size (fun k_=>some k_≠(v69:Value).ownBlock) (.slice (some ⟨go34,0,none⟩) x4_2.length co27) y85:=(by rw [hw,Ny85.out];exact HP44.1);clear HP44;replace HO_4:=Aa.mk (hp_);replace HO_5:=Aa.mk (Kd.BW (v:=(.slice (some ⟨go34,0,none⟩) x4_2.length co27)) (v1:=(.slice (some ⟨go34,0,none⟩) x4_2.length co27)) (ok:=(fun _=>True)) ((Zs.mvR (Kd.AB HO_5.out (fun _ hk=>⟨trivial,hk⟩)))) hg (.inl rfl));replace HB:=Aa.mk ((by rw [hw];exact AE (HB.out) GB34.out:Below w.heap.size w w45));clear hg hw hp_;have p86:0≤((ji35):Int):=Zs.od;have q86:(ji35)<(y85.length:Int):=(by have h_:((ji35):Int)<((x4_2.length:Int):Int):=Zs.od;first|(have e_:=(Kd.Ac HO_4.out).1;omega)|simpa only [Ny85.out,List.length_set] using h_);have ql86:(((ji35):Int)<((x4_2.length:Int):Int))=True:=eq_true (Zs.od);have hx86_0:=Zq.pl (Kd.Ac HO_4.out).2.2 (ji35) p86 q86;replace p86:=eq_true p86;replace q86:=eq_true q86;have p38:0≤((ji35):Int):=Zs.od;have q38:((ji35):Int)<((x4_2.length:Int):Int):=Zs.od;obtain ⟨hx38_0,hf38_0⟩:=Kd.Co 0 HO_4.out ((ji35):Int) p38 q38;replace p38:=eq_true p38;replace q38:=eq_true q38;obtain ⟨hy46_,hz46_⟩:=Kd.Co 0 HO_4.out ((ji35):Int) (Zs.od) (Zs.od);have HP46:=Kd.DV HO_4.out ((ji35):Int) (wrap64 (Int.tdiv (rd y85 (ji35)) x9_2)))|((with_reducible refine CA (t:=3) (p:=87) rfl ?_);refine Cb (t:=3) (p:=87) (v:=?vo_w47) (w1:=(w45.setCell ⟨go34,((ji35):Int).toNat,none⟩ (.int .i64 (wrap64 (Int.tdiv (rd y85 (ji35)) x9_2))))) ?hg ?ho ?hn ?hr ?_;(case ho=>rfl);(case hg=>rfl);(case hn=>rfl);(case hr=>first|(go_simp;done)|(go_simp;rfl));intro w47 hw;have hg:w45.grownBy w47 (some go34):=(by rw [hw];exact HP46.2);have hp_:Kd.R (Kd.int .i64) 3 w47 w.heap.size (fun k_=>some k_≠(v69:Value).ownBlock) (.slice (some ⟨go34,0,none⟩) x4_2.length co27) y87:=(by rw [hw,Ny87.out];exact HP46.1);clear HP46;replace HO_4:=Aa.mk (hp_);replace HO_5:=Aa.mk (Kd.BW (v:=(.slice (some ⟨go34,0,none⟩) x4_2.length co27)) (v1:=(.slice (some ⟨go34,0,none⟩) x4_2.length co27)) (ok:=(fun _=>True)) ((Zs.mvR HO_5.out)) hg (.inl rfl));replace HB:=Aa.mk ((by rw [hw];exact AE (HB.out) GB34.out:Below w.heap.size w w47));clear hg hw hp_;have p88:0≤(x10_2:Int):=Zs.od;have q88:x10_2<(y87.length:Int):=(by have h_:(x10_2:Int)<((x4_2.length:Int):Int):=Zs.od;first|(have e_:=(Kd.Ac HO_4.out).1;omega)|simpa only [Ny85.out,Ny87.out,List.length_set] using h_);have ql88:((x10_2:Int)<((x4_2.length:Int):Int))=True:=eq_true (Zs.od);have hx88_0:=Zq.pl (Kd.Ac HO_4.out).2.2 x10_2 p88 q88;replace p88:=eq_true p88;replace q88:=eq_true q88;have p89:0≤(x10_2:Int):=Zs.od;have q89:x10_2<(y87.length:Int):=(by have h_:(x10_2:Int)<((x4_2.length:Int):Int):=Zs.od;first|(have e_:=(Kd.Ac HO_4.out).1;omega)|simpa only [Ny85.out,Ny87.out,List.length_set] using h_);have ql89:((x10_2:Int)<((x4_2.length:Int):Int))=True:=eq_true (Zs.od);have hx89_0:=Zq.pl (Kd.Ac HO_4.out).2.2 x10_2 p89 q89;replace p89:=eq_true p89;replace q89:=eq_true q89;have p42:0≤(x10_2:Int):=Zs.od;have q42:(x10_2:Int)<((x4_2.length:Int):Int):=Zs.od;obtain ⟨hx42_0,hf42_0⟩:=Kd.Co 0 HO_4.out (x10_2:Int) p42 q42;replace p42:=eq_true p42;replace q42:=eq_true q42;obtain ⟨hy48_,hz48_⟩:=Kd.Co 0 HO_4.out (x10_2:Int) (Zs.od) (Zs.od);have HP48:=Kd.DV HO_4.out (x10_2:Int) (wrap64 (Int.tdiv (rd y87 x10_2) x9_2)))|((with_reducible refine CA (t:=3) (p:=103) rfl ?_);refine Cb (t:=3) (p:=103) (v:=?vo_w49) (w1:=(w47.setCell ⟨go34,(x10_2:Int).toNat,none⟩ (.int .i64 (wrap64 (Int.tdiv (rd y87 x10_2) x9_2))))) ?hg ?ho ?hn ?hr ?_;(case ho=>rfl);(case hg=>rfl);(case hn=>rfl);(case hr=>first|(go_simp;done)|(go_simp;rfl));intro w49 hw;have hg:w47.grownBy w49 (some go34):=(by rw [hw];exact HP48.2);have hp_:Kd.R (Kd.int .i64) 3 w49 w.heap.size (fun k_=>some k_≠(v69:Value).ownBlock) (.slice (some ⟨go34,0,none⟩) x4_2.length co27) y90:=(by rw [hw,Ny90.out];exact HP48.1);clear HP48;replace HO_4:=Aa.mk (hp_);replace HO_5:=Aa.mk (Kd.BW (v:=(.slice (some ⟨go34,0,none⟩) x4_2.length co27)) (v1:=(.slice (some ⟨go34,0,none⟩) x4_2.length co27)) (ok:=(fun _=>True)) ((Zs.mvR HO_5.out)) hg (.inl rfl));replace HB:=Aa.mk ((by rw [hw];exact AE (HB.out) GB34.out:Below w.heap.size w w49));clear hg hw hp_)|((with_reducible refine Ab (f:=159) rfl ?_);refine Kg (some 124) rfl rfl Tryz.func159 (by kernel_rfl) rfl #[.slice (some ⟨go34,0,none⟩) y90.length co27] rfl (by (try simp only [List.map_toArray,List.map_cons,List.map_nil]);first|done|(rw [show y90.length=x4_2.length from (Kd.Ac HO_4.out).1.symm]<;>rfl)|rfl|(simp only [List.length_drop,List.length_take];rfl)) ?_;(with_reducible refine (Bq.calls k2 _ _ y90 t91 t92 _ ?side1 ?side2 A43.out).mono ?_);(case side1=>exact Zs.mvC ((Kd.Ac HO_4.out).2.2));(case side2=>rw [show y90.length=x4_2.length from (Kd.Ac HO_4.out).1.symm];exact (Kd.Ac HO_4.out).2.1);rintro e w50 ⟨rfl,hb⟩;refine ⟨_,rfl,?_⟩;replace HO_4:=Zq.rb HO_4.out hb;replace HO_5:=Zq.rb HO_5.out hb;replace HB:=Zq.st hb;(try clear hb)))
         (try simp only [← hl4_2])
         go_roundg k2
         case measure=>have:=HK1.out;have:=HK2.out;omega
         case rel=>exact ⟨(y90),(x5_2),(t91),(t92),Zs.auS,Zs.auS,H',⟨by have:=HK1.out;have:=HK2.out;omega⟩,⟨by (try simp only [hl4_2]);(with_reducible repeat (first|apply Kd.Gs|apply Kd.FR|apply Kd.DE));exact HO_4.out⟩,⟨by (try simp only [hl4_2]);(with_reducible repeat (first|apply Kd.Gs|apply Kd.FR|apply Kd.DE));exact Kd.AB HO_5.out Zq.tk⟩,⟨Zs.auHB⟩⟩
        ·obtain ⟨y94,Ny94,H⟩:=Zq.bs H
         obtain ⟨c52b0,H⟩:=Zq.pd H;(try rw [Option.bind_some] at H);generalize hyy:(x5_2.set (x10_2:Int).toNat (wrap64 ((rd x5_2 x10_2)*x9_2)):List Int)=y96 at H;have Ny96:=Aa.mk hyy.symm;clear hyy;obtain ⟨t97,t98,A54,H⟩:=Zq.bp H;try dsimp only at H;have H':=Aa.mk H;clear H;obtain ⟨ad84,e84,hx84_0,p84,q84⟩:=Zq.at_ (Kd.Ac HO_4.out).2.2 (ji30);cases e84;have p34:0≤((ji30):Int):=Zs.od;have q34:((ji30):Int)<((x4_2.length:Int):Int):=Zs.od;obtain ⟨go34,co34,eo34,gb34,gl34,cl34,HG34⟩:=Kd.E7 HO_4.out (by omega)
         (first|cases eo34|(injection eo34 with ea_ en_ ec_;(first|subst ea_|(injection ea_ with ea_;subst ea_));subst ec_;clear en_))
         have GB34:=Aa.mk gb34;have GG34:=Aa.mk HG34;clear gb34 gl34 HG34
         (first|simp only [add_plain] at hx84_0|skip)
         obtain ⟨hx34_0,hf34_0⟩:=Kd.Co 0 HO_4.out ((ji30):Int) p34 q34;replace p34:=eq_true p34;replace q34:=eq_true q34;have HP55:=Kd.DV HO_4.out ((ji30):Int) (wrap64 (Int.tdiv (rd x4_2 (ji30)) x9_2))
         go_wp2_with (first|((with_reducible refine CA (t:=3) (p:=74) rfl ?_);refine Cb (t:=3) (p:=74) (v:=?vo_w56) (w1:=(wr.setCell ⟨go34,((ji30):Int).toNat,none⟩ (.int .i64 (wrap64 (Int.tdiv (rd x4_2 (ji30)) x9_2))))) ?hg ?ho ?hn ?hr ?_;(case ho=>rfl);(case hg=>rfl);(case hn=>rfl);(case hr=>first|(go_simp;done)|(go_simp;rfl));intro w56 hw;have hg:wr.grownBy w56 (some go34):=(by rw [hw];exact HP55.2);have hp_:Kd.R (Kd.int .i64) 3 w56 w.heap.size (fun k_=>some k_≠(v69:Value).ownBlock) (.slice (some ⟨go34,0,none⟩) x4_2.length co27) y85:=(by rw [hw,Ny85.out];exact HP55.1);clear HP55;replace HO_4:=Aa.mk (hp_);replace HO_5:=Aa.mk (Kd.BW (v:=(.slice (some ⟨go34,0,none⟩) x4_2.length co27)) (v1:=(.slice (some ⟨go34,0,none⟩) x4_2.length co27)) (ok:=(fun _=>True)) ((Zs.mvR (Kd.AB HO_5.out (fun _ hk=>⟨trivial,hk⟩)))) hg (.inl rfl));replace HB:=Aa.mk ((by rw [hw];exact AE (HB.out) GB34.out:Below w.heap.size w w56));clear hg hw hp_;have p86:0≤((ji35):Int):=Zs.od;have q86:(ji35)<(y85.length:Int):=(by have h_:((ji35):Int)<((x4_2.length:Int):Int):=Zs.od;first|(have e_:=(Kd.Ac HO_4.out).1;omega)|simpa only [Ny85.out,List.length_set] using h_);have ql86:(((ji35):Int)<((x4_2.length:Int):Int))=True:=eq_true (Zs.od);have hx86_0:=Zq.pl (Kd.Ac HO_4.out).2.2 (ji35) p86 q86;replace p86:=eq_true p86;replace q86:=eq_true q86;have p38:0≤((ji35):Int):=Zs.od;have q38:((ji35):Int)<((x4_2.length:Int):Int):=Zs.od;obtain ⟨hx38_0,hf38_0⟩:=Kd.Co 0 HO_4.out ((ji35):Int) p38 q38;replace p38:=eq_true p38;replace q38:=eq_true q38;obtain ⟨hy57_,hz57_⟩:=Kd.Co 0 HO_4.out ((ji35):Int) (Zs.od) (Zs.od);have HP57:=Kd.DV HO_4.out ((ji35):Int) (wrap64 (Int.tdiv (rd y85 (ji35)) x9_2)))|((with_reducible refine CA (t:=3) (p:=87) rfl ?_);refine Cb (t:=3) (p:=87) (v:=?vo_w58) (w1:=(w56.setCell ⟨go34,((ji35):Int).toNat,none⟩ (.int .i64 (wrap64 (Int.tdiv (rd y85 (ji35)) x9_2))))) ?hg ?ho ?hn ?hr ?_;(case ho=>rfl);(case hg=>rfl);(case hn=>rfl);(case hr=>first|(go_simp;done)|(go_simp;rfl));intro w58 hw;have hg:w56.grownBy w58 (some go34):=(by rw [hw];exact HP57.2);have hp_:Kd.R (Kd.int .i64) 3 w58 w.heap.size (fun k_=>some k_≠(v69:Value).ownBlock) (.slice (some ⟨go34,0,none⟩) x4_2.length co27) y87:=(by rw [hw,Ny87.out];exact HP57.1);clear HP57;replace HO_4:=Aa.mk (hp_);replace HO_5:=Aa.mk (Kd.BW (v:=(.slice (some ⟨go34,0,none⟩) x4_2.length co27)) (v1:=(.slice (some ⟨go34,0,none⟩) x4_2.length co27)) (ok:=(fun _=>True)) ((Zs.mvR HO_5.out)) hg (.inl rfl));replace HB:=Aa.mk ((by rw [hw];exact AE (HB.out) GB34.out:Below w.heap.size w w58));clear hg hw hp_;have p88:0≤(x10_2:Int):=Zs.od;have q88:x10_2<(y87.length:Int):=(by have h_:(x10_2:Int)<((x4_2.length:Int):Int):=Zs.od;first|(have e_:=(Kd.Ac HO_4.out).1;omega)|simpa only [Ny85.out,Ny87.out,List.length_set] using h_);have ql88:((x10_2:Int)<((x4_2.length:Int):Int))=True:=eq_true (Zs.od);have hx88_0:=Zq.pl (Kd.Ac HO_4.out).2.2 x10_2 p88 q88;replace p88:=eq_true p88;replace q88:=eq_true q88;have p93:0≤(x10_2:Int):=Zs.od;have q93:x10_2<(y87.length:Int):=(by have h_:(x10_2:Int)<((x4_2.length:Int):Int):=Zs.od;first|(have e_:=(Kd.Ac HO_4.out).1;omega)|simpa only [Ny85.out,Ny87.out,List.length_set] using h_);have ql93:((x10_2:Int)<((x4_2.length:Int):Int))=True:=eq_true (Zs.od);have hx93_0:=Zq.pl (Kd.Ac HO_4.out).2.2 x10_2 p93 q93;replace p93:=eq_true p93;replace q93:=eq_true q93;have p51:0≤(x10_2:Int):=Zs.od;have q51:(x10_2:Int)<((x4_2.length:Int):Int):=Zs.od;obtain ⟨hx51_0,hf51_0⟩:=Kd.Co 0 HO_4.out (x10_2:Int) p51 q51;replace p51:=eq_true p51;replace q51:=eq_true q51;obtain ⟨hy59_,hz59_⟩:=Kd.Co 0 HO_4.out (x10_2:Int) (Zs.od) (Zs.od);have HP59:=Kd.DV HO_4.out (x10_2:Int) (wrap64 ((rd y87 x10_2)*x9_2)))|((with_reducible refine CA (t:=3) (p:=112) rfl ?_);refine Cb (t:=3) (p:=112) (v:=?vo_w60) (w1:=(w58.setCell ⟨go34,(x10_2:Int).toNat,none⟩ (.int .i64 (wrap64 ((rd y87 x10_2)*x9_2))))) ?hg ?ho ?hn ?hr ?_;(case ho=>rfl);(case hg=>rfl);(case hn=>rfl);(case hr=>first|(go_simp;done)|(go_simp;rfl));intro w60 hw;have hg:w58.grownBy w60 (some go34):=(by rw [hw];exact HP59.2);have hp_:Kd.R (Kd.int .i64) 3 w60 w.heap.size (fun k_=>some k_≠(v69:Value).ownBlock) (.slice (some ⟨go34,0,none⟩) x4_2.length co27) y94:=(by rw [hw,Ny94.out];exact HP59.1);clear HP59;replace HO_4:=Aa.mk (hp_);replace HO_5:=Aa.mk (Kd.BW (v:=(.slice (some ⟨go34,0,none⟩) x4_2.length co27)) (v1:=(.slice (some ⟨go34,0,none⟩) x4_2.length co27)) (ok:=(fun _=>True)) ((Zs.mvR HO_5.out)) hg (.inl rfl));replace HB:=Aa.mk ((by rw [hw];exact AE (HB.out) GB34.out:Below w.heap.size w w60));clear hg hw hp_;obtain ⟨Ao61,co61,eo61⟩:=Kd.Az HO_5.out;subst eo61;obtain ⟨ad95,e95,hx95_0,p95,q95⟩:=Zq.at_ (Kd.Ac HO_5.out).2.2 x10_2;cases e95;have p53:0≤(x10_2:Int):=Zs.od;have q53:(x10_2:Int)<((x5_2.length:Int):Int):=Zs.od;obtain ⟨go53,co53,eo53,gb53,gl53,cl53,HG53⟩:=Kd.E7 HO_5.out (by omega);(first|cases eo53|(injection eo53 with ea_ en_ ec_;(first|subst ea_|(injection ea_ with ea_;subst ea_));subst ec_;clear en_));have GB53:=Aa.mk gb53;have GG53:=Aa.mk HG53;clear gb53 gl53 HG53;(first|simp only [add_plain] at hx95_0|skip);obtain ⟨hx53_0,hf53_0⟩:=Kd.Co 0 HO_5.out (x10_2:Int) p53 q53;replace p53:=eq_true p53;replace q53:=eq_true q53;have n_:=Aa.mk (Kd.AB (ok':=(fun k_=>some k_≠(.slice (some ⟨go34,0,none⟩) x4_2.length co27:Value).ownBlock)) HO_5.out (fun k_ hk=>hk.2));clear HO_5;have HO_5:=n_;clear n_;obtain ⟨hy62_,hz62_⟩:=Kd.Co 0 HO_5.out (x10_2:Int) (Zs.od) (Zs.od);have HP62:=Kd.DV HO_5.out (x10_2:Int) (wrap64 ((rd x5_2 x10_2)*x9_2)))|((with_reducible refine CA (t:=3) (p:=121) rfl ?_);refine Cb (t:=3) (p:=121) (v:=?vo_w63) (w1:=(w60.setCell ⟨go53,(x10_2:Int).toNat,none⟩ (.int .i64 (wrap64 ((rd x5_2 x10_2)*x9_2))))) ?hg ?ho ?hn ?hr ?_;(case ho=>rfl);(case hg=>rfl);(case hn=>rfl);(case hr=>first|(go_simp;done)|(go_simp;rfl));intro w63 hw;have hg:w60.grownBy w63 (some go53):=(by rw [hw];exact HP62.2);have hp_:Kd.R (Kd.int .i64) 3 w63 w.heap.size (fun k_=>some k_≠(.slice (some ⟨go34,0,none⟩) x4_2.length co27:Value).ownBlock) (.slice (some ⟨go53,0,none⟩) x5_2.length co61) y96:=(by rw [hw,Ny96.out];exact HP62.1);clear HP62;replace HO_4:=Aa.mk (Kd.BW (v:=(.slice (some ⟨go53,0,none⟩) x5_2.length co61)) (v1:=(.slice (some ⟨go53,0,none⟩) x5_2.length co61)) (ok:=(fun _=>True)) ((Zs.mvR (Kd.AB HO_4.out (fun _ hk=>⟨trivial,hk⟩)))) hg (.inl rfl));replace HO_5:=Aa.mk (hp_);replace HB:=Aa.mk ((by rw [hw];exact AE (HB.out) GB53.out:Below w.heap.size w w63));clear hg hw hp_)|((with_reducible refine Ab (f:=159) rfl ?_);refine Kg (some 124) rfl rfl Tryz.func159 (by kernel_rfl) rfl #[.slice (some ⟨go34,0,none⟩) y94.length co27] rfl (by (try simp only [List.map_toArray,List.map_cons,List.map_nil]);first|done|(rw [show y94.length=x4_2.length from (Kd.Ac HO_4.out).1.symm]<;>rfl)|rfl|(simp only [List.length_drop,List.length_take];rfl)) ?_;(with_reducible refine (Bq.calls k2 _ _ y94 t97 t98 _ ?side1 ?side2 A54.out).mono ?_);(case side1=>exact Zs.mvC ((Kd.Ac HO_4.out).2.2));(case side2=>rw [show y94.length=x4_2.length from (Kd.Ac HO_4.out).1.symm];exact (Kd.Ac HO_4.out).2.1);rintro e w64 ⟨rfl,hb⟩;refine ⟨_,rfl,?_⟩;replace HO_4:=Zq.rb HO_4.out hb;replace HO_5:=Zq.rb HO_5.out hb;replace HB:=Zq.st hb;(try clear hb)))
         (try simp only [← hl4_2])
         go_roundg k2
         case measure=>have:=HK1.out;have:=HK2.out;omega
         case rel=>exact ⟨(y94),(y96),(t97),(t98),Zs.auS,Zs.auS,H',⟨by have:=HK1.out;have:=HK2.out;omega⟩,⟨by (try simp only [hl4_2]);(with_reducible repeat (first|apply Kd.Gs|apply Kd.FR|apply Kd.DE));exact Kd.AB HO_4.out Zq.tk⟩,⟨by (try simp only [hl4_2]);(with_reducible repeat (first|apply Kd.Gs|apply Kd.FR|apply Kd.DE));exact HO_5.out⟩,⟨Zs.auHB⟩⟩
      ·obtain ⟨rfl,rfl⟩:=Zq.pi H;go_wp2;go_ret2
       exact ⟨_,_,Zs.auR,(Zs.mvR HO_4.out),(Zs.mvR HO_5.out),Zs.auHB⟩
end Go.Proofs.YtacfcoilmdhgnaaGreatDoor.PFnExecuteWhat
