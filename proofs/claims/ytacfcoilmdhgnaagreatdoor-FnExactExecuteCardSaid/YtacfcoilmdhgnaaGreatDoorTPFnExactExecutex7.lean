/- A function's Lean twin and its walk, written by a program of this session. -/
import Derived.Test.YtacfcoilmdhgnaaGreatDoorTPFnExactExecutex6
set_option maxHeartbeats 8000000
set_option maxRecDepth 100000
namespace Go.Proofs.YtacfcoilmdhgnaaGreatDoor.PFnExactExecute
open Go.RowKit Go.Proofs.YtacfcoilmdhgnaaGreatDoorW.PrintWords Go.Proofs.YtacfcoilmdhgnaaGreatDoorW.PrintLast Go.Proofs.YtacfcoilmdhgnaaGreatDoorW.PrintMore
attribute [local go_sem] Dy Dx D0 D1 Dc De DA Dz   -- for this text's walks alone
set_option linter.unusedVariables false
set_option linter.unusedSimpArgs false
def BS.l0:Nat→Int→Int→Int→Int→Option (Int)
 | 0,_,_,_,_=>none
 | k+1,x0,x1,x2,x7=>if x1>0 then (if (Int.tmod x1 2)=1 then (if x2=0 then (none) else (BS.l0 k (Int.tmod (wrap64 (x0*x0)) x2) (wrap64 (Int.tdiv x1 2)) x2 (Int.tmod (wrap64 (x7*x0)) x2))) else (if x2=0 then (none) else (BS.l0 k (Int.tmod (wrap64 (x0*x0)) x2) (wrap64 (Int.tdiv x1 2)) x2 x7))) else (some x7)
def BS.f (k:Nat) (a0:Int) (a1:Int) (a2:Int):Option (Int):=if a2=0 then (none) else ((CW.f a0 a2).bind fun t411=>(BS.l0 k t411 a1 a2 ((1:Int)%a2)))
theorem BS.calls (k:Nat) (a0:Int) (a1:Int) (a2:Int) (r:Int) (w:World) (h:BS.f k a0 a1 a2=some r) :
  Calls Tryz.prog 157 #[.int .i64 a0,.int .i64 a1,.int .i64 a2] w fun e w'=>e = .returned (.int .i64 r)∧Bh w w':=by
 unfold BS.f at h;have H:=h;clear h
 rcases Zq.ii H with ⟨c4,H⟩|⟨c4,H⟩
 ·exact absurd H (by simp)
 ·obtain ⟨t411,A5,H⟩:=Zs.be H;have H':=Aa.mk H;clear H
  go_enter Tryz.func157,Tryz.ntmps157
  go_wp2_with (((with_reducible refine Ab (f:=123) rfl ?_);refine Zq.gp Tryz.func123 (CW.calls _ _ _ _ A5.out) ?_;intro nd))
  go_loopg [0,1,7] k (fun kq v0 v1 v7 w' => ∃(x0_1:Int) (x1_1:Int) (x7_1:Int),v0 = .int .i64 x0_1∧v1 = .int .i64 x1_1∧v7 = .int .i64 x7_1∧Aa (BS.l0 kq x0_1 x1_1 a2 x7_1=some r)∧Aa (kq≤k)∧Bh w w')
  case atStart=>exact ⟨(t411),(a1),((1:Int)%a2),Zs.auS,Zs.auS,Zs.auS,H',⟨Nat.le_refl _⟩,Zq.dr⟩
  case round =>
   clear H'
   obtain ⟨x0_1,x1_1,x7_1,rfl,rfl,rfl,HA,HK1,⟨m1,rfl⟩⟩:=hrel;cases gk with
   | zero=>exact absurd HA.out (by simp [BS.l0])
   | succ k1 =>
    have H:=HA.out;clear HA;simp only [BS.l0] at H
    rcases Zq.ii H with ⟨c6,H⟩|⟨c6,H⟩
    ·have c6b0:decide (0<x1_1)=true:=decide_eq_true c6;clear c6
     rcases Zq.ii H with ⟨c7,H⟩|⟨c7,H⟩
     ·have c7b0:=beq_iff_eq.mpr c7;clear c7
      rcases Zq.ii H with ⟨c8,H⟩|⟨c8,H⟩
      ·exact absurd H (by simp)
      ·have H':=Aa.mk H;clear H;go_wp2
       go_roundg k1
       case measure=>have:=HK1.out;omega
       case rel=>exact ⟨(Int.tmod (wrap64 (x0_1*x0_1)) a2),(wrap64 (Int.tdiv x1_1 2)),(Int.tmod (wrap64 (x7_1*x0_1)) a2),Zs.auS,Zs.auS,Zs.auS,H',⟨by have:=HK1.out;omega⟩,Zq.dr⟩
     ·have c7b0:=beq_eq_false_iff_ne.mpr c7
      rcases Zq.ii H with ⟨c9,H⟩|⟨c9,H⟩
      ·exact absurd H (by simp)
      ·have H':=Aa.mk H;clear H;go_wp2
       go_roundg k1
       case measure=>have:=HK1.out;omega
       case rel=>exact ⟨(Int.tmod (wrap64 (x0_1*x0_1)) a2),(wrap64 (Int.tdiv x1_1 2)),(x7_1),Zs.auS,Zs.auS,Zs.auS,H',⟨by have:=HK1.out;omega⟩,Zq.dr⟩
    ·have c6b0:decide (0<x1_1)=false:=decide_eq_false c6;clear c6;obtain rfl:=Option.some.inj H;go_wp2;go_ret
     exact ⟨Zs.auS,Zq.dr⟩
def B9.f (k:Nat) (a0:Int) (a1:Int):Option (Int):=(BS.f k a0 (wrap64 (Int.tdiv (wrap64 (a1-1)) 2)) a1).bind fun t412=>(if t412=(wrap64 (a1-1)) then (some (-1)) else (some t412))
theorem B9.calls (k:Nat) (a0:Int) (a1:Int) (r:Int) (w:World) (h:B9.f k a0 a1=some r) :
  Calls Tryz.prog 125 #[.int .i64 a0,.int .i64 a1] w fun e w'=>e = .returned (.int .i64 r)∧Bh w w':=by
 unfold B9.f at h;have H:=h;clear h;obtain ⟨t412,A3,H⟩:=Zs.be H
 rcases Zq.ii H with ⟨c4,H⟩|⟨c4,H⟩
 ·have c4b0:=beq_iff_eq.mpr c4;clear c4;obtain rfl:=Option.some.inj H
  go_enter Tryz.func125,Tryz.ntmps125
  go_wp2_with (((with_reducible refine Ab (f:=157) rfl ?_);refine Zq.gp Tryz.func157 (BS.calls _ _ _ _ _ _ A3.out) ?_;intro nd))
  go_ret
  exact ⟨Zs.auS,Zq.dr⟩
 ·have c4b0:=beq_eq_false_iff_ne.mpr c4;obtain rfl:=Option.some.inj H
  go_enter Tryz.func125,Tryz.ntmps125
  go_wp2_with (((with_reducible refine Ab (f:=157) rfl ?_);refine Zq.gp Tryz.func157 (BS.calls _ _ _ _ _ _ A3.out) ?_;intro nd))
  go_ret
  exact ⟨Zs.auS,Zq.dr⟩
def B3.f (k:Nat) (a0:Int) (a1:Int) (a2:Int):Option (Int):=if a2=0 then (if a0<0 then (if a1<0 then (some (-1)) else (some 1)) else (some 1)) else ((AG.f k a0 a2).bind fun bt413=>((AG.f k a1 a2).bind fun bt415=>(if a2=2 then ((CW.f bt413.2 16).bind fun t417=>((CW.f bt415.2 16).bind fun t418=>((CM.f (wrap64 ((wrap64 ((wrap64 ((wrap64 (Int.tdiv (wrap64 (t417-1)) 2))*(wrap64 (Int.tdiv (wrap64 (t418-1)) 2))))+(wrap64 (bt413.1*(wrap64 (Int.tdiv (wrap64 ((wrap64 (t418*t418))-1)) 8))))))+(wrap64 (bt415.1*(wrap64 (Int.tdiv (wrap64 ((wrap64 (t417*t417))-1)) 8))))))).bind fun t419=>(some t419)))) else ((CM.f (wrap64 ((wrap64 (bt413.1*bt415.1))*(wrap64 (Int.tdiv (wrap64 (a2-1)) 2))))).bind fun t420=>(if (Int.tmod bt415.1 2)=1 then ((B9.f k bt413.2 a2).bind fun t421=>(if (Int.tmod bt413.1 2)=1 then ((B9.f k bt415.2 a2).bind fun t422=>(some (wrap64 ((wrap64 (t420*t421))*t422)))) else (some (wrap64 (t420*t421))))) else (if (Int.tmod bt413.1 2)=1 then ((B9.f k bt415.2 a2).bind fun t423=>(some (wrap64 (t420*t423)))) else (some t420)))))))
theorem B3.calls (k:Nat) (a0:Int) (a1:Int) (a2:Int) (r:Int) (w:World) (h:B3.f k a0 a1 a2=some r) :
  Calls Tryz.prog 72 #[.int .i64 a0,.int .i64 a1,.int .i64 a2] w fun e w'=>e = .returned (.int .i64 r)∧Bh w w':=by
 unfold B3.f at h;have H:=h;clear h
 rcases Zq.ii H with ⟨c4,H⟩|⟨c4,H⟩
 ·have c4b0:=beq_iff_eq.mpr c4;clear c4
  rcases Zq.ii H with ⟨c5,H⟩|⟨c5,H⟩
  ·have c5b0:=decide_eq_true c5;clear c5
   rcases Zq.ii H with ⟨c6,H⟩|⟨c6,H⟩
   ·have c6b0:=decide_eq_true c6;clear c6;obtain rfl:=Option.some.inj H
    go_enter Tryz.func72,Tryz.ntmps72
    go_wp2;go_ret
    exact ⟨Zs.auS,Zq.dr⟩
   ·have c6b0:=decide_eq_false c6;clear c6;obtain rfl:=Option.some.inj H
    go_enter Tryz.func72,Tryz.ntmps72
    go_wp2;go_ret
    exact ⟨Zs.auS,Zq.dr⟩
  ·have c5b0:=decide_eq_false c5;clear c5;obtain rfl:=Option.some.inj H
   go_enter Tryz.func72,Tryz.ntmps72
   go_wp2;go_ret
   exact ⟨Zs.auS,Zq.dr⟩
 ·have c4b0:=beq_eq_false_iff_ne.mpr c4;replace H:=Option.bind_eq_some_iff.mp H;obtain ⟨⟨t413,t414⟩,A70,H⟩:=H;try dsimp only at H;have A7:=Aa.mk A70;clear A70;replace H:=Option.bind_eq_some_iff.mp H;obtain ⟨⟨t415,t416⟩,A80,H⟩:=H;try dsimp only at H;have A8:=Aa.mk A80;clear A80
  rcases Zq.ii H with ⟨c9,H⟩|⟨c9,H⟩
  ·have c9b0:=beq_iff_eq.mpr c9;clear c9;obtain ⟨t417,A10,H⟩:=Zs.be H;obtain ⟨t418,A11,H⟩:=Zs.be H;obtain ⟨t419,A12,H⟩:=Zs.be H;obtain rfl:=Option.some.inj H
   go_enter Tryz.func72,Tryz.ntmps72
   go_wp2_with (first|((with_reducible refine Ab (f:=122) rfl ?_);refine Zq.gc (some 23) Tryz.func122 (AG.calls _ _ _ _ _ _ A7.out) ?_;rintro e w' ⟨rfl,⟨nd,rfl⟩⟩;refine ⟨_,rfl,?_⟩)|((with_reducible refine Ab (f:=122) rfl ?_);refine Zq.gc (some 29) Tryz.func122 (AG.calls _ _ _ _ _ _ A8.out) ?_;rintro e w' ⟨rfl,⟨nd,rfl⟩⟩;refine ⟨_,rfl,?_⟩)|((with_reducible refine Ab (f:=123) rfl ?_);refine Zq.gc (some 35) Tryz.func123 (CW.calls _ _ _ _ A10.out) ?_;rintro e w' ⟨rfl,⟨nd,rfl⟩⟩;refine ⟨_,rfl,?_⟩)|((with_reducible refine Ab (f:=123) rfl ?_);refine Zq.gc (some 37) Tryz.func123 (CW.calls _ _ _ _ A11.out) ?_;rintro e w' ⟨rfl,⟨nd,rfl⟩⟩;refine ⟨_,rfl,?_⟩)|((with_reducible refine Ab (f:=124) rfl ?_);refine Zq.gp Tryz.func124 (CM.calls _ _ _ A12.out) ?_;intro nd))
   go_ret
   exact ⟨Zs.auS,Zq.dr⟩
  ·have c9b0:=beq_eq_false_iff_ne.mpr c9;obtain ⟨t420,A13,H⟩:=Zs.be H
   rcases Zq.ii H with ⟨c14,H⟩|⟨c14,H⟩
   ·have c14b0:=beq_iff_eq.mpr c14;clear c14;obtain ⟨t421,A15,H⟩:=Zs.be H
    rcases Zq.ii H with ⟨c16,H⟩|⟨c16,H⟩
    ·have c16b0:=beq_iff_eq.mpr c16;clear c16;obtain ⟨t422,A17,H⟩:=Zs.be H;obtain rfl:=Option.some.inj H
     go_enter Tryz.func72,Tryz.ntmps72
     go_wp2_with (first|((with_reducible refine Ab (f:=122) rfl ?_);refine Zq.gc (some 23) Tryz.func122 (AG.calls _ _ _ _ _ _ A7.out) ?_;rintro e w' ⟨rfl,⟨nd,rfl⟩⟩;refine ⟨_,rfl,?_⟩)|((with_reducible refine Ab (f:=122) rfl ?_);refine Zq.gc (some 29) Tryz.func122 (AG.calls _ _ _ _ _ _ A8.out) ?_;rintro e w' ⟨rfl,⟨nd,rfl⟩⟩;refine ⟨_,rfl,?_⟩)|((with_reducible refine Ab (f:=124) rfl ?_);refine Zq.gp Tryz.func124 (CM.calls _ _ _ A13.out) ?_;intro nd)|((with_reducible refine Ab (f:=125) rfl ?_);refine Zq.gc (some 76) Tryz.func125 (B9.calls _ _ _ _ _ A15.out) ?_;rintro e w' ⟨rfl,⟨nd,rfl⟩⟩;refine ⟨_,rfl,?_⟩)|((with_reducible refine Ab (f:=125) rfl ?_);refine Zq.gc (some 84) Tryz.func125 (B9.calls _ _ _ _ _ A17.out) ?_;rintro e w' ⟨rfl,⟨nd,rfl⟩⟩;refine ⟨_,rfl,?_⟩))
     go_ret
     exact ⟨Zs.auS,Zq.dr⟩
    ·have c16b0:=beq_eq_false_iff_ne.mpr c16;obtain rfl:=Option.some.inj H
     go_enter Tryz.func72,Tryz.ntmps72
     go_wp2_with (first|((with_reducible refine Ab (f:=122) rfl ?_);refine Zq.gc (some 23) Tryz.func122 (AG.calls _ _ _ _ _ _ A7.out) ?_;rintro e w' ⟨rfl,⟨nd,rfl⟩⟩;refine ⟨_,rfl,?_⟩)|((with_reducible refine Ab (f:=122) rfl ?_);refine Zq.gc (some 29) Tryz.func122 (AG.calls _ _ _ _ _ _ A8.out) ?_;rintro e w' ⟨rfl,⟨nd,rfl⟩⟩;refine ⟨_,rfl,?_⟩)|((with_reducible refine Ab (f:=124) rfl ?_);refine Zq.gp Tryz.func124 (CM.calls _ _ _ A13.out) ?_;intro nd)|((with_reducible refine Ab (f:=125) rfl ?_);refine Zq.gp Tryz.func125 (B9.calls _ _ _ _ _ A15.out) ?_;intro nd))
     go_ret
     exact ⟨Zs.auS,Zq.dr⟩
   ·have c14b0:=beq_eq_false_iff_ne.mpr c14
    rcases Zq.ii H with ⟨c18,H⟩|⟨c18,H⟩
    ·have c18b0:=beq_iff_eq.mpr c18;clear c18;obtain ⟨t423,A19,H⟩:=Zs.be H;obtain rfl:=Option.some.inj H
     go_enter Tryz.func72,Tryz.ntmps72
     go_wp2_with (first|((with_reducible refine Ab (f:=122) rfl ?_);refine Zq.gc (some 23) Tryz.func122 (AG.calls _ _ _ _ _ _ A7.out) ?_;rintro e w' ⟨rfl,⟨nd,rfl⟩⟩;refine ⟨_,rfl,?_⟩)|((with_reducible refine Ab (f:=122) rfl ?_);refine Zq.gc (some 29) Tryz.func122 (AG.calls _ _ _ _ _ _ A8.out) ?_;rintro e w' ⟨rfl,⟨nd,rfl⟩⟩;refine ⟨_,rfl,?_⟩)|((with_reducible refine Ab (f:=124) rfl ?_);refine Zq.gp Tryz.func124 (CM.calls _ _ _ A13.out) ?_;intro nd)|((with_reducible refine Ab (f:=125) rfl ?_);refine Zq.gp Tryz.func125 (B9.calls _ _ _ _ _ A19.out) ?_;intro nd))
     go_ret
     exact ⟨Zs.auS,Zq.dr⟩
    ·have c18b0:=beq_eq_false_iff_ne.mpr c18;obtain rfl:=Option.some.inj H
     go_enter Tryz.func72,Tryz.ntmps72
     go_wp2_with (first|((with_reducible refine Ab (f:=122) rfl ?_);refine Zq.gc (some 23) Tryz.func122 (AG.calls _ _ _ _ _ _ A7.out) ?_;rintro e w' ⟨rfl,⟨nd,rfl⟩⟩;refine ⟨_,rfl,?_⟩)|((with_reducible refine Ab (f:=122) rfl ?_);refine Zq.gc (some 29) Tryz.func122 (AG.calls _ _ _ _ _ _ A8.out) ?_;rintro e w' ⟨rfl,⟨nd,rfl⟩⟩;refine ⟨_,rfl,?_⟩)|((with_reducible refine Ab (f:=124) rfl ?_);refine Zq.gp Tryz.func124 (CM.calls _ _ _ A13.out) ?_;intro nd))
     go_ret
     exact ⟨Zs.auS,Zq.dr⟩
def CS.f (k:Nat) (a0:Int) (a1:Int) (a2:Int):Option (Int):=(DS.f a0 a1).bind fun t424=>(if t424=true then ((Cj.f k a2).bind fun t425=>(if t425=true then ((B3.f k a0 a1 a2).bind fun t426=>(some t426)) else (some 0))) else (some 0))
theorem CS.calls (k:Nat) (a0:Int) (a1:Int) (a2:Int) (r:Int) (w:World) (h:CS.f k a0 a1 a2=some r) :
  Calls Tryz.prog 32 #[.int .i64 a0,.int .i64 a1,.int .i64 a2] w fun e w'=>e = .returned (.int .i64 r)∧Bh w w':=by
 unfold CS.f at h;have H:=h;clear h;obtain ⟨t424,A4,H⟩:=Zs.be H
 by_cases c5:t424=true
 ·subst c5;rw [if_pos rfl] at H;obtain ⟨t425,A6,H⟩:=Zs.be H
  by_cases c7:t425=true
  ·subst c7;rw [if_pos rfl] at H;obtain ⟨t426,A8,H⟩:=Zs.be H;obtain rfl:=Option.some.inj H
   go_enter Tryz.func32,Tryz.ntmps32
   go_wp2_with (first|((with_reducible refine Ab (f:=70) rfl ?_);refine Zq.gp Tryz.func70 (DS.calls _ _ _ _ A4.out) ?_;intro nd)|(go_at_call 71;(with_reducible refine (Cj.calls k a2 true _ A6.out).mono ?_);rintro e w' ⟨rfl,⟨nd,rfl⟩⟩)|((with_reducible refine Ab (f:=72) rfl ?_);refine Zq.gp Tryz.func72 (B3.calls _ _ _ _ _ _ A8.out) ?_;intro nd))
   go_ret
   exact ⟨Zs.auS,Zq.dr⟩
  ·replace c7:=Bool.eq_false_iff.mpr c7;subst c7;rw [if_neg (show ¬(false=true) by decide)] at H;obtain rfl:=Option.some.inj H
   go_enter Tryz.func32,Tryz.ntmps32
   go_wp2_with (first|((with_reducible refine Ab (f:=70) rfl ?_);refine Zq.gp Tryz.func70 (DS.calls _ _ _ _ A4.out) ?_;intro nd)|(go_at_call 71;(with_reducible refine (Cj.calls k a2 false _ A6.out).mono ?_);rintro e w' ⟨rfl,⟨nd,rfl⟩⟩))
   go_ret
   exact ⟨Zs.auS,Zq.dr⟩
 ·replace c5:=Bool.eq_false_iff.mpr c5;subst c5;rw [if_neg (show ¬(false=true) by decide)] at H;obtain rfl:=Option.some.inj H
  go_enter Tryz.func32,Tryz.ntmps32
  go_wp2_with (((with_reducible refine Ab (f:=70) rfl ?_);refine Zq.gp Tryz.func70 (DS.calls _ _ _ _ A4.out) ?_;intro nd))
  go_ret
  exact ⟨Zs.auS,Zq.dr⟩
def BU.l0:Nat→Int→Int→Option (Int)
 | 0,_,_=>none
 | k+1,x0,x1=>if x1=0 then (some x0) else (BU.l0 k x1 (Int.tmod x0 x1))
def BU.f (k:Nat) (a0:Int) (a1:Int):Option (Int):=(Bf.f a0).bind fun t427=>((Bf.f a1).bind fun t428=>(BU.l0 k t427 t428))
theorem BU.calls (k:Nat) (a0:Int) (a1:Int) (r:Int) (w:World) (h:BU.f k a0 a1=some r) :
  Calls Tryz.prog 136 #[.int .i64 a0,.int .i64 a1] w fun e w'=>e = .returned (.int .i64 r)∧Below w.heap.size w w':=by
 have HB:=Aa.mk (Below.refl w.heap.size w);unfold BU.f at h;have H:=h;clear h;obtain ⟨t427,A3,H⟩:=Zs.be H;obtain ⟨t428,A4,H⟩:=Zs.be H;have H':=Aa.mk H;clear H
 go_enter Tryz.func136,Tryz.ntmps136
 go_wp2_with (first|((with_reducible refine Ab (f:=134) rfl ?_);refine Zq.gc (some 7) Tryz.func134 (Bf.calls _ _ _ A3.out) ?_;rintro e w5 ⟨rfl,hb⟩;refine ⟨_,rfl,?_⟩;replace HB:=Zq.st hb;(try clear hb))|((with_reducible refine Ab (f:=134) rfl ?_);refine Zq.gc (some 9) Tryz.func134 (Bf.calls _ _ _ A4.out) ?_;rintro e w6 ⟨rfl,hb⟩;refine ⟨_,rfl,?_⟩;replace HB:=Zq.st hb;(try clear hb)))
 go_loopg [0,1] k (fun kq v0 v1 w' => ∃(x0_1:Int) (x1_1:Int),v0 = .int .i64 x0_1∧v1 = .int .i64 x1_1∧Aa (BU.l0 kq x0_1 x1_1=some r)∧Aa (kq≤k)∧Aa (Below w.heap.size w w'))
 case atStart=>exact ⟨(t427),(t428),Zs.auS,Zs.auS,H',⟨Nat.le_refl _⟩,⟨Zs.auHB⟩⟩
 case round =>
  clear H'
  obtain ⟨x0_1,x1_1,rfl,rfl,HA,HK1,HB⟩:=hrel;cases gk with
  | zero=>exact absurd HA.out (by simp [BU.l0])
  | succ k1 =>
   have H:=HA.out;clear HA;simp only [BU.l0] at H
   rcases Zq.ii H with ⟨c7,H⟩|⟨c7,H⟩
   ·have c7b1:=bne_eq_false_iff_eq.mpr c7;clear c7;obtain rfl:=Option.some.inj H;go_wp2;go_ret
    exact ⟨Zs.auR,Zs.auHB⟩
   ·have c7b1:=bne_iff_ne.mpr c7;have H':=Aa.mk H;clear H;go_wp2
    go_roundg k1
    case measure=>have:=HK1.out;omega
    case rel=>exact ⟨(x1_1),(Int.tmod x0_1 x1_1),Zs.auS,Zs.auS,H',⟨by have:=HK1.out;omega⟩,⟨Zs.auHB⟩⟩
mutual
def AE.l0:Nat→List Int→Int→Int→Bool→Int→Option (List Int)
 | 0,_,_,_,_,_=>none
 | k+1,x0,x3,x4,x5,x6=>if x6<(x0.length:Int) then (if 0≤x6 then ((BU.f k x3 (rd x0 x6)).bind fun t430=>(if (rd x0 x6)=0 then (AE.j1 k x0 t430 x4 x5 x6 false) else (AE.j1 k x0 t430 x4 x5 x6 x5))) else (none)) else (AE.l1 k x0 x3 x4 (([]:List Int)) 0)
def AE.j1:Nat→List Int→Int→Int→Bool→Int→Bool→Option (List Int)
 | 0,_,_,_,_,_,_=>none
 | k+1,x0,x3,x4,x5,x6,x28=>if x28=true then (if 0≤x6 then (if x6<(x0.length:Int) then (if (rd x0 x6)<0 then (AE.l0 k x0 x3 (-1) false (wrap64 (x6+1))) else (AE.l0 k x0 x3 x4 false (wrap64 (x6+1)))) else (none)) else (none)) else (AE.l0 k x0 x3 x4 x5 (wrap64 (x6+1)))
def AE.l1:Nat→List Int→Int→Int→List Int→Int→Option (List Int)
 | 0,_,_,_,_,_=>none
 | k+1,x0,x3,x4,x7,x8=>if x8<(x0.length:Int) then (if 0≤x8 then (if x3=0 then (none) else (if x7.length<17592186044416 then (AE.l1 k x0 x3 x4 (x7++[wrap64 (Int.tdiv (wrap64 (x4*(rd x0 x8))) x3)]) (wrap64 (x8+1))) else (none))) else (none)) else (some x7)
end
def AE.f (k:Nat) (l0:List Int):Option (List Int):=AE.l0 k l0 0 1 true 0
theorem AE.calls (k:Nat) (A0:Option Addr) (c0:Nat) (l0:List Int) (r:List Int) (w:World) (hr0:Kd.C (Kd.int .i64) w A0 l0.length l0) (hc0:l0.length≤c0) (h:AE.f k l0=some r) :
  Calls Tryz.prog 82 #[.slice A0 l0.length c0] w fun e w' => ∃v0_:Value,e = .returned (v0_)∧Kd.R (Kd.int .i64) 3 w' w.heap.size (fun _=>True) v0_ r∧Below w.heap.size w w':=by
 have HR0:=Aa.mk hr0;have HC0:=Aa.mk hc0;clear hr0 hc0;have HB:=Aa.mk (Below.refl w.heap.size w);unfold AE.f at h;have H:=h;clear h;have H':=Aa.mk H;clear H
 go_enter Tryz.func82,Tryz.ntmps82
 go_wp2
 go_loopg [3,4,5,6] k (fun kq v3 v4 v5 v6 w' => ∃(x3_1:Int) (x4_1:Int) (x5_1:Bool) (x6_1:Int),v3 = .int .i64 x3_1∧v4 = .int .i64 x4_1∧v5 = .bool x5_1∧v6 = .int .i64 x6_1∧Aa (AE.l0 kq l0 x3_1 x4_1 x5_1 x6_1=some r)∧Aa (kq≤k)∧Aa (Below w.heap.size w w'))
 case atStart=>exact ⟨(0),(1),(true),(0),Zs.auS,Zs.auS,Zs.auS,Zs.auS,H',⟨Nat.le_refl _⟩,⟨Zs.auHB⟩⟩
 case round =>
  clear H';obtain ⟨x3_1,x4_1,x5_1,x6_1,rfl,rfl,rfl,rfl,HA,HK1,HB⟩:=hrel;cases gk with
  | zero=>exact absurd HA.out (by simp [AE.l0])
  | succ k1 =>
   have H:=HA.out;clear HA;simp only [AE.l0] at H
   rcases Zq.ii H with ⟨c2,H⟩|⟨c2,H⟩
   ·have c2b0:=decide_eq_true c2;clear c2
    obtain ⟨c3,H⟩:=Zq.ip H;have c3b0:=decide_eq_true c3;clear c3;obtain ⟨t430,A4,H⟩:=Zs.be H;have HC5:=Aa.mk H;clear H;obtain ⟨ad429,e429,hx429_0,p429,q429⟩:=Zq.at_ HR0.out x6_1;cases e429;replace hx429_0:=Zq.ce HB.out hx429_0
    go_upto_region 8 with (((with_reducible refine Ab (f:=136) rfl ?_);refine Zq.gb Tryz.func136 (BU.calls _ _ _ _ _ A4.out) ?_;intro w6 hb;replace HB:=Zq.st hb;(try clear hb)))
    (try simp only [Act.put,List.setIfInBounds_toArray,List.set_cons_zero,List.set_cons_succ])
    go_cut [28] (fun v28 wc => ∃(kq:Nat) (x28_4:Bool),v28 = .bool x28_4∧Aa (AE.j1 kq l0 t430 x4_1 x5_1 x6_1 x28_4=some r)∧Aa (kq≤k1)∧Aa (Below w.heap.size w wc))
    case first =>
     have H:=HC5.out;clear HC5
     rcases Zq.ii H with ⟨c7,H⟩|⟨c7,H⟩
     ·have c7b1:=bne_eq_false_iff_eq.mpr c7;clear c7
      have H':=Aa.mk H;clear H;obtain ⟨ad431,e431,hx431_0,p431,q431⟩:=Zq.at_ HR0.out x6_1;obtain rfl:ad429=ad431:=(by injection e431);replace hx431_0:=Zq.ce HB.out hx431_0;go_wp2
      go_meet
      case rel=>exact ⟨_,(false),Zs.auS,H',⟨by have:=HK1.out;first|omega|exact Nat.le_refl _⟩,⟨Zs.auHB⟩⟩
     ·have c7b1:=bne_iff_ne.mpr c7
      have H':=Aa.mk H;clear H;obtain ⟨ad431,e431,hx431_0,p431,q431⟩:=Zq.at_ HR0.out x6_1;obtain rfl:ad429=ad431:=(by injection e431);replace hx431_0:=Zq.ce HB.out hx431_0;go_wp2
      go_meet
      case rel=>exact ⟨_,(x5_1),Zs.auS,H',⟨by have:=HK1.out;first|omega|exact Nat.le_refl _⟩,⟨Zs.auHB⟩⟩
    case rest =>
     clear HC5
     obtain ⟨kq,x28_4,rfl,HA,HJ4,HB⟩:=hcut;cases kq with
     | zero=>exact absurd HA.out (by simp [AE.j1])
     | succ kj4 =>
      have H:=HA.out;clear HA;simp only [AE.j1] at H
      by_cases c8:x28_4=true
      ·subst c8;rw [if_pos rfl] at H
       obtain ⟨c9,H⟩:=Zq.ip H;have c9b0:=decide_eq_true c9;clear c9
       obtain ⟨c10,H⟩:=Zq.ip H;have c10b0:=decide_eq_true c10;clear c10
       rcases Zq.ii H with ⟨c11,H⟩|⟨c11,H⟩
       ·have c11b0:=decide_eq_true c11;clear c11;have H':=Aa.mk H;clear H;obtain ⟨ad432,e432,hx432_0,p432,q432⟩:=Zq.at_ HR0.out x6_1;obtain rfl:ad429=ad432:=(by injection e432);replace hx432_0:=Zq.ce HB.out hx432_0;go_wp2
        go_roundg kj4
        case measure=>have:=HK1.out;have:=HJ4.out;omega
        case rel=>exact ⟨(t430),((-1)),(false),(wrap64 (x6_1+1)),Zs.auS,Zs.auS,Zs.auS,Zs.auS,H',⟨by have:=HK1.out;have:=HJ4.out;omega⟩,⟨Zs.auHB⟩⟩
       ·have c11b0:=decide_eq_false c11;clear c11;have H':=Aa.mk H;clear H;obtain ⟨ad432,e432,hx432_0,p432,q432⟩:=Zq.at_ HR0.out x6_1;obtain rfl:ad429=ad432:=(by injection e432);replace hx432_0:=Zq.ce HB.out hx432_0;go_wp2
        go_roundg kj4
        case measure=>have:=HK1.out;have:=HJ4.out;omega
        case rel=>exact ⟨(t430),(x4_1),(false),(wrap64 (x6_1+1)),Zs.auS,Zs.auS,Zs.auS,Zs.auS,H',⟨by have:=HK1.out;have:=HJ4.out;omega⟩,⟨Zs.auHB⟩⟩
      ·replace c8:=Bool.eq_false_iff.mpr c8;subst c8;rw [if_neg (show ¬(false=true) by decide)] at H;have H':=Aa.mk H;clear H;go_wp2
       go_roundg kj4
       case measure=>have:=HK1.out;have:=HJ4.out;omega
       case rel=>exact ⟨(t430),(x4_1),(x5_1),(wrap64 (x6_1+1)),Zs.auS,Zs.auS,Zs.auS,Zs.auS,H',⟨by have:=HK1.out;have:=HJ4.out;omega⟩,⟨Zs.auHB⟩⟩
   ·have c2b0:=decide_eq_false c2;clear c2;obtain ⟨y433,hyy⟩ : ∃y_:List Int,y_=(([]:List Int)):=⟨_,rfl⟩
    replace H:(AE.l1 k1 l0 x3_1 x4_1 y433 0)=some r:=Zs.auY
    have Ny433:=Aa.mk hyy;clear hyy;have H':=Aa.mk H;clear H
    go_wp2_with (((with_reducible refine Bg (N:=34) rfl ?_);refine Zq.li ([]:List Int) ?_;intro v434 w12 ho13 hb;(first|rw [← Ny433.out] at ho13|(simp only [Int.reduceToNat] at ho13;rw [← Ny433.out] at ho13));have HO435:=Zq.lw ho13;replace HB:=Zq.st hb;clear hb ho13))
    go_loopg [7,8] k1 (fun kq v7 v8 w' => ∃(x7_2:List Int) (x8_2:Int),v8 = .int .i64 x8_2∧Aa (AE.l1 kq l0 x3_1 x4_1 x7_2 x8_2=some r)∧Aa (kq≤k1)∧Aa (Kd.R (Kd.int .i64) 3 w' w.heap.size (fun _=>True) v7 x7_2)∧Aa (Below w.heap.size w w'))
    case atStart=>exact ⟨(y433),(0),Zs.auS,H',⟨Nat.le_refl _⟩,⟨(Zs.mvR HO435.out)⟩,⟨Zs.auHB⟩⟩
    case round =>
     clear H'
     obtain ⟨x7_2,x8_2,rfl,HA,HK2,HO_7,HB⟩:=hrel;cases gk with
     | zero=>exact absurd HA.out (by simp [AE.l1])
     | succ k2 =>
      have H:=HA.out;clear HA;simp only [AE.l1] at H
      rcases Zq.ii H with ⟨c14,H⟩|⟨c14,H⟩
      ·have c14b0:=decide_eq_true c14;clear c14
       obtain ⟨c15,H⟩:=Zq.ip H;have c15b0:=decide_eq_true c15;clear c15
       by_cases c16:x3_1=0
       ·rw [if_pos c16] at H;exact absurd H (by simp)
       ·rw [if_neg c16] at H
        obtain ⟨c17,H⟩:=Zq.ip H;have LMc17:=Aa.mk c17;clear c17;(try rw [Option.bind_some] at H);generalize hyy:(x7_2++[wrap64 (Int.tdiv (wrap64 (x4_1*(rd l0 x8_2))) x3_1)]:List Int)=y437 at H;have Ny437:=Aa.mk hyy.symm;clear hyy;have H':=Aa.mk H;clear H;obtain ⟨ad436,e436,hx436_0,p436,q436⟩:=Zq.at_ HR0.out x8_2;cases e436;replace hx436_0:=Zq.ce HB.out hx436_0
        go_wp2_with (((with_reducible refine AW (b := .append) (xs:=#[.tmp 41,.tmp 50]) rfl ?_);at_builtin;refine Zq.ap (.tmp 41) (.tmp 50) 27 Tryz.underlying27 DQ u7 x7_2 (wrap64 (Int.tdiv (wrap64 (x4_1*(rd l0 x8_2))) x3_1)) (fun _=>True) (fun _ _=>trivial) ((Zs.mvR HO_7.out)) LMc17.out ?_;intro v438 w18 ho hb hg hat;rw [← Ny437.out] at ho;replace HB:=Aa.mk (hb);have HO439:=Aa.mk (ho);clear HO_7;clear ho hb hg hat))
        go_roundg k2
        case measure=>have:=HK1.out;have:=HK2.out;omega
        case rel=>exact ⟨(y437),(wrap64 (x8_2+1)),Zs.auS,H',⟨by have:=HK1.out;have:=HK2.out;omega⟩,⟨(Zs.mvR HO439.out)⟩,⟨Zs.auHB⟩⟩
      ·have c14b0:=decide_eq_false c14;clear c14;obtain rfl:=Option.some.inj H;go_wp2;go_ret
       exact ⟨_,Zs.auR,(Zs.mvR HO_7.out),Zs.auHB⟩
mutual
def Az.l0:Nat→Int→List Int→Int→Option (List Int)
 | 0,_,_,_=>none
 | k+1,x0,x3,x4=>if (wrap64 (x4*x4))≤x0 then (if x4=0 then (none) else (if (Int.tmod x0 x4)=0 then (if x3.length<17592186044416 then (Az.j1 k x0 (x3++[x4]) x4) else (none)) else (Az.j1 k x0 x3 x4))) else (if x0>1 then (if x3.length<17592186044416 then (some (x3++[x0])) else (none)) else (some x3))
def Az.j1:Nat→Int→List Int→Int→Option (List Int)
 | 0,_,_,_=>none
 | k+1,x0,x3,x4=>Az.l1 k x0 x3 x4
def Az.l1:Nat→Int→List Int→Int→Option (List Int)
 | 0,_,_,_=>none
 | k+1,x0,x3,x4=>if x4=0 then (none) else (if (Int.tmod x0 x4)=0 then (Az.l1 k (wrap64 (Int.tdiv x0 x4)) x3 x4) else (Az.l0 k x0 x3 (wrap64 (x4+1))))
end
def Az.f (k:Nat) (a0:Int):Option (List Int):=(Bf.f a0).bind fun t443=>(Az.l0 k t443 (([]:List Int)) 2)
theorem Az.calls (k:Nat) (a0:Int) (r:List Int) (w:World) (h:Az.f k a0=some r) :
  Calls Tryz.prog 175 #[.int .i64 a0] w fun e w' => ∃v0_:Value,e = .returned (v0_)∧Kd.R (Kd.int .i64) 3 w' w.heap.size (fun _=>True) v0_ r∧Below w.heap.size w w':=by
 have HB:=Aa.mk (Below.refl w.heap.size w);unfold Az.f at h;have H:=h;clear h;obtain ⟨y440,hyy⟩ : ∃y_:List Int,y_=(([]:List Int)):=⟨_,rfl⟩
 replace H:((Bf.f a0).bind fun t443=>(Az.l0 k t443 y440 2))=some r:=Zs.auY
 have Ny440:=Aa.mk hyy;clear hyy;obtain ⟨t443,A2,H⟩:=Zs.be H;have H':=Aa.mk H;clear H
 go_enter Tryz.func175,Tryz.ntmps175
 go_wp2_with (first|((with_reducible refine Bg (N:=5) rfl ?_);refine Zq.li ([]:List Int) ?_;intro v441 w3 ho4 hb;(first|rw [← Ny440.out] at ho4|(simp only [Int.reduceToNat] at ho4;rw [← Ny440.out] at ho4));have HO442:=Zq.lw ho4;replace HB:=Zq.st hb;clear hb ho4)|((with_reducible refine Ab (f:=134) rfl ?_);refine Zq.gb Tryz.func134 (Bf.calls _ _ _ A2.out) ?_;intro w5 hb;replace HO442:=Zq.rb HO442.out hb;replace HB:=Zq.st hb;(try clear hb)))
 go_loopg [0,3,4] k (fun kq v0 v3 v4 w' => ∃(x0_1:Int) (x3_1:List Int) (x4_1:Int),v0 = .int .i64 x0_1∧v4 = .int .i64 x4_1∧Aa (Az.l0 kq x0_1 x3_1 x4_1=some r)∧Aa (kq≤k)∧Aa (Kd.R (Kd.int .i64) 3 w' w.heap.size (fun _=>True) v3 x3_1)∧Aa (Below w.heap.size w w'))
 case atStart=>exact ⟨(t443),(y440),(2),Zs.auS,Zs.auS,H',⟨Nat.le_refl _⟩,⟨(Zs.mvR HO442.out)⟩,⟨Zs.auHB⟩⟩
 case round =>
  clear H'
  obtain ⟨x0_1,x3_1,x4_1,rfl,rfl,HA,HK1,HO_3,HB⟩:=hrel;cases gk with
  | zero=>exact absurd HA.out (by simp [Az.l0])
  | succ k1 =>
   have H:=HA.out;clear HA;simp only [Az.l0] at H
   rcases Zq.ii H with ⟨c6,H⟩|⟨c6,H⟩
   ·have c6b0:=decide_eq_true c6;clear c6
    rcases Zq.ii H with ⟨c7,H⟩|⟨c7,H⟩
    ·exact absurd H (by simp)
    ·have HC8:=Aa.mk H;clear H
     go_upto_if 18 with (fail)
     go_cut [3] (fun v3 wc => ∃(kq:Nat) (x3_7:List Int),Aa (Az.j1 kq x0_1 x3_7 x4_1=some r)∧Aa (kq≤k1)∧Aa (Kd.R (Kd.int .i64) 3 wc w.heap.size (fun _=>True) v3 x3_7)∧Aa (Below w.heap.size w wc))
     case first =>
      have H:=HC8.out;clear HC8
      rcases Zq.ii H with ⟨c9,H⟩|⟨c9,H⟩
      ·have c9b0:=beq_iff_eq.mpr c9;clear c9
       rw [c9b0]
       obtain ⟨c10,H⟩:=Zq.ip H;have LMc10:=Aa.mk c10;clear c10;(try rw [Option.bind_some] at H);generalize hyy:(x3_1++[x4_1]:List Int)=y447 at H;have Ny447:=Aa.mk hyy.symm;clear hyy;have H':=Aa.mk H;clear H
       go_wp2_with (((with_reducible refine AW (b := .append) (xs:=#[.tmp 19,.tmp 21]) rfl ?_);at_builtin;refine Zq.ap (.tmp 19) (.tmp 21) 27 Tryz.underlying27 DQ u3 x3_1 x4_1 (fun _=>True) (fun _ _=>trivial) ((Zs.mvR HO_3.out)) LMc10.out ?_;intro v448 w11 ho hb hg hat;rw [← Ny447.out] at ho;replace HB:=Aa.mk (hb);have HO449:=Aa.mk (ho);clear HO_3;clear ho hb hg hat))
       go_meet
       case rel=>exact ⟨_,(y447),H',⟨by have:=HK1.out;first|omega|exact Nat.le_refl _⟩,⟨(Zs.mvR HO449.out)⟩,⟨Zs.auHB⟩⟩
      ·have c9b0:=beq_eq_false_iff_ne.mpr c9
       rw [c9b0]
       have H':=Aa.mk H;clear H;go_wp2
       go_meet
       case rel=>exact ⟨_,(x3_1),H',⟨by have:=HK1.out;first|omega|exact Nat.le_refl _⟩,⟨(Zs.mvR HO_3.out)⟩,⟨Zs.auHB⟩⟩
     case rest =>
      clear HC8
      obtain ⟨kq,x3_7,HA,HJ7,HO_3,HB⟩:=hcut;cases kq with
      | zero=>exact absurd HA.out (by simp [Az.j1])
      | succ kj7 =>
       have H:=HA.out;clear HA;simp only [Az.j1] at H;have H':=Aa.mk H;clear H;go_wp2
       go_loopg [0] kj7 (fun kq v0 w' => ∃(x0_3:Int),v0 = .int .i64 x0_3∧Aa (Az.l1 kq x0_3 x3_7 x4_1=some r)∧Aa (kq≤kj7)∧Aa (Kd.R (Kd.int .i64) 3 w' w.heap.size (fun _=>True) u3 x3_7)∧Aa (Below w.heap.size w w'))
       case atStart=>exact ⟨(x0_1),Zs.auS,H',⟨Nat.le_refl _⟩,⟨(Zs.mvR HO_3.out)⟩,⟨Zs.auHB⟩⟩
       case round =>
        clear H'
        obtain ⟨x0_3,rfl,HA,HK3,HO_3,HB⟩:=hrel;cases gk with
        | zero=>exact absurd HA.out (by simp [Az.l1])
        | succ k3 =>
         have H:=HA.out;clear HA;simp only [Az.l1] at H
         by_cases c12:x4_1=0
         ·rw [if_pos c12] at H;exact absurd H (by simp)
         ·rw [if_neg c12] at H
          rcases Zq.ii H with ⟨c13,H⟩|⟨c13,H⟩
          ·have c13b0:=beq_iff_eq.mpr c13;clear c13;have H':=Aa.mk H;clear H;go_wp2
           go_roundg k3
           case measure=>have:=HK1.out;have:=HJ7.out;have:=HK3.out;omega
           case rel=>exact ⟨(wrap64 (Int.tdiv x0_3 x4_1)),Zs.auS,H',⟨by have:=HK1.out;have:=HJ7.out;have:=HK3.out;omega⟩,⟨(Zs.mvR HO_3.out)⟩,⟨Zs.auHB⟩⟩
          ·have c13b0:=beq_eq_false_iff_ne.mpr c13;have H':=Aa.mk H;clear H;go_wp2
           go_roundg k3
           case measure=>have:=HK1.out;have:=HJ7.out;have:=HK3.out;omega
           case rel=>exact ⟨(x0_3),(x3_7),(wrap64 (x4_1+1)),Zs.auS,Zs.auS,H',⟨by have:=HK1.out;have:=HJ7.out;have:=HK3.out;omega⟩,⟨(Zs.mvR HO_3.out)⟩,⟨Zs.auHB⟩⟩
   ·have c6b0:=decide_eq_false c6;clear c6
    rcases Zq.ii H with ⟨c14,H⟩|⟨c14,H⟩
    ·have c14b0:decide (1<x0_1)=true:=decide_eq_true c14;clear c14
     obtain ⟨c15,H⟩:=Zq.ip H;have LMc15:=Aa.mk c15;clear c15;(try rw [Option.bind_some] at H);generalize hyy:(x3_1++[x0_1]:List Int)=y444 at H;have Ny444:=Aa.mk hyy.symm;clear hyy;obtain rfl:=Option.some.inj H
     go_wp2_with (((with_reducible refine AW (b := .append) (xs:=#[.tmp 32,.tmp 34]) rfl ?_);at_builtin;refine Zq.ap (.tmp 32) (.tmp 34) 27 Tryz.underlying27 DQ u3 x3_1 x0_1 (fun _=>True) (fun _ _=>trivial) ((Zs.mvR HO_3.out)) LMc15.out ?_;intro v445 w16 ho hb hg hat;rw [← Ny444.out] at ho;replace HB:=Aa.mk (hb);have HO446:=Aa.mk (ho);clear HO_3;clear ho hb hg hat))
     go_ret
     exact ⟨_,Zs.auR,(Zs.mvR HO446.out),Zs.auHB⟩
    ·have c14b0:decide (1<x0_1)=false:=decide_eq_false c14;clear c14;obtain rfl:=Option.some.inj H;go_wp2;go_ret
     exact ⟨_,Zs.auR,(Zs.mvR HO_3.out),Zs.auHB⟩
end Go.Proofs.YtacfcoilmdhgnaaGreatDoor.PFnExactExecute
