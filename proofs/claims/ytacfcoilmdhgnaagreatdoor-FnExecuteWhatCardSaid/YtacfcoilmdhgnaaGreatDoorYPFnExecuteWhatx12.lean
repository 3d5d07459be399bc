/- A function's Lean twin and its walk, written by a program of this session. -/
import Derived.Test.YtacfcoilmdhgnaaGreatDoorYPFnExecuteWhatx11
set_option maxHeartbeats 8000000
set_option maxRecDepth 100000
namespace Go.Proofs.YtacfcoilmdhgnaaGreatDoor.PFnExecuteWhat
open Go.RowKit Go.Proofs.YtacfcoilmdhgnaaGreatDoorW.PrintWords Go.Proofs.YtacfcoilmdhgnaaGreatDoorW.PrintLast Go.Proofs.YtacfcoilmdhgnaaGreatDoorW.PrintMore
attribute [local go_sem] DN DO El En Du Dt DP DK   -- for this text's walks alone
set_option linter.unusedVariables false
set_option linter.unusedSimpArgs false
def Cz.f (a0:ByteArray) (a1:Bool):Option (ByteArray):=if a1=true then if a0.size+1≤9223372036854775807 then some (a0++(⟨#[10]⟩:ByteArray)) else none else some (⟨#[110,111,10]⟩:ByteArray)
theorem Cz.calls (a0:ByteArray) (a1:Bool) (r:ByteArray) (w:World) (h:Cz.f a0 a1=some r) :
  Calls Tryz.prog 152 #[.string a0,.bool a1] w fun e w'=>e = .returned (.string r)∧Bo w w':=by
 unfold Cz.f at h;have H:=h;clear h
 cases a1
 ·replace H:=Zq.fh H;obtain rfl:=Option.some.inj H
  go_enter Tryz.func152,Tryz.ntmps152
  go_wp2;go_ret
  exact ⟨Zs.auS,Zq.dr⟩
 ·replace H:=Zq.th H
  obtain ⟨c4,H⟩:=Zq.ip H
  try have c4b2:(9223372036854775807<a0.size+1)=False:=eq_false (Nat.not_lt.2 c4)
  obtain rfl:=Option.some.inj H
  go_enter Tryz.func152,Tryz.ntmps152
  go_wp2;go_ret
  exact ⟨Zs.auS,Zq.dr⟩
def BE.l0:Nat→List Int→ByteArray→Int→Option (ByteArray)
 | 0,_,_,_=>none
 | k+1,x0,x3,x4=>if x4<(x0.length:Int) then if x4>0 then if x3.size+1≤9223372036854775807 then if 0≤x4 then (AP.f k (rd x0 x4)).bind fun t5=>(if (x3++(⟨#[32]⟩:ByteArray)).size+t5.size≤9223372036854775807 then BE.l0 k x0 ((x3++(⟨#[32]⟩:ByteArray))++t5) (wrap64 (x4+1)) else none) else none else none else if 0≤x4 then (AP.f k (rd x0 x4)).bind fun t6=>(if x3.size+t6.size≤9223372036854775807 then BE.l0 k x0 (x3++t6) (wrap64 (x4+1)) else none) else none else some x3
def BE.f (k:Nat) (l0:List Int):Option (ByteArray):=BE.l0 k l0 (⟨#[]⟩:ByteArray) 0
theorem BE.calls (k:Nat) (A0:Option Addr) (c0:Nat) (l0:List Int) (r:ByteArray) (w:World) (hr0:Kd.C (Kd.int .i64) w A0 l0.length l0) (hc0:l0.length≤c0) (h:BE.f k l0=some r) :
  Calls Tryz.prog 154 #[.slice A0 l0.length c0] w fun e w'=>e = .returned (.string r)∧Below w.heap.size w w':=by
 have HR0:=Aa.mk hr0;have HC0:=Aa.mk hc0;clear hr0 hc0;have HB:=Aa.mk (Below.refl w.heap.size w);unfold BE.f at h;have H:=h;clear h;have H':=Aa.mk H;clear H
 go_enter Tryz.func154,Tryz.ntmps154
 go_wp2
 go_loopg [3,4] k (fun kq v3 v4 w' => ∃(x3_1:ByteArray) (x4_1:Int),v3 = .string x3_1∧v4 = .int .i64 x4_1∧Aa (BE.l0 kq l0 x3_1 x4_1=some r)∧Aa (kq≤k)∧Aa (Below w.heap.size w w'))
 case atStart=>exact ⟨((⟨#[]⟩:ByteArray)),(0),Zs.auS,Zs.auS,H',⟨Nat.le_refl _⟩,⟨Zs.auHB⟩⟩
 case round =>
  clear H'
  obtain ⟨x3_1,x4_1,rfl,rfl,HA,HK1,HB⟩:=hrel;cases gk with
  | zero=>exact absurd HA.out (by simp [BE.l0])
  | succ k1 =>
   have H:=HA.out;clear HA;simp only [BE.l0] at H
   rcases Zq.jd H with ⟨c2b0,H⟩|⟨c2b0,H⟩
   ·rcases Zq.jg H with ⟨c3b0,H⟩|⟨c3b0,H⟩
    ·obtain ⟨c4,H⟩:=Zq.ip H
     try have c4b2:(9223372036854775807<x3_1.size+1)=False:=eq_false (Nat.not_lt.2 c4)
     obtain ⟨c5b0,H⟩:=Zq.pd H;obtain ⟨t14,A6,H⟩:=Zs.be H
     obtain ⟨c7,H⟩:=Zq.ip H
     try skip
     have c7b4:=eq_false (Nat.not_lt.2 c7);simp only [ByteArray.size_append,show (⟨#[32]⟩:ByteArray).size=1 from rfl] at c7b4;have H':=Aa.mk H;clear H;obtain ⟨ad13,e13,hx13_0,p13,q13⟩:=Zq.at_ HR0.out x4_1;cases e13;replace hx13_0:=Zq.ce HB.out hx13_0
     go_wp2_with (((with_reducible refine Ab (f:=53) rfl ?_);refine Zq.gb Tryz.func53 (AP.calls _ _ _ _ A6.out) ?_;intro w8 hb;replace HB:=Zq.st hb;(try clear hb)))
     go_roundg k1
     case measure=>have:=HK1.out;omega
     case rel=>exact ⟨((x3_1++(⟨#[32]⟩:ByteArray))++t14),(wrap64 (x4_1+1)),Zs.auS,Zs.auS,H',⟨by have:=HK1.out;omega⟩,⟨Zs.auHB⟩⟩
    ·obtain ⟨c9b0,H⟩:=Zq.pd H;obtain ⟨t16,A10,H⟩:=Zs.be H
     obtain ⟨c11,H⟩:=Zq.ip H
     try have c11b2:(9223372036854775807<x3_1.size+t16.size)=False:=eq_false (Nat.not_lt.2 c11)
     have H':=Aa.mk H;clear H;obtain ⟨ad15,e15,hx15_0,p15,q15⟩:=Zq.at_ HR0.out x4_1;cases e15;replace hx15_0:=Zq.ce HB.out hx15_0
     go_wp2_with (((with_reducible refine Ab (f:=53) rfl ?_);refine Zq.gb Tryz.func53 (AP.calls _ _ _ _ A10.out) ?_;intro w12 hb;replace HB:=Zq.st hb;(try clear hb)))
     go_roundg k1
     case measure=>have:=HK1.out;omega
     case rel=>exact ⟨(x3_1++t16),(wrap64 (x4_1+1)),Zs.auS,Zs.auS,H',⟨by have:=HK1.out;omega⟩,⟨Zs.auHB⟩⟩
   ·obtain rfl:=Option.some.inj H;go_wp2;go_ret
    exact ⟨Zs.auR,Zs.auHB⟩
def Bh.l0:Nat→List Int→Int→Int→Option (Int)
 | 0,_,_,_=>none
 | k+1,x0,x3,x4=>if x4<(x0.length:Int) then if 0≤x4 then Bh.l0 k x0 (wrap64 (x3*(rd x0 x4))) (wrap64 (x4+1)) else none else some x3
def Bh.f (k:Nat) (l0:List Int):Option (Int):=Bh.l0 k l0 1 0
theorem Bh.calls (k:Nat) (A0:Option Addr) (c0:Nat) (l0:List Int) (r:Int) (w:World) (hr0:Kd.C (Kd.int .i64) w A0 l0.length l0) (hc0:l0.length≤c0) (h:Bh.f k l0=some r) :
  Calls Tryz.prog 131 #[.slice A0 l0.length c0] w fun e w'=>e = .returned (.int .i64 r)∧Bo w w':=by
 have HR0:=Aa.mk hr0;have HC0:=Aa.mk hc0;clear hr0 hc0;unfold Bh.f at h;have H:=h;clear h;have H':=Aa.mk H;clear H
 go_enter Tryz.func131,Tryz.ntmps131
 go_wp2
 go_loopg [3,4] k (fun kq v3 v4 w' => ∃x3_1 x4_1:Int,v3 = .int .i64 x3_1∧v4 = .int .i64 x4_1∧Aa (Bh.l0 kq l0 x3_1 x4_1=some r)∧Aa (kq≤k)∧Bo w w')
 case atStart=>exact ⟨(1),(0),Zs.auS,Zs.auS,H',⟨Nat.le_refl _⟩,Zq.dr⟩
 case round =>
  clear H'
  obtain ⟨x3_1,x4_1,rfl,rfl,HA,HK1,⟨m1,rfl⟩⟩:=hrel;cases gk with
  | zero=>exact absurd HA.out (by simp [Bh.l0])
  | succ k1 =>
   have H:=HA.out;clear HA;simp only [Bh.l0] at H
   rcases Zq.jd H with ⟨c2b0,H⟩|⟨c2b0,H⟩
   ·obtain ⟨c3b0,H⟩:=Zq.pd H;have H':=Aa.mk H;clear H;obtain ⟨ad5,e5,hx5_0,p5,q5⟩:=Zq.at_ HR0.out x4_1;cases e5;go_wp2
    go_roundg k1
    case measure=>have:=HK1.out;omega
    case rel=>exact ⟨(wrap64 (x3_1*(rd l0 x4_1))),(wrap64 (x4_1+1)),Zs.auS,Zs.auS,H',⟨by have:=HK1.out;omega⟩,Zq.dr⟩
   ·obtain rfl:=Option.some.inj H;go_wp2;go_ret
    exact ⟨Zs.auS,Zq.dr⟩
def Dw.f (k:Nat) (l0:List Int):Option (Int):=(As.f k l0).bind fun t3=>(if t3=true then (Bh.f k l0).bind fun t4=>((AX.f k t4).bind fun bt5=>(some bt5.1)) else some 0)
theorem Dw.calls (k:Nat) (A0:Option Addr) (c0:Nat) (l0:List Int) (r:Int) (w:World) (hr0:Kd.C (Kd.int .i64) w A0 l0.length l0) (hc0:l0.length≤c0) (h:Dw.f k l0=some r) :
  Calls Tryz.prog 172 #[.slice A0 l0.length c0] w fun e w'=>e = .returned (.int .i64 r)∧Below w.heap.size w w':=by
 have HR0:=Aa.mk hr0;have HC0:=Aa.mk hc0;clear hr0 hc0;have HB:=Aa.mk (Below.refl w.heap.size w);unfold Dw.f at h;have H:=h;clear h;obtain ⟨t3,A2,H⟩:=Zs.be H
 cases t3
 ·replace H:=Zq.fh H;obtain rfl:=Option.some.inj H
  go_enter Tryz.func172,Tryz.ntmps172
  go_wp2_with (((with_reducible refine Ab (f:=62) rfl ?_);refine Zq.gp Tryz.func62 (As.calls _ _ _ _ _ _ (Zs.mvC (HR0.out)) HC0.out A2.out) ?_;intro nd))
  go_ret
  exact ⟨Zs.auR,Zs.auHB⟩
 ·replace H:=Zq.th H;obtain ⟨t7,A4,H⟩:=Zs.be H;obtain ⟨t8,t9,A5,H⟩:=Zq.bp H;try dsimp only at H;obtain rfl:=Option.some.inj H
  go_enter Tryz.func172,Tryz.ntmps172
  go_wp2_with (first|((with_reducible refine Ab (f:=62) rfl ?_);refine Zq.gp Tryz.func62 (As.calls _ _ _ _ _ _ (Zs.mvC (HR0.out)) HC0.out A2.out) ?_;intro nd)|((with_reducible refine Ab (f:=131) rfl ?_);refine Zq.gp Tryz.func131 (Bh.calls _ _ _ _ _ _ (Zs.mvC (HR0.out)) HC0.out A4.out) ?_;intro nd)|((with_reducible refine Ab (f:=81) rfl ?_);refine Zq.gb Tryz.func81 (AX.calls _ _ _ _ _ A5.out) ?_;intro w6 hb;replace HB:=Zq.st hb;(try clear hb)))
  go_ret
  exact ⟨Zs.auR,Zs.auHB⟩
def BT.l0:Nat→List Int→Int→Int→Option (Int)
 | 0,_,_,_=>none
 | k+1,x0,x3,x4=>if x4<(x0.length:Int) then if 0≤x4 then if (rd x0 x4)<0 then BT.l0 k x0 (wrap64 (x3+1)) (wrap64 (x4+1)) else BT.l0 k x0 x3 (wrap64 (x4+1)) else none else some x3
def BT.f (k:Nat) (l0:List Int):Option (Int):=BT.l0 k l0 0 0
theorem BT.calls (k:Nat) (A0:Option Addr) (c0:Nat) (l0:List Int) (r:Int) (w:World) (hr0:Kd.C (Kd.int .i64) w A0 l0.length l0) (hc0:l0.length≤c0) (h:BT.f k l0=some r) :
  Calls Tryz.prog 130 #[.slice A0 l0.length c0] w fun e w'=>e = .returned (.int .i64 r)∧Bo w w':=by
 have HR0:=Aa.mk hr0;have HC0:=Aa.mk hc0;clear hr0 hc0;unfold BT.f at h;have H:=h;clear h;have H':=Aa.mk H;clear H
 go_enter Tryz.func130,Tryz.ntmps130
 go_wp2
 go_loopg [3,4] k (fun kq v3 v4 w' => ∃x3_1 x4_1:Int,v3 = .int .i64 x3_1∧v4 = .int .i64 x4_1∧Aa (BT.l0 kq l0 x3_1 x4_1=some r)∧Aa (kq≤k)∧Bo w w')
 case atStart=>exact ⟨(0),(0),Zs.auS,Zs.auS,H',⟨Nat.le_refl _⟩,Zq.dr⟩
 case round =>
  clear H'
  obtain ⟨x3_1,x4_1,rfl,rfl,HA,HK1,⟨m1,rfl⟩⟩:=hrel;cases gk with
  | zero=>exact absurd HA.out (by simp [BT.l0])
  | succ k1 =>
   have H:=HA.out;clear HA;simp only [BT.l0] at H
   rcases Zq.jd H with ⟨c2b0,H⟩|⟨c2b0,H⟩
   ·obtain ⟨c3b0,H⟩:=Zq.pd H
    rcases Zq.jd H with ⟨c4b0,H⟩|⟨c4b0,H⟩
    ·have H':=Aa.mk H;clear H;obtain ⟨ad5,e5,hx5_0,p5,q5⟩:=Zq.at_ HR0.out x4_1;cases e5;go_wp2
     go_roundg k1
     case measure=>have:=HK1.out;omega
     case rel=>exact ⟨(wrap64 (x3_1+1)),(wrap64 (x4_1+1)),Zs.auS,Zs.auS,H',⟨by have:=HK1.out;omega⟩,Zq.dr⟩
    ·have H':=Aa.mk H;clear H;obtain ⟨ad5,e5,hx5_0,p5,q5⟩:=Zq.at_ HR0.out x4_1;cases e5;go_wp2
     go_roundg k1
     case measure=>have:=HK1.out;omega
     case rel=>exact ⟨(x3_1),(wrap64 (x4_1+1)),Zs.auS,Zs.auS,H',⟨by have:=HK1.out;omega⟩,Zq.dr⟩
   ·obtain rfl:=Option.some.inj H;go_wp2;go_ret
    exact ⟨Zs.auS,Zq.dr⟩
def CI.f (k:Nat) (a0 a1:Int):Option (Bool):=if a1=0 then some (decide (a0>0)) else (AM.f k a0 a1).bind fun bt3=>(if a1=2 then if (Int.tmod bt3.1 2)=0 then (Db.f bt3.2 8).bind fun t4=>(some (t4==1)) else some false else if (Int.tmod bt3.1 2)=0 then (Cm.f k bt3.2 a1).bind fun t5=>(some (t5==1)) else some false)
theorem CI.calls (k:Nat) (a0 a1:Int) (r:Bool) (w:World) (h:CI.f k a0 a1=some r) :
  Calls Tryz.prog 132 #[.int .i64 a0,.int .i64 a1] w fun e w'=>e = .returned (.bool r)∧Bo w w':=by
 unfold CI.f at h;have H:=h;clear h
 rcases Zq.jn H with ⟨c3b0,H⟩|⟨c3,c3b0,H⟩
 ·obtain rfl:=Option.some.inj H
  go_enter Tryz.func132,Tryz.ntmps132
  go_wp2;go_ret
  exact ⟨Zs.auS,Zq.dr⟩
 ·obtain ⟨t10,t11,A4,H⟩:=Zq.bp H;try dsimp only at H
  rcases Zq.jn H with ⟨c5b0,H⟩|⟨c5,c5b0,H⟩
  ·rcases Zq.jn H with ⟨c6b0,H⟩|⟨c6,c6b0,H⟩
   ·obtain ⟨t12,A7,H⟩:=Zs.be H;obtain rfl:=Option.some.inj H
    go_enter Tryz.func132,Tryz.ntmps132
    go_wp2_with (first|((with_reducible refine Ab (f:=122) rfl ?_);refine Zq.gp Tryz.func122 (AM.calls _ _ _ _ _ _ A4.out) ?_;intro nd)|(go_at_call 123;(with_reducible refine (Db.calls t11 8 t12 _ A7.out).mono ?_);rintro e w' ⟨rfl,⟨nd,rfl⟩⟩))
    go_ret
    exact ⟨Zs.auS,Zq.dr⟩
   ·obtain rfl:=Option.some.inj H
    go_enter Tryz.func132,Tryz.ntmps132
    go_wp2_with (((with_reducible refine Ab (f:=122) rfl ?_);refine Zq.gp Tryz.func122 (AM.calls _ _ _ _ _ _ A4.out) ?_;intro nd))
    go_ret
    exact ⟨Zs.auS,Zq.dr⟩
  ·rcases Zq.jn H with ⟨c8b0,H⟩|⟨c8,c8b0,H⟩
   ·obtain ⟨t13,A9,H⟩:=Zs.be H;obtain rfl:=Option.some.inj H
    go_enter Tryz.func132,Tryz.ntmps132
    go_wp2_with (first|((with_reducible refine Ab (f:=122) rfl ?_);refine Zq.gp Tryz.func122 (AM.calls _ _ _ _ _ _ A4.out) ?_;intro nd)|(go_at_call 125;(with_reducible refine (Cm.calls k t11 a1 t13 _ A9.out).mono ?_);rintro e w' ⟨rfl,⟨nd,rfl⟩⟩))
    go_ret
    exact ⟨Zs.auS,Zq.dr⟩
   ·obtain rfl:=Option.some.inj H
    go_enter Tryz.func132,Tryz.ntmps132
    go_wp2_with (((with_reducible refine Ab (f:=122) rfl ?_);refine Zq.gp Tryz.func122 (AM.calls _ _ _ _ _ _ A4.out) ?_;intro nd))
    go_ret
    exact ⟨Zs.auS,Zq.dr⟩
mutual
def AQ.l0:Nat→List Int→Int→Int→Int→Option (Int)
 | 0,_,_,_,_=>none
 | k+1,x0,x1,x5,x6=>if x6<(x0.length:Int) then AQ.l1 k x0 x1 x5 x6 0 else some x5
def AQ.l1:Nat→List Int→Int→Int→Int→Int→Option (Int)
 | 0,_,_,_,_,_=>none
 | k+1,x0,x1,x5,x6,x7=>if x7<x6 then if 0≤x7 then if x7<(x0.length:Int) then if 0≤x6 then if x6<(x0.length:Int) then (Ch.f k (rd x0 x7) (rd x0 x6) x1).bind fun t3=>(AQ.l1 k x0 x1 (wrap64 (x5*t3)) x6 (wrap64 (x7+1))) else none else none else none else none else AQ.l0 k x0 x1 x5 (wrap64 (x6+1))
end
def AQ.f (k:Nat) (l0:List Int) (a1:Int):Option (Int):=AQ.l0 k l0 a1 1 0
theorem AQ.calls (k:Nat) (A0:Option Addr) (c0:Nat) (l0:List Int) (a1 r:Int) (w:World) (hr0:Kd.C (Kd.int .i64) w A0 l0.length l0) (hc0:l0.length≤c0) (h:AQ.f k l0 a1=some r) :
  Calls Tryz.prog 133 #[.slice A0 l0.length c0,.int .i64 a1] w fun e w'=>e = .returned (.int .i64 r)∧Bo w w':=by
 have HR0:=Aa.mk hr0;have HC0:=Aa.mk hc0;clear hr0 hc0;unfold AQ.f at h;have H:=h;clear h;have H':=Aa.mk H;clear H
 go_enter Tryz.func133,Tryz.ntmps133
 go_wp2
 go_loopg [5,6] k (fun kq v5 v6 w' => ∃x5_1 x6_1:Int,v5 = .int .i64 x5_1∧v6 = .int .i64 x6_1∧Aa (AQ.l0 kq l0 a1 x5_1 x6_1=some r)∧Aa (kq≤k)∧Bo w w')
 case atStart=>exact ⟨(1),(0),Zs.auS,Zs.auS,H',⟨Nat.le_refl _⟩,Zq.dr⟩
 case round =>
  clear H'
  obtain ⟨x5_1,x6_1,rfl,rfl,HA,HK1,⟨m1,rfl⟩⟩:=hrel;cases gk with
  | zero=>exact absurd HA.out (by simp [AQ.l0])
  | succ k1 =>
   have H:=HA.out;clear HA;simp only [AQ.l0] at H
   rcases Zq.jd H with ⟨c3b0,H⟩|⟨c3b0,H⟩
   ·have H':=Aa.mk H;clear H;go_wp2
    go_loopg [5,7] k1 (fun kq v5 v7 w' => ∃x5_2 x7_2:Int,v5 = .int .i64 x5_2∧v7 = .int .i64 x7_2∧Aa (AQ.l1 kq l0 a1 x5_2 x6_1 x7_2=some r)∧Aa (kq≤k1)∧Bo w w')
    case atStart=>exact ⟨(x5_1),(0),Zs.auS,Zs.auS,H',⟨Nat.le_refl _⟩,Zq.dr⟩
    case round =>
     clear H'
     obtain ⟨x5_2,x7_2,rfl,rfl,HA,HK2,⟨m2,rfl⟩⟩:=hrel;cases gk with
     | zero=>exact absurd HA.out (by simp [AQ.l1])
     | succ k2 =>
      have H:=HA.out;clear HA;simp only [AQ.l1] at H
      rcases Zq.jd H with ⟨c4b0,H⟩|⟨c4b0,H⟩
      ·obtain ⟨c5b0,H⟩:=Zq.pd H
       obtain ⟨c6b0,H⟩:=Zq.pd H
       obtain ⟨c7b0,H⟩:=Zq.pd H
       obtain ⟨c8b0,H⟩:=Zq.pd H;obtain ⟨t12,A9,H⟩:=Zs.be H;have H':=Aa.mk H;clear H;obtain ⟨ad10,e10,hx10_0,p10,q10⟩:=Zq.at_ HR0.out x7_2;cases e10;obtain ⟨ad11,e11,hx11_0,p11,q11⟩:=Zq.at_ HR0.out x6_1;obtain rfl:ad10=ad11:=(by injection e11)
       go_wp2_with ((go_at_call 72;(with_reducible refine (Ch.calls k2 (rd l0 x7_2) (rd l0 x6_1) a1 t12 _ A9.out).mono ?_);rintro e w' ⟨rfl,⟨nd,rfl⟩⟩;(try exact Zq.dd)))
       repeat (go_quiet ((go_at_call 72;(with_reducible refine (Ch.calls k2 (rd l0 x7_2) (rd l0 x6_1) a1 t12 _ A9.out).mono ?_);rintro e w' ⟨rfl,⟨nd,rfl⟩⟩;(try exact Zq.dd)));try go_wp2_with ((go_at_call 72;(with_reducible refine (Ch.calls k2 (rd l0 x7_2) (rd l0 x6_1) a1 t12 _ A9.out).mono ?_);rintro e w' ⟨rfl,⟨nd,rfl⟩⟩;(try exact Zq.dd))))
       go_roundg k2
       case measure=>have:=HK1.out;have:=HK2.out;omega
       case rel=>exact ⟨(wrap64 (x5_2*t12)),(wrap64 (x7_2+1)),Zs.auS,Zs.auS,H',⟨by have:=HK1.out;have:=HK2.out;omega⟩,Zq.dr⟩
      ·have H':=Aa.mk H;clear H;go_wp2
       go_roundg k2
       case measure=>have:=HK1.out;have:=HK2.out;omega
       case rel=>exact ⟨(x5_2),(wrap64 (x6_1+1)),Zs.auS,Zs.auS,H',⟨by have:=HK1.out;have:=HK2.out;omega⟩,Zq.dr⟩
   ·obtain rfl:=Option.some.inj H;go_wp2
    go_ret
    exact ⟨Zs.auS,Zq.dr⟩
def BO.f (k:Nat) (l0:List Int) (a1:Int):Option (Bool):=if a1=0 then (BT.f k l0).bind fun t3=>(if t3>0 then (BT.f k l0).bind fun t4=>(some (decide (t4<(l0.length:Int)))) else some false) else (Bh.f k l0).bind fun t5=>(if (l0.length:Int)=1 then some false else if (l0.length:Int)=2 then (CI.f k (wrap64 (-t5)) a1).bind fun t6=>(some t6) else if (l0.length:Int)=3 then (AQ.f k l0 a1).bind fun t7=>((Ch.f k (-1) (wrap64 (-t5)) a1).bind fun t8=>(some (t7==t8))) else (CI.f k t5 a1).bind fun t9=>(if t9=true then (AQ.f k l0 a1).bind fun t10=>((Ch.f k (-1) (-1) a1).bind fun t11=>(some (t10==t11))) else some true))
theorem BO.calls (k:Nat) (A0:Option Addr) (c0:Nat) (l0:List Int) (a1:Int) (r:Bool) (w:World) (hr0:Kd.C (Kd.int .i64) w A0 l0.length l0) (hc0:l0.length≤c0) (h:BO.f k l0 a1=some r) :
  Calls Tryz.prog 75 #[.slice A0 l0.length c0,.int .i64 a1] w fun e w'=>e = .returned (.bool r)∧Bo w w':=by
 have HR0:=Aa.mk hr0;have HC0:=Aa.mk hc0;clear hr0 hc0;unfold BO.f at h;have H:=h;clear h
 rcases Zq.jn H with ⟨c3b0,H⟩|⟨c3,c3b0,H⟩
 ·obtain ⟨t15,A4,H⟩:=Zs.be H
  rcases Zq.jg H with ⟨c5b0,H⟩|⟨c5b0,H⟩
  ·obtain ⟨t18,A6,H⟩:=Zs.be H;obtain rfl:=Option.some.inj H
   go_enter Tryz.func75,Tryz.ntmps75
   go_wp2_with (first|((with_reducible refine Ab (f:=130) rfl ?_);refine Zq.gp Tryz.func130 (BT.calls _ _ _ _ _ _ (Zs.mvC (HR0.out)) HC0.out A4.out) ?_;intro nd)|(go_at_call 130;(with_reducible refine (BT.calls k _ _ l0 t18 _ ?side1 ?side2 A6.out).mono ?_);(case side1=>exact Zs.mvC (HR0.out));(case side2=>exact HC0.out);rintro e w' ⟨rfl,⟨nd,rfl⟩⟩))
   go_ret
   exact ⟨Zs.auS,Zq.dr⟩
  ·obtain rfl:=Option.some.inj H
   go_enter Tryz.func75,Tryz.ntmps75
   go_wp2_with (((with_reducible refine Ab (f:=130) rfl ?_);refine Zq.gp Tryz.func130 (BT.calls _ _ _ _ _ _ (Zs.mvC (HR0.out)) HC0.out A4.out) ?_;intro nd))
   go_ret
   exact ⟨Zs.auS,Zq.dr⟩
 ·obtain ⟨t19,A7,H⟩:=Zs.be H
  rcases Zq.jn H with ⟨c8b0,H⟩|⟨c8,c8b0,H⟩
  ·obtain rfl:=Option.some.inj H
   go_enter Tryz.func75,Tryz.ntmps75
   go_wp2_with (((with_reducible refine Ab (f:=131) rfl ?_);refine Zq.gp Tryz.func131 (Bh.calls _ _ _ _ _ _ (Zs.mvC (HR0.out)) HC0.out A7.out) ?_;intro nd))
   go_ret
   exact ⟨Zs.auS,Zq.dr⟩
  ·rcases Zq.jn H with ⟨c9b0,H⟩|⟨c9,c9b0,H⟩
   ·obtain ⟨t20,A10,H⟩:=Zs.be H;obtain rfl:=Option.some.inj H
    go_enter Tryz.func75,Tryz.ntmps75
    go_wp2_with (first|((with_reducible refine Ab (f:=131) rfl ?_);refine Zq.gp Tryz.func131 (Bh.calls _ _ _ _ _ _ (Zs.mvC (HR0.out)) HC0.out A7.out) ?_;intro nd)|((with_reducible refine Ab (f:=132) rfl ?_);refine Zq.gp Tryz.func132 (CI.calls _ _ _ _ _ A10.out) ?_;intro nd))
    go_ret
    exact ⟨Zs.auS,Zq.dr⟩
   ·rcases Zq.jn H with ⟨c11b0,H⟩|⟨c11,c11b0,H⟩
    ·obtain ⟨t21,A12,H⟩:=Zs.be H;obtain ⟨t22,A13,H⟩:=Zs.be H;obtain rfl:=Option.some.inj H
     go_enter Tryz.func75,Tryz.ntmps75
     go_wp2_with (first|((with_reducible refine Ab (f:=131) rfl ?_);refine Zq.gp Tryz.func131 (Bh.calls _ _ _ _ _ _ (Zs.mvC (HR0.out)) HC0.out A7.out) ?_;intro nd)|((with_reducible refine Ab (f:=133) rfl ?_);refine Zq.gp Tryz.func133 (AQ.calls _ _ _ _ _ _ _ (Zs.mvC (HR0.out)) HC0.out A12.out) ?_;intro nd)|((with_reducible refine Ab (f:=72) rfl ?_);refine Zq.gp Tryz.func72 (Ch.calls _ _ _ _ _ _ A13.out) ?_;intro nd))
     go_ret
     exact ⟨Zs.auS,Zq.dr⟩
    ·obtain ⟨t23,A14,H⟩:=Zs.be H
     cases t23
     ·replace H:=Zq.fh H;obtain rfl:=Option.some.inj H
      go_enter Tryz.func75,Tryz.ntmps75
      go_wp2_with (first|((with_reducible refine Ab (f:=131) rfl ?_);refine Zq.gp Tryz.func131 (Bh.calls _ _ _ _ _ _ (Zs.mvC (HR0.out)) HC0.out A7.out) ?_;intro nd)|((with_reducible refine Ab (f:=132) rfl ?_);refine Zq.gp Tryz.func132 (CI.calls _ _ _ _ _ A14.out) ?_;intro nd))
      go_ret
      exact ⟨Zs.auS,Zq.dr⟩
     ·replace H:=Zq.th H;obtain ⟨t24,A16,H⟩:=Zs.be H;obtain ⟨t25,A17,H⟩:=Zs.be H;obtain rfl:=Option.some.inj H
      go_enter Tryz.func75,Tryz.ntmps75
      go_wp2_with (first|((with_reducible refine Ab (f:=131) rfl ?_);refine Zq.gp Tryz.func131 (Bh.calls _ _ _ _ _ _ (Zs.mvC (HR0.out)) HC0.out A7.out) ?_;intro nd)|((with_reducible refine Ab (f:=132) rfl ?_);refine Zq.gp Tryz.func132 (CI.calls _ _ _ _ _ A14.out) ?_;intro nd)|(go_at_call 133;(with_reducible refine (AQ.calls k _ _ l0 a1 t24 _ ?side1 ?side2 A16.out).mono ?_);(case side1=>exact Zs.mvC (HR0.out));(case side2=>exact HC0.out);rintro e w' ⟨rfl,⟨nd,rfl⟩⟩)|(go_at_call 72;(with_reducible refine (Ch.calls k (-1) (-1) a1 t25 _ A17.out).mono ?_);rintro e w' ⟨rfl,⟨nd,rfl⟩⟩))
      go_ret
      exact ⟨Zs.auS,Zq.dr⟩
def BV.l0:Nat→List Int→List Int→Int→Option (List Int)
 | 0,_,_,_=>none
 | k+1,x3,x4,x5=>if x5<(x4.length:Int) then if 0≤x5 then if (rd x4 x5)>2 then if x3.length<17592186044416 then BV.l0 k (x3++[rd x4 x5]) x4 (wrap64 (x5+1)) else none else BV.l0 k x3 x4 (wrap64 (x5+1)) else none else some x3
def BV.f (k:Nat) (a0:Int):Option (List Int):=(AG.f k a0).bind fun t3=>(BV.l0 k (([0,2]:List Int)) t3 0)
theorem BV.calls (k:Nat) (a0:Int) (r:List Int) (w:World) (h:BV.f k a0=some r) :
  Calls Tryz.prog 158 #[.int .i64 a0] w fun e w' => ∃v0_:Value,e = .returned (v0_)∧Kd.R (Kd.int .i64) 3 w' w.heap.size (fun _=>True) v0_ r∧Below w.heap.size w w':=by
 have HB:=Aa.mk (Below.refl w.heap.size w);unfold BV.f at h;have H:=h;clear h;generalize hyy:([0,2]:List Int)=y14 at H;have Ny14:=Aa.mk hyy.symm;clear hyy;obtain ⟨t17,A2,H⟩:=Zs.be H;have H':=Aa.mk H;clear H
 go_enter Tryz.func158,Tryz.ntmps158
 go_wp2_with (first|((with_reducible refine Bb (N:=6) rfl ?_);refine Zq.li ([0,2]:List Int) ?_;intro v15 w3 ho4 hb;(first|rw [← Ny14.out] at ho4|(simp only [Int.reduceToNat] at ho4;rw [← Ny14.out] at ho4));have HO16:=Zq.lw ho4;replace HB:=Zq.st hb;clear hb ho4)|((with_reducible refine Ab (f:=175) rfl ?_);refine Zq.gc (some 8) Tryz.func175 (AG.calls _ _ _ _ A2.out) ?_;rintro e w5 ⟨v18,rfl,ho0,hb⟩;refine ⟨_,rfl,?_⟩;have HO19:=Aa.mk (Kd.Bp (Kd.Br ho0 (Zq.lt HO16.out)) (Ay (Zs.auHB)));replace HO16:=Zq.el HO16.out ho0 hb;replace HB:=Zq.st hb;(try clear hb);(try clear ho0)))
 go_loopg [3,5] k (fun kq v3 v5 w' => ∃(x3_1:List Int) (x5_1:Int),v5 = .int .i64 x5_1∧Aa (BV.l0 kq x3_1 t17 x5_1=some r)∧Aa (kq≤k)∧Aa (Kd.R (Kd.int .i64) 3 w' w.heap.size (fun k_=>some k_≠(v18:Value).ownBlock) v3 x3_1)∧Aa (Kd.R (Kd.int .i64) 3 w' w.heap.size (fun k_=>some k_≠(v3:Value).ownBlock) v18 t17)∧Aa (Below w.heap.size w w'))
 case atStart=>exact ⟨(y14),(0),Zs.auS,H',⟨Nat.le_refl _⟩,⟨(Zs.mvR (Kd.AB HO16.out Zq.tk))⟩,⟨(Zs.mvR (Kd.AB HO19.out Zq.tk))⟩,⟨Zs.auHB⟩⟩
 case round =>
  clear H'
  obtain ⟨x3_1,x5_1,rfl,HA,HK1,HO_3,HO_4,HB⟩:=hrel;cases gk with
  | zero=>exact absurd HA.out (by simp [BV.l0])
  | succ k1 =>
   have H:=HA.out;clear HA;simp only [BV.l0] at H
   rcases Zq.jd H with ⟨c6b0,H⟩|⟨c6b0,H⟩
   ·obtain ⟨c7b0,H⟩:=Zq.pd H
    rcases Zq.jg H with ⟨c8b0,H⟩|⟨c8b0,H⟩
    ·obtain ⟨c9,H⟩:=Zq.ip H;have LMc9:=Aa.mk c9;clear c9;generalize hyy:(x3_1++[rd t17 x5_1]:List Int)=y22 at H;have Ny22:=Aa.mk hyy.symm;clear hyy;have H':=Aa.mk H;clear H;obtain ⟨Ao10,co10,eo10⟩:=Kd.Az HO_4.out;subst eo10;obtain ⟨ad20,e20,hx20_0,p20,q20⟩:=Zq.at_ (Kd.Ac HO_4.out).2.2 x5_1;cases e20;obtain ⟨ad21,e21,hx21_0,p21,q21⟩:=Zq.at_ (Kd.Ac HO_4.out).2.2 x5_1;obtain rfl:ad20=ad21:=(by injection e21)
     go_wp2_with (((with_reducible refine AY (b := .append) (xs:=#[.tmp 20,.tmp 25]) rfl ?_);at_builtin;refine Zq.ap (.tmp 20) (.tmp 25) 27 Tryz.underlying27 DS u3 x3_1 (rd t17 x5_1) (fun k_=>some k_≠(.slice (some ad20) t17.length co10:Value).ownBlock) (fun k_ hk=>Kd.DF (Zq.lt HO_4.out) k_ hk) ((Zs.mvR HO_3.out)) LMc9.out ?_;intro v23 w11 ho hb hg hat;rw [← Ny22.out] at ho;replace HO_4:=Aa.mk (Kd.BW (ok:=(fun _=>True)) ((Zs.mvR (Kd.AB HO_4.out (fun _ hk=>⟨trivial,hk⟩)))) hg hat);replace HB:=Aa.mk (hb);have HO24:=Aa.mk (ho);clear HO_3;clear ho hb hg hat))
     go_roundg k1
     case measure=>have:=HK1.out;omega
     case rel=>exact ⟨(y22),(wrap64 (x5_1+1)),Zs.auS,H',⟨by have:=HK1.out;omega⟩,⟨(Zs.mvR HO24.out)⟩,⟨(Zs.mvR (Kd.AB HO_4.out Zq.tk))⟩,⟨Zs.auHB⟩⟩
    ·have H':=Aa.mk H;clear H;obtain ⟨Ao12,co12,eo12⟩:=Kd.Az HO_4.out;subst eo12;obtain ⟨ad20,e20,hx20_0,p20,q20⟩:=Zq.at_ (Kd.Ac HO_4.out).2.2 x5_1;cases e20;go_wp2
     go_roundg k1
     case measure=>have:=HK1.out;omega
     case rel=>exact ⟨(x3_1),(wrap64 (x5_1+1)),Zs.auS,H',⟨by have:=HK1.out;omega⟩,⟨(Zs.mvR HO_3.out)⟩,⟨(Zs.mvR HO_4.out)⟩,⟨Zs.auHB⟩⟩
   ·obtain rfl:=Option.some.inj H;obtain ⟨Ao13,co13,eo13⟩:=Kd.Az HO_4.out;subst eo13;go_wp2;go_ret
    exact ⟨_,Zs.auR,(Zs.mvR (Kd.AB HO_3.out (fun _ hk=>trivial))),Zs.auHB⟩
def CB.f (k:Nat) (l0:List Int):Option (List Int):=(As.f k l0).bind fun t3=>(if t3=true then (Bh.f k l0).bind fun t4=>((BV.f k t4).bind fun t5=>(some t5)) else some (([]:List Int)))
theorem CB.calls (k:Nat) (A0:Option Addr) (c0:Nat) (l0 r:List Int) (w:World) (hr0:Kd.C (Kd.int .i64) w A0 l0.length l0) (hc0:l0.length≤c0) (h:CB.f k l0=some r) :
  Calls Tryz.prog 126 #[.slice A0 l0.length c0] w fun e w' => ∃v0_:Value,e = .returned (v0_)∧Kd.R (Kd.int .i64) 3 w' w.heap.size (fun _=>True) v0_ r∧Below w.heap.size w w':=by
 have HR0:=Aa.mk hr0;have HC0:=Aa.mk hc0;clear hr0 hc0;have HB:=Aa.mk (Below.refl w.heap.size w);unfold CB.f at h;have H:=h;clear h;obtain ⟨t3,A2,H⟩:=Zs.be H
 cases t3
 ·replace H:=Zq.fh H;obtain ⟨y13,hyy⟩ : ∃y_:List Int,y_=(([]:List Int)):=⟨_,rfl⟩
  replace H:(some y13)=some r:=Zs.auY
  have Ny13:=Aa.mk hyy;clear hyy;obtain rfl:=Option.some.inj H
  go_enter Tryz.func126,Tryz.ntmps126
  go_wp2_with (first|((with_reducible refine Ab (f:=62) rfl ?_);refine Zq.gp Tryz.func62 (As.calls _ _ _ _ _ _ (Zs.mvC (HR0.out)) HC0.out A2.out) ?_;intro nd)|((with_reducible refine Bb (N:=6) rfl ?_);refine Zq.li ([]:List Int) ?_;intro v14 w7 ho8 hb;(first|rw [← Ny13.out] at ho8|(simp only [Int.reduceToNat] at ho8;rw [← Ny13.out] at ho8));have HO15:=Zq.lw ho8;replace HB:=Zq.st hb;clear hb ho8))
  go_ret
  exact ⟨_,Zs.auR,(Zs.mvR HO15.out),Zs.auHB⟩
 ·replace H:=Zq.th H;obtain ⟨t9,A4,H⟩:=Zs.be H;obtain ⟨t10,A5,H⟩:=Zs.be H;obtain rfl:=Option.some.inj H
  go_enter Tryz.func126,Tryz.ntmps126
  go_wp2_with (first|((with_reducible refine Ab (f:=62) rfl ?_);refine Zq.gp Tryz.func62 (As.calls _ _ _ _ _ _ (Zs.mvC (HR0.out)) HC0.out A2.out) ?_;intro nd)|((with_reducible refine Ab (f:=131) rfl ?_);refine Zq.gp Tryz.func131 (Bh.calls _ _ _ _ _ _ (Zs.mvC (HR0.out)) HC0.out A4.out) ?_;intro nd)|((with_reducible refine Ab (f:=158) rfl ?_);refine Zq.gc (some 9) Tryz.func158 (BV.calls _ _ _ _ A5.out) ?_;rintro e w6 ⟨v11,rfl,ho0,hb⟩;refine ⟨_,rfl,?_⟩;have HO12:=Zq.lw ho0;replace HB:=Zq.st hb;(try clear hb);(try clear ho0)))
  go_ret
  exact ⟨_,Zs.auR,(Zs.mvR HO12.out),Zs.auHB⟩
def Cf.l0:Nat→List Int→List Int→List Int→Int→Option (List Int)
 | 0,_,_,_,_=>none
 | k+1,x0,x3,x4,x5=>if x5<(x4.length:Int) then if 0≤x5 then (BO.f k x0 (rd x4 x5)).bind fun t6=>(if t6=true then Cf.l0 k x0 x3 x4 (wrap64 (x5+1)) else if x3.length<17592186044416 then Cf.l0 k x0 (x3++[rd x4 x5]) x4 (wrap64 (x5+1)) else none) else none else some x3
def Cf.f (k:Nat) (l0:List Int):Option (List Int):=(CB.f k l0).bind fun t3=>(Cf.l0 k l0 (([]:List Int)) t3 0)
theorem Cf.calls (k:Nat) (A0:Option Addr) (c0:Nat) (l0 r:List Int) (w:World) (hr0:Kd.C (Kd.int .i64) w A0 l0.length l0) (hc0:l0.length≤c0) (h:Cf.f k l0=some r) :
  Calls Tryz.prog 191 #[.slice A0 l0.length c0] w fun e w' => ∃v0_:Value,e = .returned (v0_)∧Kd.R (Kd.int .i64) 3 w' w.heap.size (fun _=>True) v0_ r∧Below w.heap.size w w':=by
 have HR0:=Aa.mk hr0;have HC0:=Aa.mk hc0;clear hr0 hc0;have HB:=Aa.mk (Below.refl w.heap.size w);unfold Cf.f at h;have H:=h;clear h;obtain ⟨y9,hyy⟩ : ∃y_:List Int,y_=(([]:List Int)):=⟨_,rfl⟩
 replace H:((CB.f k l0).bind fun t17=>(Cf.l0 k l0 y9 t17 0))=some r:=Zs.auY
 have Ny9:=Aa.mk hyy;clear hyy;obtain ⟨t17,A2,H⟩:=Zs.be H;have H':=Aa.mk H;clear H
 go_enter Tryz.func191,Tryz.ntmps191
 go_wp2_with (first|((with_reducible refine Bb (N:=6) rfl ?_);refine Zq.li ([]:List Int) ?_;intro v15 w3 ho4 hb;(first|rw [← Ny9.out] at ho4|(simp only [Int.reduceToNat] at ho4;rw [← Ny9.out] at ho4));have HO16:=Zq.lw ho4;replace HB:=Zq.st hb;clear hb ho4)|((with_reducible refine Ab (f:=126) rfl ?_);refine Zq.gc (some 8) Tryz.func126 (CB.calls _ _ _ _ _ _ (Zs.mvC ((Kd.BF HR0.out HB.out))) HC0.out A2.out) ?_;rintro e w5 ⟨v18,rfl,ho0,hb⟩;refine ⟨_,rfl,?_⟩;have HO19:=Aa.mk (Kd.Bp (Kd.Br ho0 (Zq.lt HO16.out)) (Ay (Zs.auHB)));replace HO16:=Zq.el HO16.out ho0 hb;replace HB:=Zq.st hb;(try clear hb);(try clear ho0)))
 go_loopg [3,5] k (fun kq v3 v5 w' => ∃(x3_1:List Int) (x5_1:Int),v5 = .int .i64 x5_1∧Aa (Cf.l0 kq l0 x3_1 t17 x5_1=some r)∧Aa (kq≤k)∧Aa (Kd.R (Kd.int .i64) 3 w' w.heap.size (fun k_=>some k_≠(v18:Value).ownBlock) v3 x3_1)∧Aa (Kd.R (Kd.int .i64) 3 w' w.heap.size (fun k_=>some k_≠(v3:Value).ownBlock) v18 t17)∧Aa (Below w.heap.size w w'))
 case atStart=>exact ⟨(y9),(0),Zs.auS,H',⟨Nat.le_refl _⟩,⟨(Zs.mvR (Kd.AB HO16.out Zq.tk))⟩,⟨(Zs.mvR (Kd.AB HO19.out Zq.tk))⟩,⟨Zs.auHB⟩⟩
 case round =>
  clear H'
  obtain ⟨x3_1,x5_1,rfl,HA,HK1,HO_3,HO_4,HB⟩:=hrel;cases gk with
  | zero=>exact absurd HA.out (by simp [Cf.l0])
  | succ k1 =>
   have H:=HA.out;clear HA;simp only [Cf.l0] at H
   rcases Zq.jd H with ⟨c6b0,H⟩|⟨c6b0,H⟩
   ·obtain ⟨c7b0,H⟩:=Zq.pd H;obtain ⟨t21,A8,H⟩:=Zs.be H
    cases t21
    ·replace H:=Zq.fh H
     obtain ⟨c11,H⟩:=Zq.ip H;have LMc11:=Aa.mk c11;clear c11;generalize hyy:(x3_1++[rd t17 x5_1]:List Int)=y23 at H;have Ny23:=Aa.mk hyy.symm;clear hyy;have H':=Aa.mk H;clear H;obtain ⟨Ao12,co12,eo12⟩:=Kd.Az HO_4.out;subst eo12;obtain ⟨ad20,e20,hx20_0,p20,q20⟩:=Zq.at_ (Kd.Ac HO_4.out).2.2 x5_1;cases e20
     go_wp2_with (first|((with_reducible refine Ab (f:=75) rfl ?_);refine Zq.gp Tryz.func75 (BO.calls _ _ _ _ _ _ _ (Zs.mvC ((Kd.BF HR0.out HB.out))) HC0.out A8.out) ?_;intro nd;obtain ⟨ad22,e22,hx22_0,p22,q22⟩:=Zq.at_ (Kd.Ac HO_4.out).2.2 x5_1;obtain rfl:ad20=ad22:=(by injection e22))|((with_reducible refine AY (b := .append) (xs:=#[.tmp 22,.tmp 27]) rfl ?_);at_builtin;refine Zq.ap (.tmp 22) (.tmp 27) 27 Tryz.underlying27 DS u3 x3_1 (rd t17 x5_1) (fun k_=>some k_≠(.slice (some ad20) t17.length co12:Value).ownBlock) (fun k_ hk=>Kd.DF (Zq.lt HO_4.out) k_ hk) ((Zs.mvR HO_3.out)) LMc11.out ?_;intro v24 w13 ho hb hg hat;rw [← Ny23.out] at ho;replace HO_4:=Aa.mk (Kd.BW (ok:=(fun _=>True)) ((Zs.mvR (Kd.AB HO_4.out (fun _ hk=>⟨trivial,hk⟩)))) hg hat);replace HB:=Aa.mk (hb);have HO25:=Aa.mk (ho);clear HO_3;clear ho hb hg hat))
     go_roundg k1
     case measure=>have:=HK1.out;omega
     case rel=>exact ⟨(y23),(wrap64 (x5_1+1)),Zs.auS,H',⟨by have:=HK1.out;omega⟩,⟨(Zs.mvR HO25.out)⟩,⟨(Zs.mvR (Kd.AB HO_4.out Zq.tk))⟩,⟨Zs.auHB⟩⟩
    ·replace H:=Zq.th H;have H':=Aa.mk H;clear H;obtain ⟨Ao10,co10,eo10⟩:=Kd.Az HO_4.out;subst eo10;obtain ⟨ad20,e20,hx20_0,p20,q20⟩:=Zq.at_ (Kd.Ac HO_4.out).2.2 x5_1;cases e20
     go_wp2_with (((with_reducible refine Ab (f:=75) rfl ?_);refine Zq.gp Tryz.func75 (BO.calls _ _ _ _ _ _ _ (Zs.mvC ((Kd.BF HR0.out HB.out))) HC0.out A8.out) ?_;intro nd))
     go_roundg k1
     case measure=>have:=HK1.out;omega
     case rel=>exact ⟨(x3_1),(wrap64 (x5_1+1)),Zs.auS,H',⟨by have:=HK1.out;omega⟩,⟨(Zs.mvR HO_3.out)⟩,⟨(Zs.mvR HO_4.out)⟩,⟨Zs.auHB⟩⟩
   ·obtain rfl:=Option.some.inj H;obtain ⟨Ao14,co14,eo14⟩:=Kd.Az HO_4.out;subst eo14;go_wp2;go_ret
    exact ⟨_,Zs.auR,(Zs.mvR (Kd.AB HO_3.out (fun _ hk=>trivial))),Zs.auHB⟩
def Cc.l0:Nat→ByteArray→List Int→Int→Option (ByteArray)
 | 0,_,_,_=>none
 | k+1,x3,x4,x5=>if x5<(x4.length:Int) then if x5>0 then if x3.size+1≤9223372036854775807 then if 0≤x5 then if (rd x4 x5)=0 then if (x3++(⟨#[32]⟩:ByteArray)).size+1≤9223372036854775807 then Cc.l0 k ((x3++(⟨#[32]⟩:ByteArray))++(⟨#[114]⟩:ByteArray)) x4 (wrap64 (x5+1)) else none else (AP.f k (rd x4 x5)).bind fun t6=>(if (x3++(⟨#[32]⟩:ByteArray)).size+t6.size≤9223372036854775807 then Cc.l0 k ((x3++(⟨#[32]⟩:ByteArray))++t6) x4 (wrap64 (x5+1)) else none) else none else none else if 0≤x5 then if (rd x4 x5)=0 then if x3.size+1≤9223372036854775807 then Cc.l0 k (x3++(⟨#[114]⟩:ByteArray)) x4 (wrap64 (x5+1)) else none else (AP.f k (rd x4 x5)).bind fun t7=>(if x3.size+t7.size≤9223372036854775807 then Cc.l0 k (x3++t7) x4 (wrap64 (x5+1)) else none) else none else if x3.size+1≤9223372036854775807 then some (x3++(⟨#[10]⟩:ByteArray)) else none
def Cc.f (k:Nat) (l0:List Int):Option (ByteArray):=(Cf.f k l0).bind fun t3=>(Cc.l0 k (⟨#[]⟩:ByteArray) t3 0)
theorem Cc.calls (k:Nat) (A0:Option Addr) (c0:Nat) (l0:List Int) (r:ByteArray) (w:World) (hr0:Kd.C (Kd.int .i64) w A0 l0.length l0) (hc0:l0.length≤c0) (h:Cc.f k l0=some r) :
  Calls Tryz.prog 173 #[.slice A0 l0.length c0] w fun e w'=>e = .returned (.string r)∧Below w.heap.size w w':=by
 have HR0:=Aa.mk hr0;have HC0:=Aa.mk hc0;clear hr0 hc0;have HB:=Aa.mk (Below.refl w.heap.size w);unfold Cc.f at h;have H:=h;clear h;obtain ⟨t25,A2,H⟩:=Zs.be H;have H':=Aa.mk H;clear H
 go_enter Tryz.func173,Tryz.ntmps173
 go_wp2_with (((with_reducible refine Ab (f:=191) rfl ?_);refine Zq.gc (some 7) Tryz.func191 (Cf.calls _ _ _ _ _ _ (Zs.mvC (HR0.out)) HC0.out A2.out) ?_;rintro e w3 ⟨v26,rfl,ho0,hb⟩;refine ⟨_,rfl,?_⟩;have HO27:=Zq.lw ho0;replace HB:=Zq.st hb;(try clear hb);(try clear ho0)))
 go_loopg [3,5] k (fun kq v3 v5 w' => ∃(x3_1:ByteArray) (x5_1:Int),v3 = .string x3_1∧v5 = .int .i64 x5_1∧Aa (Cc.l0 kq x3_1 t25 x5_1=some r)∧Aa (kq≤k)∧Aa (Kd.R (Kd.int .i64) 3 w' w.heap.size (fun _=>True) v26 t25)∧Aa (Below w.heap.size w w'))
 case atStart=>exact ⟨((⟨#[]⟩:ByteArray)),(0),Zs.auS,Zs.auS,H',⟨Nat.le_refl _⟩,⟨(Zs.mvR HO27.out)⟩,⟨Zs.auHB⟩⟩
 case round =>
  clear H'
  obtain ⟨x3_1,x5_1,rfl,rfl,HA,HK1,HO_4,HB⟩:=hrel;cases gk with
  | zero=>exact absurd HA.out (by simp [Cc.l0])
  | succ k1 =>
   have H:=HA.out;clear HA;simp only [Cc.l0] at H
   rcases Zq.jd H with ⟨c4b0,H⟩|⟨c4b0,H⟩
   ·rcases Zq.jg H with ⟨c5b0,H⟩|⟨c5b0,H⟩
    ·obtain ⟨c6,H⟩:=Zq.ip H
     try have c6b2:(9223372036854775807<x3_1.size+1)=False:=eq_false (Nat.not_lt.2 c6)
     obtain ⟨c7b0,H⟩:=Zq.pd H
     rcases Zq.jn H with ⟨c8b0,H⟩|⟨c8,c8b0,H⟩
     ·obtain ⟨c9,H⟩:=Zq.ip H
      try skip
      have c9b4:=eq_false (Nat.not_lt.2 c9);simp only [ByteArray.size_append,show (⟨#[32]⟩:ByteArray).size=1 from rfl] at c9b4;have H':=Aa.mk H;clear H;obtain ⟨Ao10,co10,eo10⟩:=Kd.Az HO_4.out;subst eo10;obtain ⟨ad28,e28,hx28_0,p28,q28⟩:=Zq.at_ (Kd.Ac HO_4.out).2.2 x5_1;cases e28;go_wp2
      go_roundg k1
      case measure=>have:=HK1.out;omega
      case rel=>exact ⟨((x3_1++(⟨#[32]⟩:ByteArray))++(⟨#[114]⟩:ByteArray)),(wrap64 (x5_1+1)),Zs.auS,Zs.auS,H',⟨by have:=HK1.out;omega⟩,⟨(Zs.mvR HO_4.out)⟩,⟨Zs.auHB⟩⟩
     ·obtain ⟨t30,A11,H⟩:=Zs.be H
      obtain ⟨c12,H⟩:=Zq.ip H
      try skip
      have c12b4:=eq_false (Nat.not_lt.2 c12);simp only [ByteArray.size_append,show (⟨#[32]⟩:ByteArray).size=1 from rfl] at c12b4;have H':=Aa.mk H;clear H;obtain ⟨Ao13,co13,eo13⟩:=Kd.Az HO_4.out;subst eo13;obtain ⟨ad28,e28,hx28_0,p28,q28⟩:=Zq.at_ (Kd.Ac HO_4.out).2.2 x5_1;cases e28;obtain ⟨ad29,e29,hx29_0,p29,q29⟩:=Zq.at_ (Kd.Ac HO_4.out).2.2 x5_1;obtain rfl:ad28=ad29:=(by injection e29)
      go_wp2_with (((with_reducible refine Ab (f:=53) rfl ?_);refine Zq.gb Tryz.func53 (AP.calls _ _ _ _ A11.out) ?_;intro w14 hb;replace HO_4:=Zq.rb HO_4.out hb;replace HB:=Zq.st hb;(try clear hb)))
      go_roundg k1
      case measure=>have:=HK1.out;omega
      case rel=>exact ⟨((x3_1++(⟨#[32]⟩:ByteArray))++t30),(wrap64 (x5_1+1)),Zs.auS,Zs.auS,H',⟨by have:=HK1.out;omega⟩,⟨(Zs.mvR HO_4.out)⟩,⟨Zs.auHB⟩⟩
    ·obtain ⟨c15b0,H⟩:=Zq.pd H
     rcases Zq.jn H with ⟨c16b0,H⟩|⟨c16,c16b0,H⟩
     ·obtain ⟨c17,H⟩:=Zq.ip H
      try have c17b2:(9223372036854775807<x3_1.size+1)=False:=eq_false (Nat.not_lt.2 c17)
      have H':=Aa.mk H;clear H;obtain ⟨Ao18,co18,eo18⟩:=Kd.Az HO_4.out;subst eo18;obtain ⟨ad31,e31,hx31_0,p31,q31⟩:=Zq.at_ (Kd.Ac HO_4.out).2.2 x5_1;cases e31;go_wp2
      go_roundg k1
      case measure=>have:=HK1.out;omega
      case rel=>exact ⟨(x3_1++(⟨#[114]⟩:ByteArray)),(wrap64 (x5_1+1)),Zs.auS,Zs.auS,H',⟨by have:=HK1.out;omega⟩,⟨(Zs.mvR HO_4.out)⟩,⟨Zs.auHB⟩⟩
     ·obtain ⟨t33,A19,H⟩:=Zs.be H
      obtain ⟨c20,H⟩:=Zq.ip H
      try have c20b2:(9223372036854775807<x3_1.size+t33.size)=False:=eq_false (Nat.not_lt.2 c20)
      have H':=Aa.mk H;clear H;obtain ⟨Ao21,co21,eo21⟩:=Kd.Az HO_4.out;subst eo21;obtain ⟨ad31,e31,hx31_0,p31,q31⟩:=Zq.at_ (Kd.Ac HO_4.out).2.2 x5_1;cases e31;obtain ⟨ad32,e32,hx32_0,p32,q32⟩:=Zq.at_ (Kd.Ac HO_4.out).2.2 x5_1;obtain rfl:ad31=ad32:=(by injection e32)
      go_wp2_with (((with_reducible refine Ab (f:=53) rfl ?_);refine Zq.gb Tryz.func53 (AP.calls _ _ _ _ A19.out) ?_;intro w22 hb;replace HO_4:=Zq.rb HO_4.out hb;replace HB:=Zq.st hb;(try clear hb)))
      go_roundg k1
      case measure=>have:=HK1.out;omega
      case rel=>exact ⟨(x3_1++t33),(wrap64 (x5_1+1)),Zs.auS,Zs.auS,H',⟨by have:=HK1.out;omega⟩,⟨(Zs.mvR HO_4.out)⟩,⟨Zs.auHB⟩⟩
   ·obtain ⟨c23,H⟩:=Zq.ip H
    try have c23b2:(9223372036854775807<x3_1.size+1)=False:=eq_false (Nat.not_lt.2 c23)
    obtain rfl:=Option.some.inj H;obtain ⟨Ao24,co24,eo24⟩:=Kd.Az HO_4.out;subst eo24;go_wp2;go_ret
    exact ⟨Zs.auR,Zs.auHB⟩
def C7.f (k:Nat) (l0:List Int) (a1:Int):Option (Int):=if a1=0 then (BT.f k l0).bind fun t3=>((BT.f k l0).bind fun t4=>(some (mn t3 (wrap64 ((l0.length:Int)-t4))))) else (BO.f k l0 a1).bind fun t5=>(if t5=true then if (l0.length:Int)=4 then (Bh.f k l0).bind fun t6=>((CI.f k t6 a1).bind fun t8=>(if t8=true then some 2 else some 1)) else some 1 else some 0)
theorem C7.calls (k:Nat) (A0:Option Addr) (c0:Nat) (l0:List Int) (a1 r:Int) (w:World) (hr0:Kd.C (Kd.int .i64) w A0 l0.length l0) (hc0:l0.length≤c0) (h:C7.f k l0 a1=some r) :
  Calls Tryz.prog 192 #[.slice A0 l0.length c0,.int .i64 a1] w fun e w'=>e = .returned (.int .i64 r)∧Below w.heap.size w w':=by
 have HR0:=Aa.mk hr0;have HC0:=Aa.mk hc0;clear hr0 hc0;have HB:=Aa.mk (Below.refl w.heap.size w);unfold C7.f at h;have H:=h;clear h
 rcases Zq.jn H with ⟨c3b0,H⟩|⟨c3,c3b0,H⟩
 ·obtain ⟨t8,A4,H⟩:=Zs.be H;obtain ⟨t12,A5,H⟩:=Zs.be H;obtain ⟨ji6,hji6⟩ : ∃j_:Int,(mn t8 (wrap64 ((l0.length:Int)-t12)))=j_:=⟨_,rfl⟩
  replace H:(some ji6)=some r:=by first|(rw [hji6] at H;exact H)|(simp only [hji6] at H ⊢;exact H)
  (try rw [hji6] at A4);(try rw [hji6] at A5);have hji6_:(if (wrap64 ((l0.length:Int)-t12))<t8 then wrap64 ((l0.length:Int)-t12) else t8)=ji6:=hji6;obtain rfl:=Option.some.inj H
  go_enter Tryz.func192,Tryz.ntmps192
  go_wp2_with (first|((with_reducible refine Ab (f:=130) rfl ?_);refine Zq.gc (some 8) Tryz.func130 (BT.calls _ _ _ _ _ _ (Zs.mvC (HR0.out)) HC0.out A4.out) ?_;rintro e w' ⟨rfl,⟨nd,rfl⟩⟩;refine ⟨_,rfl,?_⟩)|((with_reducible refine Ab (f:=130) rfl ?_);refine Zq.gc (some 12) Tryz.func130 (BT.calls _ _ _ _ _ _ (Zs.mvC (HR0.out)) HC0.out A5.out) ?_;rintro e w' ⟨rfl,⟨nd,rfl⟩⟩;refine ⟨_,rfl,?_⟩))
  go_ret
  exact ⟨by first|rfl|(simp [Cv,Cw]<;>rfl)|(simp only [← hji6];first|rfl|(simp [Cv,Cw]<;>rfl))|(simp [*,Cv,Cw]<;>rfl),Zs.auHB⟩
 ·obtain ⟨t13,A7,H⟩:=Zs.be H
  cases t13
  ·replace H:=Zq.fh H;obtain rfl:=Option.some.inj H
   go_enter Tryz.func192,Tryz.ntmps192
   go_wp2_with (((with_reducible refine Ab (f:=75) rfl ?_);refine Zq.gp Tryz.func75 (BO.calls _ _ _ _ _ _ _ (Zs.mvC (HR0.out)) HC0.out A7.out) ?_;intro nd))
   go_ret
   exact ⟨Zs.auR,Zs.auHB⟩
  ·replace H:=Zq.th H
   rcases Zq.jn H with ⟨c9b0,H⟩|⟨c9,c9b0,H⟩
   ·obtain ⟨t14,A10,H⟩:=Zs.be H;obtain ⟨t15,A11,H⟩:=Zs.be H
    cases t15
    ·replace H:=Zq.fh H;obtain rfl:=Option.some.inj H
     go_enter Tryz.func192,Tryz.ntmps192
     go_wp2_with (first|((with_reducible refine Ab (f:=75) rfl ?_);refine Zq.gp Tryz.func75 (BO.calls _ _ _ _ _ _ _ (Zs.mvC (HR0.out)) HC0.out A7.out) ?_;intro nd)|(go_at_call 131;(with_reducible refine (Bh.calls k _ _ l0 t14 _ ?side1 ?side2 A10.out).mono ?_);(case side1=>exact Zs.mvC (HR0.out));(case side2=>exact HC0.out);rintro e w' ⟨rfl,⟨nd,rfl⟩⟩)|(go_at_call 132;(with_reducible refine (CI.calls k t14 a1 false _ A11.out).mono ?_);rintro e w' ⟨rfl,⟨nd,rfl⟩⟩))
     go_ret
     exact ⟨Zs.auR,Zs.auHB⟩
    ·replace H:=Zq.th H;obtain rfl:=Option.some.inj H
     go_enter Tryz.func192,Tryz.ntmps192
     go_wp2_with (first|((with_reducible refine Ab (f:=75) rfl ?_);refine Zq.gp Tryz.func75 (BO.calls _ _ _ _ _ _ _ (Zs.mvC (HR0.out)) HC0.out A7.out) ?_;intro nd)|(go_at_call 131;(with_reducible refine (Bh.calls k _ _ l0 t14 _ ?side1 ?side2 A10.out).mono ?_);(case side1=>exact Zs.mvC (HR0.out));(case side2=>exact HC0.out);rintro e w' ⟨rfl,⟨nd,rfl⟩⟩)|(go_at_call 132;(with_reducible refine (CI.calls k t14 a1 true _ A11.out).mono ?_);rintro e w' ⟨rfl,⟨nd,rfl⟩⟩))
     go_ret
     exact ⟨Zs.auR,Zs.auHB⟩
   ·obtain rfl:=Option.some.inj H
    go_enter Tryz.func192,Tryz.ntmps192
    go_wp2_with (((with_reducible refine Ab (f:=75) rfl ?_);refine Zq.gp Tryz.func75 (BO.calls _ _ _ _ _ _ _ (Zs.mvC (HR0.out)) HC0.out A7.out) ?_;intro nd))
    go_ret
    exact ⟨Zs.auR,Zs.auHB⟩
def BQ.l0:Nat→List Int→List Int→Int→Int→Option (Int)
 | 0,_,_,_,_=>none
 | k+1,x0,x3,x4,x5=>if x5<(x3.length:Int) then if 0≤x5 then (C7.f k x0 (rd x3 x5)).bind fun t6=>(BQ.l0 k x0 x3 (mn x4 t6) (wrap64 (x5+1))) else none else some x4
def BQ.f (k:Nat) (l0:List Int):Option (Int):=(CB.f k l0).bind fun t3=>(if (t3.length:Int)=0 then some (-1) else (C7.f k l0 0).bind fun t4=>(BQ.l0 k l0 t3 t4 0))
theorem BQ.calls (k:Nat) (A0:Option Addr) (c0:Nat) (l0:List Int) (r:Int) (w:World) (hr0:Kd.C (Kd.int .i64) w A0 l0.length l0) (hc0:l0.length≤c0) (h:BQ.f k l0=some r) :
  Calls Tryz.prog 174 #[.slice A0 l0.length c0] w fun e w'=>e = .returned (.int .i64 r)∧Below w.heap.size w w':=by
 have HR0:=Aa.mk hr0;have HC0:=Aa.mk hc0;clear hr0 hc0;have HB:=Aa.mk (Below.refl w.heap.size w);unfold BQ.f at h;have H:=h;clear h;obtain ⟨t15,A2,H⟩:=Zs.be H
 rcases Zq.jn H with ⟨c3b0,H⟩|⟨c3,c3b0,H⟩
 ·obtain rfl:=Option.some.inj H
  go_enter Tryz.func174,Tryz.ntmps174
  go_wp2_with (((with_reducible refine Ab (f:=126) rfl ?_);refine Zq.gc (some 7) Tryz.func126 (CB.calls _ _ _ _ _ _ (Zs.mvC (HR0.out)) HC0.out A2.out) ?_;rintro e w4 ⟨v16,rfl,ho0,hb⟩;refine ⟨_,rfl,?_⟩;have HO17:=Zq.lw ho0;replace HB:=Zq.st hb;(try clear hb);(try clear ho0);obtain ⟨Ao5,co5,eo5⟩:=Kd.Az HO17.out;subst eo5))
  go_ret
  exact ⟨Zs.auR,Zs.auHB⟩
 ·obtain ⟨t18,A6,H⟩:=Zs.be H;have H':=Aa.mk H;clear H
  go_enter Tryz.func174,Tryz.ntmps174
  go_wp2_with (first|((with_reducible refine Ab (f:=126) rfl ?_);refine Zq.gc (some 7) Tryz.func126 (CB.calls _ _ _ _ _ _ (Zs.mvC (HR0.out)) HC0.out A2.out) ?_;rintro e w7 ⟨v16,rfl,ho0,hb⟩;refine ⟨_,rfl,?_⟩;have HO17:=Zq.lw ho0;replace HB:=Zq.st hb;(try clear hb);(try clear ho0);obtain ⟨Ao8,co8,eo8⟩:=Kd.Az HO17.out;subst eo8)|((with_reducible refine Ab (f:=192) rfl ?_);refine Zq.gb Tryz.func192 (C7.calls _ _ _ _ _ _ _ (Zs.mvC ((Kd.BF HR0.out HB.out))) HC0.out A6.out) ?_;intro w9 hb;replace HO17:=Zq.rb HO17.out hb;replace HB:=Zq.st hb;(try clear hb)))
  go_loopg [4,5] k (fun kq v4 v5 w' => ∃x4_1 x5_1:Int,v4 = .int .i64 x4_1∧v5 = .int .i64 x5_1∧Aa (BQ.l0 kq l0 t15 x4_1 x5_1=some r)∧Aa (kq≤k)∧Aa (Kd.R (Kd.int .i64) 3 w' w.heap.size (fun _=>True) (.slice Ao8 t15.length co8) t15)∧Aa (Below w.heap.size w w'))
  case atStart=>exact ⟨(t18),(0),Zs.auS,Zs.auS,H',⟨Nat.le_refl _⟩,⟨(Zs.mvR HO17.out)⟩,⟨Zs.auHB⟩⟩
  case round =>
   clear H'
   obtain ⟨x4_1,x5_1,rfl,rfl,HA,HK1,HO_3,HB⟩:=hrel;cases gk with
   | zero=>exact absurd HA.out (by simp [BQ.l0])
   | succ k1 =>
    have H:=HA.out;clear HA;simp only [BQ.l0] at H
    rcases Zq.jd H with ⟨c10b0,H⟩|⟨c10b0,H⟩
    ·obtain ⟨c11b0,H⟩:=Zq.pd H;obtain ⟨t20,A12,H⟩:=Zs.be H;obtain ⟨ji13,hji13⟩ : ∃j_:Int,(mn x4_1 t20)=j_:=⟨_,rfl⟩
     replace H:(BQ.l0 k1 l0 t15 ji13 (wrap64 (x5_1+1)))=some r:=by first|(rw [hji13] at H;exact H)|(simp only [hji13] at H ⊢;exact H)
     (try rw [hji13] at A12);have hji13_:(if t20<x4_1 then t20 else x4_1)=ji13:=hji13;have H':=Aa.mk H;clear H;obtain ⟨ad19,e19,hx19_0,p19,q19⟩:=Zq.at_ (Kd.Ac HO_3.out).2.2 x5_1;cases e19
     go_wp2_with (((with_reducible refine Ab (f:=192) rfl ?_);refine Zq.gb Tryz.func192 (C7.calls _ _ _ _ _ _ _ (Zs.mvC ((Kd.BF HR0.out HB.out))) HC0.out A12.out) ?_;intro w14 hb;replace HO_3:=Zq.rb HO_3.out hb;replace HB:=Zq.st hb;(try clear hb)))
     go_roundg k1
     case measure=>have:=HK1.out;omega
     case rel=>exact ⟨(ji13),(wrap64 (x5_1+1)),(by first|rfl|(simp;done)|(simp only [← hji13]<;>(first|rfl|simp))|(simp [*];done)),Zs.auS,H',⟨by have:=HK1.out;omega⟩,⟨(Zs.mvR HO_3.out)⟩,⟨Zs.auHB⟩⟩
    ·obtain rfl:=Option.some.inj H;go_wp2;go_ret
     exact ⟨Zs.auR,Zs.auHB⟩
def DY.f (k:Nat) (l0:List Int) (a1:ByteArray):Option (ByteArray):=if a1.toList=([115,104,111,119]:List UInt8) then (BE.f k l0).bind fun t3=>(if t3.size+1≤9223372036854775807 then some (t3++(⟨#[10]⟩:ByteArray)) else none) else if a1.toList=([100,105,115,99]:List UInt8) then (Dw.f k l0).bind fun t4=>((AP.f k t4).bind fun t5=>(if t5.size+1≤9223372036854775807 then some (t5++(⟨#[10]⟩:ByteArray)) else none)) else if a1.toList=([98,97,100]:List UInt8) then (Cc.f k l0).bind fun t6=>(some t6) else if a1.toList=([122,101,114,111]:List UInt8) then (Ck.f k l0).bind fun bt7=>((BE.f k bt7.1).bind fun t9=>((Cz.f t9 bt7.2).bind fun t10=>(some t10))) else if a1.toList=([112,108,97,110,101,115]:List UInt8) then (BQ.f k l0).bind fun t11=>((AP.f k t11).bind fun t12=>(if t12.size+1≤9223372036854775807 then some (t12++(⟨#[10]⟩:ByteArray)) else none)) else some (⟨#[119,104,97,116,10]⟩:ByteArray)
theorem DY.calls (k:Nat) (A0:Option Addr) (c0:Nat) (l0:List Int) (a1 r:ByteArray) (w:World) (hr0:Kd.C (Kd.int .i64) w A0 l0.length l0) (hc0:l0.length≤c0) (h:DY.f k l0 a1=some r) :
  Calls Tryz.prog 150 #[.slice A0 l0.length c0,.string a1] w fun e w'=>e = .returned (.string r)∧Below w.heap.size w w':=by
 have HR0:=Aa.mk hr0;have HC0:=Aa.mk hc0;clear hr0 hc0;have HB:=Aa.mk (Below.refl w.heap.size w);unfold DY.f at h;have H:=h;clear h
 rcases Zq.jn H with ⟨c3b0,H⟩|⟨c3,c3b0,H⟩
 ·obtain ⟨t29,A4,H⟩:=Zs.be H
  obtain ⟨c5,H⟩:=Zq.ip H
  try have c5b2:(9223372036854775807<t29.size+1)=False:=eq_false (Nat.not_lt.2 c5)
  obtain rfl:=Option.some.inj H
  go_enter Tryz.func150,Tryz.ntmps150
  go_wp2_with (((with_reducible refine Ab (f:=154) rfl ?_);refine Zq.gb Tryz.func154 (BE.calls _ _ _ _ _ _ (Zs.mvC (HR0.out)) HC0.out A4.out) ?_;intro w6 hb;replace HB:=Zq.st hb;(try clear hb)))
  go_ret
  exact ⟨Zs.auR,Zs.auHB⟩
 ·rcases Zq.jn H with ⟨c7b0,H⟩|⟨c7,c7b0,H⟩
  ·obtain ⟨t30,A8,H⟩:=Zs.be H;obtain ⟨t31,A9,H⟩:=Zs.be H
   obtain ⟨c10,H⟩:=Zq.ip H
   try have c10b2:(9223372036854775807<t31.size+1)=False:=eq_false (Nat.not_lt.2 c10)
   obtain rfl:=Option.some.inj H
   go_enter Tryz.func150,Tryz.ntmps150
   go_wp2_with (first|((with_reducible refine Ab (f:=172) rfl ?_);refine Zq.gb Tryz.func172 (Dw.calls _ _ _ _ _ _ (Zs.mvC (HR0.out)) HC0.out A8.out) ?_;intro w11 hb;replace HB:=Zq.st hb;(try clear hb))|((with_reducible refine Ab (f:=53) rfl ?_);refine Zq.gb Tryz.func53 (AP.calls _ _ _ _ A9.out) ?_;intro w12 hb;replace HB:=Zq.st hb;(try clear hb)))
   go_ret
   exact ⟨Zs.auR,Zs.auHB⟩
  ·rcases Zq.jn H with ⟨c13b0,H⟩|⟨c13,c13b0,H⟩
   ·obtain ⟨t32,A14,H⟩:=Zs.be H;obtain rfl:=Option.some.inj H
    go_enter Tryz.func150,Tryz.ntmps150
    go_wp2_with (((with_reducible refine Ab (f:=173) rfl ?_);refine Zq.gb Tryz.func173 (Cc.calls _ _ _ _ _ _ (Zs.mvC (HR0.out)) HC0.out A14.out) ?_;intro w15 hb;replace HB:=Zq.st hb;(try clear hb)))
    go_ret
    exact ⟨Zs.auR,Zs.auHB⟩
   ·rcases Zq.jn H with ⟨c16b0,H⟩|⟨c16,c16b0,H⟩
    ·obtain ⟨t33,t34,A17,H⟩:=Zq.bp H;try dsimp only at H;obtain ⟨t37,A18,H⟩:=Zs.be H;obtain ⟨t39,A19,H⟩:=Zs.be H;obtain rfl:=Option.some.inj H
     go_enter Tryz.func150,Tryz.ntmps150
     go_wp2_with (first|((with_reducible refine Ab (f:=38) rfl ?_);refine Zq.gc (some 27) Tryz.func38 (Ck.calls _ _ _ _ _ _ _ (Zs.mvC (HR0.out)) HC0.out A17.out) ?_;rintro e w20 ⟨v35,rfl,ho0,hb⟩;refine ⟨_,rfl,?_⟩;have HO36:=Zq.lw ho0;replace HB:=Zq.st hb;(try clear hb);(try clear ho0);obtain ⟨Ao21,co21,eo21⟩:=Kd.Az HO36.out;subst eo21)|((with_reducible refine Ab (f:=154) rfl ?_);refine Zq.gb Tryz.func154 (BE.calls _ _ _ _ _ _ (Zs.mvC ((Kd.Ac HO36.out).2.2)) ((Kd.Ac HO36.out).2.1) A18.out) ?_;intro w22 hb;replace HO36:=Zq.rb HO36.out hb;replace HB:=Zq.st hb;(try clear hb))|((with_reducible refine Ab (f:=152) rfl ?_);refine Zq.gp Tryz.func152 (Cz.calls _ _ _ _ A19.out) ?_;intro nd))
     go_ret
     exact ⟨Zs.auR,Zs.auHB⟩
    ·rcases Zq.jn H with ⟨c23b0,H⟩|⟨c23,c23b0,H⟩
     ·obtain ⟨t40,A24,H⟩:=Zs.be H;obtain ⟨t41,A25,H⟩:=Zs.be H
      obtain ⟨c26,H⟩:=Zq.ip H
      try have c26b2:(9223372036854775807<t41.size+1)=False:=eq_false (Nat.not_lt.2 c26)
      obtain rfl:=Option.some.inj H
      go_enter Tryz.func150,Tryz.ntmps150
      go_wp2_with (first|((with_reducible refine Ab (f:=174) rfl ?_);refine Zq.gb Tryz.func174 (BQ.calls _ _ _ _ _ _ (Zs.mvC (HR0.out)) HC0.out A24.out) ?_;intro w27 hb;replace HB:=Zq.st hb;(try clear hb))|((with_reducible refine Ab (f:=53) rfl ?_);refine Zq.gb Tryz.func53 (AP.calls _ _ _ _ A25.out) ?_;intro w28 hb;replace HB:=Zq.st hb;(try clear hb)))
      go_ret
      exact ⟨Zs.auR,Zs.auHB⟩
     ·obtain rfl:=Option.some.inj H
      go_enter Tryz.func150,Tryz.ntmps150
      go_wp2;go_ret
      exact ⟨Zs.auR,Zs.auHB⟩
def CU.f (k:Nat) (a0:ByteArray):Option (Int):=if a0.toList=([114]:List UInt8) then some 0 else (Au.f k a0).bind fun t3=>(if t3=0 then some (-1) else some t3)
theorem CU.calls (k:Nat) (a0:ByteArray) (r:Int) (w:World) (h:CU.f k a0=some r) :
  Calls Tryz.prog 151 #[.string a0] w fun e w'=>e = .returned (.int .i64 r)∧Bo w w':=by
 unfold CU.f at h;have H:=h;clear h
 rcases Zq.jn H with ⟨c2b0,H⟩|⟨c2,c2b0,H⟩
 ·obtain rfl:=Option.some.inj H
  go_enter Tryz.func151,Tryz.ntmps151
  go_wp2;go_ret
  exact ⟨Zs.auS,Zq.dr⟩
 ·obtain ⟨t5,A3,H⟩:=Zs.be H
  rcases Zq.jn H with ⟨c4b0,H⟩|⟨c4,c4b0,H⟩
  ·obtain rfl:=Option.some.inj H
   go_enter Tryz.func151,Tryz.ntmps151
   go_wp2_with (((with_reducible refine Ab (f:=106) rfl ?_);refine Zq.gp Tryz.func106 (Au.calls _ _ _ _ A3.out) ?_;intro nd))
   go_ret
   exact ⟨Zs.auS,Zq.dr⟩
  ·obtain rfl:=Option.some.inj H
   go_enter Tryz.func151,Tryz.ntmps151
   go_wp2_with (((with_reducible refine Ab (f:=106) rfl ?_);refine Zq.gp Tryz.func106 (Au.calls _ _ _ _ A3.out) ?_;intro nd))
   go_ret
   exact ⟨Zs.auS,Zq.dr⟩
def Ei.f (k:Nat) (l0:List Int) (a1:Int):Option (ByteArray):=(Cs.f k a1).bind fun t3=>(if t3=true then (BO.f k l0 a1).bind fun t4=>(if t4=true then some (⟨#[122,101,114,111,10]⟩:ByteArray) else some (⟨#[110,111,110,101,10]⟩:ByteArray)) else some (⟨#[110,111,10]⟩:ByteArray))
theorem Ei.calls (k:Nat) (A0:Option Addr) (c0:Nat) (l0:List Int) (a1:Int) (r:ByteArray) (w:World) (hr0:Kd.C (Kd.int .i64) w A0 l0.length l0) (hc0:l0.length≤c0) (h:Ei.f k l0 a1=some r) :
  Calls Tryz.prog 153 #[.slice A0 l0.length c0,.int .i64 a1] w fun e w'=>e = .returned (.string r)∧Bo w w':=by
 have HR0:=Aa.mk hr0;have HC0:=Aa.mk hc0;clear hr0 hc0;unfold Ei.f at h;have H:=h;clear h;obtain ⟨t4,A3,H⟩:=Zs.be H
 cases t4
 ·replace H:=Zq.fh H;obtain rfl:=Option.some.inj H
  go_enter Tryz.func153,Tryz.ntmps153
  go_wp2_with (((with_reducible refine Ab (f:=71) rfl ?_);refine Zq.gp Tryz.func71 (Cs.calls _ _ _ _ A3.out) ?_;intro nd))
  go_ret
  exact ⟨Zs.auS,Zq.dr⟩
 ·replace H:=Zq.th H;obtain ⟨t6,A5,H⟩:=Zs.be H
  cases t6
  ·replace H:=Zq.fh H;obtain rfl:=Option.some.inj H
   go_enter Tryz.func153,Tryz.ntmps153
   go_wp2_with (first|((with_reducible refine Ab (f:=71) rfl ?_);refine Zq.gp Tryz.func71 (Cs.calls _ _ _ _ A3.out) ?_;intro nd)|((with_reducible refine Ab (f:=75) rfl ?_);refine Zq.gp Tryz.func75 (BO.calls _ _ _ _ _ _ _ (Zs.mvC (HR0.out)) HC0.out A5.out) ?_;intro nd))
   go_ret
   exact ⟨Zs.auS,Zq.dr⟩
  ·replace H:=Zq.th H;obtain rfl:=Option.some.inj H
   go_enter Tryz.func153,Tryz.ntmps153
   go_wp2_with (first|((with_reducible refine Ab (f:=71) rfl ?_);refine Zq.gp Tryz.func71 (Cs.calls _ _ _ _ A3.out) ?_;intro nd)|((with_reducible refine Ab (f:=75) rfl ?_);refine Zq.gp Tryz.func75 (BO.calls _ _ _ _ _ _ _ (Zs.mvC (HR0.out)) HC0.out A5.out) ?_;intro nd))
   go_ret
   exact ⟨Zs.auS,Zq.dr⟩
end Go.Proofs.YtacfcoilmdhgnaaGreatDoor.PFnExecuteWhat
