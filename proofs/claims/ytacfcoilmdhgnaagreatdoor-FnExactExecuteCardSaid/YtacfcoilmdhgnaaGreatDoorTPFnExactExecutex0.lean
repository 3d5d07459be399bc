/- A function's Lean twin and its walk, written by a program of this session. -/
import Derived.Test.YtacfcoilmdhgnaaGreatDoorProg
import Derived.Below
import Derived.Lib.SliceRun
import Derived.Deep.Draws
import Derived.Deep.AppendLies
import Derived.Maps.AppendAt
import Derived.OwnWalk
import Derived.Laws.BytesArg
import Derived.Laws.MakeOwn
import Derived.Laws.OwnMore
import Derived.Deep.OwnRows
import Derived.Tactics
import Derived.Lib.ConvBytes
import Derived.Laws.Slices
import Derived.WalkKit
import Derived.KernelRfl
import Derived.RowKit3
import Derived.Deep.LoopGhost
import Derived.Deep.QuietTactic
import Derived.BigQuiet
import Derived.WideLaws
import Derived.Deep.DeepCutAuto
import Derived.Deep.CutBlock
import Derived.Deep.RegionHeld3
import Derived.Laws.Rows
import Derived.Lib.AppendStr
import Derived.ArgAppend
import Derived.Laws.IdiomCopy
import Derived.OrdersHeld
import Derived.Laws.BitsLemmas
import Derived.RowKit
import Derived.Test.YtacfcoilmdhgnaaGreatDoorTPlain
import Derived.OneCell
import Derived.Lib.Hide
import Derived.Laws.EntriesVeiled
import Derived.Sort.OwnSortedInts
import Derived.Test.YtacfcoilmdhgnaaGreatDoorTSrt
import Derived.Lib.AppendIntMem
import Derived.Maps.Own
import Derived.Maps.OwnSet
import Derived.Maps.OwnOps
import Derived.Maps.Keyed
import Derived.Deep.RegionWith
import Derived.Test.YtacfcoilmdhgnaaGreatDoorTSqz
import Derived.Test.YtacfcoilmdhgnaaGreatDoorTSqz2
import Derived.Test.YtacfcoilmdhgnaaGreatDoorTWWords
import Derived.Test.YtacfcoilmdhgnaaGreatDoorTWLast
import Derived.Test.YtacfcoilmdhgnaaGreatDoorTWTab
import Derived.Test.YtacfcoilmdhgnaaGreatDoorTWFour
import Derived.Test.YtacfcoilmdhgnaaGreatDoorTWQPut
import Derived.Test.YtacfcoilmdhgnaaGreatDoorTWApart
import Derived.Test.YtacfcoilmdhgnaaGreatDoorTWArr
import Derived.Test.YtacfcoilmdhgnaaGreatDoorTWZeros
import Derived.Test.YtacfcoilmdhgnaaGreatDoorTWFoot
import Derived.Test.YtacfcoilmdhgnaaGreatDoorTWKept
import Derived.Test.YtacfcoilmdhgnaaGreatDoorTWShare
import Derived.Test.YtacfcoilmdhgnaaGreatDoorTWN
import Derived.Test.YtacfcoilmdhgnaaGreatDoorTWFootNe
import Derived.Test.YtacfcoilmdhgnaaGreatDoorTWAt
import Derived.Test.YtacfcoilmdhgnaaGreatDoorTWEqStruct
import Derived.Test.YtacfcoilmdhgnaaGreatDoorTWRepsOne
import Derived.Test.YtacfcoilmdhgnaaGreatDoorTWInv
import Derived.Test.YtacfcoilmdhgnaaGreatDoorTWInvWords
import Derived.Test.YtacfcoilmdhgnaaGreatDoorTWGuard
import Derived.Test.YtacfcoilmdhgnaaGreatDoorTWNEv
import Derived.Test.YtacfcoilmdhgnaaGreatDoorTWMore
set_option maxHeartbeats 8000000
set_option maxRecDepth 100000
namespace Go.Proofs.YtacfcoilmdhgnaaGreatDoor.PFnExactExecute
open Go.RowKit Go.Proofs.YtacfcoilmdhgnaaGreatDoorW.PrintWords Go.Proofs.YtacfcoilmdhgnaaGreatDoorW.PrintLast Go.Proofs.YtacfcoilmdhgnaaGreatDoorW.PrintMore
attribute [local go_sem] Dy Dx D0 D1 Dc De DA Dz   -- for this text's walks alone
set_option linter.unusedVariables false
set_option linter.unusedSimpArgs false
def errW:Option Int→Value
 | none => .nilIface
 | some c => .iface 0 (.int .i64 c)
theorem CU:errW none = .nilIface:=rfl
theorem CV (c:Int):errW (some c) = .iface 0 (.int .i64 c):=rfl
theorem DQ:(Tryz.prog.info? 3).map (fun i=>(i.zero,i.size,i.bytes))=some (some (.int .i64 0),1,8):=by kernel_rfl
theorem Oq:(Tryz.prog.info? 9).map (fun i=>(i.zero,i.size,i.bytes))=some (some (.string ⟨#[]⟩),1,16):=by kernel_rfl
theorem info27:(Tryz.prog.info? 27).map (fun i=>(i.zero,i.size,i.bytes))=some (some (.slice none 0 0),1,24):=by kernel_rfl
-- the values' own types
def Gs (xs:List (List Int)) (i:Int):(List Int):=xs.getD i.toNat ([]:List Int)
theorem Mv {w:World} {A:Option Addr} {n:Nat} {xs:List (List Int)} (h:Kd.C (Kd.slice 3 (Kd.int .i64)) w A n xs) (i:Int) (h0:0≤i) (h1:i<n) : ∃ad A0 c0,A=some ad∧w.cell? (ad.add i.toNat)=some (.slice A0 (Gs xs i).length c0)∧(Gs xs i).length≤c0∧(Kd.int .i64).C w A0 (Gs xs i).length (Gs xs i):=by
 obtain ⟨ad,c,e,_,hK,hc0⟩:=Kd.C_get h ([]:List Int) i h0 h1;have hc : ∀j u,c[j]? = some u→w.cell? (ad.add (i.toNat*1+j))=some u:=hc0
 obtain ⟨A0,c0,rfl,l0,g0⟩:=hK;exact ⟨ad,A0,c0,e,by have hq:=hc 0 _ rfl;rwa [Nat.mul_one,Nat.add_zero] at hq,l0,g0⟩
def BW.f (a0:ByteArray) (a1:ByteArray):Option (Bool):=if (a0.size:Int)≥(a1.size:Int) then (if 0≤(a1.size:Int) then (if (a1.size:Int)≤(a0.size:Int) then (some ((a0.extract 0 ((a1.size:Int):Int).toNat).toList==a1.toList)) else (none)) else (none)) else (some false)
theorem BW.calls (a0:ByteArray) (a1:ByteArray) (r:Bool) (w:World) (h:BW.f a0 a1=some r) :
  Calls Tryz.prog 181 #[.string a0,.string a1] w fun e w'=>e = .returned (.bool r)∧Bh w w':=by
 unfold BW.f at h;have H:=h;clear h
 rcases Zq.ii H with ⟨c3,H⟩|⟨c3,H⟩
 ·have c3b1:decide (a1.size≤a0.size)=true:=decide_eq_true (Int.ofNat_le.mp c3);clear c3
  obtain ⟨c4,H⟩:=Zq.ip H;have c4b0:=eq_true c4;clear c4
  obtain ⟨c5,H⟩:=Zq.ip H;have c5b0:=eq_true c5;clear c5;obtain rfl:=Option.some.inj H
  go_enter Tryz.func181,Tryz.ntmps181
  go_wp2;go_ret
  exact ⟨Zs.auS,Zq.dr⟩
 ·have c3b1:decide (a1.size≤a0.size)=false:=decide_eq_false (fun h=>c3 (Int.ofNat_le.mpr h));clear c3;obtain rfl:=Option.some.inj H
  go_enter Tryz.func181,Tryz.ntmps181
  go_wp2;go_ret
  exact ⟨Zs.auS,Zq.dr⟩
def Cl.f (a0:ByteArray) (a1:ByteArray):Option (ByteArray×Bool):=(BW.f a0 a1).bind fun t101=>(if t101=true then (if 0≤(a1.size:Int) then (if (a1.size:Int)≤(a0.size:Int) then (some (a0.extract ((a1.size:Int):Int).toNat a0.size,true)) else (none)) else (none)) else (some (a0,false)))
theorem Cl.calls (a0:ByteArray) (a1:ByteArray) (r1:ByteArray) (r2:Bool) (w:World) (h:Cl.f a0 a1=some (r1,r2)) :
  Calls Tryz.prog 164 #[.string a0,.string a1] w fun e w'=>e = .returned (.tuple #[.string r1,.bool r2])∧Bh w w':=by
 unfold Cl.f at h;have H:=h;clear h;obtain ⟨t101,A3,H⟩:=Zs.be H
 by_cases c4:t101=true
 ·subst c4;rw [if_pos rfl] at H
  obtain ⟨c5,H⟩:=Zq.ip H;have c5b0:=eq_true c5;clear c5
  obtain ⟨c6,H⟩:=Zq.ip H;have c6b0:=eq_true c6;clear c6;simp only [Option.some.injEq,Prod.mk.injEq] at H;obtain ⟨rfl,rfl⟩:=H
  go_enter Tryz.func164,Tryz.ntmps164
  go_wp2_with (((with_reducible refine Ab (f:=181) rfl ?_);refine Zq.gp Tryz.func181 (BW.calls _ _ _ _ A3.out) ?_;intro nd))
  go_ret2
  exact ⟨Zs.auS,Zq.dr⟩
 ·replace c4:=Bool.eq_false_iff.mpr c4;subst c4;rw [if_neg (show ¬(false=true) by decide)] at H;simp only [Option.some.injEq,Prod.mk.injEq] at H;obtain ⟨rfl,rfl⟩:=H
  go_enter Tryz.func164,Tryz.ntmps164
  go_wp2_with (((with_reducible refine Ab (f:=181) rfl ?_);refine Zq.gp Tryz.func181 (BW.calls _ _ _ _ A3.out) ?_;intro nd))
  go_ret2
  exact ⟨Zs.auS,Zq.dr⟩
def Cu.f (a0:ByteArray) (a1:ByteArray):Option (ByteArray×Bool):=(Cl.f a0 a1).bind fun bt102=>(some (bt102.1,bt102.2))
theorem Cu.calls (a0:ByteArray) (a1:ByteArray) (r1:ByteArray) (r2:Bool) (w:World) (h:Cu.f a0 a1=some (r1,r2)) :
  Calls Tryz.prog 144 #[.string a0,.string a1] w fun e w'=>e = .returned (.tuple #[.string r1,.bool r2])∧Bh w w':=by
 unfold Cu.f at h;have H:=h;clear h;replace H:=Option.bind_eq_some_iff.mp H;obtain ⟨⟨t102,t103⟩,A30,H⟩:=H;try dsimp only at H;have A3:=Aa.mk A30;clear A30;simp only [Option.some.injEq,Prod.mk.injEq] at H;obtain ⟨rfl,rfl⟩:=H
 go_enter Tryz.func144,Tryz.ntmps144
 go_wp2_with (((with_reducible refine Ab (f:=164) rfl ?_);refine Zq.gp Tryz.func164 (Cl.calls _ _ _ _ _ A3.out) ?_;intro nd))
 go_ret2
 exact ⟨Zs.auS,Zq.dr⟩
mutual
def Ar.j0:Nat→ByteArray→Bool→Bool→Option (Int)
 | 0,_,_,_=>none
 | k+1,x3,x4,x19=>if x19=true then (some 99999) else (Ar.l0 k x3 x4 0 (x3.size:Int) 0)
def Ar.l0:Nat→ByteArray→Bool→Int→Int→Int→Option (Int)
 | 0,_,_,_,_,_=>none
 | k+1,x3,x4,x5,x21,x22=>if x22<x21 then (if 0≤x22 then (if x22<(x3.size:Int) then (if (bt x3 x22)<48 then (some 99999) else (if (bt x3 x22)>57 then (some 99999) else (Ar.l0 k x3 x4 (wrap64 ((wrap64 (x5*10))+(((bt x3 x22)-48)%256))) x21 (wrap64 (x22+1))))) else (none)) else (none)) else (if x4=true then (some (wrap64 (-x5))) else (some x5))
end
def Ar.f (k:Nat) (a0:ByteArray):Option (Int):=(Cu.f a0 (⟨#[45]⟩:ByteArray)).bind fun bt104=>(if (bt104.1.size:Int)<1 then (Ar.j0 k bt104.1 bt104.2 true) else (Ar.j0 k bt104.1 bt104.2 (decide ((bt104.1.size:Int)>4))))
theorem Ar.calls (k:Nat) (a0:ByteArray) (r:Int) (w:World) (h:Ar.f k a0=some r) :
  Calls Tryz.prog 96 #[.string a0] w fun e w'=>e = .returned (.int .i64 r)∧Bh w w':=by
 unfold Ar.f at h;have H:=h;clear h;replace H:=Option.bind_eq_some_iff.mp H;obtain ⟨⟨t104,t105⟩,A20,H⟩:=H;try dsimp only at H;have A2:=Aa.mk A20;clear A20;have HC3:=Aa.mk H;clear H
 go_enter Tryz.func96,Tryz.ntmps96
 go_upto_region 2 with (((with_reducible refine Ab (f:=144) rfl ?_);refine Zq.gp Tryz.func144 (Cu.calls _ _ _ _ _ A2.out) ?_;intro nd))
 (try simp only [Act.put,List.setIfInBounds_toArray,List.set_cons_zero,List.set_cons_succ])
 go_cut [19] (fun v19 wc => ∃(kq:Nat) (x19_2:Bool),v19 = .bool x19_2∧Aa (Ar.j0 kq t104 t105 x19_2=some r)∧Aa (kq≤k)∧Bh w wc)
 case first =>
  have H:=HC3.out;clear HC3
  rcases Zq.ii H with ⟨c4,H⟩|⟨c4,H⟩
  ·have c4b0:=decide_eq_true c4;clear c4
   have H':=Aa.mk H;clear H;go_wp2
   go_meet
   case rel=>exact ⟨_,(true),Zs.auS,H',⟨Zs.auN⟩,Zq.dr⟩
  ·have c4b0:=decide_eq_false c4;clear c4
   have H':=Aa.mk H;clear H;go_wp2
   go_meet
   case rel=>exact ⟨_,(decide ((t104.size:Int)>4)),Zs.auS,H',⟨Zs.auN⟩,Zq.dr⟩
 case rest =>
  clear HC3
  obtain ⟨kq,x19_2,rfl,HA,HJ2,⟨mc2,rfl⟩⟩:=hcut;cases kq with
  | zero=>exact absurd HA.out (by simp [Ar.j0])
  | succ kj2 =>
   have H:=HA.out;clear HA;simp only [Ar.j0] at H
   by_cases c5:x19_2=true
   ·subst c5;rw [if_pos rfl] at H;obtain rfl:=Option.some.inj H;go_wp2;go_ret
    exact ⟨Zs.auS,Zq.dr⟩
   ·replace c5:=Bool.eq_false_iff.mpr c5;subst c5;rw [if_neg (show ¬(false=true) by decide)] at H;have H':=Aa.mk H;clear H;go_wp2
    go_loopg [5,22] kj2 (fun kq v5 v22 w' => ∃(x5_2:Int) (x22_2:Int),v5 = .int .i64 x5_2∧v22 = .int .i64 x22_2∧Aa (Ar.l0 kq t104 t105 x5_2 (t104.size:Int) x22_2=some r)∧Aa (kq≤kj2)∧Bh w w')
    case atStart=>exact ⟨(0),(0),Zs.auS,Zs.auS,H',⟨Nat.le_refl _⟩,Zq.dr⟩
    case round =>
     clear H'
     obtain ⟨x5_2,x22_2,rfl,rfl,HA,HK2,⟨m2,rfl⟩⟩:=hrel;cases gk with
     | zero=>exact absurd HA.out (by simp [Ar.l0])
     | succ k2 =>
      have H:=HA.out;clear HA;simp only [Ar.l0] at H
      rcases Zq.ii H with ⟨c6,H⟩|⟨c6,H⟩
      ·have c6b0:=decide_eq_true c6;clear c6
       obtain ⟨c7,H⟩:=Zq.ip H;have c7b0:=decide_eq_true c7;clear c7
       obtain ⟨c8,H⟩:=Zq.ip H;have c8b0:=decide_eq_true c8;clear c8
       rcases Zq.ii H with ⟨c10,H⟩|⟨c10,H⟩
       ·have c10b0:=decide_eq_true c10;clear c10;obtain rfl:=Option.some.inj H;have p9:0≤(x22_2:Int):=Zs.od;have q9:x22_2<(t104.size:Int):=Zs.od;have hx9:=F2 t104 x22_2;replace p9:=eq_true p9;replace q9:=eq_true q9;go_wp2;go_ret
        exact ⟨Zs.auS,Zq.dr⟩
       ·have c10b0:=decide_eq_false c10;clear c10
        rcases Zq.ii H with ⟨c12,H⟩|⟨c12,H⟩
        ·have c12b0:decide (57<(bt t104 x22_2))=true:=decide_eq_true c12;clear c12;obtain rfl:=Option.some.inj H;have p9:0≤(x22_2:Int):=Zs.od;have q9:x22_2<(t104.size:Int):=Zs.od;have hx9:=F2 t104 x22_2;replace p9:=eq_true p9;replace q9:=eq_true q9;have p11:0≤(x22_2:Int):=Zs.od;have q11:x22_2<(t104.size:Int):=Zs.od;have hx11:=F2 t104 x22_2;replace p11:=eq_true p11;replace q11:=eq_true q11;go_wp2;go_ret
         exact ⟨Zs.auS,Zq.dr⟩
        ·have c12b0:decide (57<(bt t104 x22_2))=false:=decide_eq_false c12;clear c12;have H':=Aa.mk H;clear H;have p9:0≤(x22_2:Int):=Zs.od;have q9:x22_2<(t104.size:Int):=Zs.od;have hx9:=F2 t104 x22_2;replace p9:=eq_true p9;replace q9:=eq_true q9;have p11:0≤(x22_2:Int):=Zs.od;have q11:x22_2<(t104.size:Int):=Zs.od;have hx11:=F2 t104 x22_2;replace p11:=eq_true p11;replace q11:=eq_true q11;have p13:0≤(x22_2:Int):=Zs.od;have q13:x22_2<(t104.size:Int):=Zs.od;have hx13:=F2 t104 x22_2;replace p13:=eq_true p13;replace q13:=eq_true q13;go_wp2
         go_roundg k2
         case measure=>have:=HJ2.out;have:=HK2.out;omega
         case rel=>exact ⟨(wrap64 ((wrap64 (x5_2*10))+(((bt t104 x22_2)-48)%256))),(wrap64 (x22_2+1)),Zs.auS,Zs.auS,H',⟨by have:=HJ2.out;have:=HK2.out;omega⟩,Zq.dr⟩
      ·have c6b0:=decide_eq_false c6;clear c6
       by_cases c14:t105=true
       ·subst c14;rw [if_pos rfl] at H;obtain rfl:=Option.some.inj H;go_wp2;go_ret
        exact ⟨Zs.auS,Zq.dr⟩
       ·replace c14:=Bool.eq_false_iff.mpr c14;subst c14;rw [if_neg (show ¬(false=true) by decide)] at H;obtain rfl:=Option.some.inj H;go_wp2;go_ret
        exact ⟨Zs.auS,Zq.dr⟩
def Cv.f (k:Nat) (a0:ByteArray):Option (Int):=if a0.toList=([114]:List UInt8) then (some 0) else ((Ar.f k a0).bind fun t106=>(if t106=0 then (some (-1)) else (some t106)))
theorem Cv.calls (k:Nat) (a0:ByteArray) (r:Int) (w:World) (h:Cv.f k a0=some r) :
  Calls Tryz.prog 100 #[.string a0] w fun e w'=>e = .returned (.int .i64 r)∧Bh w w':=by
 unfold Cv.f at h;have H:=h;clear h
 rcases Zq.ii H with ⟨c2,H⟩|⟨c2,H⟩
 ·have c2b0:=beq_iff_eq.mpr c2;clear c2;obtain rfl:=Option.some.inj H
  go_enter Tryz.func100,Tryz.ntmps100
  go_wp2;go_ret
  exact ⟨Zs.auS,Zq.dr⟩
 ·have c2b0:=beq_eq_false_iff_ne.mpr c2;obtain ⟨t106,A3,H⟩:=Zs.be H
  rcases Zq.ii H with ⟨c4,H⟩|⟨c4,H⟩
  ·have c4b1:=bne_eq_false_iff_eq.mpr c4;clear c4;obtain rfl:=Option.some.inj H
   go_enter Tryz.func100,Tryz.ntmps100
   go_wp2_with (((with_reducible refine Ab (f:=96) rfl ?_);refine Zq.gp Tryz.func96 (Ar.calls _ _ _ _ A3.out) ?_;intro nd))
   go_ret
   exact ⟨Zs.auS,Zq.dr⟩
  ·have c4b1:=bne_iff_ne.mpr c4;obtain rfl:=Option.some.inj H
   go_enter Tryz.func100,Tryz.ntmps100
   go_wp2_with (((with_reducible refine Ab (f:=96) rfl ?_);refine Zq.gp Tryz.func96 (Ar.calls _ _ _ _ A3.out) ?_;intro nd))
   go_ret
   exact ⟨Zs.auS,Zq.dr⟩
def Bq.f (a0:Int):Option (Int):=some (mx a0 (wrap64 (-a0)))
theorem Bq.calls (a0:Int) (r:Int) (w:World) (h:Bq.f a0=some r) :
  Calls Tryz.prog 112 #[.int .i64 a0] w fun e w'=>e = .returned (.int .i64 r)∧Below w.heap.size w w':=by
 have HB:=Aa.mk (Below.refl w.heap.size w);unfold Bq.f at h;have H:=h;clear h;obtain ⟨ji2,hji2⟩ : ∃j_:Int,(mx a0 (wrap64 (-a0)))=j_:=⟨_,rfl⟩
 replace H:(some ji2)=some r:=by first|(rw [hji2] at H;exact H)|(simp only [hji2] at H ⊢;exact H)
 have hji2_:(if a0<(wrap64 (-a0)) then (wrap64 (-a0)) else a0)=ji2:=hji2;obtain rfl:=Option.some.inj H
 go_enter Tryz.func112,Tryz.ntmps112
 go_wp2;go_ret
 exact ⟨by first|rfl|(simp [CU,CV]<;>rfl)|(simp only [← hji2];first|rfl|(simp [CU,CV]<;>rfl))|(simp [*,CU,CV]<;>rfl),Zs.auHB⟩
def Ai.l0:Nat→List Int→List Int→Int→Int→Option (Bool)
 | 0,_,_,_,_=>none
 | k+1,x0,x5,x6,x7=>if x7<x6 then (if 0≤x7 then (if x7<(x5.length:Int) then (if (rd x5 x7)=0 then (some false) else ((Bq.f (rd x5 x7)).bind fun t108=>(if t108>30 then (some false) else (Ai.l0 k x0 x5 x6 (wrap64 (x7+1)))))) else (none)) else (none)) else (if (x0.length:Int)≥1 then (some (decide ((x0.length:Int)≤4))) else (some false))
def Ai.f (k:Nat) (l0:List Int):Option (Bool):=Ai.l0 k l0 l0 (l0.length:Int) 0
theorem Ai.calls (k:Nat) (A0:Option Addr) (c0:Nat) (l0:List Int) (r:Bool) (w:World) (hr0:Kd.C (Kd.int .i64) w A0 l0.length l0) (hc0:l0.length≤c0) (h:Ai.f k l0=some r) :
  Calls Tryz.prog 59 #[.slice A0 l0.length c0] w fun e w'=>e = .returned (.bool r)∧Below w.heap.size w w':=by
 have HR0:=Aa.mk hr0;have HC0:=Aa.mk hc0;clear hr0 hc0;have HB:=Aa.mk (Below.refl w.heap.size w);unfold Ai.f at h;have H:=h;clear h;have H':=Aa.mk H;clear H
 go_enter Tryz.func59,Tryz.ntmps59
 go_wp2
 go_loopg [7] k (fun kq v7 w' => ∃(x7_1:Int),v7 = .int .i64 x7_1∧Aa (Ai.l0 kq l0 l0 (l0.length:Int) x7_1=some r)∧Aa (kq≤k)∧Aa (Below w.heap.size w w'))
 case atStart=>exact ⟨(0),Zs.auS,H',⟨Nat.le_refl _⟩,⟨Zs.auHB⟩⟩
 case round =>
  clear H';obtain ⟨x7_1,rfl,HA,HK1,HB⟩:=hrel;cases gk with
  | zero=>exact absurd HA.out (by simp [Ai.l0])
  | succ k1 =>
   have H:=HA.out;clear HA;simp only [Ai.l0] at H
   rcases Zq.ii H with ⟨c2,H⟩|⟨c2,H⟩
   ·have c2b0:=decide_eq_true c2;clear c2
    obtain ⟨c3,H⟩:=Zq.ip H;have c3b0:=decide_eq_true c3;clear c3
    obtain ⟨c4,H⟩:=Zq.ip H;have c4b0:=decide_eq_true c4;clear c4
    rcases Zq.ii H with ⟨c5,H⟩|⟨c5,H⟩
    ·have c5b0:=beq_iff_eq.mpr c5;clear c5;obtain rfl:=Option.some.inj H;obtain ⟨ad107,e107,hx107_0,p107,q107⟩:=Zq.at_ HR0.out x7_1;cases e107;replace hx107_0:=Zq.ce HB.out hx107_0;go_wp2;go_ret
     exact ⟨Zs.auR,Zs.auHB⟩
    ·have c5b0:=beq_eq_false_iff_ne.mpr c5;obtain ⟨t108,A6,H⟩:=Zs.be H
     rcases Zq.ii H with ⟨c7,H⟩|⟨c7,H⟩
     ·have c7b0:decide (30<t108)=true:=decide_eq_true c7;clear c7;obtain rfl:=Option.some.inj H;obtain ⟨ad107,e107,hx107_0,p107,q107⟩:=Zq.at_ HR0.out x7_1;cases e107;replace hx107_0:=Zq.ce HB.out hx107_0
      go_wp2_with ((go_at_call 112;(with_reducible refine (Bq.calls (rd l0 x7_1) t108 _ A6.out).mono ?_);rintro e w8 ⟨rfl,hb⟩;replace HB:=Zq.st hb;(try clear hb)))
      go_ret
      exact ⟨Zs.auR,Zs.auHB⟩
     ·have c7b0:decide (30<t108)=false:=decide_eq_false c7;clear c7;have H':=Aa.mk H;clear H;obtain ⟨ad107,e107,hx107_0,p107,q107⟩:=Zq.at_ HR0.out x7_1;cases e107;replace hx107_0:=Zq.ce HB.out hx107_0
      go_wp2_with ((go_at_call 112;(with_reducible refine (Bq.calls (rd l0 x7_1) t108 _ A6.out).mono ?_);rintro e w9 ⟨rfl,hb⟩;replace HB:=Zq.st hb;(try clear hb)))
      go_roundg k1
      case measure=>have:=HK1.out;omega
      case rel=>exact ⟨(wrap64 (x7_1+1)),Zs.auS,H',⟨by have:=HK1.out;omega⟩,⟨Zs.auHB⟩⟩
   ·have c2b0:=decide_eq_false c2;clear c2
    rcases Zq.ii H with ⟨c10,H⟩|⟨c10,H⟩
    ·have c10b0:decide (1≤(l0.length:Int))=true:=decide_eq_true c10;clear c10;obtain rfl:=Option.some.inj H;go_wp2;go_ret
     exact ⟨Zs.auR,Zs.auHB⟩
    ·have c10b0:decide (1≤(l0.length:Int))=false:=decide_eq_false c10;clear c10;obtain rfl:=Option.some.inj H;go_wp2;go_ret
     exact ⟨Zs.auR,Zs.auHB⟩
def CD.f (a0:Int):Option (Bool):=if a0≥(-5000) then (some (decide (a0≤5000))) else (some false)
theorem CD.calls (a0:Int) (r:Bool) (w:World) (h:CD.f a0=some r) :
  Calls Tryz.prog 60 #[.int .i64 a0] w fun e w'=>e = .returned (.bool r)∧Bh w w':=by
 unfold CD.f at h;have H:=h;clear h
 rcases Zq.ii H with ⟨c2,H⟩|⟨c2,H⟩
 ·have c2b0:decide ((-5000)≤a0)=true:=decide_eq_true c2;clear c2;obtain rfl:=Option.some.inj H
  go_enter Tryz.func60,Tryz.ntmps60
  go_wp2;go_ret
  exact ⟨Zs.auS,Zq.dr⟩
 ·have c2b0:decide ((-5000)≤a0)=false:=decide_eq_false c2;clear c2;obtain rfl:=Option.some.inj H
  go_enter Tryz.func60,Tryz.ntmps60
  go_wp2;go_ret
  exact ⟨Zs.auS,Zq.dr⟩
def BP.l0:Nat→Int→Int→Int→Option (Int×Int)
 | 0,_,_,_=>none
 | k+1,x0,x1,x6=>if x1=0 then (none) else (if (Int.tmod x0 x1)=0 then (BP.l0 k (wrap64 (Int.tdiv x0 x1)) x1 (wrap64 (x6+1))) else (some (x6,x0)))
def BP.f (k:Nat) (a0:Int) (a1:Int):Option (Int×Int):=BP.l0 k a0 a1 0
theorem BP.calls (k:Nat) (a0:Int) (a1:Int) (r1:Int) (r2:Int) (w:World) (h:BP.f k a0 a1=some (r1,r2)) :
  Calls Tryz.prog 117 #[.int .i64 a0,.int .i64 a1] w fun e w'=>e = .returned (.tuple #[.int .i64 r1,.int .i64 r2])∧Bh w w':=by
 unfold BP.f at h;have H:=h;clear h;have H':=Aa.mk H;clear H
 go_enter Tryz.func117,Tryz.ntmps117
 go_wp2
 go_loopg [0,6] k (fun kq v0 v6 w' => ∃(x0_1:Int) (x6_1:Int),v0 = .int .i64 x0_1∧v6 = .int .i64 x6_1∧Aa (BP.l0 kq x0_1 a1 x6_1=some (r1,r2))∧Aa (kq≤k)∧Bh w w')
 case atStart=>exact ⟨(a0),(0),Zs.auS,Zs.auS,H',⟨Nat.le_refl _⟩,Zq.dr⟩
 case round =>
  clear H'
  obtain ⟨x0_1,x6_1,rfl,rfl,HA,HK1,⟨m1,rfl⟩⟩:=hrel;cases gk with
  | zero=>exact absurd HA.out (by simp [BP.l0])
  | succ k1 =>
   have H:=HA.out;clear HA;simp only [BP.l0] at H
   by_cases c3:a1=0
   ·rw [if_pos c3] at H;exact absurd H (by simp)
   ·rw [if_neg c3] at H
    rcases Zq.ii H with ⟨c4,H⟩|⟨c4,H⟩
    ·have c4b0:=beq_iff_eq.mpr c4;clear c4;have H':=Aa.mk H;clear H;go_wp2
     go_roundg k1
     case measure=>have:=HK1.out;omega
     case rel=>exact ⟨(wrap64 (Int.tdiv x0_1 a1)),(wrap64 (x6_1+1)),Zs.auS,Zs.auS,H',⟨by have:=HK1.out;omega⟩,Zq.dr⟩
    ·have c4b0:=beq_eq_false_iff_ne.mpr c4;simp only [Option.some.injEq,Prod.mk.injEq] at H;obtain ⟨rfl,rfl⟩:=H;go_wp2;go_ret2
     exact ⟨Zs.auS,Zq.dr⟩
def Bk.l0:Nat→Int→List Int→Int→Option (List Int)
 | 0,_,_,_=>none
 | k+1,x0,x3,x4=>if (wrap64 (x4*x4))≤x0 then (if x4=0 then (none) else (if (Int.tmod x0 x4)=0 then (if x3.length<17592186044416 then ((BP.f k x0 x4).bind fun bt116=>(Bk.l0 k bt116.2 (x3++[x4]) (wrap64 (x4+1)))) else (none)) else (Bk.l0 k x0 x3 (wrap64 (x4+1))))) else (if x0>1 then (if x3.length<17592186044416 then (some (x3++[x0])) else (none)) else (some x3))
def Bk.f (k:Nat) (a0:Int):Option (List Int):=(Bq.f a0).bind fun t112=>(Bk.l0 k t112 (([]:List Int)) 2)
theorem Bk.calls (k:Nat) (a0:Int) (r:List Int) (w:World) (h:Bk.f k a0=some r) :
  Calls Tryz.prog 113 #[.int .i64 a0] w fun e w' => ∃v0_:Value,e = .returned (v0_)∧Kd.R (Kd.int .i64) 3 w' w.heap.size (fun _=>True) v0_ r∧Below w.heap.size w w':=by
 have HB:=Aa.mk (Below.refl w.heap.size w);unfold Bk.f at h;have H:=h;clear h;obtain ⟨y109,hyy⟩ : ∃y_:List Int,y_=(([]:List Int)):=⟨_,rfl⟩
 replace H:((Bq.f a0).bind fun t112=>(Bk.l0 k t112 y109 2))=some r:=Zs.auY
 have Ny109:=Aa.mk hyy;clear hyy;obtain ⟨t112,A2,H⟩:=Zs.be H;have H':=Aa.mk H;clear H
 go_enter Tryz.func113,Tryz.ntmps113
 go_wp2_with (first|((with_reducible refine Bg (N:=5) rfl ?_);refine Zq.li ([]:List Int) ?_;intro v110 w3 ho4 hb;(first|rw [← Ny109.out] at ho4|(simp only [Int.reduceToNat] at ho4;rw [← Ny109.out] at ho4));have HO111:=Zq.lw ho4;replace HB:=Zq.st hb;clear hb ho4)|((with_reducible refine Ab (f:=112) rfl ?_);refine Zq.gb Tryz.func112 (Bq.calls _ _ _ A2.out) ?_;intro w5 hb;replace HO111:=Zq.rb HO111.out hb;replace HB:=Zq.st hb;(try clear hb)))
 go_loopg [0,3,4] k (fun kq v0 v3 v4 w' => ∃(x0_1:Int) (x3_1:List Int) (x4_1:Int),v0 = .int .i64 x0_1∧v4 = .int .i64 x4_1∧Aa (Bk.l0 kq x0_1 x3_1 x4_1=some r)∧Aa (kq≤k)∧Aa (Kd.R (Kd.int .i64) 3 w' w.heap.size (fun _=>True) v3 x3_1)∧Aa (Below w.heap.size w w'))
 case atStart=>exact ⟨(t112),(y109),(2),Zs.auS,Zs.auS,H',⟨Nat.le_refl _⟩,⟨(Zs.mvR HO111.out)⟩,⟨Zs.auHB⟩⟩
 case round =>
  clear H'
  obtain ⟨x0_1,x3_1,x4_1,rfl,rfl,HA,HK1,HO_3,HB⟩:=hrel;cases gk with
  | zero=>exact absurd HA.out (by simp [Bk.l0])
  | succ k1 =>
   have H:=HA.out;clear HA;simp only [Bk.l0] at H
   rcases Zq.ii H with ⟨c6,H⟩|⟨c6,H⟩
   ·have c6b0:=decide_eq_true c6;clear c6
    by_cases c7:x4_1=0
    ·rw [if_pos c7] at H;exact absurd H (by simp)
    ·rw [if_neg c7] at H
     rcases Zq.ii H with ⟨c8,H⟩|⟨c8,H⟩
     ·have c8b0:=beq_iff_eq.mpr c8;clear c8
      obtain ⟨c9,H⟩:=Zq.ip H;have LMc9:=Aa.mk c9;clear c9;(try rw [Option.bind_some] at H);generalize hyy:(x3_1++[x4_1]:List Int)=y113 at H;have Ny113:=Aa.mk hyy.symm;clear hyy;replace H:=Option.bind_eq_some_iff.mp H;obtain ⟨⟨t116,t117⟩,A100,H⟩:=H;try dsimp only at H;have A10:=Aa.mk A100;clear A100;have H':=Aa.mk H;clear H
      go_wp2_with (first|((with_reducible refine AW (b := .append) (xs:=#[.tmp 19,.tmp 21]) rfl ?_);at_builtin;refine Zq.ap (.tmp 19) (.tmp 21) 27 Tryz.underlying27 DQ u3 x3_1 x4_1 (fun _=>True) (fun _ _=>trivial) ((Zs.mvR HO_3.out)) LMc9.out ?_;intro v114 w11 ho hb hg hat;rw [← Ny113.out] at ho;replace HB:=Aa.mk (hb);have HO115:=Aa.mk (ho);clear HO_3;clear ho hb hg hat)|((with_reducible refine Ab (f:=117) rfl ?_);refine Zq.gp Tryz.func117 (BP.calls _ _ _ _ _ _ A10.out) ?_;intro nd))
      go_roundg k1
      case measure=>have:=HK1.out;omega
      case rel=>exact ⟨(t117),(y113),(wrap64 (x4_1+1)),Zs.auS,Zs.auS,H',⟨by have:=HK1.out;omega⟩,⟨(Zs.mvR HO115.out)⟩,⟨Zs.auHB⟩⟩
     ·have c8b0:=beq_eq_false_iff_ne.mpr c8;have H':=Aa.mk H;clear H;go_wp2
      go_roundg k1
      case measure=>have:=HK1.out;omega
      case rel=>exact ⟨(x0_1),(x3_1),(wrap64 (x4_1+1)),Zs.auS,Zs.auS,H',⟨by have:=HK1.out;omega⟩,⟨(Zs.mvR HO_3.out)⟩,⟨Zs.auHB⟩⟩
   ·have c6b0:=decide_eq_false c6;clear c6
    rcases Zq.ii H with ⟨c12,H⟩|⟨c12,H⟩
    ·have c12b0:decide (1<x0_1)=true:=decide_eq_true c12;clear c12
     obtain ⟨c13,H⟩:=Zq.ip H;have LMc13:=Aa.mk c13;clear c13;(try rw [Option.bind_some] at H);generalize hyy:(x3_1++[x0_1]:List Int)=y118 at H;have Ny118:=Aa.mk hyy.symm;clear hyy;obtain rfl:=Option.some.inj H
     go_wp2_with (((with_reducible refine AW (b := .append) (xs:=#[.tmp 31,.tmp 33]) rfl ?_);at_builtin;refine Zq.ap (.tmp 31) (.tmp 33) 27 Tryz.underlying27 DQ u3 x3_1 x0_1 (fun _=>True) (fun _ _=>trivial) ((Zs.mvR HO_3.out)) LMc13.out ?_;intro v119 w14 ho hb hg hat;rw [← Ny118.out] at ho;replace HB:=Aa.mk (hb);have HO120:=Aa.mk (ho);clear HO_3;clear ho hb hg hat))
     go_ret
     exact ⟨_,Zs.auR,(Zs.mvR HO120.out),Zs.auHB⟩
    ·have c12b0:decide (1<x0_1)=false:=decide_eq_false c12;clear c12;obtain rfl:=Option.some.inj H;go_wp2;go_ret
     exact ⟨_,Zs.auR,(Zs.mvR HO_3.out),Zs.auHB⟩
mutual
def AO.l0:Nat→Int→Int→List Int→Int→Int→Option (Int×Int)
 | 0,_,_,_,_,_=>none
 | k+1,x0,x4,x8,x9,x10=>if x10<x9 then (if 0≤x10 then (if x10<(x8.length:Int) then (AO.l1 k x0 x4 (rd x8 x10) x8 x9 x10) else (none)) else (none)) else (some (x0,x4))
def AO.l1:Nat→Int→Int→Int→List Int→Int→Int→Option (Int×Int)
 | 0,_,_,_,_,_,_=>none
 | k+1,x0,x4,x6,x8,x9,x10=>if (wrap64 (x6*x6))=0 then (none) else (if (Int.tmod x0 (wrap64 (x6*x6)))=0 then (AO.l1 k (wrap64 (Int.tdiv x0 (wrap64 (x6*x6)))) (wrap64 (x4*x6)) x6 x8 x9 x10) else (AO.l0 k x0 x4 x8 x9 (wrap64 (x10+1))))
end
def AO.f (k:Nat) (a0:Int):Option (Int×Int):=(Bk.f k a0).bind fun t121=>(AO.l0 k a0 1 t121 (t121.length:Int) 0)
theorem AO.calls (k:Nat) (a0:Int) (r1:Int) (r2:Int) (w:World) (h:AO.f k a0=some (r1,r2)) :
  Calls Tryz.prog 61 #[.int .i64 a0] w fun e w'=>e = .returned (.tuple #[.int .i64 r1,.int .i64 r2])∧Below w.heap.size w w':=by
 have HB:=Aa.mk (Below.refl w.heap.size w);unfold AO.f at h;have H:=h;clear h;obtain ⟨t121,A2,H⟩:=Zs.be H;have H':=Aa.mk H;clear H
 go_enter Tryz.func61,Tryz.ntmps61
 go_wp2_with (((with_reducible refine Ab (f:=113) rfl ?_);refine Zq.gc (some 8) Tryz.func113 (Bk.calls _ _ _ _ A2.out) ?_;rintro e w3 ⟨v122,rfl,ho0,hb⟩;refine ⟨_,rfl,?_⟩;have HO123:=Zq.lw ho0;replace HB:=Zq.st hb;(try clear hb);(try clear ho0);obtain ⟨Ao4,co4,eo4⟩:=Kd.AD HO123.out;subst eo4))
 go_loopg [0,4,10] k (fun kq v0 v4 v10 w' => ∃(x0_1:Int) (x4_1:Int) (x10_1:Int),v0 = .int .i64 x0_1∧v4 = .int .i64 x4_1∧v10 = .int .i64 x10_1∧Aa (AO.l0 kq x0_1 x4_1 t121 (t121.length:Int) x10_1=some (r1,r2))∧Aa (kq≤k)∧Aa (Kd.R (Kd.int .i64) 3 w' w.heap.size (fun _=>True) (.slice Ao4 t121.length co4) t121)∧Aa (Below w.heap.size w w'))
 case atStart=>exact ⟨(a0),(1),(0),Zs.auS,Zs.auS,Zs.auS,H',⟨Nat.le_refl _⟩,⟨(Zs.mvR HO123.out)⟩,⟨Zs.auHB⟩⟩
 case round =>
  clear H'
  obtain ⟨x0_1,x4_1,x10_1,rfl,rfl,rfl,HA,HK1,HO_8,HB⟩:=hrel;cases gk with
  | zero=>exact absurd HA.out (by simp [AO.l0])
  | succ k1 =>
   have H:=HA.out;clear HA;simp only [AO.l0] at H
   rcases Zq.ii H with ⟨c5,H⟩|⟨c5,H⟩
   ·have c5b0:=decide_eq_true c5;clear c5
    obtain ⟨c6,H⟩:=Zq.ip H;have c6b0:=decide_eq_true c6;clear c6
    obtain ⟨c7,H⟩:=Zq.ip H;have c7b0:=decide_eq_true c7;clear c7;have H':=Aa.mk H;clear H;obtain ⟨ad124,e124,hx124_0,p124,q124⟩:=Zq.at_ (Kd.Ac HO_8.out).2.2 x10_1;cases e124;go_wp2
    go_loopg [0,4] k1 (fun kq v0 v4 w' => ∃(x0_2:Int) (x4_2:Int),v0 = .int .i64 x0_2∧v4 = .int .i64 x4_2∧Aa (AO.l1 kq x0_2 x4_2 (rd t121 x10_1) t121 (t121.length:Int) x10_1=some (r1,r2))∧Aa (kq≤k1)∧Aa (Kd.R (Kd.int .i64) 3 w' w.heap.size (fun _=>True) (.slice (some ad124) t121.length co4) t121)∧Aa (Below w.heap.size w w'))
    case atStart=>exact ⟨(x0_1),(x4_1),Zs.auS,Zs.auS,H',⟨Nat.le_refl _⟩,⟨(Zs.mvR HO_8.out)⟩,⟨Zs.auHB⟩⟩
    case round =>
     clear H'
     obtain ⟨x0_2,x4_2,rfl,rfl,HA,HK2,HO_8,HB⟩:=hrel;cases gk with
     | zero=>exact absurd HA.out (by simp [AO.l1])
     | succ k2 =>
      have H:=HA.out;clear HA;simp only [AO.l1] at H
      by_cases c8:(wrap64 ((rd t121 x10_1)*(rd t121 x10_1)))=0
      ·rw [if_pos c8] at H;exact absurd H (by simp)
      ·rw [if_neg c8] at H
       rcases Zq.ii H with ⟨c9,H⟩|⟨c9,H⟩
       ·have c9b0:=beq_iff_eq.mpr c9;clear c9;have H':=Aa.mk H;clear H;go_wp2
        go_roundg k2
        case measure=>have:=HK1.out;have:=HK2.out;omega
        case rel=>exact ⟨(wrap64 (Int.tdiv x0_2 (wrap64 ((rd t121 x10_1)*(rd t121 x10_1))))),(wrap64 (x4_2*(rd t121 x10_1))),Zs.auS,Zs.auS,H',⟨by have:=HK1.out;have:=HK2.out;omega⟩,⟨(Zs.mvR HO_8.out)⟩,⟨Zs.auHB⟩⟩
       ·have c9b0:=beq_eq_false_iff_ne.mpr c9;have H':=Aa.mk H;clear H;go_wp2
        go_roundg k2
        case measure=>have:=HK1.out;have:=HK2.out;omega
        case rel=>exact ⟨(x0_2),(x4_2),(wrap64 (x10_1+1)),Zs.auS,Zs.auS,Zs.auS,H',⟨by have:=HK1.out;have:=HK2.out;omega⟩,⟨(Zs.mvR HO_8.out)⟩,⟨Zs.auHB⟩⟩
   ·have c5b0:=decide_eq_false c5;clear c5;simp only [Option.some.injEq,Prod.mk.injEq] at H;obtain ⟨rfl,rfl⟩:=H;go_wp2;go_ret2
    exact ⟨Zs.auR,Zs.auHB⟩
mutual
def AM.j0:Nat→List Int→Int→Bool→Option (List Int×Bool)
 | 0,_,_,_=>none
 | k+1,x0,x1,x22=>if x22=true then (some (([]:List Int),false)) else (AM.l0 k x1 (([]:List Int)) x0 (x0.length:Int) 0)
def AM.l0:Nat→Int→List Int→List Int→Int→Int→Option (List Int×Bool)
 | 0,_,_,_,_,_=>none
 | k+1,x1,x6,x24,x25,x26=>if x26<x25 then (if 0≤x26 then (if x26<(x24.length:Int) then ((AO.f k (wrap64 ((rd x24 x26)*x1))).bind fun bt131=>(if x6.length<17592186044416 then (AM.l0 k x1 (x6++[bt131.1]) x24 x25 (wrap64 (x26+1))) else (none))) else (none)) else (none)) else ((Ai.f k x6).bind fun t136=>(if t136=true then (some (x6,true)) else (some (([]:List Int),false))))
end
def AM.f (k:Nat) (l0:List Int) (a1:Int):Option (List Int×Bool):=(Ai.f k l0).bind fun t125=>(if t125=true then (if a1=0 then (AM.j0 k l0 a1 true) else ((CD.f a1).bind fun t126=>(AM.j0 k l0 a1 (!t126)))) else (AM.j0 k l0 a1 true))
theorem AM.calls (k:Nat) (A0:Option Addr) (c0:Nat) (l0:List Int) (a1:Int) (r1:List Int) (r2:Bool) (w:World) (hr0:Kd.C (Kd.int .i64) w A0 l0.length l0) (hc0:l0.length≤c0) (h:AM.f k l0 a1=some (r1,r2)) :
  Calls Tryz.prog 27 #[.slice A0 l0.length c0,.int .i64 a1] w fun e w' => ∃v0_:Value,e = .returned (.tuple #[v0_,.bool r2])∧Kd.R (Kd.int .i64) 3 w' w.heap.size (fun _=>True) v0_ r1∧Below w.heap.size w w':=by
 have HR0:=Aa.mk hr0;have HC0:=Aa.mk hc0;clear hr0 hc0;have HB:=Aa.mk (Below.refl w.heap.size w);unfold AM.f at h;have H:=h;clear h;have HC3:=Aa.mk H;clear H
 go_enter Tryz.func27,Tryz.ntmps27
 go_upto_region 1 with (fail)
 go_cut [22] (fun v22 wc => ∃(kq:Nat) (x22_2:Bool),v22 = .bool x22_2∧Aa (AM.j0 kq l0 a1 x22_2=some (r1,r2))∧Aa (kq≤k)∧Aa (Below w.heap.size w wc))
 case first =>
  have H:=HC3.out;clear HC3;obtain ⟨t125,A4,H⟩:=Zs.be H
  by_cases c5:t125=true
  ·subst c5;rw [if_pos rfl] at H
   rcases Zq.ii H with ⟨c6,H⟩|⟨c6,H⟩
   ·have c6b0:=beq_iff_eq.mpr c6;clear c6
    have H':=Aa.mk H;clear H
    go_wp2_with (((with_reducible refine Ab (f:=59) rfl ?_);refine Zq.gb Tryz.func59 (Ai.calls _ _ _ _ _ _ (Zs.mvC ((Kd.Bw HR0.out HB.out))) HC0.out A4.out) ?_;intro w7 hb;replace HB:=Zq.st hb;(try clear hb)))
    go_meet
    case rel=>exact ⟨_,(true),Zs.auS,H',⟨Zs.auN⟩,⟨Zs.auHB⟩⟩
   ·have c6b0:=beq_eq_false_iff_ne.mpr c6
    obtain ⟨t126,A8,H⟩:=Zs.be H;have H':=Aa.mk H;clear H
    go_wp2_with (first|((with_reducible refine Ab (f:=59) rfl ?_);refine Zq.gb Tryz.func59 (Ai.calls _ _ _ _ _ _ (Zs.mvC ((Kd.Bw HR0.out HB.out))) HC0.out A4.out) ?_;intro w9 hb;replace HB:=Zq.st hb;(try clear hb))|(go_at_call 60;(with_reducible refine (CD.calls a1 t126 _ A8.out).mono ?_);rintro e w' ⟨rfl,⟨nd,rfl⟩⟩))
    go_meet
    case rel=>exact ⟨_,(!t126),Zs.auS,H',⟨Zs.auN⟩,⟨Zs.auHB⟩⟩
  ·replace c5:=Bool.eq_false_iff.mpr c5;subst c5;rw [if_neg (show ¬(false=true) by decide)] at H;have H':=Aa.mk H;clear H
   go_wp2_with (((with_reducible refine Ab (f:=59) rfl ?_);refine Zq.gb Tryz.func59 (Ai.calls _ _ _ _ _ _ (Zs.mvC ((Kd.Bw HR0.out HB.out))) HC0.out A4.out) ?_;intro w10 hb;replace HB:=Zq.st hb;(try clear hb)))
   go_meet
   case rel=>exact ⟨_,(true),Zs.auS,H',⟨Zs.auN⟩,⟨Zs.auHB⟩⟩
 case rest =>
  clear HC3
  obtain ⟨kq,x22_2,rfl,HA,HJ2,HB⟩:=hcut;cases kq with
  | zero=>exact absurd HA.out (by simp [AM.j0])
  | succ kj2 =>
   have H:=HA.out;clear HA;simp only [AM.j0] at H
   by_cases c11:x22_2=true
   ·subst c11;rw [if_pos rfl] at H;simp only [Option.some.injEq,Prod.mk.injEq] at H;obtain ⟨rfl,rfl⟩:=H;go_wp2;go_ret2
    exact ⟨_,Zs.auR,by first|exact Kd.Es _ _ _ _ _|exact Kd.Fq _ _ _ _ _|exact Kd.Fz _ _ _ _ _|exact Kd.FB _ _ _ _ _|exact Kd.Fy _ _ _ _ _,Zs.auHB⟩
   ·replace c11:=Bool.eq_false_iff.mpr c11;subst c11;rw [if_neg (show ¬(false=true) by decide)] at H;obtain ⟨y127,hyy⟩ : ∃y_:List Int,y_=(([]:List Int)):=⟨_,rfl⟩
    replace H:(AM.l0 kj2 a1 y127 l0 (l0.length:Int) 0)=some (r1,r2):=Zs.auY
    have Ny127:=Aa.mk hyy;clear hyy;have H':=Aa.mk H;clear H
    go_wp2_with (((with_reducible refine Bg (N:=23) rfl ?_);refine Zq.li ([]:List Int) ?_;intro v128 w12 ho13 hb;(first|rw [← Ny127.out] at ho13|(simp only [Int.reduceToNat] at ho13;rw [← Ny127.out] at ho13));have HO129:=Zq.lw ho13;replace HB:=Zq.st hb;clear hb ho13))
    go_loopg [6,26] kj2 (fun kq v6 v26 w' => ∃(x6_2:List Int) (x26_2:Int),v26 = .int .i64 x26_2∧Aa (AM.l0 kq a1 x6_2 l0 (l0.length:Int) x26_2=some (r1,r2))∧Aa (kq≤kj2)∧Aa (Kd.R (Kd.int .i64) 3 w' w.heap.size (fun _=>True) v6 x6_2)∧Aa (Below w.heap.size w w'))
    case atStart=>exact ⟨(y127),(0),Zs.auS,H',⟨Nat.le_refl _⟩,⟨(Zs.mvR HO129.out)⟩,⟨Zs.auHB⟩⟩
    case round =>
     clear H'
     obtain ⟨x6_2,x26_2,rfl,HA,HK2,HO_6,HB⟩:=hrel;cases gk with
     | zero=>exact absurd HA.out (by simp [AM.l0])
     | succ k2 =>
      have H:=HA.out;clear HA;simp only [AM.l0] at H
      rcases Zq.ii H with ⟨c14,H⟩|⟨c14,H⟩
      ·have c14b0:=decide_eq_true c14;clear c14
       obtain ⟨c15,H⟩:=Zq.ip H;have c15b0:=decide_eq_true c15;clear c15
       obtain ⟨c16,H⟩:=Zq.ip H;have c16b0:=decide_eq_true c16;clear c16;replace H:=Option.bind_eq_some_iff.mp H;obtain ⟨⟨t131,t132⟩,A170,H⟩:=H;try dsimp only at H;have A17:=Aa.mk A170;clear A170
       obtain ⟨c18,H⟩:=Zq.ip H;have LMc18:=Aa.mk c18;clear c18;(try rw [Option.bind_some] at H);generalize hyy:(x6_2++[t131]:List Int)=y133 at H;have Ny133:=Aa.mk hyy.symm;clear hyy;have H':=Aa.mk H;clear H;obtain ⟨ad130,e130,hx130_0,p130,q130⟩:=Zq.at_ HR0.out x26_2;cases e130;replace hx130_0:=Zq.ce HB.out hx130_0
       go_wp2_with (first|((with_reducible refine Ab (f:=61) rfl ?_);refine Zq.gb Tryz.func61 (AO.calls _ _ _ _ _ A17.out) ?_;intro w19 hb;replace HO_6:=Zq.rb HO_6.out hb;replace HB:=Zq.st hb;(try clear hb))|((with_reducible refine AW (b := .append) (xs:=#[.tmp 37,.tmp 39]) rfl ?_);at_builtin;refine Zq.ap (.tmp 37) (.tmp 39) 27 Tryz.underlying27 DQ u6 x6_2 t131 (fun _=>True) (fun _ _=>trivial) ((Zs.mvR HO_6.out)) LMc18.out ?_;intro v134 w20 ho hb hg hat;rw [← Ny133.out] at ho;replace HB:=Aa.mk (hb);have HO135:=Aa.mk (ho);clear HO_6;clear ho hb hg hat))
       go_roundg k2
       case measure=>have:=HJ2.out;have:=HK2.out;omega
       case rel=>exact ⟨(y133),(wrap64 (x26_2+1)),Zs.auS,H',⟨by have:=HJ2.out;have:=HK2.out;omega⟩,⟨(Zs.mvR HO135.out)⟩,⟨Zs.auHB⟩⟩
      ·have c14b0:=decide_eq_false c14;clear c14;obtain ⟨t136,A21,H⟩:=Zs.be H
       by_cases c22:t136=true
       ·subst c22;rw [if_pos rfl] at H;simp only [Option.some.injEq,Prod.mk.injEq] at H;obtain ⟨rfl,rfl⟩:=H;obtain ⟨Ao23,co23,eo23⟩:=Kd.AD HO_6.out;subst eo23
        go_wp2_with (((with_reducible refine Ab (f:=59) rfl ?_);refine Zq.gb Tryz.func59 (Ai.calls _ _ _ _ _ _ (Zs.mvC ((Kd.Ac HO_6.out).2.2)) ((Kd.Ac HO_6.out).2.1) A21.out) ?_;intro w24 hb;replace HO_6:=Zq.rb HO_6.out hb;replace HB:=Zq.st hb;(try clear hb)))
        go_ret2
        exact ⟨_,Zs.auR,(Zs.mvR HO_6.out),Zs.auHB⟩
       ·replace c22:=Bool.eq_false_iff.mpr c22;subst c22;rw [if_neg (show ¬(false=true) by decide)] at H;simp only [Option.some.injEq,Prod.mk.injEq] at H;obtain ⟨rfl,rfl⟩:=H;obtain ⟨Ao25,co25,eo25⟩:=Kd.AD HO_6.out;subst eo25
        go_wp2_with (((with_reducible refine Ab (f:=59) rfl ?_);refine Zq.gb Tryz.func59 (Ai.calls _ _ _ _ _ _ (Zs.mvC ((Kd.Ac HO_6.out).2.2)) ((Kd.Ac HO_6.out).2.1) A21.out) ?_;intro w26 hb;replace HO_6:=Zq.rb HO_6.out hb;replace HB:=Zq.st hb;(try clear hb)))
        go_ret2
        exact ⟨_,Zs.auR,by first|exact Kd.Es _ _ _ _ _|exact Kd.Fq _ _ _ _ _|exact Kd.Fz _ _ _ _ _|exact Kd.FB _ _ _ _ _|exact Kd.Fy _ _ _ _ _,Zs.auHB⟩
def CH.f (k:Nat) (l0:List Int):Option (List Int×Bool):=(AM.f k l0 1).bind fun bt137=>(some (bt137.1,bt137.2))
theorem CH.calls (k:Nat) (A0:Option Addr) (c0:Nat) (l0:List Int) (r1:List Int) (r2:Bool) (w:World) (hr0:Kd.C (Kd.int .i64) w A0 l0.length l0) (hc0:l0.length≤c0) (h:CH.f k l0=some (r1,r2)) :
  Calls Tryz.prog 98 #[.slice A0 l0.length c0] w fun e w' => ∃v0_:Value,e = .returned (.tuple #[v0_,.bool r2])∧Kd.R (Kd.int .i64) 3 w' w.heap.size (fun _=>True) v0_ r1∧Below w.heap.size w w':=by
 have HR0:=Aa.mk hr0;have HC0:=Aa.mk hc0;clear hr0 hc0;have HB:=Aa.mk (Below.refl w.heap.size w);unfold CH.f at h;have H:=h;clear h;replace H:=Option.bind_eq_some_iff.mp H;obtain ⟨⟨t137,t138⟩,A20,H⟩:=H;try dsimp only at H;have A2:=Aa.mk A20;clear A20;simp only [Option.some.injEq,Prod.mk.injEq] at H;obtain ⟨rfl,rfl⟩:=H
 go_enter Tryz.func98,Tryz.ntmps98
 go_wp2_with (((with_reducible refine Ab (f:=27) rfl ?_);refine Zq.gc (some 5) Tryz.func27 (AM.calls _ _ _ _ _ _ _ _ (Zs.mvC (HR0.out)) HC0.out A2.out) ?_;rintro e w3 ⟨v139,rfl,ho0,hb⟩;refine ⟨_,rfl,?_⟩;have HO140:=Zq.lw ho0;replace HB:=Zq.st hb;(try clear hb);(try clear ho0)))
 go_ret2
 exact ⟨_,Zs.auR,(Zs.mvR HO140.out),Zs.auHB⟩
section
open Locg
def GW (w:World):Prop:=(∃m:Int,w.cell? ⟨0,0,none⟩=some (.int .i64 m))∧Lib.TabIs Tryz.prog w "internal/strconv.uint64pow10" .u64 Lib.pow10Tab
theorem M9:Tryz.prog.globalNamed "internal/strconv.uint64pow10" = some 1:=by kernel_rfl
theorem GW.below {w w':World} (h:GW w) (hb:Below w.heap.size w w'):GW w':=by
 obtain ⟨⟨m,hm⟩,ht⟩:=h;refine ⟨⟨m,(hb.cell (World.block_lt_of_cell? w _ hm)).trans hm⟩,?_⟩
 unfold Lib.TabIs World.var? at ht ⊢
 rw [M9] at ht ⊢;simp only [Option.bind_some] at ht ⊢
 have hlt:1<w.heap.size:=by
  rcases Nat.lt_or_ge 1 w.heap.size with h'|h'
  ·exact h'
  ·rw [Array.getElem?_eq_none h'] at ht;cases ht
 rw [hb.block _ hlt];exact ht
def strconv_Itoa.f (a0:Int):Option ByteArray:=if -9223372036854775808≤a0∧a0≤9223372036854775807 then some ⟨(Lib.itoa a0).toArray⟩ else none
theorem strconv_Itoa.calls (a0:Int) (r:ByteArray) (w:World) (hG:GW w) (h:strconv_Itoa.f a0=some r) :
  Calls Tryz.prog 49 #[.int .i64 a0] w fun e w'=>e = .returned (.string r)∧Below w.heap.size w w':=by
 unfold strconv_Itoa.f at h
 by_cases c : -9223372036854775808≤a0∧a0≤9223372036854775807
 ·rw [if_pos c] at h;obtain rfl:=Option.some.inj h;refine (Tryz.strconv_Itoa a0 c.1 c.2 w hG.2).mono ?_;rintro e w' ⟨rfl,k,os,rfl⟩;exact ⟨rfl,Lib.below_grow w.heap.size w (Nat.le_refl _) k os⟩
 ·rw [if_neg c] at h;cases h
def strings_Join.f (l0:List ByteArray) (a1:ByteArray):Option ByteArray:=if l0.length≤140737488355328∧(Lib.join (l0.map (·.data.toList)) a1.data.toList).length≤140737488355328 then some ⟨(Lib.join (l0.map (·.data.toList)) a1.data.toList).toArray⟩ else none
theorem strings_Join.calls (A0:Option Addr) (c0:Nat) (l0:List ByteArray) (a1:ByteArray) (r:ByteArray) (w:World) (hr0:Kd.C Kd.string w A0 l0.length l0) (hc0:l0.length≤c0) (h:strings_Join.f l0 a1=some r) :
  Calls Tryz.prog 103 #[.slice A0 l0.length c0,.string a1] w fun e w'=>e = .returned (.string r)∧Below w.heap.size w w':=by
 unfold strings_Join.f at h
 by_cases c:l0.length≤140737488355328∧(Lib.join (l0.map (·.data.toList)) a1.data.toList).length≤140737488355328
 ·rw [if_pos c] at h;obtain rfl:=Option.some.inj h;cases l0 with
  | nil =>
   refine (Tryz.strings_Join_none A0 c0 a1 w).mono ?_;rintro e w' ⟨rfl,rfl⟩;exact ⟨rfl,Below.refl _ _⟩
  | cons x xs =>
   obtain ⟨_,_,hcells⟩:=Kd.E0 (d:=ByteArray.empty) hr0;obtain ⟨⟨bk,o,fl⟩,rfl,hc⟩:=hcells (by simp);have h0:=hc 0 (by simp);cases fl with
   | some q =>
    exfalso
    simp only [World.cell?,Addr.add] at h0
    split at h0
    ·simp at h0
    ·cases h0
   | none =>
    refine (Tryz.strings_Join bk o c0 (x::xs) a1 w (fun j y hj=>?_) (World.block_lt_of_cell? w _ h0) c.1 hc0 c.2).mono ?_
    ·have hl:=(List.getElem?_eq_some_iff.1 hj).1;have:=hc j hl;rw [List.getD_eq_getElem?_getD,hj] at this;have e:(⟨bk,o,none⟩:Addr).add j=⟨bk,o+j,none⟩:=by cases j<;>simp [Addr.add]
     rw [e] at this;exact this
    ·rintro e w' ⟨rfl,hb⟩;exact ⟨rfl,hb⟩
 ·rw [if_neg c] at h;cases h
def strings_Split.f (a0 a1:ByteArray):Option (List ByteArray):=if a0.size<4294967281∧1≤a1.size then some (Lib.splitB a1 0 (Lib.countB a0 a1) a0) else none
theorem strings_Split.calls (a0 a1:ByteArray) (r:List ByteArray) (w:World) (hG:GW w) (h:strings_Split.f a0 a1=some r) :
  Calls Tryz.prog 46 #[.string a0,.string a1] w fun e w' => ∃v0_:Value,e = .returned v0_∧Kd.R Kd.string 9 w' w.heap.size (fun _=>True) v0_ r∧Below w.heap.size w w':=by
 unfold strings_Split.f at h
 by_cases c:a0.size<4294967281∧1≤a1.size
 ·rw [if_pos c] at h;obtain rfl:=Option.some.inj h;obtain ⟨⟨m,hm⟩,_⟩:=hG;refine (Tryz.strings_Split a0 a1 m w c.1 hm c.2).mono ?_;rintro e w' ⟨rfl,rfl⟩;have hl:=Lib.splitB_all a1 c.2 0 _ a0 rfl;have hle:=Lib.countB_le a1 c.2 a0.size a0 (Nat.le_refl _);refine ⟨_,rfl,?_,(Below.refl _ w).alloc (Nat.le_refl _) _⟩;have ho:=World.ownsRow_lit (base:=w.heap.size) (e:=9) (size:=1) w ((Lib.splitB a1 0 (Lib.countB a0 a1) a0).map Value.string).toArray (Lib.countB a0 a1+1) (Nat.le_refl _) (by unfold maxLen;omega) (by simp [hl]);rw [← hl] at ho ⊢;exact Kd.FL (by simpa [encs] using ho) (fun _ _=>trivial)
 ·rw [if_neg c] at h;cases h
structure KeepB (b:Nat) (w w':World):Prop where
 os:w'.os=w.os
 tape:w'.tape=w.tape
 output:w'.output=w.output
 size:w.heap.size≤w'.heap.size
 block : ∀k,k<w.heap.size→k≠b→(∀cells,w.heap[k]? ≠some (.cells cells 5 (0,0)))→w'.heap[k]? = w.heap[k]?
set_option maxHeartbeats 4000000 in
theorem Oc (B b:Nat) (bs:List Value) (w:World) (h:Lib.IsBuilder 53 5 B b bs w) :
  Calls Tryz.prog 95 #[.pointer (some ⟨b,0,none⟩)] w fun e w'=>e = .returned (.tuple #[])∧(Lib.BuilderAt 53 5 B b (.pointer (some ⟨b,0,none⟩)) bs w'∧Below B w w'∧∀k,k≠b→w'.heap[k]? = w.heap[k]?):=by
 rcases h with h|h
 ·have c0:=h.cell0;have f0:=h.frozen0;have sh:=h.shape;have HH:=Aa.mk h;clear h;obtain ⟨j,hj,hjs⟩:=Option.map_eq_some_iff.1 (show (Tryz.prog.info? 53).map (fun i=>i.size)=some 2 by kernel_rfl);have HJ:=Aa.mk hj;have HJS:=Aa.mk hjs;clear hj hjs
  go_enter Tryz.func95,Tryz.ntmps95
  go_wp2;rw [Lib.run_to_unsafe w ⟨b,0,none⟩ Tryz.underlying51 Tryz.underlying109 HJ.out (by rw [HJS.out];decide) sh (Nat.zero_lt_succ 1)];simp only [Result.andThen];rw [Oper.upon_value];go_wp2;rw [run_callFunc_extern Tryz.func143 (by kernel_rfl) (by kernel_rfl) (by kernel_rfl) (e:=Extern.AbiNoEscape.same) (by kernel_rfl)];rw [Lib.run_noEscape];simp only [Result.andThen];rw [Oper.upon_value];go_wp2;rw [Lib.run_from_unsafe w ⟨b,0,none⟩ Tryz.underlying109 Tryz.underlying51 HJ.out sh (by kernel_rfl)];simp only [Result.andThen];rw [Oper.upon_value];go_wp2
  go_end0
  exact ⟨rfl,HH.out.used _,(Below.refl B w).setCell (p:=⟨b,0,none⟩) HH.out.1 _,fun k hk=>Below.heap_setCell _ _ _ _ hk⟩
 ·have c0:=h.cell0;have HH:=Aa.mk h;clear h;obtain ⟨j,hj,_⟩:=Option.map_eq_some_iff.1 (show (Tryz.prog.info? 53).map (fun i=>i.size)=some 2 by kernel_rfl);have HJ:=Aa.mk hj;clear hj
  go_enter Tryz.func95,Tryz.ntmps95
  go_wp2;rw [Lib.run_neq_ptr_same w _ Tryz.underlying51 HJ.out];go_wp2
  go_end0
  exact ⟨rfl,HH.out,Below.refl B _,fun _ _=>rfl⟩
theorem ob_slice {w:World} {B n:Nat} {e:TypeId} {size:Nat} {v:Value} {xs:List Value} (h:w.ownsRow B e size v n xs) : ∃ao n' cap,v = .slice ao n' cap:=by
 obtain ⟨A,c,hv⟩:=DC h;exact ⟨_,_,_,hv⟩
set_option maxHeartbeats 4000000 in
theorem Kb (B b:Nat) (bs:List Value) (s:ByteArray) (w:World) (h:Lib.IsBuilder 53 5 B b bs w) (hlen:bs.length+s.size≤140737488355328) (hBw:B≤w.heap.size) :
  Calls Tryz.prog 47 #[.pointer (some ⟨b,0,none⟩),.string s] w fun e w'=>e = .returned (.tuple #[.int .i64 s.size,.nilIface])∧(Lib.BuilderAt 53 5 B b (.pointer (some ⟨b,0,none⟩)) (bs++Lib.strCells s) w'∧Below B w w'∧KeepB b w w'):=by
 obtain ⟨i0,hi,hz0,hz1,hz2⟩:=info_parts (show (Tryz.prog.info? 5).map (fun i=>(i.zero,i.size,i.bytes))=some (some (.int .u8 0),1,1) by kernel_rfl);have HI:=Aa.mk h;clear h
 go_enter Tryz.func47,Tryz.ntmps47
 go_wp2_with (first|(go_at_call 95;refine (Oc B b bs _ HI.out).mono ?_;rintro e w1 ⟨rfl,h1,hb1,hk1⟩;obtain ⟨hB,v,hbk,hown,hne⟩:=h1;have HK:=Aa.mk hk1;clear hk1;have c0:w1.cell? ⟨b,0,none⟩=some (.pointer (some ⟨b,0,none⟩)):=(by rw [Lib.cell_of_heap hbk];rfl);have c1:w1.cell? ⟨b,1,none⟩=some v:=(by rw [Lib.cell_of_heap hbk];rfl);have HD:=Aa.mk (show _∧_∧_∧_ from ⟨hbk,hown,hne,hb1⟩);have HB:=Aa.mk hB;clear hbk hown hne hb1 hB)|(at_builtin;refine Lib.wpList_append_own_string _ rfl _ _ 22 9 rfl B 5 i0 Tryz.underlying22 Tryz.underlying9 hi hz0 hz1 hz2 _ _ _ rfl HD.out.2.1 s rfl ?c3 ?c4 ?c5 ?_;(case c3=>(unfold maxLen;omega));(case c4=>omega);(case c5=>(have:=HD.out.2.2.2.size;omega));intro v' w2 hown' hgrow _;have hlt:b<w1.heap.size:=lt_of_block HD.out.1;have hb2:w2.heap[b]? = some (.cells #[.pointer (some ⟨b,0,none⟩),v] 53 (0,0)):=(hgrow.block b hlt (fun e=>HD.out.2.2.1 e.symm)).trans HD.out.1;have d0:w2.cell? ⟨b,0,none⟩=some (.pointer (some ⟨b,0,none⟩)):=(by rw [Lib.cell_of_heap hb2];rfl);have d1:w2.cell? ⟨b,1,none⟩=some v:=(by rw [Lib.cell_of_heap hb2];rfl);have f1:w2.frozen? ⟨b,1,none⟩=false:=Lib.frozen_of_heap hb2 1;have HE:=Aa.mk (show _∧_∧_ from ⟨hown',hgrow,hb2⟩);obtain ⟨ao,n',cap,ev⟩:=ob_slice hown';subst ev;clear hown' hgrow hb2 c0 c1))
 go_ret2
 obtain ⟨hown',hgrow,hb2⟩:=HE.out;obtain ⟨_,hown,hne,hb1⟩:=HD.out;refine ⟨rfl,?_,?_,?_⟩
 ·exact Lib.BuilderAt.put (T:=53) (e:=5) HB.out hb2 (bs':=bs++Lib.strCells s) (by simpa [Lib.strCells_length] using hown') (by decide)
 ·exact (hb1.grown hgrow (by have:=hb1.size;omega) (fun k hk=>(hown.lt k hk).1)).setCell (p:=⟨b,1,none⟩) HB.out _
 ·refine ⟨hgrow.os.trans hb1.os,hgrow.tape.trans hb1.tape,hgrow.output.trans hb1.output,by simp only [World.setCell,Array.size_modify];exact Nat.le_trans hb1.size hgrow.size,fun k hk hkb hty=>?_⟩;refine (Below.heap_setCell _ _ _ _ hkb).trans ((hgrow.block k (Nat.lt_of_lt_of_le hk hb1.size) (fun e=>?_)).trans (HK.out k hkb));obtain ⟨cells,hc⟩:=DR hown k e.symm;exact hty cells ((HK.out k hkb).symm.trans hc)
end
section
open Locg
end
def Bn.l0:Nat→List ByteArray→List Int→Int→Int→Option (ByteArray)
 | 0,_,_,_,_=>none
 | k+1,x3,x7,x8,x9=>if x9<x8 then (if 0≤x9 then (if x9<(x7.length:Int) then ((strconv_Itoa.f (rd x7 x9)).bind fun t145=>(if x3.length<8796093022208 then (Bn.l0 k (x3++[t145]) x7 x8 (wrap64 (x9+1))) else (none))) else (none)) else (none)) else ((strings_Join.f x3 (⟨#[32]⟩:ByteArray)).bind fun t149=>(some t149))
def Bn.f (k:Nat) (l0:List Int):Option (ByteArray):=Bn.l0 k (([]:List ByteArray)) l0 (l0.length:Int) 0
theorem Bn.calls (k:Nat) (A0:Option Addr) (c0:Nat) (l0:List Int) (r:ByteArray) (w:World) (hG:GW w) (hr0:Kd.C (Kd.int .i64) w A0 l0.length l0) (hc0:l0.length≤c0) (h:Bn.f k l0=some r) :
  Calls Tryz.prog 99 #[.slice A0 l0.length c0] w fun e w'=>e = .returned (.string r)∧Below w.heap.size w w':=by
 have HG:=Aa.mk hG;clear hG;have HR0:=Aa.mk hr0;have HC0:=Aa.mk hc0;clear hr0 hc0;have HB:=Aa.mk (Below.refl w.heap.size w);unfold Bn.f at h;have H:=h;clear h;obtain ⟨y141,hyy⟩ : ∃y_:List ByteArray,y_=(([]:List ByteArray)):=⟨_,rfl⟩
 replace H:(Bn.l0 k y141 l0 (l0.length:Int) 0)=some r:=Zs.auY
 have Ny141:=Aa.mk hyy;clear hyy;have H':=Aa.mk H;clear H
 go_enter Tryz.func99,Tryz.ntmps99
 go_wp2_with (((with_reducible refine Bg (N:=6) rfl ?_);refine Kd.MF Kd.string _ 9 ?hg (N:=6) ?hd (xs:=([]:List ByteArray)) (inner:=[]) (ok:=fun _=>True) (okp:=fun _=>True) ?hr ?hp (fun _ hk=>hk) trivial (Below.refl _ _) (Nat.le_refl _) (by simp) ?_;(case hd=>rfl);(case hg=>rfl);(case hr=>first|(go_simp;done)|(go_simp;rfl));(case hp=>exact (Reps.none _ _));intro v142 w2 ho3 hb hg_ hnew_;clear hg_ hnew_;(first|rw [← Ny141.out] at ho3|(simp only [Int.reduceToNat] at ho3;rw [← Ny141.out] at ho3));have HO143:=Zq.lw ho3;replace HB:=Zq.st hb;clear hb ho3))
 go_loopg [3,9] k (fun kq v3 v9 w' => ∃(x3_1:List ByteArray) (x9_1:Int),v9 = .int .i64 x9_1∧Aa (Bn.l0 kq x3_1 l0 (l0.length:Int) x9_1=some r)∧Aa (kq≤k)∧Aa (Kd.R Kd.string 9 w' w.heap.size (fun _=>True) v3 x3_1)∧Aa (Below w.heap.size w w'))
 case atStart=>exact ⟨(y141),(0),Zs.auS,H',⟨Nat.le_refl _⟩,⟨(Zs.mvR HO143.out)⟩,⟨Zs.auHB⟩⟩
 case round =>
  clear H'
  obtain ⟨x3_1,x9_1,rfl,HA,HK1,HO_3,HB⟩:=hrel;cases gk with
  | zero=>exact absurd HA.out (by simp [Bn.l0])
  | succ k1 =>
   have H:=HA.out;clear HA;simp only [Bn.l0] at H
   rcases Zq.ii H with ⟨c4,H⟩|⟨c4,H⟩
   ·have c4b0:=decide_eq_true c4;clear c4
    obtain ⟨c5,H⟩:=Zq.ip H;have c5b0:=decide_eq_true c5;clear c5
    obtain ⟨c6,H⟩:=Zq.ip H;have c6b0:=decide_eq_true c6;clear c6;obtain ⟨t145,A7,H⟩:=Zs.be H
    obtain ⟨c8,H⟩:=Zq.ip H;have LMc8:=Aa.mk c8;clear c8;(try rw [Option.bind_some] at H);generalize hyy:(x3_1++[t145]:List ByteArray)=y146 at H;have Ny146:=Aa.mk hyy.symm;clear hyy;have H':=Aa.mk H;clear H;obtain ⟨ad144,e144,hx144_0,p144,q144⟩:=Zq.at_ HR0.out x9_1;cases e144;replace hx144_0:=Zq.ce HB.out hx144_0
    go_wp2_with (first|((with_reducible refine Ab (f:=49) rfl ?_);refine Zq.gb Tryz.func49 (strconv_Itoa.calls _ _ _ (GW.below HG.out (by repeat (first|(with_reducible first|exact HB.out|apply Al|apply As|apply Ax)|exact HB.out))) A7.out) ?_;intro w9 hb;replace HO_3:=Zq.rb HO_3.out hb;replace HB:=Zq.st hb;(try clear hb))|((with_reducible refine AW (b := .append) (xs:=#[.tmp 13,.tmp 16]) rfl ?_);at_builtin;refine Kd.Ei Kd.string (w0:=w) w.heap.size rfl (.tmp 13) (.tmp 16) 54 9 (.string ⟨#[]⟩) 16 rfl Tryz.underlying54 Oq rfl (by decide) (by omega) u3 x3_1 t145 [.string t145] (fun _=>True) (fun _=>False) rfl rfl ?aP (fun _ hk=>hk.elim) ?aF ?aO ?aB ?aS ?aL ?_;(case aP=>exact rfl);(case aB=>exact (Zs.auHB));(case aF=>exact (fun _ _=>trivial));(case aO=>exact ((Zs.mvR HO_3.out)));(case aS=>exact (Av (Zs.auHB)));(case aL=>have:=LMc8.out;omega);intro v147 w10 ho hb hg hat;rw [← Ny146.out] at ho;replace HB:=Aa.mk (hb);have HO148:=Aa.mk (ho);clear HO_3;clear ho hb hg hat))
    go_roundg k1
    case measure=>have:=HK1.out;omega
    case rel=>exact ⟨(y146),(wrap64 (x9_1+1)),Zs.auS,H',⟨by have:=HK1.out;omega⟩,⟨(Zs.mvR HO148.out)⟩,⟨Zs.auHB⟩⟩
   ·have c4b0:=decide_eq_false c4;clear c4;obtain ⟨t149,A11,H⟩:=Zs.be H;obtain rfl:=Option.some.inj H;obtain ⟨Ao12,co12,eo12⟩:=Kd.AD HO_3.out;subst eo12
    go_wp2_with (((with_reducible refine Ab (f:=103) rfl ?_);refine Zq.gb Tryz.func103 (strings_Join.calls _ _ _ _ _ _ (Zs.mvC ((Kd.Ac HO_3.out).2.2)) ((Kd.Ac HO_3.out).2.1) A11.out) ?_;intro w13 hb;replace HO_3:=Zq.rb HO_3.out hb;replace HB:=Zq.st hb;(try clear hb)))
    go_ret
    exact ⟨Zs.auR,Zs.auHB⟩
def AR.l0:Nat→Int→List Int→Int→Int→Option (Int)
 | 0,_,_,_,_=>none
 | k+1,x3,x6,x7,x8=>if x8<x7 then (if 0≤x8 then (if x8<(x6.length:Int) then (AR.l0 k (wrap64 (x3*(rd x6 x8))) x6 x7 (wrap64 (x8+1))) else (none)) else (none)) else (some x3)
def AR.f (k:Nat) (l0:List Int):Option (Int):=AR.l0 k 1 l0 (l0.length:Int) 0
theorem AR.calls (k:Nat) (A0:Option Addr) (c0:Nat) (l0:List Int) (r:Int) (w:World) (hr0:Kd.C (Kd.int .i64) w A0 l0.length l0) (hc0:l0.length≤c0) (h:AR.f k l0=some r) :
  Calls Tryz.prog 65 #[.slice A0 l0.length c0] w fun e w'=>e = .returned (.int .i64 r)∧Bh w w':=by
 have HR0:=Aa.mk hr0;have HC0:=Aa.mk hc0;clear hr0 hc0;unfold AR.f at h;have H:=h;clear h;have H':=Aa.mk H;clear H
 go_enter Tryz.func65,Tryz.ntmps65
 go_wp2
 go_loopg [3,8] k (fun kq v3 v8 w' => ∃(x3_1:Int) (x8_1:Int),v3 = .int .i64 x3_1∧v8 = .int .i64 x8_1∧Aa (AR.l0 kq x3_1 l0 (l0.length:Int) x8_1=some r)∧Aa (kq≤k)∧Bh w w')
 case atStart=>exact ⟨(1),(0),Zs.auS,Zs.auS,H',⟨Nat.le_refl _⟩,Zq.dr⟩
 case round =>
  clear H';obtain ⟨x3_1,x8_1,rfl,rfl,HA,HK1,⟨m1,rfl⟩⟩:=hrel;cases gk with
  | zero=>exact absurd HA.out (by simp [AR.l0])
  | succ k1 =>
   have H:=HA.out;clear HA;simp only [AR.l0] at H
   rcases Zq.ii H with ⟨c2,H⟩|⟨c2,H⟩
   ·have c2b0:=decide_eq_true c2;clear c2
    obtain ⟨c3,H⟩:=Zq.ip H;have c3b0:=decide_eq_true c3;clear c3
    obtain ⟨c4,H⟩:=Zq.ip H;have c4b0:=decide_eq_true c4;clear c4;have H':=Aa.mk H;clear H;obtain ⟨ad150,e150,hx150_0,p150,q150⟩:=Zq.at_ HR0.out x8_1;cases e150;go_wp2
    go_roundg k1
    case measure=>have:=HK1.out;omega
    case rel=>exact ⟨(wrap64 (x3_1*(rd l0 x8_1))),(wrap64 (x8_1+1)),Zs.auS,Zs.auS,H',⟨by have:=HK1.out;omega⟩,Zq.dr⟩
   ·have c2b0:=decide_eq_false c2;clear c2;obtain rfl:=Option.some.inj H;go_wp2;go_ret
    exact ⟨Zs.auS,Zq.dr⟩
def CN.f (k:Nat) (l0:List Int):Option (Int):=(Ai.f k l0).bind fun t151=>(if t151=true then ((AR.f k l0).bind fun t152=>((AO.f k t152).bind fun bt153=>(some bt153.1))) else (some 0))
theorem CN.calls (k:Nat) (A0:Option Addr) (c0:Nat) (l0:List Int) (r:Int) (w:World) (hr0:Kd.C (Kd.int .i64) w A0 l0.length l0) (hc0:l0.length≤c0) (h:CN.f k l0=some r) :
  Calls Tryz.prog 29 #[.slice A0 l0.length c0] w fun e w'=>e = .returned (.int .i64 r)∧Below w.heap.size w w':=by
 have HR0:=Aa.mk hr0;have HC0:=Aa.mk hc0;clear hr0 hc0;have HB:=Aa.mk (Below.refl w.heap.size w);unfold CN.f at h;have H:=h;clear h;obtain ⟨t151,A2,H⟩:=Zs.be H
 by_cases c3:t151=true
 ·subst c3;rw [if_pos rfl] at H;obtain ⟨t152,A4,H⟩:=Zs.be H;replace H:=Option.bind_eq_some_iff.mp H;obtain ⟨⟨t153,t154⟩,A50,H⟩:=H;try dsimp only at H;have A5:=Aa.mk A50;clear A50;obtain rfl:=Option.some.inj H
  go_enter Tryz.func29,Tryz.ntmps29
  go_wp2_with (first|((with_reducible refine Ab (f:=59) rfl ?_);refine Zq.gb Tryz.func59 (Ai.calls _ _ _ _ _ _ (Zs.mvC (HR0.out)) HC0.out A2.out) ?_;intro w6 hb;replace HB:=Zq.st hb;(try clear hb))|((with_reducible refine Ab (f:=65) rfl ?_);refine Zq.gp Tryz.func65 (AR.calls _ _ _ _ _ _ (Zs.mvC ((Kd.Bw HR0.out HB.out))) HC0.out A4.out) ?_;intro nd)|((with_reducible refine Ab (f:=61) rfl ?_);refine Zq.gb Tryz.func61 (AO.calls _ _ _ _ _ A5.out) ?_;intro w7 hb;replace HB:=Zq.st hb;(try clear hb)))
  go_ret
  exact ⟨Zs.auR,Zs.auHB⟩
 ·replace c3:=Bool.eq_false_iff.mpr c3;subst c3;rw [if_neg (show ¬(false=true) by decide)] at H;obtain rfl:=Option.some.inj H
  go_enter Tryz.func29,Tryz.ntmps29
  go_wp2_with (((with_reducible refine Ab (f:=59) rfl ?_);refine Zq.gb Tryz.func59 (Ai.calls _ _ _ _ _ _ (Zs.mvC (HR0.out)) HC0.out A2.out) ?_;intro w8 hb;replace HB:=Zq.st hb;(try clear hb)))
  go_ret
  exact ⟨Zs.auR,Zs.auHB⟩
def CC.f (a0:Int) (a1:Int):Option (Bool):=if a0=0 then (some false) else (if a1=0 then (some false) else ((CD.f a0).bind fun t155=>(if t155=true then ((CD.f a1).bind fun t156=>(some t156)) else (some false))))
theorem CC.calls (a0:Int) (a1:Int) (r:Bool) (w:World) (h:CC.f a0 a1=some r) :
  Calls Tryz.prog 67 #[.int .i64 a0,.int .i64 a1] w fun e w'=>e = .returned (.bool r)∧Bh w w':=by
 unfold CC.f at h;have H:=h;clear h
 rcases Zq.ii H with ⟨c3,H⟩|⟨c3,H⟩
 ·have c3b1:=bne_eq_false_iff_eq.mpr c3;clear c3;obtain rfl:=Option.some.inj H
  go_enter Tryz.func67,Tryz.ntmps67
  go_wp2;go_ret
  exact ⟨Zs.auS,Zq.dr⟩
 ·have c3b1:=bne_iff_ne.mpr c3
  rcases Zq.ii H with ⟨c4,H⟩|⟨c4,H⟩
  ·have c4b1:=bne_eq_false_iff_eq.mpr c4;clear c4;obtain rfl:=Option.some.inj H
   go_enter Tryz.func67,Tryz.ntmps67
   go_wp2;go_ret
   exact ⟨Zs.auS,Zq.dr⟩
  ·have c4b1:=bne_iff_ne.mpr c4;obtain ⟨t155,A5,H⟩:=Zs.be H
   by_cases c6:t155=true
   ·subst c6;rw [if_pos rfl] at H;obtain ⟨t156,A7,H⟩:=Zs.be H;obtain rfl:=Option.some.inj H
    go_enter Tryz.func67,Tryz.ntmps67
    go_wp2_with (first|(go_at_call 60;(with_reducible refine (CD.calls a0 true _ A5.out).mono ?_);rintro e w' ⟨rfl,⟨nd,rfl⟩⟩)|(go_at_call 60;(with_reducible refine (CD.calls a1 t156 _ A7.out).mono ?_);rintro e w' ⟨rfl,⟨nd,rfl⟩⟩))
    go_ret
    exact ⟨Zs.auS,Zq.dr⟩
   ·replace c6:=Bool.eq_false_iff.mpr c6;subst c6;rw [if_neg (show ¬(false=true) by decide)] at H;obtain rfl:=Option.some.inj H
    go_enter Tryz.func67,Tryz.ntmps67
    go_wp2_with ((go_at_call 60;(with_reducible refine (CD.calls a0 false _ A5.out).mono ?_);rintro e w' ⟨rfl,⟨nd,rfl⟩⟩))
    go_ret
    exact ⟨Zs.auS,Zq.dr⟩
def CF.l0:Nat→Int→Int→Option (Bool)
 | 0,_,_=>none
 | k+1,x0,x3=>if (wrap64 (x3*x3))≤x0 then (if x3=0 then (none) else (if (Int.tmod x0 x3)=0 then (some false) else (CF.l0 k x0 (wrap64 (x3+1))))) else (some (decide (x0≥2)))
def CF.f (k:Nat) (a0:Int):Option (Bool):=CF.l0 k a0 2
theorem CF.calls (k:Nat) (a0:Int) (r:Bool) (w:World) (h:CF.f k a0=some r) :
  Calls Tryz.prog 156 #[.int .i64 a0] w fun e w'=>e = .returned (.bool r)∧Bh w w':=by
 unfold CF.f at h;have H:=h;clear h;have H':=Aa.mk H;clear H
 go_enter Tryz.func156,Tryz.ntmps156
 go_wp2
 go_loopg [3] k (fun kq v3 w' => ∃(x3_1:Int),v3 = .int .i64 x3_1∧Aa (CF.l0 kq a0 x3_1=some r)∧Aa (kq≤k)∧Bh w w')
 case atStart=>exact ⟨(2),Zs.auS,H',⟨Nat.le_refl _⟩,Zq.dr⟩
 case round =>
  clear H'
  obtain ⟨x3_1,rfl,HA,HK1,⟨m1,rfl⟩⟩:=hrel;cases gk with
  | zero=>exact absurd HA.out (by simp [CF.l0])
  | succ k1 =>
   have H:=HA.out;clear HA;simp only [CF.l0] at H
   rcases Zq.ii H with ⟨c2,H⟩|⟨c2,H⟩
   ·have c2b0:=decide_eq_true c2;clear c2
    by_cases c3:x3_1=0
    ·rw [if_pos c3] at H;exact absurd H (by simp)
    ·rw [if_neg c3] at H
     rcases Zq.ii H with ⟨c4,H⟩|⟨c4,H⟩
     ·have c4b0:=beq_iff_eq.mpr c4;clear c4;obtain rfl:=Option.some.inj H;go_wp2;go_ret
      exact ⟨Zs.auS,Zq.dr⟩
     ·have c4b0:=beq_eq_false_iff_ne.mpr c4;have H':=Aa.mk H;clear H;go_wp2
      go_roundg k1
      case measure=>have:=HK1.out;omega
      case rel=>exact ⟨(wrap64 (x3_1+1)),Zs.auS,H',⟨by have:=HK1.out;omega⟩,Zq.dr⟩
   ·have c2b0:=decide_eq_false c2;clear c2;obtain rfl:=Option.some.inj H;go_wp2;go_ret
    exact ⟨Zs.auS,Zq.dr⟩
def DI.f (k:Nat) (a0:Int):Option (Bool):=if a0≤5000 then ((CF.f k a0).bind fun t157=>(some t157)) else (some false)
theorem DI.calls (k:Nat) (a0:Int) (r:Bool) (w:World) (h:DI.f k a0=some r) :
  Calls Tryz.prog 116 #[.int .i64 a0] w fun e w'=>e = .returned (.bool r)∧Bh w w':=by
 unfold DI.f at h;have H:=h;clear h
 rcases Zq.ii H with ⟨c2,H⟩|⟨c2,H⟩
 ·have c2b0:=decide_eq_true c2;clear c2;obtain ⟨t157,A3,H⟩:=Zs.be H;obtain rfl:=Option.some.inj H
  go_enter Tryz.func116,Tryz.ntmps116
  go_wp2_with ((go_at_call 156;(with_reducible refine (CF.calls k a0 t157 _ A3.out).mono ?_);rintro e w' ⟨rfl,⟨nd,rfl⟩⟩))
  go_ret
  exact ⟨Zs.auS,Zq.dr⟩
 ·have c2b0:=decide_eq_false c2;clear c2;obtain rfl:=Option.some.inj H
  go_enter Tryz.func116,Tryz.ntmps116
  go_wp2;go_ret
  exact ⟨Zs.auS,Zq.dr⟩
def Bs.f (k:Nat) (a0:Int):Option (Bool):=if a0=0 then (some true) else ((DI.f k a0).bind fun t158=>(some t158))
theorem Bs.calls (k:Nat) (a0:Int) (r:Bool) (w:World) (h:Bs.f k a0=some r) :
  Calls Tryz.prog 68 #[.int .i64 a0] w fun e w'=>e = .returned (.bool r)∧Bh w w':=by
 unfold Bs.f at h;have H:=h;clear h
 rcases Zq.ii H with ⟨c2,H⟩|⟨c2,H⟩
 ·have c2b0:=beq_iff_eq.mpr c2;clear c2;obtain rfl:=Option.some.inj H
  go_enter Tryz.func68,Tryz.ntmps68
  go_wp2;go_ret
  exact ⟨Zs.auS,Zq.dr⟩
 ·have c2b0:=beq_eq_false_iff_ne.mpr c2;obtain ⟨t158,A3,H⟩:=Zs.be H;obtain rfl:=Option.some.inj H
  go_enter Tryz.func68,Tryz.ntmps68
  go_wp2_with ((go_at_call 116;(with_reducible refine (DI.calls k a0 t158 _ A3.out).mono ?_);rintro e w' ⟨rfl,⟨nd,rfl⟩⟩))
  go_ret
  exact ⟨Zs.auS,Zq.dr⟩
def Ct.l0:Nat→Int→Int→Int→Int→Option (Int)
 | 0,_,_,_,_=>none
 | k+1,x0,x5,x6,x7=>if x7<x6 then (Ct.l0 k x0 (wrap64 (x5*x0)) x6 (wrap64 (x7+1))) else (some x5)
def Ct.f (k:Nat) (a0:Int) (a1:Int):Option (Int):=Ct.l0 k a0 1 a1 0
theorem Ct.calls (k:Nat) (a0:Int) (a1:Int) (r:Int) (w:World) (h:Ct.f k a0 a1=some r) :
  Calls Tryz.prog 118 #[.int .i64 a0,.int .i64 a1] w fun e w'=>e = .returned (.int .i64 r)∧Bh w w':=by
 unfold Ct.f at h;have H:=h;clear h;have H':=Aa.mk H;clear H
 go_enter Tryz.func118,Tryz.ntmps118
 go_wp2
 go_loopg [5,7] k (fun kq v5 v7 w' => ∃(x5_1:Int) (x7_1:Int),v5 = .int .i64 x5_1∧v7 = .int .i64 x7_1∧Aa (Ct.l0 kq a0 x5_1 a1 x7_1=some r)∧Aa (kq≤k)∧Bh w w')
 case atStart=>exact ⟨(1),(0),Zs.auS,Zs.auS,H',⟨Nat.le_refl _⟩,Zq.dr⟩
 case round =>
  clear H'
  obtain ⟨x5_1,x7_1,rfl,rfl,HA,HK1,⟨m1,rfl⟩⟩:=hrel;cases gk with
  | zero=>exact absurd HA.out (by simp [Ct.l0])
  | succ k1 =>
   have H:=HA.out;clear HA;simp only [Ct.l0] at H
   rcases Zq.ii H with ⟨c3,H⟩|⟨c3,H⟩
   ·have c3b0:=decide_eq_true c3;clear c3;have H':=Aa.mk H;clear H;go_wp2
    go_roundg k1
    case measure=>have:=HK1.out;omega
    case rel=>exact ⟨(wrap64 (x5_1*a0)),(wrap64 (x7_1+1)),Zs.auS,Zs.auS,H',⟨by have:=HK1.out;omega⟩,Zq.dr⟩
   ·have c3b0:=decide_eq_false c3;clear c3;obtain rfl:=Option.some.inj H;go_wp2;go_ret
    exact ⟨Zs.auS,Zq.dr⟩
def C8.f (a0:Int) (a1:Int):Option (Int):=if a1=0 then (none) else (some (Int.tmod (wrap64 ((Int.tmod a0 a1)+a1)) a1))
theorem C8.calls (a0:Int) (a1:Int) (r:Int) (w:World) (h:C8.f a0 a1=some r) :
  Calls Tryz.prog 120 #[.int .i64 a0,.int .i64 a1] w fun e w'=>e = .returned (.int .i64 r)∧Bh w w':=by
 unfold C8.f at h;have H:=h;clear h
 rcases Zq.ii H with ⟨c3,H⟩|⟨c3,H⟩
 ·exact absurd H (by simp)
 ·obtain rfl:=Option.some.inj H
  go_enter Tryz.func120,Tryz.ntmps120
  go_wp2;go_ret
  exact ⟨Zs.auS,Zq.dr⟩
end Go.Proofs.YtacfcoilmdhgnaaGreatDoor.PFnExactExecute
