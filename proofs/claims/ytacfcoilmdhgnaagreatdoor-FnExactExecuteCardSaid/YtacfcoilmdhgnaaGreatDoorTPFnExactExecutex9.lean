/- A function's Lean twin and its walk, written by a program of this session. -/
import Derived.Test.YtacfcoilmdhgnaaGreatDoorTPFnExactExecutex8
set_option maxHeartbeats 8000000
set_option maxRecDepth 100000
namespace Go.Proofs.YtacfcoilmdhgnaaGreatDoor.PFnExactExecute
open Go.RowKit Go.Proofs.YtacfcoilmdhgnaaGreatDoorW.PrintWords Go.Proofs.YtacfcoilmdhgnaaGreatDoorW.PrintLast Go.Proofs.YtacfcoilmdhgnaaGreatDoorW.PrintMore
attribute [local go_sem] Dy Dx D0 D1 Dc De DA Dz   -- for this text's walks alone
set_option linter.unusedVariables false
set_option linter.unusedSimpArgs false
mutual
def Aj.l0:Nat→List Int→Int→Option (List Int×Bool)
 | 0,_,_=>none
 | k+1,x0,x4=>if x4≤3 then (Aj.l1 k x0 x4 0) else (some ((([]:List Int)),false))
def Aj.l1:Nat→List Int→Int→Int→Option (List Int×Bool)
 | 0,_,_,_=>none
 | k+1,x0,x4,x5=>if x5≤3 then (if x4=0 then (Aj.j2 k x0 x4 x5 (x5==0)) else (Aj.j2 k x0 x4 x5 false)) else (Aj.l0 k x0 (wrap64 (x4+1)))
def Aj.j2:Nat→List Int→Int→Int→Bool→Option (List Int×Bool)
 | 0,_,_,_,_=>none
 | k+1,x0,x4,x5,x24=>if x24=true then (Aj.l1 k x0 x4 (wrap64 (x5+1))) else (if 0<(x0.length:Int) then (if 1<(x0.length:Int) then (if (wrap64 ((wrap64 ((wrap64 ((rd x0 0)*x4))*x4))+(wrap64 ((wrap64 ((rd x0 1)*x5))*x5))))=0 then ((AE.f k (([x4,x5,0,0]:List Int))).bind fun t535=>(some (t535,true))) else ((AP.f k (wrap64 ((wrap64 ((wrap64 ((rd x0 0)*x4))*x4))+(wrap64 ((wrap64 ((rd x0 1)*x5))*x5))))).bind fun bt538=>((Bf.f bt538.1).bind fun t540=>(if t540>30 then (Aj.l1 k x0 x4 (wrap64 (x5+1))) else (if 2<(x0.length:Int) then (if 3<(x0.length:Int) then ((BN.f k (([rd x0 2,rd x0 3,bt538.1]:List Int))).bind fun bt546=>(if bt546.2=true then (if 2<(bt546.1.length:Int) then (if 0<(bt546.1.length:Int) then (if 1<(bt546.1.length:Int) then ((AE.f k (([wrap64 (x4*(rd bt546.1 2)),wrap64 (x5*(rd bt546.1 2)),wrap64 (bt538.2*(rd bt546.1 0)),wrap64 (bt538.2*(rd bt546.1 1))]:List Int))).bind fun t557=>(some (t557,true))) else (none)) else (none)) else (none)) else (Aj.l1 k x0 x4 (wrap64 (x5+1))))) else (none)) else (none)))))) else (none)) else (none))
end
def Aj.f (k:Nat) (l0:List Int):Option (List Int×Bool):=Aj.l0 k l0 0
def Aj.T8:Bool×List (List Nat×List Nat):=(true,[([],[]),([0],[0]),([1],[1]),([],[]),([2,3],[2,3]),([],[]),([4,5],[4,5]),([],[]),([7],[7]),([8],[8]),([],[]),([9,10],[9,10]),([],[]),([11,12],[11,12]),([6,13],[6,13]),([14,0,1,2,3,4,5,6,7,8,9,10,11,12,13,14],[14])])
def Aj.B8:List Nat:=Zq.bitsOf Aj.T8.2
theorem Aj.tab8:rtab .any (opsOf Tryz.f84 8)=Aj.T8:=by kernel_rfl
theorem Aj.bits8:DO Aj.T8.2 Aj.B8=true:=by kernel_rfl
def Aj.T13:Bool×List (List Nat×List Nat):=(true,[([],[]),([0],[0]),([1],[1]),([],[]),([3],[3]),([4],[4]),([],[]),([2,5,6],[2,5,6]),([7],[7]),([8],[8]),([9],[9]),([9],[9]),([10,8,0,1,2,3,4,5,6,7,8,9,10],[10]),([11,12,0,1,2,3,4,5,6,7,8,9,10,11,12],[11])])
def Aj.B13:List Nat:=Zq.bitsOf Aj.T13.2
theorem Aj.tab13:rtab .any (opsOf Tryz.f84 13)=Aj.T13:=by kernel_rfl
theorem Aj.bits13:DO Aj.T13.2 Aj.B13=true:=by kernel_rfl
def Aj.T15:Bool×List (List Nat×List Nat):=(true,[([],[]),([],[]),([1],[1]),([2],[2]),([0,3],[0,3]),([],[]),([],[]),([6],[6]),([7],[7]),([5,8],[5,8]),([],[]),([],[]),([11],[11]),([12],[12]),([10,13],[10,13]),([],[]),([],[]),([16],[16]),([17],[17]),([15,18],[15,18]),([4,9,14,19],[4,9,14,19]),([20],[20]),([21,21,0,1,2,3,4,5,6,7,8,9,10,11,12,13,14,15,16,17,18,19,20,21],[21]),([22,0,1,2,3,4,5,6,7,8,9,10,11,12,13,14,15,16,17,18,19,20,21,22],[])])
def Aj.B15:List Nat:=Zq.bitsOf Aj.T15.2
theorem Aj.tab15:rtab .any (opsOf Tryz.f84 15)=Aj.T15:=by kernel_rfl
theorem Aj.NQ:DO Aj.T15.2 Aj.B15=true:=by kernel_rfl
theorem Aj.calls (k:Nat) (A0:Option Addr) (c0:Nat) (l0:List Int) (r1:List Int) (r2:Bool) (w:World) (hr0:Kd.C (Kd.int .i64) w A0 l0.length l0) (hc0:l0.length≤c0) (h:Aj.f k l0=some (r1,r2)) :
  Calls Tryz.prog 84 #[.slice A0 l0.length c0] w fun e w' => ∃v0_:Value,e = .returned (.tuple #[v0_,.bool r2])∧Kd.R (Kd.int .i64) 3 w' w.heap.size (fun _=>True) v0_ r1∧Below w.heap.size w w':=by
 have HR0:=Aa.mk hr0;have HC0:=Aa.mk hc0;clear hr0 hc0;have HB:=Aa.mk (Below.refl w.heap.size w);unfold Aj.f at h;have H:=h;clear h;have H':=Aa.mk H;clear H
 go_enter Tryz.func84,Tryz.ntmps84
 go_wp2
 go_loopg [4] k (fun kq v4 w' => ∃(x4_1:Int),v4 = .int .i64 x4_1∧Aa (Aj.l0 kq l0 x4_1=some (r1,r2))∧Aa (kq≤k)∧Aa (Below w.heap.size w w'))
 case atStart=>exact ⟨(0),Zs.auS,H',⟨Nat.le_refl _⟩,⟨Zs.auHB⟩⟩
 case round =>
  clear H';obtain ⟨x4_1,rfl,HA,HK1,HB⟩:=hrel;cases gk with
  | zero=>exact absurd HA.out (by simp [Aj.l0])
  | succ k1 =>
   have H:=HA.out;clear HA;simp only [Aj.l0] at H
   rcases Zq.ii H with ⟨c2,H⟩|⟨c2,H⟩
   ·have c2b0:=decide_eq_true c2;clear c2;have H':=Aa.mk H;clear H;go_wp2
    go_loopg [5] k1 (fun kq v5 w' => ∃(x5_2:Int),v5 = .int .i64 x5_2∧Aa (Aj.l1 kq l0 x4_1 x5_2=some (r1,r2))∧Aa (kq≤k1)∧Aa (Below w.heap.size w w'))
    case atStart=>exact ⟨(0),Zs.auS,H',⟨Nat.le_refl _⟩,⟨Zs.auHB⟩⟩
    case round =>
     clear H'
     obtain ⟨x5_2,rfl,HA,HK2,HB⟩:=hrel;cases gk with
     | zero=>exact absurd HA.out (by simp [Aj.l1])
     | succ k2 =>
      have H:=HA.out;clear HA;simp only [Aj.l1] at H
      rcases Zq.ii H with ⟨c3,H⟩|⟨c3,H⟩
      ·have c3b0:=decide_eq_true c3;clear c3;have HC4:=Aa.mk H;clear H
       go_upto_region 7 with (fail)
       go_cut [24] (fun v24 wc => ∃(kq:Nat) (x24_3:Bool),v24 = .bool x24_3∧Aa (Aj.j2 kq l0 x4_1 x5_2 x24_3=some (r1,r2))∧Aa (kq≤k2)∧Aa (Below w.heap.size w wc))
       case first =>
        have H:=HC4.out;clear HC4
        rcases Zq.ii H with ⟨c5,H⟩|⟨c5,H⟩
        ·have c5b0:=beq_iff_eq.mpr c5;clear c5
         have H':=Aa.mk H;clear H;go_wp2
         go_meet
         case rel=>exact ⟨_,((x5_2==0)),Zs.auS,H',⟨by have:=HK1.out;have:=HK2.out;first|omega|exact Nat.le_refl _⟩,⟨Zs.auHB⟩⟩
        ·have c5b0:=beq_eq_false_iff_ne.mpr c5
         have H':=Aa.mk H;clear H;go_wp2
         go_meet
         case rel=>exact ⟨_,(false),Zs.auS,H',⟨by have:=HK1.out;have:=HK2.out;first|omega|exact Nat.le_refl _⟩,⟨Zs.auHB⟩⟩
       case rest =>
        clear HC4
        obtain ⟨kq,x24_3,rfl,HA,HJ3,HB⟩:=hcut;cases kq with
        | zero=>exact absurd HA.out (by simp [Aj.j2])
        | succ kj3 =>
         have H:=HA.out;clear HA;simp only [Aj.j2] at H
         by_cases c6:x24_3=true
         ·subst c6;rw [if_pos rfl] at H;have H':=Aa.mk H;clear H;go_wp2
          go_roundg kj3
          case measure=>have:=HK1.out;have:=HK2.out;have:=HJ3.out;omega
          case rel=>exact ⟨(wrap64 (x5_2+1)),Zs.auS,H',⟨by have:=HK1.out;have:=HK2.out;have:=HJ3.out;omega⟩,⟨Zs.auHB⟩⟩
         ·replace c6:=Bool.eq_false_iff.mpr c6;subst c6;rw [if_neg (show ¬(false=true) by decide)] at H
          obtain ⟨c7,H⟩:=Zq.ip H;have c7b0:=decide_eq_true c7;clear c7
          obtain ⟨c8,H⟩:=Zq.ip H;have c8b0:=decide_eq_true c8;clear c8
          rcases Zq.ii H with ⟨c9,H⟩|⟨c9,H⟩
          ·have c9b0:=beq_iff_eq.mpr c9;clear c9;(try rw [Option.bind_some] at H);generalize hyy:([x4_1,x5_2,0,0]:List Int)=y532 at H;have Ny532:=Aa.mk hyy.symm;clear hyy;obtain ⟨t535,A10,H⟩:=Zs.be H;simp only [Option.some.injEq,Prod.mk.injEq] at H;obtain ⟨rfl,rfl⟩:=H
           try go_wp2
           have n0_:=Aa.mk (Ax HB.out);clear HB;have HB:=n0_;clear n0_;obtain ⟨ad530,e530,hx530_0,p530,q530⟩:=Zq.at_ HR0.out 0;have hw530_0:=hx530_0;(try rw [show ((0:Int)).toNat=0 from rfl] at hw530_0);(try rw [show 0*1=0 from rfl] at hw530_0);(try rw [Addr.add_zero'] at hw530_0);cases e530;have qi530:(0<l0.length)=True:=eq_true (by have:=of_eq_true q530;omega);(try rw [show ((0:Int)).toNat=0 from rfl] at hx530_0);(try rw [Addr.add_zero'] at hx530_0);replace hx530_0:=Zq.ce HB.out hx530_0;obtain ⟨ad531,e531,hx531_0,p531,q531⟩:=Zq.at_ HR0.out 1;have hw531_0:=hx531_0;(try rw [show ((1:Int)).toNat=1 from rfl] at hw531_0);(try rw [show 1*1=1 from rfl] at hw531_0);(try simp only [Nat.reduceMul,Nat.reduceEqDiff,Go.Addr.add,↓reduceIte] at hw531_0);obtain rfl:ad530=ad531:=(by injection e531);(try simp only [show (1:Int).toNat=1 from rfl,Nat.reduceMul,Nat.reduceEqDiff,Go.Addr.add,↓reduceIte] at hx531_0);(try rw [show ((1:Int)).toNat=1 from rfl] at hx531_0);replace hx531_0:=Zq.ce HB.out hx531_0;refine D8 (n:=16) (S:=fun w'=>w'.cell? ad530=some (.int .i64 (rd l0 0))∧w'.cell? ⟨ad530.block,ad530.off+1,none⟩=some (.int .i64 (rd l0 1))) (ds:=[]) #[false,false,false,false,false,false,false,false,false,false,false,false,false,false,false,false] (by kernel_rfl) rfl rfl ⟨((HB.out.cell (World.block_lt_of_cell? w _ hw530_0)).trans hw530_0),((HB.out.cell (World.block_lt_of_cell? w _ hw531_0)).trans hw531_0)⟩ (fun hHeld=>?_);refine CL Aj.tab8 Aj.bits8 (fun HT_ HW_=>?_);generalize wc.drew=w11 at HB hx530_0 hx531_0 hHeld ⊢;refine Zs.pu 0 (some 25) ?_;refine Zs.pu 1 (some 26) ?_;refine Zs.pu 3 (some 28) ?_;refine Zs.pu 5 (some 30) ?_;refine Zs.pu 7 (some 32) ?_;refine Zs.pu 8 (some 33) ?_;refine Zs.pu 10 (some 35) ?_;refine Zs.pu 12 (some 37) ?_;refine Zs.ta2 2 (some 27) ?_;refine Zs.pu 4 (some 29) ?_;refine Zs.pu 6 (some 31) ?_;refine Zs.ta2 9 (some 34) ?_;refine Zs.pu 11 (some 36) ?_;refine Zs.pu 13 (some 38) ?_;refine Zs.pu 14 (some 39) ?_;refine Zs.pu 15 (some 6) ?_
           refine Zq.dn ?_
           try go_wp2_with (first|((with_reducible refine Bg (N:=44) rfl ?_);refine Zq.li ([x4_1,x5_2,0,0]:List Int) ?_;intro v533 w12 ho13 hb;(first|rw [← Ny532.out] at ho13|(simp only [Int.reduceToNat] at ho13;rw [← Ny532.out] at ho13));have HO534:=Zq.lw ho13;replace HB:=Zq.st hb;clear hb ho13;obtain ⟨Ao14,co14,eo14⟩:=Kd.AD HO534.out;subst eo14)|((with_reducible refine Ab (f:=82) rfl ?_);refine Zq.gc (some 45) Tryz.func82 (AE.calls _ _ _ _ _ _ (Zs.mvC ((Kd.Ac HO534.out).2.2)) ((Kd.Ac HO534.out).2.1) A10.out) ?_;rintro e w15 ⟨v536,rfl,ho0,hb⟩;refine ⟨_,rfl,?_⟩;have HO537:=Aa.mk (Kd.Bp (Kd.Bj ho0 (Zq.lt HO534.out)) (Av (Zs.auHB)));replace HO534:=Zq.el HO534.out ho0 hb;replace HB:=Zq.st hb;(try clear hb);(try clear ho0)))
           go_ret2
           exact ⟨_,Zs.auR,(Zs.mvR (Kd.AJ HO537.out (fun _ hk=>trivial))),Zs.auHB⟩
          ·have c9b0:=beq_eq_false_iff_ne.mpr c9;replace H:=Option.bind_eq_some_iff.mp H;obtain ⟨⟨t538,t539⟩,A160,H⟩:=H;try dsimp only at H;have A16:=Aa.mk A160;clear A160;obtain ⟨t540,A17,H⟩:=Zs.be H
           rcases Zq.ii H with ⟨c18,H⟩|⟨c18,H⟩
           ·have c18b0:decide (30<t540)=true:=decide_eq_true c18;clear c18;have H':=Aa.mk H;clear H
            try go_wp2
            have n0_:=Aa.mk (Ax HB.out);clear HB;have HB:=n0_;clear n0_;obtain ⟨ad530,e530,hx530_0,p530,q530⟩:=Zq.at_ HR0.out 0;have hw530_0:=hx530_0;(try rw [show ((0:Int)).toNat=0 from rfl] at hw530_0);(try rw [show 0*1=0 from rfl] at hw530_0);(try rw [Addr.add_zero'] at hw530_0);cases e530;have qi530:(0<l0.length)=True:=eq_true (by have:=of_eq_true q530;omega);(try rw [show ((0:Int)).toNat=0 from rfl] at hx530_0);(try rw [Addr.add_zero'] at hx530_0);replace hx530_0:=Zq.ce HB.out hx530_0;obtain ⟨ad531,e531,hx531_0,p531,q531⟩:=Zq.at_ HR0.out 1;have hw531_0:=hx531_0;(try rw [show ((1:Int)).toNat=1 from rfl] at hw531_0);(try rw [show 1*1=1 from rfl] at hw531_0);(try simp only [Nat.reduceMul,Nat.reduceEqDiff,Go.Addr.add,↓reduceIte] at hw531_0);obtain rfl:ad530=ad531:=(by injection e531);(try simp only [show (1:Int).toNat=1 from rfl,Nat.reduceMul,Nat.reduceEqDiff,Go.Addr.add,↓reduceIte] at hx531_0);(try rw [show ((1:Int)).toNat=1 from rfl] at hx531_0);replace hx531_0:=Zq.ce HB.out hx531_0;refine D8 (n:=16) (S:=fun w'=>w'.cell? ad530=some (.int .i64 (rd l0 0))∧w'.cell? ⟨ad530.block,ad530.off+1,none⟩=some (.int .i64 (rd l0 1))) (ds:=[]) #[false,false,false,false,false,false,false,false,false,false,false,false,false,false,false,false] (by kernel_rfl) rfl rfl ⟨((HB.out.cell (World.block_lt_of_cell? w _ hw530_0)).trans hw530_0),((HB.out.cell (World.block_lt_of_cell? w _ hw531_0)).trans hw531_0)⟩ (fun hHeld=>?_);refine CL Aj.tab8 Aj.bits8 (fun HT_ HW_=>?_);generalize wc.drew=w19 at HB hx530_0 hx531_0 hHeld ⊢;refine Zs.pu 0 (some 25) ?_;refine Zs.pu 1 (some 26) ?_;refine Zs.pu 3 (some 28) ?_;refine Zs.pu 5 (some 30) ?_;refine Zs.pu 7 (some 32) ?_;refine Zs.pu 8 (some 33) ?_;refine Zs.pu 10 (some 35) ?_;refine Zs.pu 12 (some 37) ?_;refine Zs.ta2 2 (some 27) ?_;refine Zs.pu 4 (some 29) ?_;refine Zs.pu 6 (some 31) ?_;refine Zs.ta2 9 (some 34) ?_;refine Zs.pu 11 (some 36) ?_;refine Zs.pu 13 (some 38) ?_;refine Zs.pu 14 (some 39) ?_;refine Zs.pu 15 (some 6) ?_
            refine Zq.dn ?_
            try go_wp2_with (first|((with_reducible refine Ab (f:=81) rfl ?_);refine Zq.gb Tryz.func81 (AP.calls _ _ _ _ _ A16.out) ?_;intro w20 hb;replace HB:=Zq.st hb;(try clear hb))|((with_reducible refine Ab (f:=134) rfl ?_);refine Zq.gb Tryz.func134 (Bf.calls _ _ _ A17.out) ?_;intro w21 hb;replace HB:=Zq.st hb;(try clear hb)))
            go_roundg kj3
            case measure=>have:=HK1.out;have:=HK2.out;have:=HJ3.out;omega
            case rel=>exact ⟨(wrap64 (x5_2+1)),Zs.auS,H',⟨by have:=HK1.out;have:=HK2.out;have:=HJ3.out;omega⟩,⟨Zs.auHB⟩⟩
           ·have c18b0:decide (30<t540)=false:=decide_eq_false c18;clear c18
            obtain ⟨c22,H⟩:=Zq.ip H;have c22b0:=decide_eq_true c22;clear c22
            obtain ⟨c23,H⟩:=Zq.ip H;have c23b0:=decide_eq_true c23;clear c23;(try rw [Option.bind_some] at H);generalize hyy:([rd l0 2,rd l0 3,t538]:List Int)=y543 at H;have Ny543:=Aa.mk hyy.symm;clear hyy;replace H:=Option.bind_eq_some_iff.mp H;obtain ⟨⟨t546,t547⟩,A240,H⟩:=H;try dsimp only at H;have A24:=Aa.mk A240;clear A240
            by_cases c25:t547=true
            ·subst c25;rw [if_pos rfl] at H
             obtain ⟨c26,H⟩:=Zq.ip H;have c26b0:=decide_eq_true c26;clear c26
             obtain ⟨c27,H⟩:=Zq.ip H;have c27b0:=decide_eq_true c27;clear c27
             obtain ⟨c28,H⟩:=Zq.ip H;have c28b0:=decide_eq_true c28;clear c28;(try rw [Option.bind_some] at H);generalize hyy:([wrap64 (x4_1*(rd t546 2)),wrap64 (x5_2*(rd t546 2)),wrap64 (t539*(rd t546 0)),wrap64 (t539*(rd t546 1))]:List Int)=y554 at H;have Ny554:=Aa.mk hyy.symm;clear hyy;obtain ⟨t557,A29,H⟩:=Zs.be H;simp only [Option.some.injEq,Prod.mk.injEq] at H;obtain ⟨rfl,rfl⟩:=H
             try go_wp2
             have n0_:=Aa.mk (Ax HB.out);clear HB;have HB:=n0_;clear n0_;obtain ⟨ad530,e530,hx530_0,p530,q530⟩:=Zq.at_ HR0.out 0;have hw530_0:=hx530_0;(try rw [show ((0:Int)).toNat=0 from rfl] at hw530_0);(try rw [show 0*1=0 from rfl] at hw530_0);(try rw [Addr.add_zero'] at hw530_0);cases e530;have qi530:(0<l0.length)=True:=eq_true (by have:=of_eq_true q530;omega);(try rw [show ((0:Int)).toNat=0 from rfl] at hx530_0);(try rw [Addr.add_zero'] at hx530_0);replace hx530_0:=Zq.ce HB.out hx530_0;obtain ⟨ad531,e531,hx531_0,p531,q531⟩:=Zq.at_ HR0.out 1;have hw531_0:=hx531_0;(try rw [show ((1:Int)).toNat=1 from rfl] at hw531_0);(try rw [show 1*1=1 from rfl] at hw531_0);(try simp only [Nat.reduceMul,Nat.reduceEqDiff,Go.Addr.add,↓reduceIte] at hw531_0);obtain rfl:ad530=ad531:=(by injection e531);(try simp only [show (1:Int).toNat=1 from rfl,Nat.reduceMul,Nat.reduceEqDiff,Go.Addr.add,↓reduceIte] at hx531_0);(try rw [show ((1:Int)).toNat=1 from rfl] at hx531_0);replace hx531_0:=Zq.ce HB.out hx531_0;refine D8 (n:=16) (S:=fun w'=>w'.cell? ad530=some (.int .i64 (rd l0 0))∧w'.cell? ⟨ad530.block,ad530.off+1,none⟩=some (.int .i64 (rd l0 1))) (ds:=[]) #[false,false,false,false,false,false,false,false,false,false,false,false,false,false,false,false] (by kernel_rfl) rfl rfl ⟨((HB.out.cell (World.block_lt_of_cell? w _ hw530_0)).trans hw530_0),((HB.out.cell (World.block_lt_of_cell? w _ hw531_0)).trans hw531_0)⟩ (fun hHeld=>?_);refine CL Aj.tab8 Aj.bits8 (fun HT_ HW_=>?_);generalize wc.drew=w30 at HB hx530_0 hx531_0 hHeld ⊢;refine Zs.pu 0 (some 25) ?_;refine Zs.pu 1 (some 26) ?_;refine Zs.pu 3 (some 28) ?_;refine Zs.pu 5 (some 30) ?_;refine Zs.pu 7 (some 32) ?_;refine Zs.pu 8 (some 33) ?_;refine Zs.pu 10 (some 35) ?_;refine Zs.pu 12 (some 37) ?_;refine Zs.ta2 2 (some 27) ?_;refine Zs.pu 4 (some 29) ?_;refine Zs.pu 6 (some 31) ?_;refine Zs.ta2 9 (some 34) ?_;refine Zs.pu 11 (some 36) ?_;refine Zs.pu 13 (some 38) ?_;refine Zs.pu 14 (some 39) ?_;refine Zs.pu 15 (some 6) ?_
             refine Zq.dn ?_
             try go_wp2_with (first|((with_reducible refine Ab (f:=81) rfl ?_);refine Zq.gb Tryz.func81 (AP.calls _ _ _ _ _ A16.out) ?_;intro w31 hb;replace HB:=Zq.st hb;(try clear hb))|((with_reducible refine Ab (f:=134) rfl ?_);refine Zq.gb Tryz.func134 (Bf.calls _ _ _ A17.out) ?_;intro w32 hb;replace HB:=Zq.st hb;(try clear hb)))
             have n0_:=Aa.mk (Ax HB.out);clear HB;have HB:=n0_;clear n0_;obtain ⟨ad541,e541,hx541_0,p541,q541⟩:=Zq.at_ HR0.out 2;have hw541_0:=hx541_0;(try rw [show ((2:Int)).toNat=2 from rfl] at hw541_0);(try rw [show 2*1=2 from rfl] at hw541_0);(try simp only [Nat.reduceMul,Nat.reduceEqDiff,Go.Addr.add,↓reduceIte] at hw541_0);obtain rfl:ad530=ad541:=(by injection e541);(try simp only [show (2:Int).toNat=2 from rfl,Nat.reduceMul,Nat.reduceEqDiff,Go.Addr.add,↓reduceIte] at hx541_0);(try rw [show ((2:Int)).toNat=2 from rfl] at hx541_0);replace hx541_0:=Zq.ce HB.out hx541_0;obtain ⟨ad542,e542,hx542_0,p542,q542⟩:=Zq.at_ HR0.out 3;have hw542_0:=hx542_0;(try rw [show ((3:Int)).toNat=3 from rfl] at hw542_0);(try rw [show 3*1=3 from rfl] at hw542_0);(try simp only [Nat.reduceMul,Nat.reduceEqDiff,Go.Addr.add,↓reduceIte] at hw542_0);obtain rfl:ad530=ad542:=(by injection e542);(try simp only [show (3:Int).toNat=3 from rfl,Nat.reduceMul,Nat.reduceEqDiff,Go.Addr.add,↓reduceIte] at hx542_0);(try rw [show ((3:Int)).toNat=3 from rfl] at hx542_0);replace hx542_0:=Zq.ce HB.out hx542_0;refine D8 (n:=14) (S:=fun w'=>w'.cell? ⟨ad530.block,ad530.off+2,none⟩=some (.int .i64 (rd l0 2))∧w'.cell? ⟨ad530.block,ad530.off+3,none⟩=some (.int .i64 (rd l0 3))) (ds:=[]) #[false,false,false,false,false,false,false,false,false,false,false,false,false,false] (by kernel_rfl) rfl rfl ⟨((HB.out.cell (World.block_lt_of_cell? w _ hw541_0)).trans hw541_0),((HB.out.cell (World.block_lt_of_cell? w _ hw542_0)).trans hw542_0)⟩ (fun hHeld=>?_);refine CL Aj.tab13 Aj.bits13 (fun HT_ HW_=>?_);generalize w32.drew=w33 at HB hx541_0 hx542_0 hHeld ⊢;refine Zs.pu 0 (some 55) ?_;refine Zs.pu 1 (some 56) ?_;refine Zs.pu 3 (some 58) ?_;refine Zs.pu 4 (some 59) ?_;refine Zs.pu 6 (some 61) ?_;refine Zs.ta2 2 (some 57) ?_;refine Zs.ta2 5 (some 60) ?_
             refine Zq.o1 7 (some 62) (fun K hK=>?_);refine Kd.Ed (Kd.int .i64) _ 3 ?hg (N:=62) ?hd (xs:=([rd l0 2,rd l0 3,t538]:List Int)) (inner:=[.int .i64 (rd l0 2),.int .i64 (rd l0 3),.int .i64 t538]) (ok:=fun _=>True) (okp:=fun _=>True) ?hr ?hp (fun _ hk=>hk) trivial (Below.refl _ _) (Nat.le_refl _) (by simp) ?_;(case hd=>rfl);(case hg=>rfl);(case hr=>first|(go_simp;done)|(go_simp;rfl));(case hp=>exact (Reps.one (show Kd.M (Kd.int .i64) _ _ _ (rd l0 2) [.int .i64 (rd l0 2)] from rfl) (Reps.one (show Kd.M (Kd.int .i64) _ _ _ (rd l0 3) [.int .i64 (rd l0 3)] from rfl) (Reps.one (show Kd.M (Kd.int .i64) _ _ _ t538 [.int .i64 t538] from rfl) (Reps.none _ _)))));intro v544 w34 ho35 hb hg_ hnew_;clear hg_ hnew_
             (first|rw [← Ny543.out] at ho35|(simp only [Int.reduceToNat] at ho35;rw [← Ny543.out] at ho35))
             have n0_:=Zq.lw ho35;have n1_:=Zq.st hb;clear HB;have HO545:=n0_;have HB:=n1_;clear n0_ n1_;clear hb ho35;obtain ⟨Ao36,co36,eo36⟩:=Kd.AD HO545.out
             (first|subst eo36|(injection eo36 with f1_ f2_ f3_;have f4_:=f1_.symm;have f5_:=f3_.symm;clear f1_ f2_ f3_;subst f4_;subst f5_))
             refine hK.out _ _ ⟨((HB.out.cell (World.block_lt_of_cell? w _ hw541_0)).trans hw541_0),((HB.out.cell (World.block_lt_of_cell? w _ hw542_0)).trans hw542_0)⟩ (fun hHeld=>?_);clear hK K;refine Zq.nm (some 62) ?_
             refine Zq.o1 8 (some 63) (fun K hK=>?_);refine GV Tryz.func83 (by kernel_rfl) rfl #[.slice Ao36 y543.length co36] (by rfl) rfl rfl Zs.auM ?_
             with_reducible refine (BN.calls kj3 _ _ y543 t546 true _ ?side1 ?side2 A24.out).mono ?_
             (case side1=>exact Zs.mvC ((Kd.Ac HO545.out).2.2))
             (case side2=>exact (Kd.Ac HO545.out).2.1)
             rintro e w37 ⟨v548,rfl,ho0,hb⟩;refine ⟨_,rfl,?_⟩;have n0_:=Zq.el HO545.out ho0 hb;have n1_:=Aa.mk (Kd.Bp (Kd.Bj ho0 (Zq.lt HO545.out)) (Av (Zs.auHB)));have n2_:=Zq.st hb;clear HO545;clear HB;have HO545:=n0_;have HO549:=n1_;have HB:=n2_;clear n0_ n1_ n2_;(try clear hb);(try clear hb2);(try clear hk);(try clear hi);(try clear ho0);refine hK.out _ _ ⟨((HB.out.cell (World.block_lt_of_cell? w _ hw541_0)).trans hw541_0),((HB.out.cell (World.block_lt_of_cell? w _ hw542_0)).trans hw542_0)⟩ (fun hHeld=>?_);clear hK K;refine Zq.nm (some 63) ?_
             refine Zs.pu 9 (some 54) ?_;refine Zs.pu 10 (some 64) ?_;refine Zs.pu 11 (some 65) ?_;refine Zs.pu 12 (some 9) ?_;refine Zs.pu 13 (some 10) ?_
             refine Zq.dn ?_
             try go_wp2
             have n0_:=Aa.mk (Kd.DB HO545.out);have n1_:=Aa.mk (Kd.DB HO549.out);have n2_:=Aa.mk (Ax HB.out);clear HO545;clear HO549;clear HB;have HO545:=n0_;have HO549:=n1_;have HB:=n2_;clear n0_ n1_ n2_;obtain ⟨Ao39,co39,eo39⟩:=Kd.AD HO549.out
             (first|subst eo39|(injection eo39 with f1_ f2_ f3_;have f4_:=f1_.symm;have f5_:=f3_.symm;clear f1_ f2_ f3_;subst f4_;subst f5_))
             obtain ⟨ad550,e550,hx550_0,p550,q550⟩:=Zq.at_ (Kd.Ac HO549.out).2.2 2;cases e550;(try simp only [show (2:Int).toNat=2 from rfl,Nat.reduceMul,Nat.reduceEqDiff,Go.Addr.add,↓reduceIte] at hx550_0);(try rw [show ((2:Int)).toNat=2 from rfl] at hx550_0);obtain ⟨ad551,e551,hx551_0,p551,q551⟩:=Zq.at_ (Kd.Ac HO549.out).2.2 2;obtain rfl:ad550=ad551:=(by injection e551);(try simp only [show (2:Int).toNat=2 from rfl,Nat.reduceMul,Nat.reduceEqDiff,Go.Addr.add,↓reduceIte] at hx551_0);(try rw [show ((2:Int)).toNat=2 from rfl] at hx551_0);obtain ⟨ad552,e552,hx552_0,p552,q552⟩:=Zq.at_ (Kd.Ac HO549.out).2.2 0;obtain rfl:ad550=ad552:=(by injection e552);have qi552:(0<t546.length)=True:=eq_true (by have:=of_eq_true q552;omega);(try rw [show ((0:Int)).toNat=0 from rfl] at hx552_0);(try rw [Addr.add_zero'] at hx552_0);obtain ⟨ad553,e553,hx553_0,p553,q553⟩:=Zq.at_ (Kd.Ac HO549.out).2.2 1;obtain rfl:ad550=ad553:=(by injection e553);(try simp only [show (1:Int).toNat=1 from rfl,Nat.reduceMul,Nat.reduceEqDiff,Go.Addr.add,↓reduceIte] at hx553_0);(try rw [show ((1:Int)).toNat=1 from rfl] at hx553_0);refine D8 (n:=24) (S:=fun w'=>w'.cell? ⟨ad550.block,ad550.off+2,none⟩=some (.int .i64 (rd t546 2))∧w'.cell? ⟨ad550.block,ad550.off+2,none⟩=some (.int .i64 (rd t546 2))∧w'.cell? ad550=some (.int .i64 (rd t546 0))∧w'.cell? ⟨ad550.block,ad550.off+1,none⟩=some (.int .i64 (rd t546 1))) (ds:=[]) #[false,false,false,false,false,false,false,false,false,false,false,false,false,false,false,false,false,false,false,false,false,false,false,false] (by kernel_rfl) rfl rfl ⟨hx550_0,hx551_0,hx552_0,hx553_0⟩ (fun hHeld=>?_);refine CL Aj.tab15 Aj.NQ (fun HT_ HW_=>?_);generalize w37.drew=w38 at HO545 HO549 HB hx550_0 hx551_0 hx552_0 hx553_0 hHeld ⊢;refine Zs.pu 0 (some 67) ?_;refine Zs.pu 1 (some 68) ?_;refine Zs.pu 2 (some 69) ?_;refine Zs.pu 5 (some 72) ?_;refine Zs.pu 6 (some 73) ?_;refine Zs.pu 7 (some 74) ?_;refine Zs.pu 10 (some 77) ?_;refine Zs.pu 11 (some 78) ?_;refine Zs.pu 12 (some 79) ?_;refine Zs.pu 15 (some 82) ?_;refine Zs.pu 16 (some 83) ?_;refine Zs.pu 17 (some 84) ?_;refine Zs.ta4 3 (some 70) ?_;refine Zs.pu 4 (some 71) ?_;refine Zs.ta4 8 (some 75) ?_;refine Zs.pu 9 (some 76) ?_;refine Zs.ta4 13 (some 80) ?_;refine Zs.pu 14 (some 81) ?_;refine Zs.ta4 18 (some 85) ?_;refine Zs.pu 19 (some 86) ?_
             refine Zq.o1 20 (some 87) (fun K hK=>?_);refine Kd.Ed (Kd.int .i64) _ 3 ?hg (N:=87) ?hd (xs:=([wrap64 (x4_1*(rd t546 2)),wrap64 (x5_2*(rd t546 2)),wrap64 (t539*(rd t546 0)),wrap64 (t539*(rd t546 1))]:List Int)) (inner:=[.int .i64 (wrap64 (x4_1*(rd t546 2))),.int .i64 (wrap64 (x5_2*(rd t546 2))),.int .i64 (wrap64 (t539*(rd t546 0))),.int .i64 (wrap64 (t539*(rd t546 1)))]) (ok:=fun _=>True) (okp:=fun _=>True) ?hr ?hp (fun _ hk=>hk) trivial (Below.refl _ _) (Nat.le_refl _) (by simp) ?_;(case hd=>rfl);(case hg=>rfl);(case hr=>first|(go_simp;done)|(go_simp;rfl));(case hp=>exact (Reps.one (show Kd.M (Kd.int .i64) _ _ _ (wrap64 (x4_1*(rd t546 2))) [.int .i64 (wrap64 (x4_1*(rd t546 2)))] from rfl) (Reps.one (show Kd.M (Kd.int .i64) _ _ _ (wrap64 (x5_2*(rd t546 2))) [.int .i64 (wrap64 (x5_2*(rd t546 2)))] from rfl) (Reps.one (show Kd.M (Kd.int .i64) _ _ _ (wrap64 (t539*(rd t546 0))) [.int .i64 (wrap64 (t539*(rd t546 0)))] from rfl) (Reps.one (show Kd.M (Kd.int .i64) _ _ _ (wrap64 (t539*(rd t546 1))) [.int .i64 (wrap64 (t539*(rd t546 1)))] from rfl) (Reps.none _ _))))));intro v555 w40 ho41 hb hg_ hnew_;have HS0_:=(hb.cell (World.block_lt_of_cell? _ _ (hHeld.1))).trans (hHeld.1);have HS1_:=(hb.cell (World.block_lt_of_cell? _ _ (hHeld.2.1))).trans (hHeld.2.1);have HS2_:=(hb.cell (World.block_lt_of_cell? _ _ (hHeld.2.2.1))).trans (hHeld.2.2.1);have HS3_:=(hb.cell (World.block_lt_of_cell? _ _ (hHeld.2.2.2))).trans (hHeld.2.2.2);clear hg_ hnew_
             (first|rw [← Ny554.out] at ho41|(simp only [Int.reduceToNat] at ho41;rw [← Ny554.out] at ho41))
             have n0_:=Zq.el HO545.out ho41 hb;have n1_:=Zq.el HO549.out ho41 hb;have n2_:=Aa.mk (Kd.Bp (Kd.Bj (Kd.Bj ho41 (Zq.lt HO545.out)) (Zq.lt HO549.out)) (Av (Zs.auHB)));have n3_:=Zq.st hb;clear HO545;clear HO549;clear HB;have HO545:=n0_;have HO549:=n1_;have HO556:=n2_;have HB:=n3_;clear n0_ n1_ n2_ n3_;clear hb ho41;obtain ⟨Ao42,co42,eo42⟩:=Kd.AD HO556.out
             (first|subst eo42|(injection eo42 with f1_ f2_ f3_;have f4_:=f1_.symm;have f5_:=f3_.symm;clear f1_ f2_ f3_;subst f4_;subst f5_))
             refine hK.out _ _ ⟨HS0_,HS1_,HS2_,HS3_⟩ (fun hHeld=>?_);clear hK K;refine Zq.nm (some 87) ?_
             refine Zq.o1 21 (some 88) (fun K hK=>?_);refine GV Tryz.func82 (by kernel_rfl) rfl #[.slice Ao42 y554.length co42] (by rfl) rfl rfl Zs.auM ?_
             with_reducible refine (AE.calls kj3 _ _ y554 t557 _ ?side1 ?side2 A29.out).mono ?_
             (case side1=>exact Zs.mvC ((Kd.Ac HO556.out).2.2))
             (case side2=>exact (Kd.Ac HO556.out).2.1)
             rintro e w43 ⟨v558,rfl,ho0,hb⟩;have HS0_:=(hb.cell (World.block_lt_of_cell? _ _ (hHeld.1))).trans (hHeld.1);have HS1_:=(hb.cell (World.block_lt_of_cell? _ _ (hHeld.2.1))).trans (hHeld.2.1);have HS2_:=(hb.cell (World.block_lt_of_cell? _ _ (hHeld.2.2.1))).trans (hHeld.2.2.1);have HS3_:=(hb.cell (World.block_lt_of_cell? _ _ (hHeld.2.2.2))).trans (hHeld.2.2.2);refine ⟨_,rfl,?_⟩;have n0_:=Zq.el HO545.out ho0 hb;have n1_:=Zq.el HO549.out ho0 hb;have n2_:=Zq.el HO556.out ho0 hb;have n3_:=Aa.mk (Kd.Bp (Kd.Bj (Kd.Bj (Kd.Bj ho0 (Zq.lt HO545.out)) (Zq.lt HO549.out)) (Zq.lt HO556.out)) (Av (Zs.auHB)));have n4_:=Zq.st hb;clear HO545;clear HO549;clear HO556;clear HB;have HO545:=n0_;have HO549:=n1_;have HO556:=n2_;have HO559:=n3_;have HB:=n4_;clear n0_ n1_ n2_ n3_ n4_;(try clear hb);(try clear hb2);(try clear hk);(try clear hi);(try clear ho0);refine hK.out _ _ ⟨HS0_,HS1_,HS2_,HS3_⟩ (fun hHeld=>?_);clear hK K;refine Zq.nm (some 88) ?_
             refine Zs.pu 22 (some 2) ?_;refine Zs.pu 23 (some 3) ?_
             refine Zq.dn ?_
             try go_wp2
             go_ret2
             exact ⟨_,Zs.auR,(Zs.mvR (Kd.AJ HO559.out (fun _ hk=>trivial))),Zs.auHB⟩
            ·replace c25:=Bool.eq_false_iff.mpr c25;subst c25;rw [if_neg (show ¬(false=true) by decide)] at H;have H':=Aa.mk H;clear H
             try go_wp2
             have n0_:=Aa.mk (Ax HB.out);clear HB;have HB:=n0_;clear n0_;obtain ⟨ad530,e530,hx530_0,p530,q530⟩:=Zq.at_ HR0.out 0;have hw530_0:=hx530_0;(try rw [show ((0:Int)).toNat=0 from rfl] at hw530_0);(try rw [show 0*1=0 from rfl] at hw530_0);(try rw [Addr.add_zero'] at hw530_0);cases e530;have qi530:(0<l0.length)=True:=eq_true (by have:=of_eq_true q530;omega);(try rw [show ((0:Int)).toNat=0 from rfl] at hx530_0);(try rw [Addr.add_zero'] at hx530_0);replace hx530_0:=Zq.ce HB.out hx530_0;obtain ⟨ad531,e531,hx531_0,p531,q531⟩:=Zq.at_ HR0.out 1;have hw531_0:=hx531_0;(try rw [show ((1:Int)).toNat=1 from rfl] at hw531_0);(try rw [show 1*1=1 from rfl] at hw531_0);(try simp only [Nat.reduceMul,Nat.reduceEqDiff,Go.Addr.add,↓reduceIte] at hw531_0);obtain rfl:ad530=ad531:=(by injection e531);(try simp only [show (1:Int).toNat=1 from rfl,Nat.reduceMul,Nat.reduceEqDiff,Go.Addr.add,↓reduceIte] at hx531_0);(try rw [show ((1:Int)).toNat=1 from rfl] at hx531_0);replace hx531_0:=Zq.ce HB.out hx531_0;refine D8 (n:=16) (S:=fun w'=>w'.cell? ad530=some (.int .i64 (rd l0 0))∧w'.cell? ⟨ad530.block,ad530.off+1,none⟩=some (.int .i64 (rd l0 1))) (ds:=[]) #[false,false,false,false,false,false,false,false,false,false,false,false,false,false,false,false] (by kernel_rfl) rfl rfl ⟨((HB.out.cell (World.block_lt_of_cell? w _ hw530_0)).trans hw530_0),((HB.out.cell (World.block_lt_of_cell? w _ hw531_0)).trans hw531_0)⟩ (fun hHeld=>?_);refine CL Aj.tab8 Aj.bits8 (fun HT_ HW_=>?_);generalize wc.drew=w44 at HB hx530_0 hx531_0 hHeld ⊢;refine Zs.pu 0 (some 25) ?_;refine Zs.pu 1 (some 26) ?_;refine Zs.pu 3 (some 28) ?_;refine Zs.pu 5 (some 30) ?_;refine Zs.pu 7 (some 32) ?_;refine Zs.pu 8 (some 33) ?_;refine Zs.pu 10 (some 35) ?_;refine Zs.pu 12 (some 37) ?_;refine Zs.ta2 2 (some 27) ?_;refine Zs.pu 4 (some 29) ?_;refine Zs.pu 6 (some 31) ?_;refine Zs.ta2 9 (some 34) ?_;refine Zs.pu 11 (some 36) ?_;refine Zs.pu 13 (some 38) ?_;refine Zs.pu 14 (some 39) ?_;refine Zs.pu 15 (some 6) ?_
             refine Zq.dn ?_
             try go_wp2_with (first|((with_reducible refine Ab (f:=81) rfl ?_);refine Zq.gb Tryz.func81 (AP.calls _ _ _ _ _ A16.out) ?_;intro w45 hb;replace HB:=Zq.st hb;(try clear hb))|((with_reducible refine Ab (f:=134) rfl ?_);refine Zq.gb Tryz.func134 (Bf.calls _ _ _ A17.out) ?_;intro w46 hb;replace HB:=Zq.st hb;(try clear hb)))
             have n0_:=Aa.mk (Ax HB.out);clear HB;have HB:=n0_;clear n0_;obtain ⟨ad541,e541,hx541_0,p541,q541⟩:=Zq.at_ HR0.out 2;have hw541_0:=hx541_0;(try rw [show ((2:Int)).toNat=2 from rfl] at hw541_0);(try rw [show 2*1=2 from rfl] at hw541_0);(try simp only [Nat.reduceMul,Nat.reduceEqDiff,Go.Addr.add,↓reduceIte] at hw541_0);obtain rfl:ad530=ad541:=(by injection e541);(try simp only [show (2:Int).toNat=2 from rfl,Nat.reduceMul,Nat.reduceEqDiff,Go.Addr.add,↓reduceIte] at hx541_0);(try rw [show ((2:Int)).toNat=2 from rfl] at hx541_0);replace hx541_0:=Zq.ce HB.out hx541_0;obtain ⟨ad542,e542,hx542_0,p542,q542⟩:=Zq.at_ HR0.out 3;have hw542_0:=hx542_0;(try rw [show ((3:Int)).toNat=3 from rfl] at hw542_0);(try rw [show 3*1=3 from rfl] at hw542_0);(try simp only [Nat.reduceMul,Nat.reduceEqDiff,Go.Addr.add,↓reduceIte] at hw542_0);obtain rfl:ad530=ad542:=(by injection e542);(try simp only [show (3:Int).toNat=3 from rfl,Nat.reduceMul,Nat.reduceEqDiff,Go.Addr.add,↓reduceIte] at hx542_0);(try rw [show ((3:Int)).toNat=3 from rfl] at hx542_0);replace hx542_0:=Zq.ce HB.out hx542_0;refine D8 (n:=14) (S:=fun w'=>w'.cell? ⟨ad530.block,ad530.off+2,none⟩=some (.int .i64 (rd l0 2))∧w'.cell? ⟨ad530.block,ad530.off+3,none⟩=some (.int .i64 (rd l0 3))) (ds:=[]) #[false,false,false,false,false,false,false,false,false,false,false,false,false,false] (by kernel_rfl) rfl rfl ⟨((HB.out.cell (World.block_lt_of_cell? w _ hw541_0)).trans hw541_0),((HB.out.cell (World.block_lt_of_cell? w _ hw542_0)).trans hw542_0)⟩ (fun hHeld=>?_);refine CL Aj.tab13 Aj.bits13 (fun HT_ HW_=>?_);generalize w46.drew=w47 at HB hx541_0 hx542_0 hHeld ⊢;refine Zs.pu 0 (some 55) ?_;refine Zs.pu 1 (some 56) ?_;refine Zs.pu 3 (some 58) ?_;refine Zs.pu 4 (some 59) ?_;refine Zs.pu 6 (some 61) ?_;refine Zs.ta2 2 (some 57) ?_;refine Zs.ta2 5 (some 60) ?_
             refine Zq.o1 7 (some 62) (fun K hK=>?_);refine Kd.Ed (Kd.int .i64) _ 3 ?hg (N:=62) ?hd (xs:=([rd l0 2,rd l0 3,t538]:List Int)) (inner:=[.int .i64 (rd l0 2),.int .i64 (rd l0 3),.int .i64 t538]) (ok:=fun _=>True) (okp:=fun _=>True) ?hr ?hp (fun _ hk=>hk) trivial (Below.refl _ _) (Nat.le_refl _) (by simp) ?_;(case hd=>rfl);(case hg=>rfl);(case hr=>first|(go_simp;done)|(go_simp;rfl));(case hp=>exact (Reps.one (show Kd.M (Kd.int .i64) _ _ _ (rd l0 2) [.int .i64 (rd l0 2)] from rfl) (Reps.one (show Kd.M (Kd.int .i64) _ _ _ (rd l0 3) [.int .i64 (rd l0 3)] from rfl) (Reps.one (show Kd.M (Kd.int .i64) _ _ _ t538 [.int .i64 t538] from rfl) (Reps.none _ _)))));intro v544 w48 ho49 hb hg_ hnew_;clear hg_ hnew_
             (first|rw [← Ny543.out] at ho49|(simp only [Int.reduceToNat] at ho49;rw [← Ny543.out] at ho49))
             have n0_:=Zq.lw ho49;have n1_:=Zq.st hb;clear HB;have HO545:=n0_;have HB:=n1_;clear n0_ n1_;clear hb ho49;obtain ⟨Ao50,co50,eo50⟩:=Kd.AD HO545.out
             (first|subst eo50|(injection eo50 with f1_ f2_ f3_;have f4_:=f1_.symm;have f5_:=f3_.symm;clear f1_ f2_ f3_;subst f4_;subst f5_))
             refine hK.out _ _ ⟨((HB.out.cell (World.block_lt_of_cell? w _ hw541_0)).trans hw541_0),((HB.out.cell (World.block_lt_of_cell? w _ hw542_0)).trans hw542_0)⟩ (fun hHeld=>?_);clear hK K;refine Zq.nm (some 62) ?_
             refine Zq.o1 8 (some 63) (fun K hK=>?_);refine GV Tryz.func83 (by kernel_rfl) rfl #[.slice Ao50 y543.length co50] (by rfl) rfl rfl Zs.auM ?_
             with_reducible refine (BN.calls kj3 _ _ y543 t546 false _ ?side1 ?side2 A24.out).mono ?_
             (case side1=>exact Zs.mvC ((Kd.Ac HO545.out).2.2))
             (case side2=>exact (Kd.Ac HO545.out).2.1)
             rintro e w51 ⟨v548,rfl,ho0,hb⟩;refine ⟨_,rfl,?_⟩;have n0_:=Zq.el HO545.out ho0 hb;have n1_:=Aa.mk (Kd.Bp (Kd.Bj ho0 (Zq.lt HO545.out)) (Av (Zs.auHB)));have n2_:=Zq.st hb;clear HO545;clear HB;have HO545:=n0_;have HO549:=n1_;have HB:=n2_;clear n0_ n1_ n2_;(try clear hb);(try clear hb2);(try clear hk);(try clear hi);(try clear ho0);refine hK.out _ _ ⟨((HB.out.cell (World.block_lt_of_cell? w _ hw541_0)).trans hw541_0),((HB.out.cell (World.block_lt_of_cell? w _ hw542_0)).trans hw542_0)⟩ (fun hHeld=>?_);clear hK K;refine Zq.nm (some 63) ?_
             refine Zs.pu 9 (some 54) ?_;refine Zs.pu 10 (some 64) ?_;refine Zs.pu 11 (some 65) ?_;refine Zs.pu 12 (some 9) ?_;refine Zs.pu 13 (some 10) ?_
             refine Zq.dn ?_
             try go_wp2
             go_roundg kj3
             case measure=>have:=HK1.out;have:=HK2.out;have:=HJ3.out;omega
             case rel=>exact ⟨(wrap64 (x5_2+1)),Zs.auS,H',⟨by have:=HK1.out;have:=HK2.out;have:=HJ3.out;omega⟩,⟨Zs.auHB⟩⟩
      ·have c3b0:=decide_eq_false c3;clear c3;have H':=Aa.mk H;clear H;go_wp2
       go_roundg k2
       case measure=>have:=HK1.out;have:=HK2.out;omega
       case rel=>exact ⟨(wrap64 (x4_1+1)),Zs.auS,H',⟨by have:=HK1.out;have:=HK2.out;omega⟩,⟨Zs.auHB⟩⟩
   ·have c2b0:=decide_eq_false c2;clear c2;obtain ⟨y527,hyy⟩ : ∃y_:List Int,y_=(([]:List Int)):=⟨_,rfl⟩
    replace H:(some (y527,false))=some (r1,r2):=Zs.auY
    have Ny527:=Aa.mk hyy;clear hyy;simp only [Option.some.injEq,Prod.mk.injEq] at H;obtain ⟨rfl,rfl⟩:=H
    go_wp2_with (((with_reducible refine Bg (N:=89) rfl ?_);refine Zq.li ([]:List Int) ?_;intro v528 w52 ho53 hb;(first|rw [← Ny527.out] at ho53|(simp only [Int.reduceToNat] at ho53;rw [← Ny527.out] at ho53));have HO529:=Zq.lw ho53;replace HB:=Zq.st hb;clear hb ho53))
    go_ret2
    exact ⟨_,Zs.auR,(Zs.mvR HO529.out),Zs.auHB⟩
end Go.Proofs.YtacfcoilmdhgnaaGreatDoor.PFnExactExecute
