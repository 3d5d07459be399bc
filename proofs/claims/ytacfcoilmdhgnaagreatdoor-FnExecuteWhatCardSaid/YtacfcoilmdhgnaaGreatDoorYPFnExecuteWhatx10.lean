/- A function's Lean twin and its walk, written by a program of this session. -/
import Derived.Test.YtacfcoilmdhgnaaGreatDoorYPFnExecuteWhatx9
set_option maxHeartbeats 8000000
set_option maxRecDepth 100000
namespace Go.Proofs.YtacfcoilmdhgnaaGreatDoor.PFnExecuteWhat
open Go.RowKit Go.Proofs.YtacfcoilmdhgnaaGreatDoorW.PrintWords Go.Proofs.YtacfcoilmdhgnaaGreatDoorW.PrintLast Go.Proofs.YtacfcoilmdhgnaaGreatDoorW.PrintMore
attribute [local go_sem] DN DO El En Du Dt DP DK   -- for this text's walks alone
set_option linter.unusedVariables false
set_option linter.unusedSimpArgs false
mutual
def AD.l0:Nat→Int→Int→Int→Int→Option (List Int×Bool)
 | 0,_,_,_,_=>none
 | k+1,x4,x5,x6,x7=>(Bc.f (wrap64 (x5*x6))).bind fun t3=>(if (wrap64 (x7*x7))≤t3 then AD.l1 k x4 x5 x6 x7 0 else some ((([]:List Int)),false))
def AD.l1:Nat→Int→Int→Int→Int→Int→Option (List Int×Bool)
 | 0,_,_,_,_,_=>none
 | k+1,x4,x5,x6,x7,x8=>(Bc.f (wrap64 (x4*x6))).bind fun t3=>(if (wrap64 (x8*x8))≤t3 then if x6=0 then none else if (Int.tmod (wrap64 ((wrap64 (-(wrap64 ((wrap64 (x4*x7))*x7))))-(wrap64 ((wrap64 (x5*x8))*x8)))) x6)=0 then if (wrap64 (Int.tdiv (wrap64 ((wrap64 (-(wrap64 ((wrap64 (x4*x7))*x7))))-(wrap64 ((wrap64 (x5*x8))*x8)))) x6))<0 then AD.j2 k x4 x5 x6 x7 x8 (wrap64 ((wrap64 (-(wrap64 ((wrap64 (x4*x7))*x7))))-(wrap64 ((wrap64 (x5*x8))*x8)))) true else if x7=0 then AD.j2 k x4 x5 x6 x7 x8 (wrap64 ((wrap64 (-(wrap64 ((wrap64 (x4*x7))*x7))))-(wrap64 ((wrap64 (x5*x8))*x8)))) (x8==0) else AD.j2 k x4 x5 x6 x7 x8 (wrap64 ((wrap64 (-(wrap64 ((wrap64 (x4*x7))*x7))))-(wrap64 ((wrap64 (x5*x8))*x8)))) false else AD.j2 k x4 x5 x6 x7 x8 (wrap64 ((wrap64 (-(wrap64 ((wrap64 (x4*x7))*x7))))-(wrap64 ((wrap64 (x5*x8))*x8)))) true else AD.l0 k x4 x5 x6 (wrap64 (x7+1)))
def AD.j2:Nat→Int→Int→Int→Int→Int→Int→Bool→Option (List Int×Bool)
 | 0,_,_,_,_,_,_,_=>none
 | k+1,x4,x5,x6,x7,x8,x9,x69=>if x69=true then AD.l1 k x4 x5 x6 x7 (wrap64 (x8+1)) else if x6=0 then none else (B0.f k (wrap64 (Int.tdiv x9 x6))).bind fun t3=>(if t3≥0 then some ((([x7,x8,t3]:List Int)),true) else AD.l1 k x4 x5 x6 x7 (wrap64 (x8+1)))
end
def AD.f (k:Nat) (l0:List Int):Option (List Int×Bool):=if 0<(l0.length:Int) then if 1<(l0.length:Int) then if 2<(l0.length:Int) then AD.l0 k (rd l0 0) (rd l0 1) (rd l0 2) 0 else none else none else none
theorem AD.calls (k:Nat) (A0:Option Addr) (c0:Nat) (l0 r1:List Int) (r2:Bool) (w:World) (hr0:Kd.C (Kd.int .i64) w A0 l0.length l0) (hc0:l0.length≤c0) (h:AD.f k l0=some (r1,r2)) :
  Calls Tryz.prog 138 #[.slice A0 l0.length c0] w fun e w' => ∃v0_:Value,e = .returned (.tuple #[v0_,.bool r2])∧Kd.R (Kd.int .i64) 3 w' w.heap.size (fun _=>True) v0_ r1∧Below w.heap.size w w':=by
 have HR0:=Aa.mk hr0;have HC0:=Aa.mk hc0;clear hr0 hc0;have HB:=Aa.mk (Below.refl w.heap.size w);unfold AD.f at h;have H:=h;clear h
 obtain ⟨c2b0,H⟩:=Zq.pd H
 obtain ⟨c3b0,H⟩:=Zq.pd H
 obtain ⟨c4b0,H⟩:=Zq.pd H;have H':=Aa.mk H;clear H;obtain ⟨ad16,e16,hx16_0,p16,q16,qi16⟩:=Zq.a0 HR0.out;cases e16;obtain ⟨ad26,e26,hx26_0,p26,q26⟩:=Zq.an HR0.out 1 1;obtain rfl:ad16=ad26:=(by injection e26);obtain ⟨ad27,e27,hx27_0,p27,q27⟩:=Zq.an HR0.out 2 2;obtain rfl:ad16=ad27:=(by injection e27)
 go_enter Tryz.func138,Tryz.ntmps138
 go_wp2
 go_loopg [7] k (fun kq v7 w' => ∃x7_1:Int,v7 = .int .i64 x7_1∧Aa (AD.l0 kq (rd l0 0) (rd l0 1) (rd l0 2) x7_1=some (r1,r2))∧Aa (kq≤k)∧Aa (Below w.heap.size w w'))
 case atStart=>exact ⟨(0),Zs.auS,H',⟨Nat.le_refl _⟩,⟨Zs.auHB⟩⟩
 case round =>
  clear H'
  obtain ⟨x7_1,rfl,HA,HK1,HB⟩:=hrel;cases gk with
  | zero=>exact absurd HA.out (by simp [AD.l0])
  | succ k1 =>
   have H:=HA.out;clear HA;simp only [AD.l0] at H;obtain ⟨t28,A5,H⟩:=Zs.be H
   rcases Zq.jd H with ⟨c6b0,H⟩|⟨c6b0,H⟩
   ·have H':=Aa.mk H;clear H
    go_wp2_with (((with_reducible refine Ab (f:=134) rfl ?_);refine Zq.gb Tryz.func134 (Bc.calls _ _ _ A5.out) ?_;intro w7 hb;replace HB:=Zq.st hb;(try clear hb)))
    go_loopg [8] k1 (fun kq v8 w' => ∃x8_2:Int,v8 = .int .i64 x8_2∧Aa (AD.l1 kq (rd l0 0) (rd l0 1) (rd l0 2) x7_1 x8_2=some (r1,r2))∧Aa (kq≤k1)∧Aa (Below w.heap.size w w'))
    case atStart=>exact ⟨(0),Zs.auS,H',⟨Nat.le_refl _⟩,⟨Zs.auHB⟩⟩
    case round =>
     clear H'
     obtain ⟨x8_2,rfl,HA,HK2,HB⟩:=hrel;cases gk with
     | zero=>exact absurd HA.out (by simp [AD.l1])
     | succ k2 =>
      have H:=HA.out;clear HA;simp only [AD.l1] at H;obtain ⟨t32,A8,H⟩:=Zs.be H
      rcases Zq.jd H with ⟨c9b0,H⟩|⟨c9b0,H⟩
      ·have HC10:=Aa.mk H;clear H
       go_upto_region 11 with (((with_reducible refine Ab (f:=134) rfl ?_);refine Zq.gb Tryz.func134 (Bc.calls _ _ _ A8.out) ?_;intro w11 hb;replace HB:=Zq.st hb;(try clear hb)))
       (try simp only [Act.put,List.setIfInBounds_toArray,List.set_cons_zero,List.set_cons_succ])
       go_cut [69] (fun v69 wc => ∃(kq:Nat) (x69_9:Bool),v69 = .bool x69_9∧Aa (AD.j2 kq (rd l0 0) (rd l0 1) (rd l0 2) x7_1 x8_2 (wrap64 ((wrap64 (-(wrap64 ((wrap64 ((rd l0 0)*x7_1))*x7_1))))-(wrap64 ((wrap64 ((rd l0 1)*x8_2))*x8_2)))) x69_9=some (r1,r2))∧Aa (kq≤k2)∧Aa (Below w.heap.size w wc))
       case first =>
        have H:=HC10.out;clear HC10
        rcases Zq.ii H with ⟨c12,H⟩|⟨c12,H⟩
        ·exact absurd H (by simp)
        ·rcases Zq.ii H with ⟨c13,H⟩|⟨c13,H⟩
         ·have c13b1:=bne_eq_false_iff_eq.mpr c13;clear c13
          rcases Zq.jd H with ⟨c14b0,H⟩|⟨c14b0,H⟩
          ·have H':=Aa.mk H;clear H;go_wp2
           go_meet
           case rel=>exact ⟨_,(true),Zs.auS,H',⟨by have:=HK1.out;have:=HK2.out;first|omega|exact Nat.le_refl _⟩,⟨Zs.auHB⟩⟩
          ·rcases Zq.jn H with ⟨c15b0,H⟩|⟨c15,c15b0,H⟩
           ·have H':=Aa.mk H;clear H;go_wp2
            go_meet
            case rel=>exact ⟨_,((x8_2==0)),Zs.auS,H',⟨by have:=HK1.out;have:=HK2.out;first|omega|exact Nat.le_refl _⟩,⟨Zs.auHB⟩⟩
           ·have H':=Aa.mk H;clear H;go_wp2
            go_meet
            case rel=>exact ⟨_,(false),Zs.auS,H',⟨by have:=HK1.out;have:=HK2.out;first|omega|exact Nat.le_refl _⟩,⟨Zs.auHB⟩⟩
         ·have c13b1:=bne_iff_ne.mpr c13;have H':=Aa.mk H;clear H;go_wp2
          go_meet
          case rel=>exact ⟨_,(true),Zs.auS,H',⟨by have:=HK1.out;have:=HK2.out;first|omega|exact Nat.le_refl _⟩,⟨Zs.auHB⟩⟩
       case rest =>
        clear HC10
        obtain ⟨kq,x69_9,rfl,HA,HJ9,HB⟩:=hcut;cases kq with
        | zero=>exact absurd HA.out (by simp [AD.j2])
        | succ kj9 =>
         have H:=HA.out;clear HA;simp only [AD.j2] at H
         cases x69_9
         ·replace H:=Zq.fh H
          rcases Zq.ii H with ⟨c17,H⟩|⟨c17,H⟩
          ·exact absurd H (by simp)
          ·obtain ⟨t33,A18,H⟩:=Zs.be H
           rcases Zq.jh H with ⟨c19b0,H⟩|⟨c19b0,H⟩
           ·generalize hyy:([x7_1,x8_2,t33]:List Int)=y34 at H;have Ny34:=Aa.mk hyy.symm;clear hyy;obtain ⟨rfl,rfl⟩:=Zq.pi H
            go_wp2_with (first|((with_reducible refine Ab (f:=57) rfl ?_);refine Zq.gp Tryz.func57 (B0.calls _ _ _ _ A18.out) ?_;intro nd)|((with_reducible refine Bb (N:=79) rfl ?_);refine Zq.li ([x7_1,x8_2,t33]:List Int) ?_;intro v35 w20 ho21 hb;(first|rw [← Ny34.out] at ho21|(simp only [Int.reduceToNat] at ho21;rw [← Ny34.out] at ho21));have HO36:=Zq.lw ho21;replace HB:=Zq.st hb;clear hb ho21))
            go_ret2
            exact ⟨_,Zs.auR,(Zs.mvR HO36.out),Zs.auHB⟩
           ·have H':=Aa.mk H;clear H
            go_wp2_with (((with_reducible refine Ab (f:=57) rfl ?_);refine Zq.gp Tryz.func57 (B0.calls _ _ _ _ A18.out) ?_;intro nd))
            go_roundg kj9
            case measure=>have:=HK1.out;have:=HK2.out;have:=HJ9.out;omega
            case rel=>exact ⟨(wrap64 (x8_2+1)),Zs.auS,H',⟨by have:=HK1.out;have:=HK2.out;have:=HJ9.out;omega⟩,⟨Zs.auHB⟩⟩
         ·replace H:=Zq.th H;have H':=Aa.mk H;clear H;go_wp2
          go_roundg kj9
          case measure=>have:=HK1.out;have:=HK2.out;have:=HJ9.out;omega
          case rel=>exact ⟨(wrap64 (x8_2+1)),Zs.auS,H',⟨by have:=HK1.out;have:=HK2.out;have:=HJ9.out;omega⟩,⟨Zs.auHB⟩⟩
      ·have H':=Aa.mk H;clear H
       go_wp2_with (((with_reducible refine Ab (f:=134) rfl ?_);refine Zq.gb Tryz.func134 (Bc.calls _ _ _ A8.out) ?_;intro w22 hb;replace HB:=Zq.st hb;(try clear hb)))
       go_roundg k2
       case measure=>have:=HK1.out;have:=HK2.out;omega
       case rel=>exact ⟨(wrap64 (x7_1+1)),Zs.auS,H',⟨by have:=HK1.out;have:=HK2.out;omega⟩,⟨Zs.auHB⟩⟩
   ·obtain ⟨y29,hyy⟩ : ∃y_:List Int,y_=(([]:List Int)):=⟨_,rfl⟩
    replace H:(some (y29,false))=some (r1,r2):=Zs.auY
    have Ny29:=Aa.mk hyy;clear hyy;obtain ⟨rfl,rfl⟩:=Zq.pi H
    go_wp2_with (first|((with_reducible refine Ab (f:=134) rfl ?_);refine Zq.gb Tryz.func134 (Bc.calls _ _ _ A5.out) ?_;intro w23 hb;replace HB:=Zq.st hb;(try clear hb))|((with_reducible refine Bb (N:=80) rfl ?_);refine Zq.li ([]:List Int) ?_;intro v30 w24 ho25 hb;(first|rw [← Ny29.out] at ho25|(simp only [Int.reduceToNat] at ho25;rw [← Ny29.out] at ho25));have HO31:=Zq.lw ho25;replace HB:=Zq.st hb;clear hb ho25))
    go_ret2
    exact ⟨_,Zs.auR,(Zs.mvR HO31.out),Zs.auHB⟩
def B3.f (k:Nat) (l0:List Int):Option (List Int×Bool):=(AF.f k l0).bind fun bt4=>((AD.f k bt4.1).bind fun bt5=>(if bt5.2=true then if 0<(bt4.2.length:Int) then if 0<(bt5.1.length:Int) then if 1<(bt4.2.length:Int) then if 1<(bt5.1.length:Int) then if 2<(bt4.2.length:Int) then if 2<(bt5.1.length:Int) then (AL.f k (([wrap64 ((rd bt4.2 0)*(rd bt5.1 0)),wrap64 ((rd bt4.2 1)*(rd bt5.1 1)),wrap64 ((rd bt4.2 2)*(rd bt5.1 2))]:List Int))).bind fun t6=>(some (t6,true)) else none else none else none else none else none else none else some ((([]:List Int)),false)))
def B3.T5:Bool×List (List Nat×List Nat):=(true,[([],[]),([0],[0]),([1],[1]),([],[]),([3],[3]),([4],[4]),([2,5],[2,5]),([],[]),([7],[7]),([8],[8]),([],[]),([10],[10]),([11],[11]),([9,12],[9,12]),([],[]),([14],[14]),([15],[15]),([],[]),([17],[17]),([18],[18]),([16,19],[16,19]),([6,13,20],[6,13,20]),([21],[21]),([22,22,0,1,2,3,4,5,6,7,8,9,10,11,12,13,14,15,16,17,18,19,20,21,22],[22]),([23,0,1,2,3,4,5,6,7,8,9,10,11,12,13,14,15,16,17,18,19,20,21,22,23],[])])
def B3.B5:List Nat:=[0,1,3,0,8,24,63,0,128,384,0,1024,3072,8064,0,16384,49152,0,131072,393216,1032192,2097151,4194303,8388607,16777215]
theorem B3.tab5:rtab .any (opsOf Tryz.f83 5)=B3.T5:=by kernel_rfl
theorem B3.O7:DJ B3.T5.2 B3.B5=true:=by kernel_rfl
theorem B3.calls (k:Nat) (A0:Option Addr) (c0:Nat) (l0 r1:List Int) (r2:Bool) (w:World) (hr0:Kd.C (Kd.int .i64) w A0 l0.length l0) (hc0:l0.length≤c0) (h:B3.f k l0=some (r1,r2)) :
  Calls Tryz.prog 83 #[.slice A0 l0.length c0] w fun e w' => ∃v0_:Value,e = .returned (.tuple #[v0_,.bool r2])∧Kd.R (Kd.int .i64) 3 w' w.heap.size (fun _=>True) v0_ r1∧Below w.heap.size w w':=by
 have HR0:=Aa.mk hr0;have HC0:=Aa.mk hc0;clear hr0 hc0;have HB:=Aa.mk (Below.refl w.heap.size w);unfold B3.f at h;have H:=h;clear h;obtain ⟨t27,t28,A2,H⟩:=Zq.bp H;try dsimp only at H;obtain ⟨t33,t34,A3,H⟩:=Zq.bp H;try dsimp only at H
 cases t34
 ·replace H:=Zq.fh H;obtain ⟨y49,hyy⟩ : ∃y_:List Int,y_=(([]:List Int)):=⟨_,rfl⟩
  replace H:(some (y49,false))=some (r1,r2):=Zs.auY
  have Ny49:=Aa.mk hyy;clear hyy;obtain ⟨rfl,rfl⟩:=Zq.pi H
  go_enter Tryz.func83,Tryz.ntmps83
  go_wp2_with (first|((with_reducible refine Ab (f:=137) rfl ?_);refine Zq.gc (some 10) Tryz.func137 (AF.calls _ _ _ _ _ _ _ (Zs.mvC (HR0.out)) HC0.out A2.out) ?_;rintro e w22 ⟨v29,v31,rfl,ho0,ho1,hb⟩;refine ⟨_,rfl,?_⟩;have HO30:=Zq.lw ho0;have HO32:=Zq.lw ho1;replace HB:=Zq.st hb;(try clear hb);(try clear ho0);(try clear ho1);obtain ⟨Ao23,co23,eo23⟩:=Kd.Az HO30.out;subst eo23)|((with_reducible refine Ab (f:=138) rfl ?_);refine Zq.gc (some 15) Tryz.func138 (AD.calls _ _ _ _ _ _ _ (Zs.mvC ((Kd.Ac HO30.out).2.2)) ((Kd.Ac HO30.out).2.1) A3.out) ?_;rintro e w24 ⟨v35,rfl,ho0,hb⟩;refine ⟨_,rfl,?_⟩;have HO36:=Aa.mk (Kd.Bp (Kd.Br (Kd.Br ho0 (Zq.lt HO30.out)) (Zq.lt HO32.out)) (Ay (Zs.auHB)));replace HO30:=Zq.el HO30.out ho0 hb;replace HO32:=Zq.el HO32.out ho0 hb;replace HB:=Zq.st hb;(try clear hb);(try clear ho0))|((with_reducible refine Bb (N:=20) rfl ?_);refine Zq.li ([]:List Int) ?_;intro v50 w25 ho26 hb;(first|rw [← Ny49.out] at ho26|(simp only [Int.reduceToNat] at ho26;rw [← Ny49.out] at ho26));have HO51:=Aa.mk (Kd.Bp (Kd.Br (Kd.Br (Kd.Br ho26 (Zq.lt HO30.out)) (Zq.lt HO32.out)) (Zq.lt HO36.out)) (Ay (Zs.auHB)));replace HO30:=Zq.el HO30.out ho26 hb;replace HO32:=Zq.el HO32.out ho26 hb;replace HO36:=Zq.el HO36.out ho26 hb;replace HB:=Zq.st hb;clear hb ho26))
  go_ret2
  exact ⟨_,Zs.auR,(Zs.mvR (Kd.AB HO51.out (fun _ hk=>trivial))),Zs.auHB⟩
 ·replace H:=Zq.th H
  obtain ⟨c5b0,H⟩:=Zq.pd H
  obtain ⟨c6b0,H⟩:=Zq.pd H
  obtain ⟨c7b0,H⟩:=Zq.pd H
  obtain ⟨c8b0,H⟩:=Zq.pd H
  obtain ⟨c9b0,H⟩:=Zq.pd H
  obtain ⟨c10b0,H⟩:=Zq.pd H;generalize hyy:([wrap64 ((rd t28 0)*(rd t33 0)),wrap64 ((rd t28 1)*(rd t33 1)),wrap64 ((rd t28 2)*(rd t33 2))]:List Int)=y43 at H;have Ny43:=Aa.mk hyy.symm;clear hyy;obtain ⟨t46,A11,H⟩:=Zs.be H;obtain ⟨rfl,rfl⟩:=Zq.pi H
  go_enter Tryz.func83,Tryz.ntmps83
  try go_wp2_with (first|((with_reducible refine Ab (f:=137) rfl ?_);refine Zq.gc (some 10) Tryz.func137 (AF.calls _ _ _ _ _ _ _ (Zs.mvC (HR0.out)) HC0.out A2.out) ?_;rintro e w12 ⟨v29,v31,rfl,ho0,ho1,hb⟩;refine ⟨_,rfl,?_⟩;have HO30:=Zq.lw ho0;have HO32:=Zq.lw ho1;replace HB:=Zq.st hb;(try clear hb);(try clear ho0);(try clear ho1);obtain ⟨Ao13,co13,eo13⟩:=Kd.Az HO30.out;subst eo13)|((with_reducible refine Ab (f:=138) rfl ?_);refine Zq.gc (some 15) Tryz.func138 (AD.calls _ _ _ _ _ _ _ (Zs.mvC ((Kd.Ac HO30.out).2.2)) ((Kd.Ac HO30.out).2.1) A3.out) ?_;rintro e w14 ⟨v35,rfl,ho0,hb⟩;refine ⟨_,rfl,?_⟩;have HO36:=Aa.mk (Kd.Bp (Kd.Br (Kd.Br ho0 (Zq.lt HO30.out)) (Zq.lt HO32.out)) (Ay (Zs.auHB)));replace HO30:=Zq.el HO30.out ho0 hb;replace HO32:=Zq.el HO32.out ho0 hb;replace HB:=Zq.st hb;(try clear hb);(try clear ho0)))
  have n0_:=Aa.mk (Kd.DE HO30.out);have n1_:=Aa.mk (Kd.DE HO32.out);have n2_:=Aa.mk (Kd.DE HO36.out);have n3_:=Aa.mk (Al HB.out);clear HO30;clear HO32;clear HO36;clear HB;have HO30:=n0_;have HO32:=n1_;have HO36:=n2_;have HB:=n3_;clear n0_ n1_ n2_ n3_;obtain ⟨Ao16,co16,eo16⟩:=Kd.Az HO32.out
  (first|subst eo16|(injection eo16 with f1_ f2_ f3_;have f4_:=f1_.symm;have f5_:=f3_.symm;clear f1_ f2_ f3_;subst f4_;subst f5_))
  obtain ⟨ad37,e37,hx37_0,p37,q37,qi37⟩:=Zq.a0 (Kd.Ac HO32.out).2.2;cases e37;obtain ⟨Ao17,co17,eo17⟩:=Kd.Az HO36.out
  (first|subst eo17|(injection eo17 with f1_ f2_ f3_;have f4_:=f1_.symm;have f5_:=f3_.symm;clear f1_ f2_ f3_;subst f4_;subst f5_))
  obtain ⟨ad38,e38,hx38_0,p38,q38,qi38⟩:=Zq.a0 (Kd.Ac HO36.out).2.2;cases e38;obtain ⟨ad39,e39,hx39_0,p39,q39⟩:=Zq.an (Kd.Ac HO32.out).2.2 1 1;obtain rfl:ad37=ad39:=(by injection e39);obtain ⟨ad40,e40,hx40_0,p40,q40⟩:=Zq.an (Kd.Ac HO36.out).2.2 1 1;obtain rfl:ad38=ad40:=(by injection e40);obtain ⟨ad41,e41,hx41_0,p41,q41⟩:=Zq.an (Kd.Ac HO32.out).2.2 2 2;obtain rfl:ad37=ad41:=(by injection e41);obtain ⟨ad42,e42,hx42_0,p42,q42⟩:=Zq.an (Kd.Ac HO36.out).2.2 2 2;obtain rfl:ad38=ad42:=(by injection e42);refine D6 (n:=25) (S:=fun w'=>w'.cell? ad37=some (.int .i64 (rd t28 0))∧w'.cell? ad38=some (.int .i64 (rd t33 0))∧w'.cell? ⟨ad37.block,ad37.off+1,none⟩=some (.int .i64 (rd t28 1))∧w'.cell? ⟨ad38.block,ad38.off+1,none⟩=some (.int .i64 (rd t33 1))∧w'.cell? ⟨ad37.block,ad37.off+2,none⟩=some (.int .i64 (rd t28 2))∧w'.cell? ⟨ad38.block,ad38.off+2,none⟩=some (.int .i64 (rd t33 2))) (ds:=[]) #[false,false,false,false,false,false,false,false,false,false,false,false,false,false,false,false,false,false,false,false,false,false,false,false,false] (by kernel_rfl) rfl rfl ⟨hx37_0,hx38_0,hx39_0,hx40_0,hx41_0,hx42_0⟩ (fun hHeld=>?_);refine CP B3.tab5 B3.O7 (fun HT_ HW_=>?_);generalize w14.drew=w15 at HO30 HO32 HO36 HB hx37_0 hx38_0 hx39_0 hx40_0 hx41_0 hx42_0 hHeld ⊢;refine Zs.pu 0 (some 21) ?_
  refine Zs.pu 1 (some 22) ?_;refine Zs.pu 3 (some 24) ?_;refine Zs.pu 4 (some 25) ?_;refine Zs.pu 7 (some 28) ?_;refine Zs.pu 8 (some 29) ?_;refine Zs.pu 10 (some 31) ?_;refine Zs.pu 11 (some 32) ?_;refine Zs.pu 14 (some 35) ?_;refine Zs.pu 15 (some 36) ?_;refine Zs.pu 17 (some 38) ?_;refine Zs.pu 18 (some 39) ?_;refine Zs.ta6 2 (some 23) ?_;refine Zs.ta6 5 (some 26) ?_;refine Zs.pu 6 (some 27) ?_;refine Zs.ta6 9 (some 30) ?_;refine Zs.ta6 12 (some 33) ?_;refine Zs.pu 13 (some 34) ?_;refine Zs.ta6 16 (some 37) ?_;refine Zs.ta6 19 (some 40) ?_;refine Zs.pu 20 (some 41) ?_
  refine Zq.o1 21 (some 42) (fun K hK=>?_);refine Kd.EA (Kd.int .i64) _ 3 ?hg (N:=42) ?hd (xs:=([wrap64 ((rd t28 0)*(rd t33 0)),wrap64 ((rd t28 1)*(rd t33 1)),wrap64 ((rd t28 2)*(rd t33 2))]:List Int)) (inner:=[.int .i64 (wrap64 ((rd t28 0)*(rd t33 0))),.int .i64 (wrap64 ((rd t28 1)*(rd t33 1))),.int .i64 (wrap64 ((rd t28 2)*(rd t33 2)))]) (ok:=fun _=>True) (okp:=fun _=>True) ?hr ?hp (fun _ hk=>hk) trivial (Below.refl _ _) (Nat.le_refl _) (by simp) ?_;(case hd=>rfl);(case hg=>rfl);(case hr=>first|(go_simp;done)|(go_simp;rfl));(case hp=>exact (Reps.one (show Kd.M (Kd.int .i64) _ _ _ (wrap64 ((rd t28 0)*(rd t33 0))) [.int .i64 (wrap64 ((rd t28 0)*(rd t33 0)))] from rfl) (Reps.one (show Kd.M (Kd.int .i64) _ _ _ (wrap64 ((rd t28 1)*(rd t33 1))) [.int .i64 (wrap64 ((rd t28 1)*(rd t33 1)))] from rfl) (Reps.one (show Kd.M (Kd.int .i64) _ _ _ (wrap64 ((rd t28 2)*(rd t33 2))) [.int .i64 (wrap64 ((rd t28 2)*(rd t33 2)))] from rfl) (Reps.none _ _)))));intro v44 w18 ho19 hb hg_ hnew_;have HS0_:=(hb.cell (World.block_lt_of_cell? _ _ (hHeld.1))).trans (hHeld.1);have HS1_:=(hb.cell (World.block_lt_of_cell? _ _ (hHeld.2.1))).trans (hHeld.2.1);have HS2_:=(hb.cell (World.block_lt_of_cell? _ _ (hHeld.2.2.1))).trans (hHeld.2.2.1);have HS3_:=(hb.cell (World.block_lt_of_cell? _ _ (hHeld.2.2.2.1))).trans (hHeld.2.2.2.1);have HS4_:=(hb.cell (World.block_lt_of_cell? _ _ (hHeld.2.2.2.2.1))).trans (hHeld.2.2.2.2.1);have HS5_:=(hb.cell (World.block_lt_of_cell? _ _ (hHeld.2.2.2.2.2))).trans (hHeld.2.2.2.2.2);clear hg_ hnew_
  (first|rw [← Ny43.out] at ho19|(simp only [Int.reduceToNat] at ho19;rw [← Ny43.out] at ho19))
  have n0_:=Zq.el HO30.out ho19 hb;have n1_:=Zq.el HO32.out ho19 hb;have n2_:=Zq.el HO36.out ho19 hb;have n3_:=Aa.mk (Kd.Bp (Kd.Br (Kd.Br (Kd.Br ho19 (Zq.lt HO30.out)) (Zq.lt HO32.out)) (Zq.lt HO36.out)) (Ay (Zs.auHB)));have n4_:=Zq.st hb;clear HO30;clear HO32;clear HO36;clear HB;have HO30:=n0_;have HO32:=n1_;have HO36:=n2_;have HO45:=n3_;have HB:=n4_;clear n0_ n1_ n2_ n3_ n4_;clear hb ho19;obtain ⟨Ao20,co20,eo20⟩:=Kd.Az HO45.out
  (first|subst eo20|(injection eo20 with f1_ f2_ f3_;have f4_:=f1_.symm;have f5_:=f3_.symm;clear f1_ f2_ f3_;subst f4_;subst f5_))
  refine hK.out _ _ ⟨HS0_,HS1_,HS2_,HS3_,HS4_,HS5_⟩ (fun hHeld=>?_);clear hK K;refine Zq.nm (some 42) ?_
  refine Zq.o1 22 (some 43) (fun K hK=>?_);refine FN Tryz.func82 (by kernel_rfl) rfl #[.slice Ao20 y43.length co20] (by rfl) rfl rfl Zs.auM ?_
  with_reducible refine (AL.calls k _ _ y43 t46 _ ?side1 ?side2 A11.out).mono ?_
  (case side1=>exact Zs.mvC ((Kd.Ac HO45.out).2.2))
  (case side2=>exact (Kd.Ac HO45.out).2.1)
  rintro e w21 ⟨v47,rfl,ho0,hb⟩;have HS0_:=(hb.cell (World.block_lt_of_cell? _ _ (hHeld.1))).trans (hHeld.1);have HS1_:=(hb.cell (World.block_lt_of_cell? _ _ (hHeld.2.1))).trans (hHeld.2.1);have HS2_:=(hb.cell (World.block_lt_of_cell? _ _ (hHeld.2.2.1))).trans (hHeld.2.2.1);have HS3_:=(hb.cell (World.block_lt_of_cell? _ _ (hHeld.2.2.2.1))).trans (hHeld.2.2.2.1);have HS4_:=(hb.cell (World.block_lt_of_cell? _ _ (hHeld.2.2.2.2.1))).trans (hHeld.2.2.2.2.1);have HS5_:=(hb.cell (World.block_lt_of_cell? _ _ (hHeld.2.2.2.2.2))).trans (hHeld.2.2.2.2.2);refine ⟨_,rfl,?_⟩;have n0_:=Zq.el HO30.out ho0 hb;have n1_:=Zq.el HO32.out ho0 hb;have n2_:=Zq.el HO36.out ho0 hb;have n3_:=Zq.el HO45.out ho0 hb;have n4_:=Aa.mk (Kd.Bp (Kd.Br (Kd.Br (Kd.Br (Kd.Br ho0 (Zq.lt HO30.out)) (Zq.lt HO32.out)) (Zq.lt HO36.out)) (Zq.lt HO45.out)) (Ay (Zs.auHB)));have n5_:=Zq.st hb;clear HO30;clear HO32;clear HO36;clear HO45;clear HB;have HO30:=n0_;have HO32:=n1_;have HO36:=n2_;have HO45:=n3_;have HO48:=n4_;have HB:=n5_;clear n0_ n1_ n2_ n3_ n4_ n5_;(try clear hb);(try clear hb2);(try clear hk);(try clear hi);(try clear ho0);refine hK.out _ _ ⟨HS0_,HS1_,HS2_,HS3_,HS4_,HS5_⟩ (fun hHeld=>?_);clear hK K;refine Zq.nm (some 43) ?_
  refine Zs.pu 23 (some 2) ?_;refine Zs.pu 24 (some 3) ?_
  refine Zq.dn ?_
  try go_wp2
  go_ret2
  exact ⟨_,Zs.auR,(Zs.mvR (Kd.AB HO48.out (fun _ hk=>trivial))),Zs.auHB⟩
mutual
def Aq.l0:Nat→List Int→Int→Option (List Int×Bool)
 | 0,_,_=>none
 | k+1,x0,x4=>if x4≤3 then Aq.l1 k x0 x4 0 else some ((([]:List Int)),false)
def Aq.l1:Nat→List Int→Int→Int→Option (List Int×Bool)
 | 0,_,_,_=>none
 | k+1,x0,x4,x5=>if x5≤3 then if x4=0 then Aq.j2 k x0 x4 x5 (x5==0) else Aq.j2 k x0 x4 x5 false else Aq.l0 k x0 (wrap64 (x4+1))
def Aq.j2:Nat→List Int→Int→Int→Bool→Option (List Int×Bool)
 | 0,_,_,_,_=>none
 | k+1,x0,x4,x5,x24=>if x24=true then Aq.l1 k x0 x4 (wrap64 (x5+1)) else if 0<(x0.length:Int) then if 1<(x0.length:Int) then if (wrap64 ((wrap64 ((wrap64 ((rd x0 0)*x4))*x4))+(wrap64 ((wrap64 ((rd x0 1)*x5))*x5))))=0 then (AL.f k (([x4,x5,0,0]:List Int))).bind fun t6=>(some (t6,true)) else (AX.f k (wrap64 ((wrap64 ((wrap64 ((rd x0 0)*x4))*x4))+(wrap64 ((wrap64 ((rd x0 1)*x5))*x5))))).bind fun bt7=>((Bc.f bt7.1).bind fun t8=>(if t8>30 then Aq.l1 k x0 x4 (wrap64 (x5+1)) else if 2<(x0.length:Int) then if 3<(x0.length:Int) then (B3.f k (([rd x0 2,rd x0 3,bt7.1]:List Int))).bind fun bt9=>(if bt9.2=true then if 2<(bt9.1.length:Int) then if 0<(bt9.1.length:Int) then if 1<(bt9.1.length:Int) then (AL.f k (([wrap64 (x4*(rd bt9.1 2)),wrap64 (x5*(rd bt9.1 2)),wrap64 (bt7.2*(rd bt9.1 0)),wrap64 (bt7.2*(rd bt9.1 1))]:List Int))).bind fun t10=>(some (t10,true)) else none else none else none else Aq.l1 k x0 x4 (wrap64 (x5+1))) else none else none)) else none else none
end
def Aq.f (k:Nat) (l0:List Int):Option (List Int×Bool):=Aq.l0 k l0 0
def Aq.T8:Bool×List (List Nat×List Nat):=(true,[([],[]),([0],[0]),([1],[1]),([],[]),([2,3],[2,3]),([],[]),([4,5],[4,5]),([],[]),([7],[7]),([8],[8]),([],[]),([9,10],[9,10]),([],[]),([11,12],[11,12]),([6,13],[6,13]),([14,0,1,2,3,4,5,6,7,8,9,10,11,12,13,14],[14])])
def Aq.B8:List Nat:=[0,1,3,0,15,0,63,0,128,384,0,1920,0,8064,16383,32767]
theorem Aq.tab8:rtab .any (opsOf Tryz.f84 8)=Aq.T8:=by kernel_rfl
theorem Aq.bits8:DJ Aq.T8.2 Aq.B8=true:=by kernel_rfl
def Aq.T13:Bool×List (List Nat×List Nat):=(true,[([],[]),([0],[0]),([1],[1]),([],[]),([3],[3]),([4],[4]),([],[]),([2,5,6],[2,5,6]),([7],[7]),([8],[8]),([9],[9]),([9],[9]),([10,8,0,1,2,3,4,5,6,7,8,9,10],[10]),([11,12,0,1,2,3,4,5,6,7,8,9,10,11,12],[11])])
def Aq.B13:List Nat:=[0,1,3,0,8,24,0,127,255,511,1023,1023,2047,8191]
theorem Aq.tab13:rtab .any (opsOf Tryz.f84 13)=Aq.T13:=by kernel_rfl
theorem Aq.bits13:DJ Aq.T13.2 Aq.B13=true:=by kernel_rfl
def Aq.T15:Bool×List (List Nat×List Nat):=(true,[([],[]),([],[]),([1],[1]),([2],[2]),([0,3],[0,3]),([],[]),([],[]),([6],[6]),([7],[7]),([5,8],[5,8]),([],[]),([],[]),([11],[11]),([12],[12]),([10,13],[10,13]),([],[]),([],[]),([16],[16]),([17],[17]),([15,18],[15,18]),([4,9,14,19],[4,9,14,19]),([20],[20]),([21,21,0,1,2,3,4,5,6,7,8,9,10,11,12,13,14,15,16,17,18,19,20,21],[21]),([22,0,1,2,3,4,5,6,7,8,9,10,11,12,13,14,15,16,17,18,19,20,21,22],[])])
def Aq.B15:List Nat:=[0,0,2,6,15,0,0,64,192,480,0,0,2048,6144,15360,0,0,65536,196608,491520,1048575,2097151,4194303,8388607]
theorem Aq.tab15:rtab .any (opsOf Tryz.f84 15)=Aq.T15:=by kernel_rfl
theorem Aq.Of:DJ Aq.T15.2 Aq.B15=true:=by kernel_rfl
theorem Aq.calls (k:Nat) (A0:Option Addr) (c0:Nat) (l0 r1:List Int) (r2:Bool) (w:World) (hr0:Kd.C (Kd.int .i64) w A0 l0.length l0) (hc0:l0.length≤c0) (h:Aq.f k l0=some (r1,r2)) :
  Calls Tryz.prog 84 #[.slice A0 l0.length c0] w fun e w' => ∃v0_:Value,e = .returned (.tuple #[v0_,.bool r2])∧Kd.R (Kd.int .i64) 3 w' w.heap.size (fun _=>True) v0_ r1∧Below w.heap.size w w':=by
 have HR0:=Aa.mk hr0;have HC0:=Aa.mk hc0;clear hr0 hc0;have HB:=Aa.mk (Below.refl w.heap.size w);unfold Aq.f at h;have H:=h;clear h;have H':=Aa.mk H;clear H
 go_enter Tryz.func84,Tryz.ntmps84
 go_wp2
 go_loopg [4] k (fun kq v4 w' => ∃x4_1:Int,v4 = .int .i64 x4_1∧Aa (Aq.l0 kq l0 x4_1=some (r1,r2))∧Aa (kq≤k)∧Aa (Below w.heap.size w w'))
 case atStart=>exact ⟨(0),Zs.auS,H',⟨Nat.le_refl _⟩,⟨Zs.auHB⟩⟩
 case round =>
  clear H';obtain ⟨x4_1,rfl,HA,HK1,HB⟩:=hrel;cases gk with
  | zero=>exact absurd HA.out (by simp [Aq.l0])
  | succ k1 =>
   have H:=HA.out;clear HA;simp only [Aq.l0] at H
   rcases Zq.jd H with ⟨c2b0,H⟩|⟨c2b0,H⟩
   ·have H':=Aa.mk H;clear H;go_wp2
    go_loopg [5] k1 (fun kq v5 w' => ∃x5_2:Int,v5 = .int .i64 x5_2∧Aa (Aq.l1 kq l0 x4_1 x5_2=some (r1,r2))∧Aa (kq≤k1)∧Aa (Below w.heap.size w w'))
    case atStart=>exact ⟨(0),Zs.auS,H',⟨Nat.le_refl _⟩,⟨Zs.auHB⟩⟩
    case round =>
     clear H'
     obtain ⟨x5_2,rfl,HA,HK2,HB⟩:=hrel;cases gk with
     | zero=>exact absurd HA.out (by simp [Aq.l1])
     | succ k2 =>
      have H:=HA.out;clear HA;simp only [Aq.l1] at H
      rcases Zq.jd H with ⟨c3b0,H⟩|⟨c3b0,H⟩
      ·have HC4:=Aa.mk H;clear H
       go_upto_region 7 with (fail)
       go_cut [24] (fun v24 wc => ∃(kq:Nat) (x24_3:Bool),v24 = .bool x24_3∧Aa (Aq.j2 kq l0 x4_1 x5_2 x24_3=some (r1,r2))∧Aa (kq≤k2)∧Aa (Below w.heap.size w wc))
       case first =>
        have H:=HC4.out;clear HC4
        rcases Zq.jn H with ⟨c5b0,H⟩|⟨c5,c5b0,H⟩
        ·have H':=Aa.mk H;clear H;go_wp2
         go_meet
         case rel=>exact ⟨_,((x5_2==0)),Zs.auS,H',⟨by have:=HK1.out;have:=HK2.out;first|omega|exact Nat.le_refl _⟩,⟨Zs.auHB⟩⟩
        ·have H':=Aa.mk H;clear H;go_wp2
         go_meet
         case rel=>exact ⟨_,(false),Zs.auS,H',⟨by have:=HK1.out;have:=HK2.out;first|omega|exact Nat.le_refl _⟩,⟨Zs.auHB⟩⟩
       case rest =>
        clear HC4
        obtain ⟨kq,x24_3,rfl,HA,HJ3,HB⟩:=hcut;cases kq with
        | zero=>exact absurd HA.out (by simp [Aq.j2])
        | succ kj3 =>
         have H:=HA.out;clear HA;simp only [Aq.j2] at H
         cases x24_3
         ·replace H:=Zq.fh H
          obtain ⟨c7b0,H⟩:=Zq.pd H
          obtain ⟨c8b0,H⟩:=Zq.pd H
          rcases Zq.jn H with ⟨c9b0,H⟩|⟨c9,c9b0,H⟩
          ·generalize hyy:([x4_1,x5_2,0,0]:List Int)=y58 at H;have Ny58:=Aa.mk hyy.symm;clear hyy;obtain ⟨t61,A10,H⟩:=Zs.be H;obtain ⟨rfl,rfl⟩:=Zq.pi H
           try go_wp2
           have n0_:=Aa.mk (Al HB.out);clear HB;have HB:=n0_;clear n0_;obtain ⟨ad56,e56,hx56_0,p56,q56,qi56⟩:=Zq.a0 HR0.out;have hw56_0:=hx56_0;cases e56;replace hx56_0:=Zq.ce HB.out hx56_0;obtain ⟨ad57,e57,hx57_0,p57,q57⟩:=Zq.an HR0.out 1 1;have hw57_0:=hx57_0;obtain rfl:ad56=ad57:=(by injection e57);replace hx57_0:=Zq.ce HB.out hx57_0;refine D6 (n:=16) (S:=fun w'=>w'.cell? ad56=some (.int .i64 (rd l0 0))∧w'.cell? ⟨ad56.block,ad56.off+1,none⟩=some (.int .i64 (rd l0 1))) (ds:=[]) #[false,false,false,false,false,false,false,false,false,false,false,false,false,false,false,false] (by kernel_rfl) rfl rfl ⟨(Zq.ce HB.out hw56_0),(Zq.ce HB.out hw57_0)⟩ (fun hHeld=>?_);refine CP Aq.tab8 Aq.bits8 (fun HT_ HW_=>?_);generalize wc.drew=w11 at HB hx56_0 hx57_0 hHeld ⊢;refine Zs.pu 0 (some 25) ?_;refine Zs.pu 1 (some 26) ?_;refine Zs.pu 3 (some 28) ?_;refine Zs.pu 5 (some 30) ?_;refine Zs.pu 7 (some 32) ?_;refine Zs.pu 8 (some 33) ?_;refine Zs.pu 10 (some 35) ?_;refine Zs.pu 12 (some 37) ?_;refine Zs.ta2 2 (some 27) ?_;refine Zs.pu 4 (some 29) ?_;refine Zs.pu 6 (some 31) ?_;refine Zs.ta2 9 (some 34) ?_;refine Zs.pu 11 (some 36) ?_;refine Zs.pu 13 (some 38) ?_;refine Zs.pu 14 (some 39) ?_;refine Zs.pu 15 (some 6) ?_
           refine Zq.dn ?_
           try go_wp2_with (first|((with_reducible refine Bb (N:=44) rfl ?_);refine Zq.li ([x4_1,x5_2,0,0]:List Int) ?_;intro v59 w12 ho13 hb;(first|rw [← Ny58.out] at ho13|(simp only [Int.reduceToNat] at ho13;rw [← Ny58.out] at ho13));have HO60:=Zq.lw ho13;replace HB:=Zq.st hb;clear hb ho13;obtain ⟨Ao14,co14,eo14⟩:=Kd.Az HO60.out;subst eo14)|((with_reducible refine Ab (f:=82) rfl ?_);refine Zq.gc (some 45) Tryz.func82 (AL.calls _ _ _ _ _ _ (Zs.mvC ((Kd.Ac HO60.out).2.2)) ((Kd.Ac HO60.out).2.1) A10.out) ?_;rintro e w15 ⟨v62,rfl,ho0,hb⟩;refine ⟨_,rfl,?_⟩;have HO63:=Aa.mk (Kd.Bp (Kd.Br ho0 (Zq.lt HO60.out)) (Ay (Zs.auHB)));replace HO60:=Zq.el HO60.out ho0 hb;replace HB:=Zq.st hb;(try clear hb);(try clear ho0)))
           go_ret2
           exact ⟨_,Zs.auR,(Zs.mvR (Kd.AB HO63.out (fun _ hk=>trivial))),Zs.auHB⟩
          ·obtain ⟨t65,t66,A16,H⟩:=Zq.bp H;try dsimp only at H;obtain ⟨t67,A17,H⟩:=Zs.be H
           rcases Zq.jg H with ⟨c18b0,H⟩|⟨c18b0,H⟩
           ·have H':=Aa.mk H;clear H
            try go_wp2
            have n0_:=Aa.mk (Al HB.out);clear HB;have HB:=n0_;clear n0_;obtain ⟨ad56,e56,hx56_0,p56,q56,qi56⟩:=Zq.a0 HR0.out;have hw56_0:=hx56_0;cases e56;replace hx56_0:=Zq.ce HB.out hx56_0;obtain ⟨ad57,e57,hx57_0,p57,q57⟩:=Zq.an HR0.out 1 1;have hw57_0:=hx57_0;obtain rfl:ad56=ad57:=(by injection e57);replace hx57_0:=Zq.ce HB.out hx57_0;refine D6 (n:=16) (S:=fun w'=>w'.cell? ad56=some (.int .i64 (rd l0 0))∧w'.cell? ⟨ad56.block,ad56.off+1,none⟩=some (.int .i64 (rd l0 1))) (ds:=[]) #[false,false,false,false,false,false,false,false,false,false,false,false,false,false,false,false] (by kernel_rfl) rfl rfl ⟨(Zq.ce HB.out hw56_0),(Zq.ce HB.out hw57_0)⟩ (fun hHeld=>?_);refine CP Aq.tab8 Aq.bits8 (fun HT_ HW_=>?_);generalize wc.drew=w19 at HB hx56_0 hx57_0 hHeld ⊢;refine Zs.pu 0 (some 25) ?_;refine Zs.pu 1 (some 26) ?_;refine Zs.pu 3 (some 28) ?_;refine Zs.pu 5 (some 30) ?_;refine Zs.pu 7 (some 32) ?_;refine Zs.pu 8 (some 33) ?_;refine Zs.pu 10 (some 35) ?_;refine Zs.pu 12 (some 37) ?_;refine Zs.ta2 2 (some 27) ?_;refine Zs.pu 4 (some 29) ?_;refine Zs.pu 6 (some 31) ?_;refine Zs.ta2 9 (some 34) ?_;refine Zs.pu 11 (some 36) ?_;refine Zs.pu 13 (some 38) ?_;refine Zs.pu 14 (some 39) ?_;refine Zs.pu 15 (some 6) ?_
            refine Zq.dn ?_
            try go_wp2_with (first|((with_reducible refine Ab (f:=81) rfl ?_);refine Zq.gb Tryz.func81 (AX.calls _ _ _ _ _ A16.out) ?_;intro w20 hb;replace HB:=Zq.st hb;(try clear hb))|((with_reducible refine Ab (f:=134) rfl ?_);refine Zq.gb Tryz.func134 (Bc.calls _ _ _ A17.out) ?_;intro w21 hb;replace HB:=Zq.st hb;(try clear hb)))
            go_roundg kj3
            case measure=>have:=HK1.out;have:=HK2.out;have:=HJ3.out;omega
            case rel=>exact ⟨(wrap64 (x5_2+1)),Zs.auS,H',⟨by have:=HK1.out;have:=HK2.out;have:=HJ3.out;omega⟩,⟨Zs.auHB⟩⟩
           ·obtain ⟨c22b0,H⟩:=Zq.pd H
            obtain ⟨c23b0,H⟩:=Zq.pd H;generalize hyy:([rd l0 2,rd l0 3,t65]:List Int)=y70 at H;have Ny70:=Aa.mk hyy.symm;clear hyy;obtain ⟨t73,t74,A24,H⟩:=Zq.bp H;try dsimp only at H
            cases t74
            ·replace H:=Zq.fh H;have H':=Aa.mk H;clear H
             try go_wp2
             have n0_:=Aa.mk (Al HB.out);clear HB;have HB:=n0_;clear n0_;obtain ⟨ad56,e56,hx56_0,p56,q56,qi56⟩:=Zq.a0 HR0.out;have hw56_0:=hx56_0;cases e56;replace hx56_0:=Zq.ce HB.out hx56_0;obtain ⟨ad57,e57,hx57_0,p57,q57⟩:=Zq.an HR0.out 1 1;have hw57_0:=hx57_0;obtain rfl:ad56=ad57:=(by injection e57);replace hx57_0:=Zq.ce HB.out hx57_0;refine D6 (n:=16) (S:=fun w'=>w'.cell? ad56=some (.int .i64 (rd l0 0))∧w'.cell? ⟨ad56.block,ad56.off+1,none⟩=some (.int .i64 (rd l0 1))) (ds:=[]) #[false,false,false,false,false,false,false,false,false,false,false,false,false,false,false,false] (by kernel_rfl) rfl rfl ⟨(Zq.ce HB.out hw56_0),(Zq.ce HB.out hw57_0)⟩ (fun hHeld=>?_);refine CP Aq.tab8 Aq.bits8 (fun HT_ HW_=>?_);generalize wc.drew=w44 at HB hx56_0 hx57_0 hHeld ⊢;refine Zs.pu 0 (some 25) ?_;refine Zs.pu 1 (some 26) ?_;refine Zs.pu 3 (some 28) ?_;refine Zs.pu 5 (some 30) ?_;refine Zs.pu 7 (some 32) ?_;refine Zs.pu 8 (some 33) ?_;refine Zs.pu 10 (some 35) ?_;refine Zs.pu 12 (some 37) ?_;refine Zs.ta2 2 (some 27) ?_;refine Zs.pu 4 (some 29) ?_;refine Zs.pu 6 (some 31) ?_;refine Zs.ta2 9 (some 34) ?_;refine Zs.pu 11 (some 36) ?_;refine Zs.pu 13 (some 38) ?_;refine Zs.pu 14 (some 39) ?_;refine Zs.pu 15 (some 6) ?_
             refine Zq.dn ?_
             try go_wp2_with (first|((with_reducible refine Ab (f:=81) rfl ?_);refine Zq.gb Tryz.func81 (AX.calls _ _ _ _ _ A16.out) ?_;intro w45 hb;replace HB:=Zq.st hb;(try clear hb))|((with_reducible refine Ab (f:=134) rfl ?_);refine Zq.gb Tryz.func134 (Bc.calls _ _ _ A17.out) ?_;intro w46 hb;replace HB:=Zq.st hb;(try clear hb)))
             have n0_:=Aa.mk (Al HB.out);clear HB;have HB:=n0_;clear n0_;obtain ⟨ad68,e68,hx68_0,p68,q68⟩:=Zq.an HR0.out 2 2;have hw68_0:=hx68_0;obtain rfl:ad56=ad68:=(by injection e68);replace hx68_0:=Zq.ce HB.out hx68_0;obtain ⟨ad69,e69,hx69_0,p69,q69⟩:=Zq.an HR0.out 3 3;have hw69_0:=hx69_0;obtain rfl:ad56=ad69:=(by injection e69);replace hx69_0:=Zq.ce HB.out hx69_0;refine D6 (n:=14) (S:=fun w'=>w'.cell? ⟨ad56.block,ad56.off+2,none⟩=some (.int .i64 (rd l0 2))∧w'.cell? ⟨ad56.block,ad56.off+3,none⟩=some (.int .i64 (rd l0 3))) (ds:=[]) #[false,false,false,false,false,false,false,false,false,false,false,false,false,false] (by kernel_rfl) rfl rfl ⟨(Zq.ce HB.out hw68_0),(Zq.ce HB.out hw69_0)⟩ (fun hHeld=>?_);refine CP Aq.tab13 Aq.bits13 (fun HT_ HW_=>?_);generalize w46.drew=w47 at HB hx68_0 hx69_0 hHeld ⊢;refine Zs.pu 0 (some 55) ?_;refine Zs.pu 1 (some 56) ?_;refine Zs.pu 3 (some 58) ?_;refine Zs.pu 4 (some 59) ?_;refine Zs.pu 6 (some 61) ?_;refine Zs.ta2 2 (some 57) ?_;refine Zs.ta2 5 (some 60) ?_
             refine Zq.o1 7 (some 62) (fun K hK=>?_);refine Kd.EA (Kd.int .i64) _ 3 ?hg (N:=62) ?hd (xs:=([rd l0 2,rd l0 3,t65]:List Int)) (inner:=[.int .i64 (rd l0 2),.int .i64 (rd l0 3),.int .i64 t65]) (ok:=fun _=>True) (okp:=fun _=>True) ?hr ?hp (fun _ hk=>hk) trivial (Below.refl _ _) (Nat.le_refl _) (by simp) ?_;(case hd=>rfl);(case hg=>rfl);(case hr=>first|(go_simp;done)|(go_simp;rfl));(case hp=>exact (Reps.one (show Kd.M (Kd.int .i64) _ _ _ (rd l0 2) [.int .i64 (rd l0 2)] from rfl) (Reps.one (show Kd.M (Kd.int .i64) _ _ _ (rd l0 3) [.int .i64 (rd l0 3)] from rfl) (Reps.one (show Kd.M (Kd.int .i64) _ _ _ t65 [.int .i64 t65] from rfl) (Reps.none _ _)))));intro v71 w48 ho49 hb hg_ hnew_;clear hg_ hnew_
             (first|rw [← Ny70.out] at ho49|(simp only [Int.reduceToNat] at ho49;rw [← Ny70.out] at ho49))
             have n0_:=Zq.lw ho49;have n1_:=Zq.st hb;clear HB;have HO72:=n0_;have HB:=n1_;clear n0_ n1_;clear hb ho49;obtain ⟨Ao50,co50,eo50⟩:=Kd.Az HO72.out
             (first|subst eo50|(injection eo50 with f1_ f2_ f3_;have f4_:=f1_.symm;have f5_:=f3_.symm;clear f1_ f2_ f3_;subst f4_;subst f5_))
             refine hK.out _ _ ⟨(Zq.ce HB.out hw68_0),(Zq.ce HB.out hw69_0)⟩ (fun hHeld=>?_);clear hK K;refine Zq.nm (some 62) ?_
             refine Zq.o1 8 (some 63) (fun K hK=>?_);refine FN Tryz.func83 (by kernel_rfl) rfl #[.slice Ao50 y70.length co50] (by rfl) rfl rfl Zs.auM ?_
             with_reducible refine (B3.calls kj3 _ _ y70 t73 false _ ?side1 ?side2 A24.out).mono ?_
             (case side1=>exact Zs.mvC ((Kd.Ac HO72.out).2.2))
             (case side2=>exact (Kd.Ac HO72.out).2.1)
             rintro e w51 ⟨v75,rfl,ho0,hb⟩;refine ⟨_,rfl,?_⟩;have n0_:=Zq.el HO72.out ho0 hb;have n1_:=Aa.mk (Kd.Bp (Kd.Br ho0 (Zq.lt HO72.out)) (Ay (Zs.auHB)));have n2_:=Zq.st hb;clear HO72;clear HB;have HO72:=n0_;have HO76:=n1_;have HB:=n2_;clear n0_ n1_ n2_;(try clear hb);(try clear hb2);(try clear hk);(try clear hi);(try clear ho0);refine hK.out _ _ ⟨(Zq.ce HB.out hw68_0),(Zq.ce HB.out hw69_0)⟩ (fun hHeld=>?_);clear hK K;refine Zq.nm (some 63) ?_
             refine Zs.pu 9 (some 54) ?_;refine Zs.pu 10 (some 64) ?_;refine Zs.pu 11 (some 65) ?_;refine Zs.pu 12 (some 9) ?_;refine Zs.pu 13 (some 10) ?_
             refine Zq.dn ?_
             try go_wp2
             go_roundg kj3
             case measure=>have:=HK1.out;have:=HK2.out;have:=HJ3.out;omega
             case rel=>exact ⟨(wrap64 (x5_2+1)),Zs.auS,H',⟨by have:=HK1.out;have:=HK2.out;have:=HJ3.out;omega⟩,⟨Zs.auHB⟩⟩
            ·replace H:=Zq.th H
             obtain ⟨c26b0,H⟩:=Zq.pd H
             obtain ⟨c27b0,H⟩:=Zq.pd H
             obtain ⟨c28b0,H⟩:=Zq.pd H;generalize hyy:([wrap64 (x4_1*(rd t73 2)),wrap64 (x5_2*(rd t73 2)),wrap64 (t66*(rd t73 0)),wrap64 (t66*(rd t73 1))]:List Int)=y85 at H;have Ny85:=Aa.mk hyy.symm;clear hyy;obtain ⟨t88,A29,H⟩:=Zs.be H;obtain ⟨rfl,rfl⟩:=Zq.pi H
             try go_wp2
             have n0_:=Aa.mk (Al HB.out);clear HB;have HB:=n0_;clear n0_;obtain ⟨ad56,e56,hx56_0,p56,q56,qi56⟩:=Zq.a0 HR0.out;have hw56_0:=hx56_0;cases e56;replace hx56_0:=Zq.ce HB.out hx56_0;obtain ⟨ad57,e57,hx57_0,p57,q57⟩:=Zq.an HR0.out 1 1;have hw57_0:=hx57_0;obtain rfl:ad56=ad57:=(by injection e57);replace hx57_0:=Zq.ce HB.out hx57_0;refine D6 (n:=16) (S:=fun w'=>w'.cell? ad56=some (.int .i64 (rd l0 0))∧w'.cell? ⟨ad56.block,ad56.off+1,none⟩=some (.int .i64 (rd l0 1))) (ds:=[]) #[false,false,false,false,false,false,false,false,false,false,false,false,false,false,false,false] (by kernel_rfl) rfl rfl ⟨(Zq.ce HB.out hw56_0),(Zq.ce HB.out hw57_0)⟩ (fun hHeld=>?_);refine CP Aq.tab8 Aq.bits8 (fun HT_ HW_=>?_);generalize wc.drew=w30 at HB hx56_0 hx57_0 hHeld ⊢;refine Zs.pu 0 (some 25) ?_;refine Zs.pu 1 (some 26) ?_;refine Zs.pu 3 (some 28) ?_;refine Zs.pu 5 (some 30) ?_;refine Zs.pu 7 (some 32) ?_;refine Zs.pu 8 (some 33) ?_;refine Zs.pu 10 (some 35) ?_;refine Zs.pu 12 (some 37) ?_;refine Zs.ta2 2 (some 27) ?_;refine Zs.pu 4 (some 29) ?_;refine Zs.pu 6 (some 31) ?_;refine Zs.ta2 9 (some 34) ?_;refine Zs.pu 11 (some 36) ?_;refine Zs.pu 13 (some 38) ?_;refine Zs.pu 14 (some 39) ?_;refine Zs.pu 15 (some 6) ?_
             refine Zq.dn ?_
             try go_wp2_with (first|((with_reducible refine Ab (f:=81) rfl ?_);refine Zq.gb Tryz.func81 (AX.calls _ _ _ _ _ A16.out) ?_;intro w31 hb;replace HB:=Zq.st hb;(try clear hb))|((with_reducible refine Ab (f:=134) rfl ?_);refine Zq.gb Tryz.func134 (Bc.calls _ _ _ A17.out) ?_;intro w32 hb;replace HB:=Zq.st hb;(try clear hb)))
             have n0_:=Aa.mk (Al HB.out);clear HB;have HB:=n0_;clear n0_;obtain ⟨ad68,e68,hx68_0,p68,q68⟩:=Zq.an HR0.out 2 2;have hw68_0:=hx68_0;obtain rfl:ad56=ad68:=(by injection e68);replace hx68_0:=Zq.ce HB.out hx68_0;obtain ⟨ad69,e69,hx69_0,p69,q69⟩:=Zq.an HR0.out 3 3;have hw69_0:=hx69_0;obtain rfl:ad56=ad69:=(by injection e69);replace hx69_0:=Zq.ce HB.out hx69_0;refine D6 (n:=14) (S:=fun w'=>w'.cell? ⟨ad56.block,ad56.off+2,none⟩=some (.int .i64 (rd l0 2))∧w'.cell? ⟨ad56.block,ad56.off+3,none⟩=some (.int .i64 (rd l0 3))) (ds:=[]) #[false,false,false,false,false,false,false,false,false,false,false,false,false,false] (by kernel_rfl) rfl rfl ⟨(Zq.ce HB.out hw68_0),(Zq.ce HB.out hw69_0)⟩ (fun hHeld=>?_);refine CP Aq.tab13 Aq.bits13 (fun HT_ HW_=>?_);generalize w32.drew=w33 at HB hx68_0 hx69_0 hHeld ⊢;refine Zs.pu 0 (some 55) ?_;refine Zs.pu 1 (some 56) ?_;refine Zs.pu 3 (some 58) ?_;refine Zs.pu 4 (some 59) ?_;refine Zs.pu 6 (some 61) ?_;refine Zs.ta2 2 (some 57) ?_;refine Zs.ta2 5 (some 60) ?_
             refine Zq.o1 7 (some 62) (fun K hK=>?_);refine Kd.EA (Kd.int .i64) _ 3 ?hg (N:=62) ?hd (xs:=([rd l0 2,rd l0 3,t65]:List Int)) (inner:=[.int .i64 (rd l0 2),.int .i64 (rd l0 3),.int .i64 t65]) (ok:=fun _=>True) (okp:=fun _=>True) ?hr ?hp (fun _ hk=>hk) trivial (Below.refl _ _) (Nat.le_refl _) (by simp) ?_;(case hd=>rfl);(case hg=>rfl);(case hr=>first|(go_simp;done)|(go_simp;rfl));(case hp=>exact (Reps.one (show Kd.M (Kd.int .i64) _ _ _ (rd l0 2) [.int .i64 (rd l0 2)] from rfl) (Reps.one (show Kd.M (Kd.int .i64) _ _ _ (rd l0 3) [.int .i64 (rd l0 3)] from rfl) (Reps.one (show Kd.M (Kd.int .i64) _ _ _ t65 [.int .i64 t65] from rfl) (Reps.none _ _)))));intro v71 w34 ho35 hb hg_ hnew_;clear hg_ hnew_
             (first|rw [← Ny70.out] at ho35|(simp only [Int.reduceToNat] at ho35;rw [← Ny70.out] at ho35))
             have n0_:=Zq.lw ho35;have n1_:=Zq.st hb;clear HB;have HO72:=n0_;have HB:=n1_;clear n0_ n1_;clear hb ho35;obtain ⟨Ao36,co36,eo36⟩:=Kd.Az HO72.out
             (first|subst eo36|(injection eo36 with f1_ f2_ f3_;have f4_:=f1_.symm;have f5_:=f3_.symm;clear f1_ f2_ f3_;subst f4_;subst f5_))
             refine hK.out _ _ ⟨(Zq.ce HB.out hw68_0),(Zq.ce HB.out hw69_0)⟩ (fun hHeld=>?_);clear hK K;refine Zq.nm (some 62) ?_
             refine Zq.o1 8 (some 63) (fun K hK=>?_);refine FN Tryz.func83 (by kernel_rfl) rfl #[.slice Ao36 y70.length co36] (by rfl) rfl rfl Zs.auM ?_
             with_reducible refine (B3.calls kj3 _ _ y70 t73 true _ ?side1 ?side2 A24.out).mono ?_
             (case side1=>exact Zs.mvC ((Kd.Ac HO72.out).2.2))
             (case side2=>exact (Kd.Ac HO72.out).2.1)
             rintro e w37 ⟨v75,rfl,ho0,hb⟩;refine ⟨_,rfl,?_⟩;have n0_:=Zq.el HO72.out ho0 hb;have n1_:=Aa.mk (Kd.Bp (Kd.Br ho0 (Zq.lt HO72.out)) (Ay (Zs.auHB)));have n2_:=Zq.st hb;clear HO72;clear HB;have HO72:=n0_;have HO76:=n1_;have HB:=n2_;clear n0_ n1_ n2_;(try clear hb);(try clear hb2);(try clear hk);(try clear hi);(try clear ho0);refine hK.out _ _ ⟨(Zq.ce HB.out hw68_0),(Zq.ce HB.out hw69_0)⟩ (fun hHeld=>?_);clear hK K;refine Zq.nm (some 63) ?_
             refine Zs.pu 9 (some 54) ?_;refine Zs.pu 10 (some 64) ?_;refine Zs.pu 11 (some 65) ?_;refine Zs.pu 12 (some 9) ?_;refine Zs.pu 13 (some 10) ?_
             refine Zq.dn ?_
             try go_wp2
             have n0_:=Aa.mk (Kd.DE HO72.out);have n1_:=Aa.mk (Kd.DE HO76.out);have n2_:=Aa.mk (Al HB.out);clear HO72;clear HO76;clear HB;have HO72:=n0_;have HO76:=n1_;have HB:=n2_;clear n0_ n1_ n2_;obtain ⟨Ao39,co39,eo39⟩:=Kd.Az HO76.out
             (first|subst eo39|(injection eo39 with f1_ f2_ f3_;have f4_:=f1_.symm;have f5_:=f3_.symm;clear f1_ f2_ f3_;subst f4_;subst f5_))
             obtain ⟨ad77,e77,hx77_0,p77,q77⟩:=Zq.an (Kd.Ac HO76.out).2.2 2 2;cases e77;obtain ⟨ad78,e78,hx78_0,p78,q78⟩:=Zq.an (Kd.Ac HO76.out).2.2 2 2;obtain rfl:ad77=ad78:=(by injection e78);obtain ⟨ad79,e79,hx79_0,p79,q79,qi79⟩:=Zq.a0 (Kd.Ac HO76.out).2.2;obtain rfl:ad77=ad79:=(by injection e79);obtain ⟨ad80,e80,hx80_0,p80,q80⟩:=Zq.an (Kd.Ac HO76.out).2.2 1 1;obtain rfl:ad77=ad80:=(by injection e80);refine D6 (n:=24) (S:=fun w'=>w'.cell? ⟨ad77.block,ad77.off+2,none⟩=some (.int .i64 (rd t73 2))∧w'.cell? ⟨ad77.block,ad77.off+2,none⟩=some (.int .i64 (rd t73 2))∧w'.cell? ad77=some (.int .i64 (rd t73 0))∧w'.cell? ⟨ad77.block,ad77.off+1,none⟩=some (.int .i64 (rd t73 1))) (ds:=[]) #[false,false,false,false,false,false,false,false,false,false,false,false,false,false,false,false,false,false,false,false,false,false,false,false] (by kernel_rfl) rfl rfl ⟨hx77_0,hx78_0,hx79_0,hx80_0⟩ (fun hHeld=>?_);refine CP Aq.tab15 Aq.Of (fun HT_ HW_=>?_);generalize w37.drew=w38 at HO72 HO76 HB hx77_0 hx78_0 hx79_0 hx80_0 hHeld ⊢;refine Zs.pu 0 (some 67) ?_;refine Zs.pu 1 (some 68) ?_;refine Zs.pu 2 (some 69) ?_;refine Zs.pu 5 (some 72) ?_;refine Zs.pu 6 (some 73) ?_;refine Zs.pu 7 (some 74) ?_;refine Zs.pu 10 (some 77) ?_;refine Zs.pu 11 (some 78) ?_;refine Zs.pu 12 (some 79) ?_;refine Zs.pu 15 (some 82) ?_;refine Zs.pu 16 (some 83) ?_;refine Zs.pu 17 (some 84) ?_;refine Zs.ta4 3 (some 70) ?_;refine Zs.pu 4 (some 71) ?_;refine Zs.ta4 8 (some 75) ?_;refine Zs.pu 9 (some 76) ?_;refine Zs.ta4 13 (some 80) ?_;refine Zs.pu 14 (some 81) ?_;refine Zs.ta4 18 (some 85) ?_;refine Zs.pu 19 (some 86) ?_
             refine Zq.o1 20 (some 87) (fun K hK=>?_);refine Kd.EA (Kd.int .i64) _ 3 ?hg (N:=87) ?hd (xs:=([wrap64 (x4_1*(rd t73 2)),wrap64 (x5_2*(rd t73 2)),wrap64 (t66*(rd t73 0)),wrap64 (t66*(rd t73 1))]:List Int)) (inner:=[.int .i64 (wrap64 (x4_1*(rd t73 2))),.int .i64 (wrap64 (x5_2*(rd t73 2))),.int .i64 (wrap64 (t66*(rd t73 0))),.int .i64 (wrap64 (t66*(rd t73 1)))]) (ok:=fun _=>True) (okp:=fun _=>True) ?hr ?hp (fun _ hk=>hk) trivial (Below.refl _ _) (Nat.le_refl _) (by simp) ?_;(case hd=>rfl);(case hg=>rfl);(case hr=>first|(go_simp;done)|(go_simp;rfl));(case hp=>exact (Reps.one (show Kd.M (Kd.int .i64) _ _ _ (wrap64 (x4_1*(rd t73 2))) [.int .i64 (wrap64 (x4_1*(rd t73 2)))] from rfl) (Reps.one (show Kd.M (Kd.int .i64) _ _ _ (wrap64 (x5_2*(rd t73 2))) [.int .i64 (wrap64 (x5_2*(rd t73 2)))] from rfl) (Reps.one (show Kd.M (Kd.int .i64) _ _ _ (wrap64 (t66*(rd t73 0))) [.int .i64 (wrap64 (t66*(rd t73 0)))] from rfl) (Reps.one (show Kd.M (Kd.int .i64) _ _ _ (wrap64 (t66*(rd t73 1))) [.int .i64 (wrap64 (t66*(rd t73 1)))] from rfl) (Reps.none _ _))))));intro v86 w40 ho41 hb hg_ hnew_;have HS0_:=(hb.cell (World.block_lt_of_cell? _ _ (hHeld.1))).trans (hHeld.1);have HS1_:=(hb.cell (World.block_lt_of_cell? _ _ (hHeld.2.1))).trans (hHeld.2.1);have HS2_:=(hb.cell (World.block_lt_of_cell? _ _ (hHeld.2.2.1))).trans (hHeld.2.2.1);have HS3_:=(hb.cell (World.block_lt_of_cell? _ _ (hHeld.2.2.2))).trans (hHeld.2.2.2);clear hg_ hnew_
             (first|rw [← Ny85.out] at ho41|(simp only [Int.reduceToNat] at ho41;rw [← Ny85.out] at ho41))
             have n0_:=Zq.el HO72.out ho41 hb;have n1_:=Zq.el HO76.out ho41 hb;have n2_:=Aa.mk (Kd.Bp (Kd.Br (Kd.Br ho41 (Zq.lt HO72.out)) (Zq.lt HO76.out)) (Ay (Zs.auHB)));have n3_:=Zq.st hb;clear HO72;clear HO76;clear HB;have HO72:=n0_;have HO76:=n1_;have HO87:=n2_;have HB:=n3_;clear n0_ n1_ n2_ n3_;clear hb ho41;obtain ⟨Ao42,co42,eo42⟩:=Kd.Az HO87.out
             (first|subst eo42|(injection eo42 with f1_ f2_ f3_;have f4_:=f1_.symm;have f5_:=f3_.symm;clear f1_ f2_ f3_;subst f4_;subst f5_))
             refine hK.out _ _ ⟨HS0_,HS1_,HS2_,HS3_⟩ (fun hHeld=>?_);clear hK K;refine Zq.nm (some 87) ?_
             refine Zq.o1 21 (some 88) (fun K hK=>?_);refine FN Tryz.func82 (by kernel_rfl) rfl #[.slice Ao42 y85.length co42] (by rfl) rfl rfl Zs.auM ?_
             with_reducible refine (AL.calls kj3 _ _ y85 t88 _ ?side1 ?side2 A29.out).mono ?_
             (case side1=>exact Zs.mvC ((Kd.Ac HO87.out).2.2))
             (case side2=>exact (Kd.Ac HO87.out).2.1)
             rintro e w43 ⟨v89,rfl,ho0,hb⟩;have HS0_:=(hb.cell (World.block_lt_of_cell? _ _ (hHeld.1))).trans (hHeld.1);have HS1_:=(hb.cell (World.block_lt_of_cell? _ _ (hHeld.2.1))).trans (hHeld.2.1);have HS2_:=(hb.cell (World.block_lt_of_cell? _ _ (hHeld.2.2.1))).trans (hHeld.2.2.1);have HS3_:=(hb.cell (World.block_lt_of_cell? _ _ (hHeld.2.2.2))).trans (hHeld.2.2.2);refine ⟨_,rfl,?_⟩;have n0_:=Zq.el HO72.out ho0 hb;have n1_:=Zq.el HO76.out ho0 hb;have n2_:=Zq.el HO87.out ho0 hb;have n3_:=Aa.mk (Kd.Bp (Kd.Br (Kd.Br (Kd.Br ho0 (Zq.lt HO72.out)) (Zq.lt HO76.out)) (Zq.lt HO87.out)) (Ay (Zs.auHB)));have n4_:=Zq.st hb;clear HO72;clear HO76;clear HO87;clear HB;have HO72:=n0_;have HO76:=n1_;have HO87:=n2_;have HO90:=n3_;have HB:=n4_;clear n0_ n1_ n2_ n3_ n4_;(try clear hb);(try clear hb2);(try clear hk);(try clear hi);(try clear ho0);refine hK.out _ _ ⟨HS0_,HS1_,HS2_,HS3_⟩ (fun hHeld=>?_);clear hK K;refine Zq.nm (some 88) ?_
             refine Zs.pu 22 (some 2) ?_;refine Zs.pu 23 (some 3) ?_
             refine Zq.dn ?_
             try go_wp2
             go_ret2
             exact ⟨_,Zs.auR,(Zs.mvR (Kd.AB HO90.out (fun _ hk=>trivial))),Zs.auHB⟩
         ·replace H:=Zq.th H;have H':=Aa.mk H;clear H;go_wp2
          go_roundg kj3
          case measure=>have:=HK1.out;have:=HK2.out;have:=HJ3.out;omega
          case rel=>exact ⟨(wrap64 (x5_2+1)),Zs.auS,H',⟨by have:=HK1.out;have:=HK2.out;have:=HJ3.out;omega⟩,⟨Zs.auHB⟩⟩
      ·have H':=Aa.mk H;clear H;go_wp2
       go_roundg k2
       case measure=>have:=HK1.out;have:=HK2.out;omega
       case rel=>exact ⟨(wrap64 (x4_1+1)),Zs.auS,H',⟨by have:=HK1.out;have:=HK2.out;omega⟩,⟨Zs.auHB⟩⟩
   ·obtain ⟨y25,hyy⟩ : ∃y_:List Int,y_=(([]:List Int)):=⟨_,rfl⟩
    replace H:(some (y25,false))=some (r1,r2):=Zs.auY
    have Ny25:=Aa.mk hyy;clear hyy;obtain ⟨rfl,rfl⟩:=Zq.pi H
    go_wp2_with (((with_reducible refine Bb (N:=89) rfl ?_);refine Zq.li ([]:List Int) ?_;intro v54 w52 ho53 hb;(first|rw [← Ny25.out] at ho53|(simp only [Int.reduceToNat] at ho53;rw [← Ny25.out] at ho53));have HO55:=Zq.lw ho53;replace HB:=Zq.st hb;clear hb ho53))
    go_ret2
    exact ⟨_,Zs.auR,(Zs.mvR HO55.out),Zs.auHB⟩
end Go.Proofs.YtacfcoilmdhgnaaGreatDoor.PFnExecuteWhat
