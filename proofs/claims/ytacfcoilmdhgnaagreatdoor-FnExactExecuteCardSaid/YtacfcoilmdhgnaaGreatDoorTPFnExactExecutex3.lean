/- A function's Lean twin and its walk, written by a program of this session. -/
import Derived.Test.YtacfcoilmdhgnaaGreatDoorTPFnExactExecutex2
set_option maxHeartbeats 8000000
set_option maxRecDepth 100000
namespace Go.Proofs.YtacfcoilmdhgnaaGreatDoor.PFnExactExecute
open Go.RowKit Go.Proofs.YtacfcoilmdhgnaaGreatDoorW.PrintWords Go.Proofs.YtacfcoilmdhgnaaGreatDoorW.PrintLast Go.Proofs.YtacfcoilmdhgnaaGreatDoorW.PrintMore
attribute [local go_sem] Dy Dx D0 D1 Dc De DA Dz   -- for this text's walks alone
set_option linter.unusedVariables false
set_option linter.unusedSimpArgs false
mutual
def Ae.l0:Nat→List Int→List Int→Int→Int→Option (List Int×Bool)
 | 0,_,_,_,_=>none
 | k+1,x0,x22,x23,x24=>if x24<x23 then (if 0≤x24 then (if x24<(x22.length:Int) then (if (rd x22 x24)=0 then (Ae.j1 k x0 (rd x22 x24) x22 x23 x24 true) else ((Bq.f (rd x22 x24)).bind fun t267=>(Ae.j1 k x0 (rd x22 x24) x22 x23 x24 (decide (t267>30000))))) else (none)) else (none)) else ((Cg.f k x0).bind fun bt270=>(if bt270.2.2=0 then ((AR.f k x0).bind fun t273=>((Bq.f t273).bind fun t274=>(Ae.j2 k x0 (decide (t274>30000))))) else (Ae.j2 k x0 true)))
def Ae.j1:Nat→List Int→Int→List Int→Int→Int→Bool→Option (List Int×Bool)
 | 0,_,_,_,_,_,_=>none
 | k+1,x0,x5,x22,x23,x24,x34=>if x34=true then (some (([]:List Int),false)) else ((AO.f k x5).bind fun bt268=>(if bt268.2=1 then (Ae.l0 k x0 x22 x23 (wrap64 (x24+1))) else (some (([]:List Int),false))))
def Ae.j2:Nat→List Int→Bool→Option (List Int×Bool)
 | 0,_,_=>none
 | k+1,x0,x56=>if x56=true then (some (([]:List Int),false)) else (if 0<(x0.length:Int) then (if 1<(x0.length:Int) then (if 2<(x0.length:Int) then (Ae.l1 k (rd x0 0) (rd x0 1) (rd x0 2) 0) else (none)) else (none)) else (none))
def Ae.l1:Nat→Int→Int→Int→Int→Option (List Int×Bool)
 | 0,_,_,_,_=>none
 | k+1,x11,x12,x13,x14=>(Bq.f (wrap64 (x12*x13))).bind fun t278=>(if (wrap64 (x14*x14))≤t278 then (Ae.l2 k x11 x12 x13 x14 0) else (some (([]:List Int),false)))
def Ae.l2:Nat→Int→Int→Int→Int→Int→Option (List Int×Bool)
 | 0,_,_,_,_,_=>none
 | k+1,x11,x12,x13,x14,x15=>(Bq.f (wrap64 (x11*x13))).bind fun t279=>(if (wrap64 (x15*x15))≤t279 then (if x13=0 then (none) else (if (Int.tmod (wrap64 ((wrap64 ((wrap64 ((wrap64 (-x11))*x14))*x14))-(wrap64 ((wrap64 (x12*x15))*x15)))) x13)=0 then ((AA.f k (wrap64 (Int.tdiv (wrap64 ((wrap64 ((wrap64 ((wrap64 (-x11))*x14))*x14))-(wrap64 ((wrap64 (x12*x15))*x15)))) x13))).bind fun bt280=>(if bt280.2=true then (if x14=0 then (if x15=0 then (if bt280.1=0 then (Ae.l2 k x11 x12 x13 x14 (wrap64 (x15+1))) else (some ((([x14,x15,bt280.1]:List Int)),true))) else (some ((([x14,x15,bt280.1]:List Int)),true))) else (some ((([x14,x15,bt280.1]:List Int)),true))) else (Ae.l2 k x11 x12 x13 x14 (wrap64 (x15+1))))) else (Ae.l2 k x11 x12 x13 x14 (wrap64 (x15+1))))) else (Ae.l1 k x11 x12 x13 (wrap64 (x14+1))))
end
def Ae.f (k:Nat) (l0:List Int):Option (List Int×Bool):=if (l0.length:Int)=3 then (Ae.l0 k l0 l0 (l0.length:Int) 0) else (some (([]:List Int),false))
theorem Ae.calls (k:Nat) (A0:Option Addr) (c0:Nat) (l0:List Int) (r1:List Int) (r2:Bool) (w:World) (hr0:Kd.C (Kd.int .i64) w A0 l0.length l0) (hc0:l0.length≤c0) (h:Ae.f k l0=some (r1,r2)) :
  Calls Tryz.prog 79 #[.slice A0 l0.length c0] w fun e w' => ∃v0_:Value,e = .returned (.tuple #[v0_,.bool r2])∧Kd.R (Kd.int .i64) 3 w' w.heap.size (fun _=>True) v0_ r1∧Below w.heap.size w w':=by
 have HR0:=Aa.mk hr0;have HC0:=Aa.mk hc0;clear hr0 hc0;have HB:=Aa.mk (Below.refl w.heap.size w);unfold Ae.f at h;have H:=h;clear h
 rcases Zq.ii H with ⟨c2,H⟩|⟨c2,H⟩
 ·have c2b1:=bne_eq_false_iff_eq.mpr c2;clear c2;have H':=Aa.mk H;clear H
  go_enter Tryz.func79,Tryz.ntmps79
  go_wp2
  go_loopg [24] k (fun kq v24 w' => ∃(x24_1:Int),v24 = .int .i64 x24_1∧Aa (Ae.l0 kq l0 l0 (l0.length:Int) x24_1=some (r1,r2))∧Aa (kq≤k)∧Aa (Below w.heap.size w w'))
  case atStart=>exact ⟨(0),Zs.auS,H',⟨Nat.le_refl _⟩,⟨Zs.auHB⟩⟩
  case round =>
   clear H'
   obtain ⟨x24_1,rfl,HA,HK1,HB⟩:=hrel;cases gk with
   | zero=>exact absurd HA.out (by simp [Ae.l0])
   | succ k1 =>
    have H:=HA.out;clear HA;simp only [Ae.l0] at H
    rcases Zq.ii H with ⟨c3,H⟩|⟨c3,H⟩
    ·have c3b0:=decide_eq_true c3;clear c3
     obtain ⟨c4,H⟩:=Zq.ip H;have c4b0:=decide_eq_true c4;clear c4
     obtain ⟨c5,H⟩:=Zq.ip H;have c5b0:=decide_eq_true c5;clear c5;have HC6:=Aa.mk H;clear H;obtain ⟨ad266,e266,hx266_0,p266,q266⟩:=Zq.at_ HR0.out x24_1;cases e266;replace hx266_0:=Zq.ce HB.out hx266_0
     go_upto_region 6 with (fail)
     go_cut [34] (fun v34 wc => ∃(kq:Nat) (x34_5:Bool),v34 = .bool x34_5∧Aa (Ae.j1 kq l0 (rd l0 x24_1) l0 (l0.length:Int) x24_1 x34_5=some (r1,r2))∧Aa (kq≤k1)∧Aa (Below w.heap.size w wc))
     case first =>
      have H:=HC6.out;clear HC6
      rcases Zq.ii H with ⟨c7,H⟩|⟨c7,H⟩
      ·have c7b0:=beq_iff_eq.mpr c7;clear c7
       have H':=Aa.mk H;clear H;go_wp2
       go_meet
       case rel=>exact ⟨_,(true),Zs.auS,H',⟨by have:=HK1.out;first|omega|exact Nat.le_refl _⟩,⟨Zs.auHB⟩⟩
      ·have c7b0:=beq_eq_false_iff_ne.mpr c7
       obtain ⟨t267,A8,H⟩:=Zs.be H;have H':=Aa.mk H;clear H
       go_wp2_with ((go_at_call 112;(with_reducible refine (Bq.calls (rd l0 x24_1) t267 _ A8.out).mono ?_);rintro e w9 ⟨rfl,hb⟩;replace HB:=Zq.st hb;(try clear hb)))
       go_meet
       case rel=>exact ⟨_,(decide (t267>30000)),Zs.auS,H',⟨by have:=HK1.out;first|omega|exact Nat.le_refl _⟩,⟨Zs.auHB⟩⟩
     case rest =>
      clear HC6
      obtain ⟨kq,x34_5,rfl,HA,HJ5,HB⟩:=hcut;cases kq with
      | zero=>exact absurd HA.out (by simp [Ae.j1])
      | succ kj5 =>
       have H:=HA.out;clear HA;simp only [Ae.j1] at H
       by_cases c10:x34_5=true
       ·subst c10;rw [if_pos rfl] at H;simp only [Option.some.injEq,Prod.mk.injEq] at H;obtain ⟨rfl,rfl⟩:=H;go_wp2
        go_ret2
        exact ⟨_,Zs.auR,by first|exact Kd.Es _ _ _ _ _|exact Kd.Fq _ _ _ _ _|exact Kd.Fz _ _ _ _ _|exact Kd.FB _ _ _ _ _|exact Kd.Fy _ _ _ _ _,Zs.auHB⟩
       ·replace c10:=Bool.eq_false_iff.mpr c10;subst c10;rw [if_neg (show ¬(false=true) by decide)] at H;replace H:=Option.bind_eq_some_iff.mp H;obtain ⟨⟨t268,t269⟩,A110,H⟩:=H;try dsimp only at H;have A11:=Aa.mk A110;clear A110
        rcases Zq.ii H with ⟨c12,H⟩|⟨c12,H⟩
        ·have c12b1:=bne_eq_false_iff_eq.mpr c12;clear c12;have H':=Aa.mk H;clear H
         go_wp2_with ((go_at_call 61;(with_reducible refine (AO.calls kj5 (rd l0 x24_1) t268 t269 _ A11.out).mono ?_);rintro e w13 ⟨rfl,hb⟩;replace HB:=Zq.st hb;(try clear hb)))
         go_roundg kj5
         case measure=>have:=HK1.out;have:=HJ5.out;omega
         case rel=>exact ⟨(wrap64 (x24_1+1)),Zs.auS,H',⟨by have:=HK1.out;have:=HJ5.out;omega⟩,⟨Zs.auHB⟩⟩
        ·have c12b1:=bne_iff_ne.mpr c12;simp only [Option.some.injEq,Prod.mk.injEq] at H;obtain ⟨rfl,rfl⟩:=H
         go_wp2_with ((go_at_call 61;(with_reducible refine (AO.calls kj5 (rd l0 x24_1) t268 t269 _ A11.out).mono ?_);rintro e w14 ⟨rfl,hb⟩;replace HB:=Zq.st hb;(try clear hb)))
         go_ret2
         exact ⟨_,Zs.auR,by first|exact Kd.Es _ _ _ _ _|exact Kd.Fq _ _ _ _ _|exact Kd.Fz _ _ _ _ _|exact Kd.FB _ _ _ _ _|exact Kd.Fy _ _ _ _ _,Zs.auHB⟩
    ·have c3b0:=decide_eq_false c3;clear c3;replace H:=Option.bind_eq_some_iff.mp H;obtain ⟨⟨t270,t271,t272⟩,A150,H⟩:=H;try dsimp only at H;have A15:=Aa.mk A150;clear A150;have HC16:=Aa.mk H;clear H
     go_upto_region 13 with ((go_at_call 135;(with_reducible refine (Cg.calls k1 _ _ l0 t270 t271 t272 _ ?side1 ?side2 A15.out).mono ?_);(case side1=>exact Zs.mvC ((Kd.Bw HR0.out HB.out)));(case side2=>exact HC0.out);rintro e w17 ⟨rfl,hb⟩;replace HB:=Zq.st hb;(try clear hb)))
     (try simp only [Act.put,List.setIfInBounds_toArray,List.set_cons_zero,List.set_cons_succ])
     go_cut [56] (fun v56 wc => ∃(kq:Nat) (x56_15:Bool),v56 = .bool x56_15∧Aa (Ae.j2 kq l0 x56_15=some (r1,r2))∧Aa (kq≤k1)∧Aa (Below w.heap.size w wc))
     case first =>
      have H:=HC16.out;clear HC16
      rcases Zq.ii H with ⟨c18,H⟩|⟨c18,H⟩
      ·have c18b1:=bne_eq_false_iff_eq.mpr c18;clear c18
       obtain ⟨t273,A19,H⟩:=Zs.be H;obtain ⟨t274,A20,H⟩:=Zs.be H;have H':=Aa.mk H;clear H
       go_wp2_with (first|(go_at_call 65;(with_reducible refine (AR.calls k1 _ _ l0 t273 _ ?side1 ?side2 A19.out).mono ?_);(case side1=>exact Zs.mvC ((Kd.Bw HR0.out HB.out)));(case side2=>exact HC0.out);rintro e w' ⟨rfl,⟨nd,rfl⟩⟩;(try exact Zq.dd))|(go_at_call 112;(with_reducible refine (Bq.calls t273 t274 _ A20.out).mono ?_);rintro e w21 ⟨rfl,hb⟩;replace HB:=Zq.st hb;(try clear hb)))
       go_meet
       case rel=>exact ⟨_,(decide (t274>30000)),Zs.auS,H',⟨by have:=HK1.out;first|omega|exact Nat.le_refl _⟩,⟨Zs.auHB⟩⟩
      ·have c18b1:=bne_iff_ne.mpr c18
       have H':=Aa.mk H;clear H;go_wp2
       go_meet
       case rel=>exact ⟨_,(true),Zs.auS,H',⟨by have:=HK1.out;first|omega|exact Nat.le_refl _⟩,⟨Zs.auHB⟩⟩
     case rest =>
      clear HC16
      obtain ⟨kq,x56_15,rfl,HA,HJ15,HB⟩:=hcut;cases kq with
      | zero=>exact absurd HA.out (by simp [Ae.j2])
      | succ kj15 =>
       have H:=HA.out;clear HA;simp only [Ae.j2] at H
       by_cases c22:x56_15=true
       ·subst c22;rw [if_pos rfl] at H;simp only [Option.some.injEq,Prod.mk.injEq] at H;obtain ⟨rfl,rfl⟩:=H;go_wp2
        go_ret2
        exact ⟨_,Zs.auR,by first|exact Kd.Es _ _ _ _ _|exact Kd.Fq _ _ _ _ _|exact Kd.Fz _ _ _ _ _|exact Kd.FB _ _ _ _ _|exact Kd.Fy _ _ _ _ _,Zs.auHB⟩
       ·replace c22:=Bool.eq_false_iff.mpr c22;subst c22;rw [if_neg (show ¬(false=true) by decide)] at H
        obtain ⟨c23,H⟩:=Zq.ip H;have c23b0:=decide_eq_true c23;clear c23
        obtain ⟨c24,H⟩:=Zq.ip H;have c24b0:=decide_eq_true c24;clear c24
        obtain ⟨c25,H⟩:=Zq.ip H;have c25b0:=decide_eq_true c25;clear c25;have H':=Aa.mk H;clear H;obtain ⟨ad275,e275,hx275_0,p275,q275⟩:=Zq.at_ HR0.out 0;cases e275;have qi275:(0<l0.length)=True:=eq_true (by have:=of_eq_true q275;omega);(try rw [show ((0:Int)).toNat=0 from rfl] at hx275_0);(try rw [Addr.add_zero'] at hx275_0);replace hx275_0:=Zq.ce HB.out hx275_0;obtain ⟨ad276,e276,hx276_0,p276,q276⟩:=Zq.at_ HR0.out 1;obtain rfl:ad275=ad276:=(by injection e276);(try simp only [show (1:Int).toNat=1 from rfl,Nat.reduceMul,Nat.reduceEqDiff,Go.Addr.add,↓reduceIte] at hx276_0);(try rw [show ((1:Int)).toNat=1 from rfl] at hx276_0);replace hx276_0:=Zq.ce HB.out hx276_0;obtain ⟨ad277,e277,hx277_0,p277,q277⟩:=Zq.at_ HR0.out 2;obtain rfl:ad275=ad277:=(by injection e277);(try simp only [show (2:Int).toNat=2 from rfl,Nat.reduceMul,Nat.reduceEqDiff,Go.Addr.add,↓reduceIte] at hx277_0);(try rw [show ((2:Int)).toNat=2 from rfl] at hx277_0);replace hx277_0:=Zq.ce HB.out hx277_0;go_wp2
        repeat (go_quiet (fail);try go_wp2)
        go_loopg [14] kj15 (fun kq v14 w' => ∃(x14_3:Int),v14 = .int .i64 x14_3∧Aa (Ae.l1 kq (rd l0 0) (rd l0 1) (rd l0 2) x14_3=some (r1,r2))∧Aa (kq≤kj15)∧Aa (Below w.heap.size w w'))
        case atStart=>exact ⟨(0),Zs.auS,H',⟨Nat.le_refl _⟩,⟨Zs.auHB⟩⟩
        case round =>
         clear H'
         obtain ⟨x14_3,rfl,HA,HK3,HB⟩:=hrel;cases gk with
         | zero=>exact absurd HA.out (by simp [Ae.l1])
         | succ k3 =>
          have H:=HA.out;clear HA;simp only [Ae.l1] at H;obtain ⟨t278,A26,H⟩:=Zs.be H
          rcases Zq.ii H with ⟨c27,H⟩|⟨c27,H⟩
          ·have c27b0:=decide_eq_true c27;clear c27;have H':=Aa.mk H;clear H
           go_wp2_with ((go_at_call 112;(with_reducible refine (Bq.calls (wrap64 ((rd l0 1)*(rd l0 2))) t278 _ A26.out).mono ?_);rintro e w28 ⟨rfl,hb⟩;replace HB:=Zq.st hb;(try clear hb)))
           go_loopg [15] k3 (fun kq v15 w' => ∃(x15_4:Int),v15 = .int .i64 x15_4∧Aa (Ae.l2 kq (rd l0 0) (rd l0 1) (rd l0 2) x14_3 x15_4=some (r1,r2))∧Aa (kq≤k3)∧Aa (Below w.heap.size w w'))
           case atStart=>exact ⟨(0),Zs.auS,H',⟨Nat.le_refl _⟩,⟨Zs.auHB⟩⟩
           case round =>
            clear H'
            obtain ⟨x15_4,rfl,HA,HK4,HB⟩:=hrel;cases gk with
            | zero=>exact absurd HA.out (by simp [Ae.l2])
            | succ k4 =>
             have H:=HA.out;clear HA;simp only [Ae.l2] at H;obtain ⟨t279,A29,H⟩:=Zs.be H
             rcases Zq.ii H with ⟨c30,H⟩|⟨c30,H⟩
             ·have c30b0:=decide_eq_true c30;clear c30
              by_cases c31:(rd l0 2)=0
              ·rw [if_pos c31] at H;exact absurd H (by simp)
              ·rw [if_neg c31] at H
               rcases Zq.ii H with ⟨c32,H⟩|⟨c32,H⟩
               ·have c32b1:=bne_eq_false_iff_eq.mpr c32;clear c32;replace H:=Option.bind_eq_some_iff.mp H;obtain ⟨⟨t280,t281⟩,A330,H⟩:=H;try dsimp only at H;have A33:=Aa.mk A330;clear A330
                by_cases c34:t281=true
                ·subst c34;rw [if_pos rfl] at H
                 rcases Zq.ii H with ⟨c35,H⟩|⟨c35,H⟩
                 ·have c35b1:=bne_eq_false_iff_eq.mpr c35;clear c35
                  rcases Zq.ii H with ⟨c36,H⟩|⟨c36,H⟩
                  ·have c36b1:=bne_eq_false_iff_eq.mpr c36;clear c36
                   rcases Zq.ii H with ⟨c37,H⟩|⟨c37,H⟩
                   ·have c37b1:=bne_eq_false_iff_eq.mpr c37;clear c37;have H':=Aa.mk H;clear H
                    go_wp2_with (first|(go_at_call 112;(with_reducible refine (Bq.calls (wrap64 ((rd l0 0)*(rd l0 2))) t279 _ A29.out).mono ?_);rintro e w38 ⟨rfl,hb⟩;replace HB:=Zq.st hb;(try clear hb))|(go_at_call 110;(with_reducible refine (AA.calls k4 (wrap64 (Int.tdiv (wrap64 ((wrap64 ((wrap64 ((wrap64 (-(rd l0 0)))*x14_3))*x14_3))-(wrap64 ((wrap64 ((rd l0 1)*x15_4))*x15_4)))) (rd l0 2))) t280 true _ A33.out).mono ?_);rintro e w' ⟨rfl,⟨nd,rfl⟩⟩;(try exact Zq.dd)))
                    go_roundg k4
                    case measure=>have:=HK1.out;have:=HJ15.out;have:=HK3.out;have:=HK4.out;omega
                    case rel=>exact ⟨(wrap64 (x15_4+1)),Zs.auS,H',⟨by have:=HK1.out;have:=HJ15.out;have:=HK3.out;have:=HK4.out;omega⟩,⟨Zs.auHB⟩⟩
                   ·have c37b1:=bne_iff_ne.mpr c37;(try rw [Option.bind_some] at H);generalize hyy:([x14_3,x15_4,t280]:List Int)=y282 at H;have Ny282:=Aa.mk hyy.symm;clear hyy;simp only [Option.some.injEq,Prod.mk.injEq] at H;obtain ⟨rfl,rfl⟩:=H
                    go_wp2_with (first|(go_at_call 112;(with_reducible refine (Bq.calls (wrap64 ((rd l0 0)*(rd l0 2))) t279 _ A29.out).mono ?_);rintro e w39 ⟨rfl,hb⟩;replace HB:=Zq.st hb;(try clear hb))|(go_at_call 110;(with_reducible refine (AA.calls k4 (wrap64 (Int.tdiv (wrap64 ((wrap64 ((wrap64 ((wrap64 (-(rd l0 0)))*x14_3))*x14_3))-(wrap64 ((wrap64 ((rd l0 1)*x15_4))*x15_4)))) (rd l0 2))) t280 true _ A33.out).mono ?_);rintro e w' ⟨rfl,⟨nd,rfl⟩⟩;(try exact Zq.dd))|((with_reducible refine Bg (N:=125) rfl ?_);refine Zq.li ([x14_3,x15_4,t280]:List Int) ?_;intro v283 w40 ho41 hb;(first|rw [← Ny282.out] at ho41|(simp only [Int.reduceToNat] at ho41;rw [← Ny282.out] at ho41));have HO284:=Zq.lw ho41;replace HB:=Zq.st hb;clear hb ho41))
                    go_ret2
                    exact ⟨_,Zs.auR,(Zs.mvR HO284.out),Zs.auHB⟩
                  ·have c36b1:=bne_iff_ne.mpr c36;(try rw [Option.bind_some] at H);generalize hyy:([x14_3,x15_4,t280]:List Int)=y285 at H;have Ny285:=Aa.mk hyy.symm;clear hyy;simp only [Option.some.injEq,Prod.mk.injEq] at H;obtain ⟨rfl,rfl⟩:=H
                   go_wp2_with (first|(go_at_call 112;(with_reducible refine (Bq.calls (wrap64 ((rd l0 0)*(rd l0 2))) t279 _ A29.out).mono ?_);rintro e w42 ⟨rfl,hb⟩;replace HB:=Zq.st hb;(try clear hb))|(go_at_call 110;(with_reducible refine (AA.calls k4 (wrap64 (Int.tdiv (wrap64 ((wrap64 ((wrap64 ((wrap64 (-(rd l0 0)))*x14_3))*x14_3))-(wrap64 ((wrap64 ((rd l0 1)*x15_4))*x15_4)))) (rd l0 2))) t280 true _ A33.out).mono ?_);rintro e w' ⟨rfl,⟨nd,rfl⟩⟩;(try exact Zq.dd))|((with_reducible refine Bg (N:=125) rfl ?_);refine Zq.li ([x14_3,x15_4,t280]:List Int) ?_;intro v286 w43 ho44 hb;(first|rw [← Ny285.out] at ho44|(simp only [Int.reduceToNat] at ho44;rw [← Ny285.out] at ho44));have HO287:=Zq.lw ho44;replace HB:=Zq.st hb;clear hb ho44))
                   go_ret2
                   exact ⟨_,Zs.auR,(Zs.mvR HO287.out),Zs.auHB⟩
                 ·have c35b1:=bne_iff_ne.mpr c35;(try rw [Option.bind_some] at H);generalize hyy:([x14_3,x15_4,t280]:List Int)=y288 at H;have Ny288:=Aa.mk hyy.symm;clear hyy;simp only [Option.some.injEq,Prod.mk.injEq] at H;obtain ⟨rfl,rfl⟩:=H
                  go_wp2_with (first|(go_at_call 112;(with_reducible refine (Bq.calls (wrap64 ((rd l0 0)*(rd l0 2))) t279 _ A29.out).mono ?_);rintro e w45 ⟨rfl,hb⟩;replace HB:=Zq.st hb;(try clear hb))|(go_at_call 110;(with_reducible refine (AA.calls k4 (wrap64 (Int.tdiv (wrap64 ((wrap64 ((wrap64 ((wrap64 (-(rd l0 0)))*x14_3))*x14_3))-(wrap64 ((wrap64 ((rd l0 1)*x15_4))*x15_4)))) (rd l0 2))) t280 true _ A33.out).mono ?_);rintro e w' ⟨rfl,⟨nd,rfl⟩⟩;(try exact Zq.dd))|((with_reducible refine Bg (N:=125) rfl ?_);refine Zq.li ([x14_3,x15_4,t280]:List Int) ?_;intro v289 w46 ho47 hb;(first|rw [← Ny288.out] at ho47|(simp only [Int.reduceToNat] at ho47;rw [← Ny288.out] at ho47));have HO290:=Zq.lw ho47;replace HB:=Zq.st hb;clear hb ho47))
                  go_ret2
                  exact ⟨_,Zs.auR,(Zs.mvR HO290.out),Zs.auHB⟩
                ·replace c34:=Bool.eq_false_iff.mpr c34;subst c34;rw [if_neg (show ¬(false=true) by decide)] at H;have H':=Aa.mk H;clear H
                 go_wp2_with (first|(go_at_call 112;(with_reducible refine (Bq.calls (wrap64 ((rd l0 0)*(rd l0 2))) t279 _ A29.out).mono ?_);rintro e w48 ⟨rfl,hb⟩;replace HB:=Zq.st hb;(try clear hb))|(go_at_call 110;(with_reducible refine (AA.calls k4 (wrap64 (Int.tdiv (wrap64 ((wrap64 ((wrap64 ((wrap64 (-(rd l0 0)))*x14_3))*x14_3))-(wrap64 ((wrap64 ((rd l0 1)*x15_4))*x15_4)))) (rd l0 2))) t280 false _ A33.out).mono ?_);rintro e w' ⟨rfl,⟨nd,rfl⟩⟩;(try exact Zq.dd)))
                 go_roundg k4
                 case measure=>have:=HK1.out;have:=HJ15.out;have:=HK3.out;have:=HK4.out;omega
                 case rel=>exact ⟨(wrap64 (x15_4+1)),Zs.auS,H',⟨by have:=HK1.out;have:=HJ15.out;have:=HK3.out;have:=HK4.out;omega⟩,⟨Zs.auHB⟩⟩
               ·have c32b1:=bne_iff_ne.mpr c32;have H':=Aa.mk H;clear H
                go_wp2_with ((go_at_call 112;(with_reducible refine (Bq.calls (wrap64 ((rd l0 0)*(rd l0 2))) t279 _ A29.out).mono ?_);rintro e w49 ⟨rfl,hb⟩;replace HB:=Zq.st hb;(try clear hb)))
                go_roundg k4
                case measure=>have:=HK1.out;have:=HJ15.out;have:=HK3.out;have:=HK4.out;omega
                case rel=>exact ⟨(wrap64 (x15_4+1)),Zs.auS,H',⟨by have:=HK1.out;have:=HJ15.out;have:=HK3.out;have:=HK4.out;omega⟩,⟨Zs.auHB⟩⟩
             ·have c30b0:=decide_eq_false c30;clear c30;have H':=Aa.mk H;clear H
              go_wp2_with ((go_at_call 112;(with_reducible refine (Bq.calls (wrap64 ((rd l0 0)*(rd l0 2))) t279 _ A29.out).mono ?_);rintro e w50 ⟨rfl,hb⟩;replace HB:=Zq.st hb;(try clear hb)))
              go_roundg k4
              case measure=>have:=HK1.out;have:=HJ15.out;have:=HK3.out;have:=HK4.out;omega
              case rel=>exact ⟨(wrap64 (x14_3+1)),Zs.auS,H',⟨by have:=HK1.out;have:=HJ15.out;have:=HK3.out;have:=HK4.out;omega⟩,⟨Zs.auHB⟩⟩
          ·have c27b0:=decide_eq_false c27;clear c27;simp only [Option.some.injEq,Prod.mk.injEq] at H;obtain ⟨rfl,rfl⟩:=H
           go_wp2_with ((go_at_call 112;(with_reducible refine (Bq.calls (wrap64 ((rd l0 1)*(rd l0 2))) t278 _ A26.out).mono ?_);rintro e w51 ⟨rfl,hb⟩;replace HB:=Zq.st hb;(try clear hb)))
           go_ret2
           exact ⟨_,Zs.auR,by first|exact Kd.Es _ _ _ _ _|exact Kd.Fq _ _ _ _ _|exact Kd.Fz _ _ _ _ _|exact Kd.FB _ _ _ _ _|exact Kd.Fy _ _ _ _ _,Zs.auHB⟩
 ·have c2b1:=bne_iff_ne.mpr c2;simp only [Option.some.injEq,Prod.mk.injEq] at H;obtain ⟨rfl,rfl⟩:=H
  go_enter Tryz.func79,Tryz.ntmps79
  go_wp2
  go_ret2
  exact ⟨_,Zs.auR,by first|exact Kd.Es _ _ _ _ _|exact Kd.Fq _ _ _ _ _|exact Kd.Fz _ _ _ _ _|exact Kd.FB _ _ _ _ _|exact Kd.Fy _ _ _ _ _,Zs.auHB⟩
section
open Locg
def AF.l0:Nat→List Int→List Int→Int→Int→Option (List Int×Bool)
 | 0,_,_,_,_=>none
 | k+1,x9,x11,x59,x60=>if x60<x59 then (if 0≤x60 then (if x60<(x11.length:Int) then (if x60<(x9.length:Int) then (AF.l0 k x9 (x11.set (x60:Int).toNat (wrap64 ((rd x11 x60)*(rd x9 x60)))) x59 (wrap64 (x60+1))) else (none)) else (none)) else (none)) else ((AU.f k x11).bind fun t318=>(some (t318,true)))
def AF.f (z4:Nat→List Int→Option (List Int×Bool)) (k:Nat) (l0:List Int):Option (List Int×Bool):=(Ai.f k l0).bind fun t291=>(if t291=true then (if (l0.length:Int)=2 then (if 0<(l0.length:Int) then ((AO.f k (rd l0 0)).bind fun bt293=>(if 1<(l0.length:Int) then ((AO.f k (rd l0 1)).bind fun bt296=>(if bt293.1=(wrap64 (-bt296.1)) then ((AU.f k (([bt296.2,bt293.2]:List Int))).bind fun t301=>(some (t301,true))) else (some (([]:List Int),false)))) else (none))) else (none)) else (if (l0.length:Int)=3 then ((Aq.f k l0).bind fun bt304=>((Ae.f k bt304.1).bind fun bt311=>(if bt311.2=true then (AF.l0 k bt304.2.1 bt311.1 (bt311.1.length:Int) 0) else (some (([]:List Int),false))))) else (if (l0.length:Int)=4 then ((z4 k l0).bind fun bt321=>(some (bt321.1,bt321.2))) else (some (([]:List Int),false))))) else (some (([]:List Int),false)))
def AF.T17:Bool×List (List Nat×List Nat):=(true,[([],[]),([],[]),([0,1],[0,1]),([2],[2]),([],[]),([],[]),([4,5],[4,5]),([6],[6]),([3,7],[3,7]),([0,1,0,1,2,3,4,5,6,7,8],[0,1]),([9,8,0,1,2,3,4,5,6,7,8],[8,9])])
def AF.B17:List Nat:=Zq.bitsOf AF.T17.2
theorem AF.tab17:rtab .any (opsOf Tryz.f37 17)=AF.T17:=by kernel_rfl
theorem AF.bits17:DO AF.T17.2 AF.B17=true:=by kernel_rfl
theorem AF.calls (z4:Nat→List Int→Option (List Int×Bool)) (hz : ∀(k:Nat) (A0:Option Addr) (c0:Nat) (l0:List Int) (r1:List Int) (r2:Bool) (w:World) (hr0:Kd.C (Kd.int .i64) w A0 l0.length l0) (hc0:l0.length≤c0) (_h:z4 k l0=some (r1,r2)),Calls Tryz.prog 80 #[.slice A0 l0.length c0] w fun e w' => ∃v0_:Value,e = .returned (.tuple #[v0_,.bool r2])∧Kd.R (Kd.int .i64) 3 w' w.heap.size (fun _=>True) v0_ r1∧Below w.heap.size w w') (k:Nat) (A0:Option Addr) (c0:Nat) (l0:List Int) (r1:List Int) (r2:Bool) (w:World) (hr0:Kd.C (Kd.int .i64) w A0 l0.length l0) (hc0:l0.length≤c0) (h:AF.f z4 k l0=some (r1,r2)) :
  Calls Tryz.prog 37 #[.slice A0 l0.length c0] w fun e w' => ∃v0_:Value,e = .returned (.tuple #[v0_,.bool r2])∧Kd.R (Kd.int .i64) 3 w' w.heap.size (fun _=>True) v0_ r1∧Below w.heap.size w w':=by
 have HR0:=Aa.mk hr0;have HC0:=Aa.mk hc0;clear hr0 hc0;have HB:=Aa.mk (Below.refl w.heap.size w);unfold AF.f at h;have H:=h;clear h;obtain ⟨t291,A2,H⟩:=Zs.be H
 by_cases c3:t291=true
 ·subst c3;rw [if_pos rfl] at H
  rcases Zq.ii H with ⟨c4,H⟩|⟨c4,H⟩
  ·have c4b0:=beq_iff_eq.mpr c4;clear c4
   obtain ⟨c5,H⟩:=Zq.ip H;have c5b0:=decide_eq_true c5;clear c5;replace H:=Option.bind_eq_some_iff.mp H;obtain ⟨⟨t293,t294⟩,A60,H⟩:=H;try dsimp only at H;have A6:=Aa.mk A60;clear A60
   obtain ⟨c7,H⟩:=Zq.ip H;have c7b0:=decide_eq_true c7;clear c7;replace H:=Option.bind_eq_some_iff.mp H;obtain ⟨⟨t296,t297⟩,A80,H⟩:=H;try dsimp only at H;have A8:=Aa.mk A80;clear A80
   rcases Zq.ii H with ⟨c9,H⟩|⟨c9,H⟩
   ·have c9b0:=beq_iff_eq.mpr c9;clear c9;(try rw [Option.bind_some] at H);generalize hyy:([t297,t294]:List Int)=y298 at H;have Ny298:=Aa.mk hyy.symm;clear hyy;obtain ⟨t301,A10,H⟩:=Zs.be H;simp only [Option.some.injEq,Prod.mk.injEq] at H;obtain ⟨rfl,rfl⟩:=H
    go_enter Tryz.func37,Tryz.ntmps37
    go_wp2_with (first|((with_reducible refine Ab (f:=59) rfl ?_);refine Zq.gb Tryz.func59 (Ai.calls _ _ _ _ _ _ (Zs.mvC (HR0.out)) HC0.out A2.out) ?_;intro w11 hb;replace HB:=Zq.st hb;(try clear hb);obtain ⟨ad292,e292,hx292_0,p292,q292⟩:=Zq.at_ HR0.out 0;cases e292;have qi292:(0<l0.length)=True:=eq_true (by have:=of_eq_true q292;omega);(try rw [show ((0:Int)).toNat=0 from rfl] at hx292_0);(try rw [Addr.add_zero'] at hx292_0);replace hx292_0:=Zq.ce HB.out hx292_0)|((with_reducible refine Ab (f:=61) rfl ?_);refine Zq.gc (some 25) Tryz.func61 (AO.calls _ _ _ _ _ A6.out) ?_;rintro e w12 ⟨rfl,hb⟩;refine ⟨_,rfl,?_⟩;replace HB:=Zq.st hb;(try clear hb);obtain ⟨ad295,e295,hx295_0,p295,q295⟩:=Zq.at_ HR0.out 1;obtain rfl:ad292=ad295:=(by injection e295);(try simp only [show (1:Int).toNat=1 from rfl,Nat.reduceMul,Nat.reduceEqDiff,Go.Addr.add,↓reduceIte] at hx295_0);(try rw [show ((1:Int)).toNat=1 from rfl] at hx295_0);replace hx295_0:=Zq.ce HB.out hx295_0)|((with_reducible refine Ab (f:=61) rfl ?_);refine Zq.gc (some 32) Tryz.func61 (AO.calls _ _ _ _ _ A8.out) ?_;rintro e w13 ⟨rfl,hb⟩;refine ⟨_,rfl,?_⟩;replace HB:=Zq.st hb;(try clear hb))|((with_reducible refine Bg (N:=41) rfl ?_);refine Zq.li ([t297,t294]:List Int) ?_;intro v299 w14 ho15 hb;(first|rw [← Ny298.out] at ho15|(simp only [Int.reduceToNat] at ho15;rw [← Ny298.out] at ho15));have HO300:=Zq.lw ho15;replace HB:=Zq.st hb;clear hb ho15;obtain ⟨Ao16,co16,eo16⟩:=Kd.AD HO300.out;subst eo16)|((with_reducible refine Ab (f:=77) rfl ?_);refine Zq.gc (some 42) Tryz.func77 (AU.calls _ _ _ _ _ _ (Zs.mvC ((Kd.Ac HO300.out).2.2)) ((Kd.Ac HO300.out).2.1) A10.out) ?_;rintro e w17 ⟨v302,rfl,ho0,hb⟩;refine ⟨_,rfl,?_⟩;have HO303:=Aa.mk (Kd.Bp (Kd.Bj ho0 (Zq.lt HO300.out)) (Av (Zs.auHB)));replace HO300:=Zq.el HO300.out ho0 hb;replace HB:=Zq.st hb;(try clear hb);(try clear ho0)))
    go_ret2
    exact ⟨_,Zs.auR,(Zs.mvR (Kd.AJ HO303.out (fun _ hk=>trivial))),Zs.auHB⟩
   ·have c9b0:=beq_eq_false_iff_ne.mpr c9;simp only [Option.some.injEq,Prod.mk.injEq] at H;obtain ⟨rfl,rfl⟩:=H
    go_enter Tryz.func37,Tryz.ntmps37
    go_wp2_with (first|((with_reducible refine Ab (f:=59) rfl ?_);refine Zq.gb Tryz.func59 (Ai.calls _ _ _ _ _ _ (Zs.mvC (HR0.out)) HC0.out A2.out) ?_;intro w18 hb;replace HB:=Zq.st hb;(try clear hb);obtain ⟨ad292,e292,hx292_0,p292,q292⟩:=Zq.at_ HR0.out 0;cases e292;have qi292:(0<l0.length)=True:=eq_true (by have:=of_eq_true q292;omega);(try rw [show ((0:Int)).toNat=0 from rfl] at hx292_0);(try rw [Addr.add_zero'] at hx292_0);replace hx292_0:=Zq.ce HB.out hx292_0)|((with_reducible refine Ab (f:=61) rfl ?_);refine Zq.gc (some 25) Tryz.func61 (AO.calls _ _ _ _ _ A6.out) ?_;rintro e w19 ⟨rfl,hb⟩;refine ⟨_,rfl,?_⟩;replace HB:=Zq.st hb;(try clear hb);obtain ⟨ad295,e295,hx295_0,p295,q295⟩:=Zq.at_ HR0.out 1;obtain rfl:ad292=ad295:=(by injection e295);(try simp only [show (1:Int).toNat=1 from rfl,Nat.reduceMul,Nat.reduceEqDiff,Go.Addr.add,↓reduceIte] at hx295_0);(try rw [show ((1:Int)).toNat=1 from rfl] at hx295_0);replace hx295_0:=Zq.ce HB.out hx295_0)|((with_reducible refine Ab (f:=61) rfl ?_);refine Zq.gc (some 32) Tryz.func61 (AO.calls _ _ _ _ _ A8.out) ?_;rintro e w20 ⟨rfl,hb⟩;refine ⟨_,rfl,?_⟩;replace HB:=Zq.st hb;(try clear hb)))
    go_ret2
    exact ⟨_,Zs.auR,by first|exact Kd.Es _ _ _ _ _|exact Kd.Fq _ _ _ _ _|exact Kd.Fz _ _ _ _ _|exact Kd.FB _ _ _ _ _|exact Kd.Fy _ _ _ _ _,Zs.auHB⟩
  ·have c4b0:=beq_eq_false_iff_ne.mpr c4
   rcases Zq.ii H with ⟨c21,H⟩|⟨c21,H⟩
   ·have c21b0:=beq_iff_eq.mpr c21;clear c21;replace H:=Option.bind_eq_some_iff.mp H;obtain ⟨⟨t304,t305,t306⟩,A220,H⟩:=H;try dsimp only at H;have A22:=Aa.mk A220;clear A220;replace H:=Option.bind_eq_some_iff.mp H;obtain ⟨⟨t311,t312⟩,A230,H⟩:=H;try dsimp only at H;have A23:=Aa.mk A230;clear A230
    by_cases c24:t312=true
    ·subst c24;rw [if_pos rfl] at H;have H':=Aa.mk H;clear H
     go_enter Tryz.func37,Tryz.ntmps37
     go_wp2_with (first|((with_reducible refine Ab (f:=59) rfl ?_);refine Zq.gb Tryz.func59 (Ai.calls _ _ _ _ _ _ (Zs.mvC (HR0.out)) HC0.out A2.out) ?_;intro w25 hb;replace HB:=Zq.st hb;(try clear hb))|((with_reducible refine Ab (f:=78) rfl ?_);refine Zq.gc (some 47) Tryz.func78 (Aq.calls _ _ _ _ _ _ _ _ (Zs.mvC ((Kd.Bw HR0.out HB.out))) HC0.out A22.out) ?_;rintro e w26 ⟨v307,v309,rfl,ho0,ho1,hb⟩;refine ⟨_,rfl,?_⟩;have HO308:=Zq.lw ho0;have HO310:=Zq.lw ho1;replace HB:=Zq.st hb;(try clear hb);(try clear ho0);(try clear ho1);obtain ⟨Ao27,co27,eo27⟩:=Kd.AD HO308.out;subst eo27)|((with_reducible refine Ab (f:=79) rfl ?_);refine Zq.gc (some 53) Tryz.func79 (Ae.calls _ _ _ _ _ _ _ (Zs.mvC ((Kd.Ac HO308.out).2.2)) ((Kd.Ac HO308.out).2.1) A23.out) ?_;rintro e w28 ⟨v313,rfl,ho0,hb⟩;refine ⟨_,rfl,?_⟩;have HO314:=Aa.mk (Kd.Bp (Kd.Bj (Kd.Bj ho0 (Zq.lt HO308.out)) (Zq.lt HO310.out)) (Av (Zs.auHB)));replace HO308:=Zq.el HO308.out ho0 hb;replace HO310:=Zq.el HO310.out ho0 hb;replace HB:=Zq.st hb;(try clear hb);(try clear ho0);obtain ⟨Ao29,co29,eo29⟩:=Kd.AD HO314.out;subst eo29))
     go_loopg [60] k (fun kq v60 w' => ∃(x11_1:List Int) (x60_1:Int),v60 = .int .i64 x60_1∧Aa (AF.l0 kq t305 x11_1 (t311.length:Int) x60_1=some (r1,r2))∧Aa (kq≤k)∧Aa (Kd.R (Kd.int .i64) 3 w' w.heap.size (fun k_=>some k_≠((.slice Ao29 t311.length co29):Value).ownBlock) v309 t305)∧Aa (Kd.R (Kd.int .i64) 3 w' w.heap.size (fun k_=>some k_≠(v309:Value).ownBlock) (.slice Ao29 t311.length co29) x11_1)∧Aa (Below w.heap.size w w'))
     case atStart=>exact ⟨(t311),(0),Zs.auS,H',⟨Nat.le_refl _⟩,⟨(Zs.mvR (Kd.AJ HO310.out (fun _ hk=>(by first|exact hk.2|exact trivial))))⟩,⟨(Zs.mvR (Kd.AJ HO314.out (fun _ hk=>(by first|exact hk.2|exact trivial))))⟩,⟨Zs.auHB⟩⟩
     case round =>
      clear H'
      obtain ⟨x11_1,x60_1,rfl,HA,HK1,HO_9,HO_11,HB⟩:=hrel;have hl11_1:=(Kd.Ac HO_11.out).1;rw [hl11_1] at HO_11;(try simp only [hl11_1]);(try simp only [hl11_1] at HO_9);cases gk with
      | zero=>exact absurd HA.out (by simp [AF.l0])
      | succ k1 =>
       have H:=HA.out;clear HA;simp only [AF.l0] at H
       rcases Zq.ii H with ⟨c30,H⟩|⟨c30,H⟩
       ·have c30b0:=decide_eq_true c30
        try have c30bl:decide (x60_1<(x11_1.length:Int))=true:=by rw [← hl11_1];exact c30b0
        clear c30
        obtain ⟨c31,H⟩:=Zq.ip H;have c31b0:=decide_eq_true c31;clear c31
        obtain ⟨c32,H⟩:=Zq.ip H;have c32b0:=decide_eq_true c32;clear c32
        obtain ⟨c33,H⟩:=Zq.ip H;have c33b0:=decide_eq_true c33
        try have c33bl:decide (x60_1<(x11_1.length:Int))=true:=by rw [← hl11_1];exact c33b0
        clear c33;(try rw [Option.bind_some] at H);generalize hyy:(x11_1.set (x60_1:Int).toNat (wrap64 ((rd x11_1 x60_1)*(rd t305 x60_1))):List Int)=y317 at H;have Ny317:=Aa.mk hyy.symm;clear hyy;have H':=Aa.mk H;clear H
        try go_wp2
        have n0_:=Aa.mk (Kd.DB HO_9.out);have n1_:=Aa.mk (Kd.DB HO_11.out);have n2_:=Aa.mk (Ax HB.out);clear HO_9;clear HO_11;clear HB;have HO_9:=n0_;have HO_11:=n1_;have HB:=n2_;clear n0_ n1_ n2_;obtain ⟨ad315,e315,hx315_0,p315,q315⟩:=Zq.at_ (Kd.Ac HO_11.out).2.2 x60_1;cases e315;obtain ⟨Ao36,co36,eo36⟩:=Kd.AD HO_9.out
        (first|subst eo36|(injection eo36 with f1_ f2_ f3_;have f4_:=f1_.symm;have f5_:=f3_.symm;clear f1_ f2_ f3_;subst f4_;subst f5_))
        obtain ⟨ad316,e316,hx316_0,p316,q316⟩:=Zq.at_ (Kd.Ac HO_9.out).2.2 x60_1;cases e316;have p34:0≤(x60_1:Int):=Zs.od;have q34:(x60_1:Int)<((x11_1.length:Int):Int):=Zs.od;obtain ⟨go34,co34,eo34,gb34,gl34,cl34,HG34⟩:=Kd.Fj HO_11.out (by omega)
        (first|cases eo34|(injection eo34 with ea_ en_ ec_;(first|subst ea_|(injection ea_ with ea_;subst ea_));subst ec_;clear en_))
        have GB34:=Aa.mk gb34;have GG34:=Aa.mk HG34;clear gb34 gl34 HG34
        (first|simp only [add_plain] at hx315_0|skip)
        obtain ⟨hx34_0,hf34_0⟩:=Kd.Co 0 HO_11.out (x60_1:Int) p34 q34;replace p34:=eq_true p34;replace q34:=eq_true q34;have HP37:=Kd.R_putn HO_11.out (x60_1:Int) (wrap64 ((rd x11_1 x60_1)*(rd t305 x60_1)));rw [← Ny317.out] at HP37;have HQ37:=Aa.mk HP37;clear HP37;refine D8 (n:=11) (S:=fun w'=>w'.cell? ⟨go34,(x60_1).toNat,none⟩=some (.int .i64 (rd x11_1 x60_1))∧w'.cell? (ad316.add (x60_1).toNat)=some (.int .i64 (rd t305 x60_1))) (ds:=[10]) #[false,false,false,false,false,false,false,false,false,false,false] (by kernel_rfl) rfl rfl ⟨hx315_0,hx316_0⟩ (fun hHeld=>?_);refine CL AF.tab17 AF.bits17 (fun HT_ HW_=>?_);generalize wr.drew=w35 at HO_9 HO_11 HB GG34 HQ37 hf34_0 hx315_0 hx316_0 hx34_0 hHeld ⊢;refine Zs.pu 0 (some 63) ?_;refine Zs.pu 1 (some 64) ?_;refine Zs.pu 2 (some 65) ?_;refine Zs.pu 4 (some 67) ?_;refine Zs.pu 5 (some 68) ?_;refine Zs.pu 6 (some 69) ?_;refine Zs.ta2 3 (some 66) ?_;refine Zs.ta2 7 (some 70) ?_;refine Zs.pu 8 (some 71) ?_;refine Zs.pu 9 (some 72) ?_
        refine last_ (i:=10) (N:=none) #[true,true,true,true,true,true,true,true,true,true,true] rfl rfl (one_of HT_.out (by kernel_rfl)) (by decide) (fun K hK=>?_);refine skip_ (w1:=?_) (by rfl) rfl ?_ ?_;rotate_left
        ·go_simp;rfl
        refine hK.out _ _ ?_;clear hK K;refine Zq.dn ?_
        try go_wp2
        (try simp only [← hl11_1])
        go_roundg k1
        case measure=>have:=HK1.out;omega
        case rel=>exact ⟨(y317),(wrap64 (x60_1+1)),Zs.auS,H',⟨by have:=HK1.out;omega⟩,⟨by (try simp only [hl11_1]);(with_reducible repeat (first|apply Kd.FZ|apply Kd.Fv|apply Kd.DB));exact Kd.AJ (Kd.R_far (p:=⟨go34,(x60_1:Int).toNat,none⟩) (Kd.AJ HO_9.out (fun k_ hk=>(⟨hk,fun e_=>hk (by rw [e_];rfl)⟩:_∧k_≠go34))) (fun _ hk=>(by first|exact hk.2|exact trivial)) (.int .i64 (wrap64 ((rd x11_1 x60_1)*(rd t305 x60_1))))) (fun _ hk=>hk.1)⟩,⟨by (try simp only [hl11_1]);(with_reducible repeat (first|apply Kd.FZ|apply Kd.Fv|apply Kd.DB));exact HQ37.out⟩,⟨by repeat (first|(with_reducible first|exact HB.out|apply Al|apply As|apply Ax|refine AQ ?_ GB34.out)|exact HB.out)⟩⟩
       ·have c30b0:=decide_eq_false c30
        try have c30bl:decide (x60_1<(x11_1.length:Int))=false:=by rw [← hl11_1];exact c30b0
        clear c30;obtain ⟨t318,A38,H⟩:=Zs.be H;simp only [Option.some.injEq,Prod.mk.injEq] at H;obtain ⟨rfl,rfl⟩:=H
        go_wp2_with (((with_reducible refine Ab (f:=77) rfl ?_);refine Zq.gc (some 75) Tryz.func77 (AU.calls _ _ _ _ _ _ (Zs.mvC ((Kd.Ac HO_11.out).2.2)) ((Kd.Ac HO_11.out).2.1) A38.out) ?_;rintro e w39 ⟨v319,rfl,ho0,hb⟩;refine ⟨_,rfl,?_⟩;have HO320:=Aa.mk (Kd.Bp (Kd.Bj (Kd.Bj ho0 (Zq.lt HO_9.out)) (Zq.lt HO_11.out)) (Av (Zs.auHB)));replace HO_9:=Zq.el HO_9.out ho0 hb;replace HO_11:=Zq.el HO_11.out ho0 hb;replace HB:=Zq.st hb;(try clear hb);(try clear ho0)))
        go_ret2
        exact ⟨_,Zs.auR,(Zs.mvR (Kd.AJ HO320.out (fun _ hk=>trivial))),Zs.auHB⟩
    ·replace c24:=Bool.eq_false_iff.mpr c24;subst c24;rw [if_neg (show ¬(false=true) by decide)] at H;simp only [Option.some.injEq,Prod.mk.injEq] at H;obtain ⟨rfl,rfl⟩:=H
     go_enter Tryz.func37,Tryz.ntmps37
     go_wp2_with (first|((with_reducible refine Ab (f:=59) rfl ?_);refine Zq.gb Tryz.func59 (Ai.calls _ _ _ _ _ _ (Zs.mvC (HR0.out)) HC0.out A2.out) ?_;intro w40 hb;replace HB:=Zq.st hb;(try clear hb))|((with_reducible refine Ab (f:=78) rfl ?_);refine Zq.gc (some 47) Tryz.func78 (Aq.calls _ _ _ _ _ _ _ _ (Zs.mvC ((Kd.Bw HR0.out HB.out))) HC0.out A22.out) ?_;rintro e w41 ⟨v307,v309,rfl,ho0,ho1,hb⟩;refine ⟨_,rfl,?_⟩;have HO308:=Zq.lw ho0;have HO310:=Zq.lw ho1;replace HB:=Zq.st hb;(try clear hb);(try clear ho0);(try clear ho1);obtain ⟨Ao42,co42,eo42⟩:=Kd.AD HO308.out;subst eo42)|((with_reducible refine Ab (f:=79) rfl ?_);refine Zq.gc (some 53) Tryz.func79 (Ae.calls _ _ _ _ _ _ _ (Zs.mvC ((Kd.Ac HO308.out).2.2)) ((Kd.Ac HO308.out).2.1) A23.out) ?_;rintro e w43 ⟨v313,rfl,ho0,hb⟩;refine ⟨_,rfl,?_⟩;have HO314:=Aa.mk (Kd.Bp (Kd.Bj (Kd.Bj ho0 (Zq.lt HO308.out)) (Zq.lt HO310.out)) (Av (Zs.auHB)));replace HO308:=Zq.el HO308.out ho0 hb;replace HO310:=Zq.el HO310.out ho0 hb;replace HB:=Zq.st hb;(try clear hb);(try clear ho0)))
     go_ret2
     exact ⟨_,Zs.auR,by first|exact Kd.Es _ _ _ _ _|exact Kd.Fq _ _ _ _ _|exact Kd.Fz _ _ _ _ _|exact Kd.FB _ _ _ _ _|exact Kd.Fy _ _ _ _ _,Zs.auHB⟩
   ·have c21b0:=beq_eq_false_iff_ne.mpr c21
    rcases Zq.ii H with ⟨c44,H⟩|⟨c44,H⟩
    ·have c44b0:=beq_iff_eq.mpr c44;clear c44;replace H:=Option.bind_eq_some_iff.mp H;obtain ⟨⟨t321,t322⟩,A450,H⟩:=H;try dsimp only at H;have A45:=Aa.mk A450;clear A450;simp only [Option.some.injEq,Prod.mk.injEq] at H;obtain ⟨rfl,rfl⟩:=H
     go_enter Tryz.func37,Tryz.ntmps37
     go_wp2_with (first|((with_reducible refine Ab (f:=59) rfl ?_);refine Zq.gb Tryz.func59 (Ai.calls _ _ _ _ _ _ (Zs.mvC (HR0.out)) HC0.out A2.out) ?_;intro w46 hb;replace HB:=Zq.st hb;(try clear hb))|((with_reducible refine Ab (f:=80) rfl ?_);refine Zq.gc (some 79) Tryz.func80 (hz k _ _ l0 t321 t322 _ (Zs.mvC ((Kd.Bw HR0.out HB.out))) HC0.out A45.out) ?_;rintro e w47 ⟨v323,rfl,ho0,hb⟩;refine ⟨_,rfl,?_⟩;have HO324:=Zq.lw ho0;replace HB:=Zq.st hb;(try clear hb);(try clear ho0)))
     go_ret2
     exact ⟨_,Zs.auR,(Zs.mvR HO324.out),Zs.auHB⟩
    ·have c44b0:=beq_eq_false_iff_ne.mpr c44;simp only [Option.some.injEq,Prod.mk.injEq] at H;obtain ⟨rfl,rfl⟩:=H
     go_enter Tryz.func37,Tryz.ntmps37
     go_wp2_with (((with_reducible refine Ab (f:=59) rfl ?_);refine Zq.gb Tryz.func59 (Ai.calls _ _ _ _ _ _ (Zs.mvC (HR0.out)) HC0.out A2.out) ?_;intro w48 hb;replace HB:=Zq.st hb;(try clear hb)))
     go_ret2
     exact ⟨_,Zs.auR,by first|exact Kd.Es _ _ _ _ _|exact Kd.Fq _ _ _ _ _|exact Kd.Fz _ _ _ _ _|exact Kd.FB _ _ _ _ _|exact Kd.Fy _ _ _ _ _,Zs.auHB⟩
 ·replace c3:=Bool.eq_false_iff.mpr c3;subst c3;rw [if_neg (show ¬(false=true) by decide)] at H;simp only [Option.some.injEq,Prod.mk.injEq] at H;obtain ⟨rfl,rfl⟩:=H
  go_enter Tryz.func37,Tryz.ntmps37
  go_wp2_with (((with_reducible refine Ab (f:=59) rfl ?_);refine Zq.gb Tryz.func59 (Ai.calls _ _ _ _ _ _ (Zs.mvC (HR0.out)) HC0.out A2.out) ?_;intro w49 hb;replace HB:=Zq.st hb;(try clear hb)))
  go_ret2
  exact ⟨_,Zs.auR,by first|exact Kd.Es _ _ _ _ _|exact Kd.Fq _ _ _ _ _|exact Kd.Fz _ _ _ _ _|exact Kd.FB _ _ _ _ _|exact Kd.Fy _ _ _ _ _,Zs.auHB⟩
def C6.f (k:Nat) (l0:List Int):Option (List Int×Bool):=AF.f (fun _ _=>none) k l0
theorem C6.calls (k:Nat) (A0:Option Addr) (c0:Nat) (l0:List Int) (r1:List Int) (r2:Bool) (w:World) (hr0:Kd.C (Kd.int .i64) w A0 l0.length l0) (hc0:l0.length≤c0) (h:C6.f k l0=some (r1,r2)) :
  Calls Tryz.prog 37 #[.slice A0 l0.length c0] w fun e w' => ∃v0_:Value,e = .returned (.tuple #[v0_,.bool r2])∧Kd.R (Kd.int .i64) 3 w' w.heap.size (fun _=>True) v0_ r1∧Below w.heap.size w w':=AF.calls (fun _ _=>none) (fun _ _ _ _ _ _ _ _ _ h=>by cases h) k A0 c0 l0 r1 r2 w hr0 hc0 h
mutual
def Ag.l0:Nat→Int→Int→Int→Int→Int→Option (List Int×Bool)
 | 0,_,_,_,_,_=>none
 | k+1,x4,x5,x6,x7,x8=>if x8≤3 then (Ag.l1 k x4 x5 x6 x7 x8 0) else (some (([]:List Int),false))
def Ag.l1:Nat→Int→Int→Int→Int→Int→Int→Option (List Int×Bool)
 | 0,_,_,_,_,_,_=>none
 | k+1,x4,x5,x6,x7,x8,x9=>if x9≤3 then (if x8=0 then (Ag.j2 k x4 x5 x6 x7 x8 x9 (x9==0)) else (Ag.j2 k x4 x5 x6 x7 x8 x9 false)) else (Ag.l0 k x4 x5 x6 x7 (wrap64 (x8+1)))
def Ag.j2:Nat→Int→Int→Int→Int→Int→Int→Bool→Option (List Int×Bool)
 | 0,_,_,_,_,_,_,_=>none
 | k+1,x4,x5,x6,x7,x8,x9,x40=>if x40=true then (Ag.l1 k x4 x5 x6 x7 x8 (wrap64 (x9+1))) else (if (wrap64 ((wrap64 ((wrap64 (x4*x8))*x8))+(wrap64 ((wrap64 (x5*x9))*x9))))=0 then ((AU.f k (([x8,x9,0,0]:List Int))).bind fun t192=>(some (t192,true))) else ((AO.f k (wrap64 ((wrap64 ((wrap64 (x4*x8))*x8))+(wrap64 ((wrap64 (x5*x9))*x9))))).bind fun bt195=>((C6.f k (([x6,x7,bt195.1]:List Int))).bind fun bt200=>(if bt200.2=true then (if 2<(bt200.1.length:Int) then (if 0<(bt200.1.length:Int) then (if 1<(bt200.1.length:Int) then ((AU.f k (([wrap64 (x8*(rd bt200.1 2)),wrap64 (x9*(rd bt200.1 2)),wrap64 (bt195.2*(rd bt200.1 0)),wrap64 (bt195.2*(rd bt200.1 1))]:List Int))).bind fun t211=>(some (t211,true))) else (none)) else (none)) else (none)) else (Ag.l1 k x4 x5 x6 x7 x8 (wrap64 (x9+1)))))))
end
def Ag.f (k:Nat) (l0:List Int):Option (List Int×Bool):=if 0<(l0.length:Int) then (if 1<(l0.length:Int) then (if 2<(l0.length:Int) then (if 3<(l0.length:Int) then (Ag.l0 k (rd l0 0) (rd l0 1) (rd l0 2) (rd l0 3) 0) else (none)) else (none)) else (none)) else (none)
def Ag.T1:Bool×List (List Nat×List Nat):=(true,[([],[]),([0],[0]),([1],[1]),([],[]),([3],[3]),([4],[4]),([],[]),([6],[6]),([7],[7]),([],[]),([9],[9]),([10],[10]),([2,0,1,2],[2]),([5,12,0,1,2,3,4,5,12],[5]),([8,13,0,1,2,3,4,5,6,7,8,12,13],[8]),([11,14,0,1,2,3,4,5,6,7,8,9,10,11,12,13,14],[11])])
def Ag.B1:List Nat:=Zq.bitsOf Ag.T1.2
theorem Ag.tab1:rtab .any (opsOf Tryz.f80 1)=Ag.T1:=by kernel_rfl
theorem Ag.bits1:DO Ag.T1.2 Ag.B1=true:=by kernel_rfl
def Ag.T15:Bool×List (List Nat×List Nat):=(true,[([],[]),([],[]),([1],[1]),([2],[2]),([0,3],[0,3]),([],[]),([],[]),([6],[6]),([7],[7]),([5,8],[5,8]),([],[]),([],[]),([11],[11]),([12],[12]),([10,13],[10,13]),([],[]),([],[]),([16],[16]),([17],[17]),([15,18],[15,18]),([4,9,14,19],[4,9,14,19]),([20],[20]),([21,21,0,1,2,3,4,5,6,7,8,9,10,11,12,13,14,15,16,17,18,19,20,21],[21]),([22,0,1,2,3,4,5,6,7,8,9,10,11,12,13,14,15,16,17,18,19,20,21,22],[])])
def Ag.B15:List Nat:=Zq.bitsOf Ag.T15.2
theorem Ag.tab15:rtab .any (opsOf Tryz.f80 15)=Ag.T15:=by kernel_rfl
theorem Ag.NQ:DO Ag.T15.2 Ag.B15=true:=by kernel_rfl
theorem Ag.calls (k:Nat) (A0:Option Addr) (c0:Nat) (l0:List Int) (r1:List Int) (r2:Bool) (w:World) (hr0:Kd.C (Kd.int .i64) w A0 l0.length l0) (hc0:l0.length≤c0) (h:Ag.f k l0=some (r1,r2)) :
  Calls Tryz.prog 80 #[.slice A0 l0.length c0] w fun e w' => ∃v0_:Value,e = .returned (.tuple #[v0_,.bool r2])∧Kd.R (Kd.int .i64) 3 w' w.heap.size (fun _=>True) v0_ r1∧Below w.heap.size w w':=by
 have HR0:=Aa.mk hr0;have HC0:=Aa.mk hc0;clear hr0 hc0;have HB:=Aa.mk (Below.refl w.heap.size w);unfold Ag.f at h;have H:=h;clear h
 obtain ⟨c2,H⟩:=Zq.ip H;have c2b0:=decide_eq_true c2;clear c2
 obtain ⟨c3,H⟩:=Zq.ip H;have c3b0:=decide_eq_true c3;clear c3
 obtain ⟨c4,H⟩:=Zq.ip H;have c4b0:=decide_eq_true c4;clear c4
 obtain ⟨c5,H⟩:=Zq.ip H;have c5b0:=decide_eq_true c5;clear c5;have H':=Aa.mk H;clear H
 go_enter Tryz.func80,Tryz.ntmps80
 try go_wp2
 have n0_:=Aa.mk (Ax HB.out);clear HB;have HB:=n0_;clear n0_;obtain ⟨ad185,e185,hx185_0,p185,q185⟩:=Zq.at_ HR0.out 0;have hw185_0:=hx185_0;(try rw [show ((0:Int)).toNat=0 from rfl] at hw185_0);(try rw [show 0*1=0 from rfl] at hw185_0);(try rw [Addr.add_zero'] at hw185_0);cases e185;have qi185:(0<l0.length)=True:=eq_true (by have:=of_eq_true q185;omega);(try rw [show ((0:Int)).toNat=0 from rfl] at hx185_0);(try rw [Addr.add_zero'] at hx185_0);replace hx185_0:=Zq.ce HB.out hx185_0;obtain ⟨ad186,e186,hx186_0,p186,q186⟩:=Zq.at_ HR0.out 1;have hw186_0:=hx186_0;(try rw [show ((1:Int)).toNat=1 from rfl] at hw186_0);(try rw [show 1*1=1 from rfl] at hw186_0);(try simp only [Nat.reduceMul,Nat.reduceEqDiff,Go.Addr.add,↓reduceIte] at hw186_0);obtain rfl:ad185=ad186:=(by injection e186);(try simp only [show (1:Int).toNat=1 from rfl,Nat.reduceMul,Nat.reduceEqDiff,Go.Addr.add,↓reduceIte] at hx186_0);(try rw [show ((1:Int)).toNat=1 from rfl] at hx186_0);replace hx186_0:=Zq.ce HB.out hx186_0;obtain ⟨ad187,e187,hx187_0,p187,q187⟩:=Zq.at_ HR0.out 2;have hw187_0:=hx187_0;(try rw [show ((2:Int)).toNat=2 from rfl] at hw187_0);(try rw [show 2*1=2 from rfl] at hw187_0);(try simp only [Nat.reduceMul,Nat.reduceEqDiff,Go.Addr.add,↓reduceIte] at hw187_0);obtain rfl:ad185=ad187:=(by injection e187);(try simp only [show (2:Int).toNat=2 from rfl,Nat.reduceMul,Nat.reduceEqDiff,Go.Addr.add,↓reduceIte] at hx187_0);(try rw [show ((2:Int)).toNat=2 from rfl] at hx187_0);replace hx187_0:=Zq.ce HB.out hx187_0;obtain ⟨ad188,e188,hx188_0,p188,q188⟩:=Zq.at_ HR0.out 3;have hw188_0:=hx188_0;(try rw [show ((3:Int)).toNat=3 from rfl] at hw188_0);(try rw [show 3*1=3 from rfl] at hw188_0);(try simp only [Nat.reduceMul,Nat.reduceEqDiff,Go.Addr.add,↓reduceIte] at hw188_0);obtain rfl:ad185=ad188:=(by injection e188);(try simp only [show (3:Int).toNat=3 from rfl,Nat.reduceMul,Nat.reduceEqDiff,Go.Addr.add,↓reduceIte] at hx188_0);(try rw [show ((3:Int)).toNat=3 from rfl] at hx188_0);replace hx188_0:=Zq.ce HB.out hx188_0;refine D8 (n:=16) (S:=fun w'=>w'.cell? ad185=some (.int .i64 (rd l0 0))∧w'.cell? ⟨ad185.block,ad185.off+1,none⟩=some (.int .i64 (rd l0 1))∧w'.cell? ⟨ad185.block,ad185.off+2,none⟩=some (.int .i64 (rd l0 2))∧w'.cell? ⟨ad185.block,ad185.off+3,none⟩=some (.int .i64 (rd l0 3))) (ds:=[]) #[false,false,false,false,false,false,false,false,false,false,false,false,false,false,false,false] (by kernel_rfl) rfl rfl ⟨((HB.out.cell (World.block_lt_of_cell? w _ hw185_0)).trans hw185_0),((HB.out.cell (World.block_lt_of_cell? w _ hw186_0)).trans hw186_0),((HB.out.cell (World.block_lt_of_cell? w _ hw187_0)).trans hw187_0),((HB.out.cell (World.block_lt_of_cell? w _ hw188_0)).trans hw188_0)⟩ (fun hHeld=>?_);refine CL Ag.tab1 Ag.bits1 (fun HT_ HW_=>?_)
 generalize w.drew=w6 at HB hx185_0 hx186_0 hx187_0 hx188_0 hHeld ⊢;refine Zs.pu 0 (some 15) ?_;refine Zs.pu 1 (some 16) ?_;refine Zs.pu 3 (some 18) ?_;refine Zs.pu 4 (some 19) ?_;refine Zs.pu 6 (some 21) ?_;refine Zs.pu 7 (some 22) ?_;refine Zs.pu 9 (some 24) ?_;refine Zs.pu 10 (some 25) ?_;refine Zs.ta4 2 (some 17) ?_;refine Zs.pu 12 (some 4) ?_;refine Zs.ta4 5 (some 20) ?_;refine Zs.pu 13 (some 5) ?_;refine Zs.ta4 8 (some 23) ?_;refine Zs.pu 14 (some 6) ?_;refine Zs.ta4 11 (some 26) ?_;refine Zs.pu 15 (some 7) ?_
 refine Zq.dn ?_
 try go_wp2
 go_loopg [8] k (fun kq v8 w' => ∃(x8_1:Int),v8 = .int .i64 x8_1∧Aa (Ag.l0 kq (rd l0 0) (rd l0 1) (rd l0 2) (rd l0 3) x8_1=some (r1,r2))∧Aa (kq≤k)∧Aa (Below w.heap.size w w'))
 case atStart=>exact ⟨(0),Zs.auS,H',⟨Nat.le_refl _⟩,⟨Zs.auHB⟩⟩
 case round =>
  clear H'
  obtain ⟨x8_1,rfl,HA,HK1,HB⟩:=hrel;cases gk with
  | zero=>exact absurd HA.out (by simp [Ag.l0])
  | succ k1 =>
   have H:=HA.out;clear HA;simp only [Ag.l0] at H
   rcases Zq.ii H with ⟨c7,H⟩|⟨c7,H⟩
   ·have c7b0:=decide_eq_true c7;clear c7;have H':=Aa.mk H;clear H;go_wp2
    go_loopg [9] k1 (fun kq v9 w' => ∃(x9_2:Int),v9 = .int .i64 x9_2∧Aa (Ag.l1 kq (rd l0 0) (rd l0 1) (rd l0 2) (rd l0 3) x8_1 x9_2=some (r1,r2))∧Aa (kq≤k1)∧Aa (Below w.heap.size w w'))
    case atStart=>exact ⟨(0),Zs.auS,H',⟨Nat.le_refl _⟩,⟨Zs.auHB⟩⟩
    case round =>
     clear H'
     obtain ⟨x9_2,rfl,HA,HK2,HB⟩:=hrel;cases gk with
     | zero=>exact absurd HA.out (by simp [Ag.l1])
     | succ k2 =>
      have H:=HA.out;clear HA;simp only [Ag.l1] at H
      rcases Zq.ii H with ⟨c8,H⟩|⟨c8,H⟩
      ·have c8b0:=decide_eq_true c8;clear c8;have HC9:=Aa.mk H;clear H
       go_upto_region 8 with (fail)
       go_cut [40] (fun v40 wc => ∃(kq:Nat) (x40_8:Bool),v40 = .bool x40_8∧Aa (Ag.j2 kq (rd l0 0) (rd l0 1) (rd l0 2) (rd l0 3) x8_1 x9_2 x40_8=some (r1,r2))∧Aa (kq≤k2)∧Aa (Below w.heap.size w wc))
       case first =>
        have H:=HC9.out;clear HC9
        rcases Zq.ii H with ⟨c10,H⟩|⟨c10,H⟩
        ·have c10b0:=beq_iff_eq.mpr c10;clear c10
         have H':=Aa.mk H;clear H;go_wp2
         go_meet
         case rel=>exact ⟨_,((x9_2==0)),Zs.auS,H',⟨by have:=HK1.out;have:=HK2.out;first|omega|exact Nat.le_refl _⟩,⟨Zs.auHB⟩⟩
        ·have c10b0:=beq_eq_false_iff_ne.mpr c10
         have H':=Aa.mk H;clear H;go_wp2
         go_meet
         case rel=>exact ⟨_,(false),Zs.auS,H',⟨by have:=HK1.out;have:=HK2.out;first|omega|exact Nat.le_refl _⟩,⟨Zs.auHB⟩⟩
       case rest =>
        clear HC9
        obtain ⟨kq,x40_8,rfl,HA,HJ8,HB⟩:=hcut;cases kq with
        | zero=>exact absurd HA.out (by simp [Ag.j2])
        | succ kj8 =>
         have H:=HA.out;clear HA;simp only [Ag.j2] at H
         by_cases c11:x40_8=true
         ·subst c11;rw [if_pos rfl] at H;have H':=Aa.mk H;clear H;go_wp2
          go_roundg kj8
          case measure=>have:=HK1.out;have:=HK2.out;have:=HJ8.out;omega
          case rel=>exact ⟨(wrap64 (x9_2+1)),Zs.auS,H',⟨by have:=HK1.out;have:=HK2.out;have:=HJ8.out;omega⟩,⟨Zs.auHB⟩⟩
         ·replace c11:=Bool.eq_false_iff.mpr c11;subst c11;rw [if_neg (show ¬(false=true) by decide)] at H
          rcases Zq.ii H with ⟨c12,H⟩|⟨c12,H⟩
          ·have c12b0:=beq_iff_eq.mpr c12;clear c12;(try rw [Option.bind_some] at H);generalize hyy:([x8_1,x9_2,0,0]:List Int)=y189 at H;have Ny189:=Aa.mk hyy.symm;clear hyy;obtain ⟨t192,A13,H⟩:=Zs.be H;simp only [Option.some.injEq,Prod.mk.injEq] at H;obtain ⟨rfl,rfl⟩:=H
           go_wp2_with (first|((with_reducible refine Bg (N:=56) rfl ?_);refine Zq.li ([x8_1,x9_2,0,0]:List Int) ?_;intro v190 w14 ho15 hb;(first|rw [← Ny189.out] at ho15|(simp only [Int.reduceToNat] at ho15;rw [← Ny189.out] at ho15));have HO191:=Zq.lw ho15;replace HB:=Zq.st hb;clear hb ho15;obtain ⟨Ao16,co16,eo16⟩:=Kd.AD HO191.out;subst eo16)|((with_reducible refine Ab (f:=77) rfl ?_);refine Zq.gc (some 57) Tryz.func77 (AU.calls _ _ _ _ _ _ (Zs.mvC ((Kd.Ac HO191.out).2.2)) ((Kd.Ac HO191.out).2.1) A13.out) ?_;rintro e w17 ⟨v193,rfl,ho0,hb⟩;refine ⟨_,rfl,?_⟩;have HO194:=Aa.mk (Kd.Bp (Kd.Bj ho0 (Zq.lt HO191.out)) (Av (Zs.auHB)));replace HO191:=Zq.el HO191.out ho0 hb;replace HB:=Zq.st hb;(try clear hb);(try clear ho0)))
           go_ret2
           exact ⟨_,Zs.auR,(Zs.mvR (Kd.AJ HO194.out (fun _ hk=>trivial))),Zs.auHB⟩
          ·have c12b0:=beq_eq_false_iff_ne.mpr c12;replace H:=Option.bind_eq_some_iff.mp H;obtain ⟨⟨t195,t196⟩,A180,H⟩:=H;try dsimp only at H;have A18:=Aa.mk A180;clear A180;(try rw [Option.bind_some] at H);generalize hyy:([(rd l0 2),(rd l0 3),t195]:List Int)=y197 at H;have Ny197:=Aa.mk hyy.symm;clear hyy;replace H:=Option.bind_eq_some_iff.mp H;obtain ⟨⟨t200,t201⟩,A190,H⟩:=H;try dsimp only at H;have A19:=Aa.mk A190;clear A190
           by_cases c20:t201=true
           ·subst c20;rw [if_pos rfl] at H
            obtain ⟨c21,H⟩:=Zq.ip H;have c21b0:=decide_eq_true c21;clear c21
            obtain ⟨c22,H⟩:=Zq.ip H;have c22b0:=decide_eq_true c22;clear c22
            obtain ⟨c23,H⟩:=Zq.ip H;have c23b0:=decide_eq_true c23;clear c23;(try rw [Option.bind_some] at H);generalize hyy:([wrap64 (x8_1*(rd t200 2)),wrap64 (x9_2*(rd t200 2)),wrap64 (t196*(rd t200 0)),wrap64 (t196*(rd t200 1))]:List Int)=y208 at H;have Ny208:=Aa.mk hyy.symm;clear hyy;obtain ⟨t211,A24,H⟩:=Zs.be H;simp only [Option.some.injEq,Prod.mk.injEq] at H;obtain ⟨rfl,rfl⟩:=H
            try go_wp2_with (first|((with_reducible refine Ab (f:=61) rfl ?_);refine Zq.gb Tryz.func61 (AO.calls _ _ _ _ _ A18.out) ?_;intro w25 hb;replace HB:=Zq.st hb;(try clear hb))|((with_reducible refine Bg (N:=67) rfl ?_);refine Zq.li ([(rd l0 2),(rd l0 3),t195]:List Int) ?_;intro v198 w26 ho27 hb;(first|rw [← Ny197.out] at ho27|(simp only [Int.reduceToNat] at ho27;rw [← Ny197.out] at ho27));have HO199:=Zq.lw ho27;replace HB:=Zq.st hb;clear hb ho27;obtain ⟨Ao28,co28,eo28⟩:=Kd.AD HO199.out;subst eo28)|((with_reducible refine Ab (f:=37) rfl ?_);refine Zq.gc (some 68) Tryz.func37 (C6.calls _ _ _ _ _ _ _ (Zs.mvC ((Kd.Ac HO199.out).2.2)) ((Kd.Ac HO199.out).2.1) A19.out) ?_;rintro e w29 ⟨v202,rfl,ho0,hb⟩;refine ⟨_,rfl,?_⟩;have HO203:=Aa.mk (Kd.Bp (Kd.Bj ho0 (Zq.lt HO199.out)) (Av (Zs.auHB)));replace HO199:=Zq.el HO199.out ho0 hb;replace HB:=Zq.st hb;(try clear hb);(try clear ho0)))
            have n0_:=Aa.mk (Kd.DB HO199.out);have n1_:=Aa.mk (Kd.DB HO203.out);have n2_:=Aa.mk (Ax HB.out);clear HO199;clear HO203;clear HB;have HO199:=n0_;have HO203:=n1_;have HB:=n2_;clear n0_ n1_ n2_;obtain ⟨Ao31,co31,eo31⟩:=Kd.AD HO203.out
            (first|subst eo31|(injection eo31 with f1_ f2_ f3_;have f4_:=f1_.symm;have f5_:=f3_.symm;clear f1_ f2_ f3_;subst f4_;subst f5_))
            obtain ⟨ad204,e204,hx204_0,p204,q204⟩:=Zq.at_ (Kd.Ac HO203.out).2.2 2;cases e204;(try simp only [show (2:Int).toNat=2 from rfl,Nat.reduceMul,Nat.reduceEqDiff,Go.Addr.add,↓reduceIte] at hx204_0);(try rw [show ((2:Int)).toNat=2 from rfl] at hx204_0);obtain ⟨ad205,e205,hx205_0,p205,q205⟩:=Zq.at_ (Kd.Ac HO203.out).2.2 2;obtain rfl:ad204=ad205:=(by injection e205);(try simp only [show (2:Int).toNat=2 from rfl,Nat.reduceMul,Nat.reduceEqDiff,Go.Addr.add,↓reduceIte] at hx205_0);(try rw [show ((2:Int)).toNat=2 from rfl] at hx205_0);obtain ⟨ad206,e206,hx206_0,p206,q206⟩:=Zq.at_ (Kd.Ac HO203.out).2.2 0;obtain rfl:ad204=ad206:=(by injection e206);have qi206:(0<t200.length)=True:=eq_true (by have:=of_eq_true q206;omega);(try rw [show ((0:Int)).toNat=0 from rfl] at hx206_0);(try rw [Addr.add_zero'] at hx206_0);obtain ⟨ad207,e207,hx207_0,p207,q207⟩:=Zq.at_ (Kd.Ac HO203.out).2.2 1;obtain rfl:ad204=ad207:=(by injection e207);(try simp only [show (1:Int).toNat=1 from rfl,Nat.reduceMul,Nat.reduceEqDiff,Go.Addr.add,↓reduceIte] at hx207_0);(try rw [show ((1:Int)).toNat=1 from rfl] at hx207_0);refine D8 (n:=24) (S:=fun w'=>w'.cell? ⟨ad204.block,ad204.off+2,none⟩=some (.int .i64 (rd t200 2))∧w'.cell? ⟨ad204.block,ad204.off+2,none⟩=some (.int .i64 (rd t200 2))∧w'.cell? ad204=some (.int .i64 (rd t200 0))∧w'.cell? ⟨ad204.block,ad204.off+1,none⟩=some (.int .i64 (rd t200 1))) (ds:=[]) #[false,false,false,false,false,false,false,false,false,false,false,false,false,false,false,false,false,false,false,false,false,false,false,false] (by kernel_rfl) rfl rfl ⟨hx204_0,hx205_0,hx206_0,hx207_0⟩ (fun hHeld=>?_);refine CL Ag.tab15 Ag.NQ (fun HT_ HW_=>?_);generalize w29.drew=w30 at HO199 HO203 HB hx204_0 hx205_0 hx206_0 hx207_0 hHeld ⊢;refine Zs.pu 0 (some 72) ?_;refine Zs.pu 1 (some 73) ?_;refine Zs.pu 2 (some 74) ?_;refine Zs.pu 5 (some 77) ?_;refine Zs.pu 6 (some 78) ?_;refine Zs.pu 7 (some 79) ?_;refine Zs.pu 10 (some 82) ?_;refine Zs.pu 11 (some 83) ?_;refine Zs.pu 12 (some 84) ?_;refine Zs.pu 15 (some 87) ?_;refine Zs.pu 16 (some 88) ?_;refine Zs.pu 17 (some 89) ?_;refine Zs.ta4 3 (some 75) ?_;refine Zs.pu 4 (some 76) ?_;refine Zs.ta4 8 (some 80) ?_;refine Zs.pu 9 (some 81) ?_;refine Zs.ta4 13 (some 85) ?_;refine Zs.pu 14 (some 86) ?_;refine Zs.ta4 18 (some 90) ?_;refine Zs.pu 19 (some 91) ?_
            refine Zq.o1 20 (some 92) (fun K hK=>?_);refine Kd.Ed (Kd.int .i64) _ 3 ?hg (N:=92) ?hd (xs:=([wrap64 (x8_1*(rd t200 2)),wrap64 (x9_2*(rd t200 2)),wrap64 (t196*(rd t200 0)),wrap64 (t196*(rd t200 1))]:List Int)) (inner:=[.int .i64 (wrap64 (x8_1*(rd t200 2))),.int .i64 (wrap64 (x9_2*(rd t200 2))),.int .i64 (wrap64 (t196*(rd t200 0))),.int .i64 (wrap64 (t196*(rd t200 1)))]) (ok:=fun _=>True) (okp:=fun _=>True) ?hr ?hp (fun _ hk=>hk) trivial (Below.refl _ _) (Nat.le_refl _) (by simp) ?_;(case hd=>rfl);(case hg=>rfl);(case hr=>first|(go_simp;done)|(go_simp;rfl));(case hp=>exact (Reps.one (show Kd.M (Kd.int .i64) _ _ _ (wrap64 (x8_1*(rd t200 2))) [.int .i64 (wrap64 (x8_1*(rd t200 2)))] from rfl) (Reps.one (show Kd.M (Kd.int .i64) _ _ _ (wrap64 (x9_2*(rd t200 2))) [.int .i64 (wrap64 (x9_2*(rd t200 2)))] from rfl) (Reps.one (show Kd.M (Kd.int .i64) _ _ _ (wrap64 (t196*(rd t200 0))) [.int .i64 (wrap64 (t196*(rd t200 0)))] from rfl) (Reps.one (show Kd.M (Kd.int .i64) _ _ _ (wrap64 (t196*(rd t200 1))) [.int .i64 (wrap64 (t196*(rd t200 1)))] from rfl) (Reps.none _ _))))));intro v209 w32 ho33 hb hg_ hnew_;have HS0_:=(hb.cell (World.block_lt_of_cell? _ _ (hHeld.1))).trans (hHeld.1);have HS1_:=(hb.cell (World.block_lt_of_cell? _ _ (hHeld.2.1))).trans (hHeld.2.1);have HS2_:=(hb.cell (World.block_lt_of_cell? _ _ (hHeld.2.2.1))).trans (hHeld.2.2.1);have HS3_:=(hb.cell (World.block_lt_of_cell? _ _ (hHeld.2.2.2))).trans (hHeld.2.2.2);clear hg_ hnew_
            (first|rw [← Ny208.out] at ho33|(simp only [Int.reduceToNat] at ho33;rw [← Ny208.out] at ho33))
            have n0_:=Zq.el HO199.out ho33 hb;have n1_:=Zq.el HO203.out ho33 hb;have n2_:=Aa.mk (Kd.Bp (Kd.Bj (Kd.Bj ho33 (Zq.lt HO199.out)) (Zq.lt HO203.out)) (Av (Zs.auHB)));have n3_:=Zq.st hb;clear HO199;clear HO203;clear HB;have HO199:=n0_;have HO203:=n1_;have HO210:=n2_;have HB:=n3_;clear n0_ n1_ n2_ n3_;clear hb ho33;obtain ⟨Ao34,co34,eo34⟩:=Kd.AD HO210.out
            (first|subst eo34|(injection eo34 with f1_ f2_ f3_;have f4_:=f1_.symm;have f5_:=f3_.symm;clear f1_ f2_ f3_;subst f4_;subst f5_))
            refine hK.out _ _ ⟨HS0_,HS1_,HS2_,HS3_⟩ (fun hHeld=>?_);clear hK K;refine Zq.nm (some 92) ?_
            refine Zq.o1 21 (some 93) (fun K hK=>?_);refine GV Tryz.func77 (by kernel_rfl) rfl #[.slice Ao34 y208.length co34] (by rfl) rfl rfl Zs.auM ?_
            with_reducible refine (AU.calls kj8 _ _ y208 t211 _ ?side1 ?side2 A24.out).mono ?_
            (case side1=>exact Zs.mvC ((Kd.Ac HO210.out).2.2))
            (case side2=>exact (Kd.Ac HO210.out).2.1)
            rintro e w35 ⟨v212,rfl,ho0,hb⟩;have HS0_:=(hb.cell (World.block_lt_of_cell? _ _ (hHeld.1))).trans (hHeld.1);have HS1_:=(hb.cell (World.block_lt_of_cell? _ _ (hHeld.2.1))).trans (hHeld.2.1);have HS2_:=(hb.cell (World.block_lt_of_cell? _ _ (hHeld.2.2.1))).trans (hHeld.2.2.1);have HS3_:=(hb.cell (World.block_lt_of_cell? _ _ (hHeld.2.2.2))).trans (hHeld.2.2.2);refine ⟨_,rfl,?_⟩;have n0_:=Zq.el HO199.out ho0 hb;have n1_:=Zq.el HO203.out ho0 hb;have n2_:=Zq.el HO210.out ho0 hb;have n3_:=Aa.mk (Kd.Bp (Kd.Bj (Kd.Bj (Kd.Bj ho0 (Zq.lt HO199.out)) (Zq.lt HO203.out)) (Zq.lt HO210.out)) (Av (Zs.auHB)));have n4_:=Zq.st hb;clear HO199;clear HO203;clear HO210;clear HB;have HO199:=n0_;have HO203:=n1_;have HO210:=n2_;have HO213:=n3_;have HB:=n4_;clear n0_ n1_ n2_ n3_ n4_;(try clear hb);(try clear hb2);(try clear hk);(try clear hi);(try clear ho0);refine hK.out _ _ ⟨HS0_,HS1_,HS2_,HS3_⟩ (fun hHeld=>?_);clear hK K;refine Zq.nm (some 93) ?_
            refine Zs.pu 22 (some 2) ?_;refine Zs.pu 23 (some 3) ?_
            refine Zq.dn ?_
            try go_wp2
            go_ret2
            exact ⟨_,Zs.auR,(Zs.mvR (Kd.AJ HO213.out (fun _ hk=>trivial))),Zs.auHB⟩
           ·replace c20:=Bool.eq_false_iff.mpr c20;subst c20;rw [if_neg (show ¬(false=true) by decide)] at H;have H':=Aa.mk H;clear H
            go_wp2_with (first|((with_reducible refine Ab (f:=61) rfl ?_);refine Zq.gb Tryz.func61 (AO.calls _ _ _ _ _ A18.out) ?_;intro w36 hb;replace HB:=Zq.st hb;(try clear hb))|((with_reducible refine Bg (N:=67) rfl ?_);refine Zq.li ([(rd l0 2),(rd l0 3),t195]:List Int) ?_;intro v198 w37 ho38 hb;(first|rw [← Ny197.out] at ho38|(simp only [Int.reduceToNat] at ho38;rw [← Ny197.out] at ho38));have HO199:=Zq.lw ho38;replace HB:=Zq.st hb;clear hb ho38;obtain ⟨Ao39,co39,eo39⟩:=Kd.AD HO199.out;subst eo39)|((with_reducible refine Ab (f:=37) rfl ?_);refine Zq.gc (some 68) Tryz.func37 (C6.calls _ _ _ _ _ _ _ (Zs.mvC ((Kd.Ac HO199.out).2.2)) ((Kd.Ac HO199.out).2.1) A19.out) ?_;rintro e w40 ⟨v202,rfl,ho0,hb⟩;refine ⟨_,rfl,?_⟩;have HO203:=Aa.mk (Kd.Bp (Kd.Bj ho0 (Zq.lt HO199.out)) (Av (Zs.auHB)));replace HO199:=Zq.el HO199.out ho0 hb;replace HB:=Zq.st hb;(try clear hb);(try clear ho0)))
            go_roundg kj8
            case measure=>have:=HK1.out;have:=HK2.out;have:=HJ8.out;omega
            case rel=>exact ⟨(wrap64 (x9_2+1)),Zs.auS,H',⟨by have:=HK1.out;have:=HK2.out;have:=HJ8.out;omega⟩,⟨Zs.auHB⟩⟩
      ·have c8b0:=decide_eq_false c8;clear c8;have H':=Aa.mk H;clear H;go_wp2
       go_roundg k2
       case measure=>have:=HK1.out;have:=HK2.out;omega
       case rel=>exact ⟨(wrap64 (x8_1+1)),Zs.auS,H',⟨by have:=HK1.out;have:=HK2.out;omega⟩,⟨Zs.auHB⟩⟩
   ·have c7b0:=decide_eq_false c7;clear c7;simp only [Option.some.injEq,Prod.mk.injEq] at H;obtain ⟨rfl,rfl⟩:=H;go_wp2;go_ret2
    exact ⟨_,Zs.auR,by first|exact Kd.Es _ _ _ _ _|exact Kd.Fq _ _ _ _ _|exact Kd.Fz _ _ _ _ _|exact Kd.FB _ _ _ _ _|exact Kd.Fy _ _ _ _ _,Zs.auHB⟩
end
section
open Locg
def Bx.f (k:Nat) (l0:List Int):Option (List Int×Bool):=AF.f (Ag.f) k l0
theorem Bx.calls (k:Nat) (A0:Option Addr) (c0:Nat) (l0:List Int) (r1:List Int) (r2:Bool) (w:World) (hr0:Kd.C (Kd.int .i64) w A0 l0.length l0) (hc0:l0.length≤c0) (h:Bx.f k l0=some (r1,r2)) :
  Calls Tryz.prog 37 #[.slice A0 l0.length c0] w fun e w' => ∃v0_:Value,e = .returned (.tuple #[v0_,.bool r2])∧Kd.R (Kd.int .i64) 3 w' w.heap.size (fun _=>True) v0_ r1∧Below w.heap.size w w':=AF.calls (Ag.f) (Ag.calls) k A0 c0 l0 r1 r2 w hr0 hc0 h
end
def Dq.f (a0:Int):Option (Bool):=if a0=0 then (some false) else (if a0≥(-30) then (some (decide (a0≤30))) else (some false))
theorem Dq.calls (a0:Int) (r:Bool) (w:World) (h:Dq.f a0=some r) :
  Calls Tryz.prog 86 #[.int .i64 a0] w fun e w'=>e = .returned (.bool r)∧Bh w w':=by
 unfold Dq.f at h;have H:=h;clear h
 rcases Zq.ii H with ⟨c2,H⟩|⟨c2,H⟩
 ·have c2b1:=bne_eq_false_iff_eq.mpr c2;clear c2;obtain rfl:=Option.some.inj H
  go_enter Tryz.func86,Tryz.ntmps86
  go_wp2;go_ret
  exact ⟨Zs.auS,Zq.dr⟩
 ·have c2b1:=bne_iff_ne.mpr c2
  rcases Zq.ii H with ⟨c3,H⟩|⟨c3,H⟩
  ·have c3b0:decide ((-30)≤a0)=true:=decide_eq_true c3;clear c3;obtain rfl:=Option.some.inj H
   go_enter Tryz.func86,Tryz.ntmps86
   go_wp2;go_ret
   exact ⟨Zs.auS,Zq.dr⟩
  ·have c3b0:decide ((-30)≤a0)=false:=decide_eq_false c3;clear c3;obtain rfl:=Option.some.inj H
   go_enter Tryz.func86,Tryz.ntmps86
   go_wp2;go_ret
   exact ⟨Zs.auS,Zq.dr⟩
end Go.Proofs.YtacfcoilmdhgnaaGreatDoor.PFnExactExecute
