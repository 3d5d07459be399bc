/- A function's Lean twin and its walk, written by a program of this session. -/
import Derived.Test.YtacfcoilmdhgnaaGreatDoorTPFnExactExecutex3
set_option maxHeartbeats 8000000
set_option maxRecDepth 100000
namespace Go.Proofs.YtacfcoilmdhgnaaGreatDoor.PFnExactExecute
open Go.RowKit Go.Proofs.YtacfcoilmdhgnaaGreatDoorW.PrintWords Go.Proofs.YtacfcoilmdhgnaaGreatDoorW.PrintLast Go.Proofs.YtacfcoilmdhgnaaGreatDoorW.PrintMore
attribute [local go_sem] Dy Dx D0 D1 Dc De DA Dz   -- for this text's walks alone
set_option linter.unusedVariables false
set_option linter.unusedSimpArgs false
mutual
def Ad.j0:Nat→List Int→Int→Bool→Option (List Int×Int×Bool)
 | 0,_,_,_=>none
 | k+1,x0,x1,x33=>if x33=true then (some (([]:List Int),0,false)) else ((Bx.f k x0).bind fun bt296=>(if bt296.2=true then (Ad.l0 k x0 x1 (([]:List Int)) bt296.1 0) else ((Be.f x0).bind fun t309=>(if t309.length<17592186044416 then ((Bx.f k (t309++[wrap64 (-x1)])).bind fun bt315=>(if bt315.2=true then (if 0≤(x0.length:Int) then (if (x0.length:Int)≤(bt315.1.length:Int) then (if (x0.length:Int)<(bt315.1.length:Int) then (Ad.j3 k (bt315.1.take ((x0.length:Int):Int).toNat) (rd bt315.1 (x0.length:Int))) else (none)) else (none)) else (none)) else (some (([]:List Int),0,false)))) else (none)))))
def Ad.j3:Nat→List Int→Int→Option (List Int×Int×Bool)
 | 0,_,_=>none
 | k+1,x7,x8=>(Be.f x7).bind fun t324=>(if t324.length<17592186044416 then ((B2.f k (t324++[x8])).bind fun t330=>(if x8<0 then (Ad.j4 k x7 x8 (wrap64 (-t330))) else (Ad.j4 k x7 x8 t330))) else (none))
def Ad.j4:Nat→List Int→Int→Int→Option (List Int×Int×Bool)
 | 0,_,_,_=>none
 | k+1,x7,x8,x17=>Ad.l2 k x8 x17 (([]:List Int)) x7 (x7.length:Int) 0
def Ad.l2:Nat→Int→Int→List Int→List Int→Int→Int→Option (List Int×Int×Bool)
 | 0,_,_,_,_,_,_=>none
 | k+1,x8,x17,x18,x113,x114,x115=>if x115<x114 then (if 0≤x115 then (if x115<(x113.length:Int) then (if x17=0 then (none) else (if x18.length<17592186044416 then (Ad.l2 k x8 x17 (x18++[wrap64 (Int.tdiv (rd x113 x115) x17)]) x113 x114 (wrap64 (x115+1))) else (none))) else (none)) else (none)) else (if x17=0 then (none) else (some (x18,wrap64 (Int.tdiv x8 x17),true)))
def Ad.l0:Nat→List Int→Int→List Int→List Int→Int→Option (List Int×Int×Bool)
 | 0,_,_,_,_,_=>none
 | k+1,x0,x1,x7,x9,x11=>if 0≤x11 then (if x11<(x9.length:Int) then (if (rd x9 x11)=0 then (Ad.l0 k x0 x1 x7 x9 (wrap64 (x11+1))) else (if x11<(x0.length:Int) then (Ad.l1 k x1 x7 (wrap64 ((wrap64 (2*(rd x0 x11)))*(rd x9 x11))) x11 (rd x0 x11) x9 (x9.length:Int) 0) else (none))) else (none)) else (none)
def Ad.l1:Nat→Int→List Int→Int→Int→Int→List Int→Int→Int→Option (List Int×Int×Bool)
 | 0,_,_,_,_,_,_,_,_=>none
 | k+1,x1,x7,x8,x11,x12,x59,x60,x61=>if x61<x60 then (if 0≤x61 then (if x61<(x59.length:Int) then (if x7.length<17592186044416 then (Ad.l1 k x1 (x7++[wrap64 ((rd x59 x61)*(wrap64 (x1-x12)))]) x8 x11 x12 x59 x60 (wrap64 (x61+1))) else (none)) else (none)) else (none)) else (if 0≤x11 then (if x11<(x7.length:Int) then (Ad.j3 k (x7.set (x11:Int).toNat (wrap64 ((rd x7 x11)+x8))) x8) else (none)) else (none))
end
def Ad.f (k:Nat) (l0:List Int) (a1:Int):Option (List Int×Int×Bool):=(Ai.f k l0).bind fun t291=>(if t291=true then (if (l0.length:Int)>3 then (Ad.j0 k l0 a1 true) else ((Dq.f a1).bind fun t292=>(Ad.j0 k l0 a1 (!t292)))) else (Ad.j0 k l0 a1 true))
theorem Ad.calls (k:Nat) (A0:Option Addr) (c0:Nat) (l0:List Int) (a1:Int) (r1:List Int) (r2:Int) (r3:Bool) (w:World) (hr0:Kd.C (Kd.int .i64) w A0 l0.length l0) (hc0:l0.length≤c0) (h:Ad.f k l0 a1=some (r1,r2,r3)) :
  Calls Tryz.prog 40 #[.slice A0 l0.length c0,.int .i64 a1] w fun e w' => ∃v0_:Value,e = .returned (.tuple #[v0_,.int .i64 r2,.bool r3])∧Kd.R (Kd.int .i64) 3 w' w.heap.size (fun _=>True) v0_ r1∧Below w.heap.size w w':=by
 have HR0:=Aa.mk hr0;have HC0:=Aa.mk hc0;clear hr0 hc0;have HB:=Aa.mk (Below.refl w.heap.size w);unfold Ad.f at h;have H:=h;clear h;have HC3:=Aa.mk H;clear H
 go_enter Tryz.func40,Tryz.ntmps40
 go_upto_region 1 with (fail)
 go_cut [33] (fun v33 wc => ∃(kq:Nat) (x33_2:Bool),v33 = .bool x33_2∧Aa (Ad.j0 kq l0 a1 x33_2=some (r1,r2,r3))∧Aa (kq≤k)∧Aa (Below w.heap.size w wc))
 case first =>
  have H:=HC3.out;clear HC3;obtain ⟨t291,A4,H⟩:=Zs.be H
  by_cases c5:t291=true
  ·subst c5;rw [if_pos rfl] at H
   rcases Zq.ii H with ⟨c6,H⟩|⟨c6,H⟩
   ·have c6b0:decide (3<(l0.length:Int))=true:=decide_eq_true c6;clear c6
    have H':=Aa.mk H;clear H
    go_wp2_with ((go_at_call 59;(with_reducible refine (Ai.calls k _ _ l0 true _ ?side1 ?side2 A4.out).mono ?_);(case side1=>exact Zs.mvC ((Kd.Bw HR0.out HB.out)));(case side2=>exact HC0.out);rintro e w7 ⟨rfl,hb⟩;replace HB:=Zq.st hb;(try clear hb)))
    go_meet
    case rel=>exact ⟨_,(true),Zs.auS,H',⟨Zs.auN⟩,⟨Zs.auHB⟩⟩
   ·have c6b0:decide (3<(l0.length:Int))=false:=decide_eq_false c6;clear c6
    obtain ⟨t292,A8,H⟩:=Zs.be H;have H':=Aa.mk H;clear H
    go_wp2_with (first|(go_at_call 59;(with_reducible refine (Ai.calls k _ _ l0 true _ ?side1 ?side2 A4.out).mono ?_);(case side1=>exact Zs.mvC ((Kd.Bw HR0.out HB.out)));(case side2=>exact HC0.out);rintro e w9 ⟨rfl,hb⟩;replace HB:=Zq.st hb;(try clear hb))|(go_at_call 86;(with_reducible refine (Dq.calls a1 t292 _ A8.out).mono ?_);rintro e w' ⟨rfl,⟨nd,rfl⟩⟩;(try exact Zq.dd)))
    go_meet
    case rel=>exact ⟨_,(!t292),Zs.auS,H',⟨Zs.auN⟩,⟨Zs.auHB⟩⟩
  ·replace c5:=Bool.eq_false_iff.mpr c5;subst c5;rw [if_neg (show ¬(false=true) by decide)] at H;have H':=Aa.mk H;clear H
   go_wp2_with ((go_at_call 59;(with_reducible refine (Ai.calls k _ _ l0 false _ ?side1 ?side2 A4.out).mono ?_);(case side1=>exact Zs.mvC ((Kd.Bw HR0.out HB.out)));(case side2=>exact HC0.out);rintro e w10 ⟨rfl,hb⟩;replace HB:=Zq.st hb;(try clear hb)))
   go_meet
   case rel=>exact ⟨_,(true),Zs.auS,H',⟨Zs.auN⟩,⟨Zs.auHB⟩⟩
 case rest =>
  clear HC3
  obtain ⟨kq,x33_2,rfl,HA,HJ2,HB⟩:=hcut;cases kq with
  | zero=>exact absurd HA.out (by simp [Ad.j0])
  | succ kj2 =>
   have H:=HA.out;clear HA;simp only [Ad.j0] at H
   by_cases c11:x33_2=true
   ·subst c11;rw [if_pos rfl] at H;simp only [Option.some.injEq,Prod.mk.injEq] at H;obtain ⟨rfl,rfl,rfl⟩:=H;go_wp2
    go_ret3
    exact ⟨_,Zs.auR,by first|exact Kd.Es _ _ _ _ _|exact Kd.Fq _ _ _ _ _|exact Kd.Fz _ _ _ _ _|exact Kd.FB _ _ _ _ _|exact Kd.Fy _ _ _ _ _,Zs.auHB⟩
   ·replace c11:=Bool.eq_false_iff.mpr c11;subst c11;rw [if_neg (show ¬(false=true) by decide)] at H;obtain ⟨y293,hyy⟩ : ∃y_:List Int,y_=(([]:List Int)):=⟨_,rfl⟩
    replace H:((Bx.f kj2 l0).bind fun bt296=>(if bt296.2=true then (Ad.l0 kj2 l0 a1 y293 bt296.1 0) else ((Be.f l0).bind fun t309=>(if t309.length<17592186044416 then ((Bx.f kj2 (t309++[wrap64 (-a1)])).bind fun bt315=>(if bt315.2=true then (if 0≤(l0.length:Int) then (if (l0.length:Int)≤(bt315.1.length:Int) then (if (l0.length:Int)<(bt315.1.length:Int) then (Ad.j3 kj2 (bt315.1.take ((l0.length:Int):Int).toNat) (rd bt315.1 (l0.length:Int))) else (none)) else (none)) else (none)) else (some (([]:List Int),0,false)))) else (none)))))=some (r1,r2,r3):=Zs.auY
    have Ny293:=Aa.mk hyy;clear hyy;replace H:=Option.bind_eq_some_iff.mp H;obtain ⟨⟨t296,t297⟩,A120,H⟩:=H;try dsimp only at H;have A12:=Aa.mk A120;clear A120;have HC13:=Aa.mk H;clear H
    go_upto_if 40 with (first|((with_reducible refine Bg (N:=34) rfl ?_);(try (refine Dn (by rfl) ?_;dsimp only));refine Zq.li ([]:List Int) ?_;intro v294 w14 ho15 hb;(first|rw [← Ny293.out] at ho15|(simp only [Int.reduceToNat] at ho15;rw [← Ny293.out] at ho15));have HO295:=Zq.lw ho15;replace HB:=Zq.st hb;clear hb ho15)|(go_at_call 37;(with_reducible refine (Bx.calls kj2 _ _ l0 t296 t297 _ ?side1 ?side2 A12.out).mono ?_);(case side1=>exact Zs.mvC ((Kd.Bw HR0.out HB.out)));(case side2=>exact HC0.out);rintro e w16 ⟨v298,rfl,ho0,hb⟩;have HO299:=Aa.mk (Kd.Bp (Kd.Bj ho0 (Zq.lt HO295.out)) (Av (Zs.auHB)));replace HO295:=Zq.el HO295.out ho0 hb;replace HB:=Zq.st hb;(try clear hb);(try clear ho0)))
    (try simp only [Act.put,List.setIfInBounds_toArray,List.set_cons_zero,List.set_cons_succ])
    go_cut [7,8] (fun v7 v8 wc => ∃(kq:Nat) (x7_12:List Int) (x8_12:Int),v8 = .int .i64 x8_12∧Aa (Ad.j3 kq x7_12 x8_12=some (r1,r2,r3))∧Aa (kq≤kj2)∧Aa (Kd.R (Kd.int .i64) 3 wc w.heap.size (fun _=>True) v7 x7_12)∧Aa (Below w.heap.size w wc))
    case first =>
     have H:=HC13.out;clear HC13
     by_cases c17:t297=true
     ·subst c17;rw [if_pos rfl] at H;have H':=Aa.mk H;clear H;go_wp2
      go_loopg [11] kj2 (fun kq v11 w' => ∃(x11_2:Int),v11 = .int .i64 x11_2∧Aa (Ad.l0 kq l0 a1 y293 t296 x11_2=some (r1,r2,r3))∧Aa (kq≤kj2)∧Aa (Kd.R (Kd.int .i64) 3 w' w.heap.size (fun k_=>some k_≠(v298:Value).ownBlock) v294 y293)∧Aa (Kd.R (Kd.int .i64) 3 w' w.heap.size (fun k_=>some k_≠(v294:Value).ownBlock) v298 t296)∧Aa (Below w.heap.size w w'))
      case atStart=>exact ⟨(0),Zs.auS,H',⟨Nat.le_refl _⟩,⟨(Zs.mvR (Kd.AJ HO295.out (fun _ hk=>(by first|exact hk.2|exact trivial))))⟩,⟨(Zs.mvR (Kd.AJ HO299.out (fun _ hk=>(by first|exact hk.2|exact trivial))))⟩,⟨Zs.auHB⟩⟩
      case round =>
       clear H'
       obtain ⟨x11_2,rfl,HA,HK2,HO_7,HO_9,HB⟩:=hrel;cases gk with
       | zero=>exact absurd HA.out (by simp [Ad.l0])
       | succ k2 =>
        have H:=HA.out;clear HA;simp only [Ad.l0] at H
        obtain ⟨c18,H⟩:=Zq.ip H;have c18b0:=decide_eq_true c18;clear c18
        obtain ⟨c19,H⟩:=Zq.ip H;have c19b0:=decide_eq_true c19;clear c19
        rcases Zq.ii H with ⟨c20,H⟩|⟨c20,H⟩
        ·have c20b0:=beq_iff_eq.mpr c20;clear c20;have H':=Aa.mk H;clear H;obtain ⟨Ao21,co21,eo21⟩:=Kd.AD HO_9.out;subst eo21;obtain ⟨ad300,e300,hx300_0,p300,q300⟩:=Zq.at_ (Kd.Ac HO_9.out).2.2 x11_2;cases e300;go_wp2
         go_roundg k2
         case measure=>have:=HJ2.out;have:=HK2.out;omega
         case rel=>exact ⟨(wrap64 (x11_2+1)),Zs.auS,H',⟨by have:=HJ2.out;have:=HK2.out;omega⟩,⟨(Zs.mvR HO_7.out)⟩,⟨(Zs.mvR HO_9.out)⟩,⟨Zs.auHB⟩⟩
        ·have c20b0:=beq_eq_false_iff_ne.mpr c20
         obtain ⟨c22,H⟩:=Zq.ip H;have c22b0:=decide_eq_true c22;clear c22;have H':=Aa.mk H;clear H;obtain ⟨Ao23,co23,eo23⟩:=Kd.AD HO_9.out;subst eo23;obtain ⟨ad300,e300,hx300_0,p300,q300⟩:=Zq.at_ (Kd.Ac HO_9.out).2.2 x11_2;cases e300;obtain ⟨ad301,e301,hx301_0,p301,q301⟩:=Zq.at_ HR0.out x11_2;cases e301;replace hx301_0:=Zq.ce HB.out hx301_0;obtain ⟨ad302,e302,hx302_0,p302,q302⟩:=Zq.at_ (Kd.Ac HO_9.out).2.2 x11_2;obtain rfl:ad300=ad302:=(by injection e302);go_wp2
         go_loopg [7,61] k2 (fun kq v7 v61 w' => ∃(x7_3:List Int) (x61_3:Int),v61 = .int .i64 x61_3∧Aa (Ad.l1 kq a1 x7_3 (wrap64 ((wrap64 (2*(rd l0 x11_2)))*(rd t296 x11_2))) x11_2 (rd l0 x11_2) t296 (t296.length:Int) x61_3=some (r1,r2,r3))∧Aa (kq≤k2)∧Aa (Kd.R (Kd.int .i64) 3 w' w.heap.size (fun k_=>some k_≠((.slice (some ad300) t296.length co23):Value).ownBlock) v7 x7_3)∧Aa (Kd.R (Kd.int .i64) 3 w' w.heap.size (fun k_=>some k_≠(v7:Value).ownBlock) (.slice (some ad300) t296.length co23) t296)∧Aa (Below w.heap.size w w'))
         case atStart=>exact ⟨(y293),(0),Zs.auS,H',⟨Nat.le_refl _⟩,⟨(Zs.mvR HO_7.out)⟩,⟨(Zs.mvR HO_9.out)⟩,⟨Zs.auHB⟩⟩
         case round =>
          clear H'
          obtain ⟨x7_3,x61_3,rfl,HA,HK3,HO_7,HO_59,HB⟩:=hrel;cases gk with
          | zero=>exact absurd HA.out (by simp [Ad.l1])
          | succ k3 =>
           have H:=HA.out;clear HA;simp only [Ad.l1] at H
           rcases Zq.ii H with ⟨c24,H⟩|⟨c24,H⟩
           ·have c24b0:=decide_eq_true c24;clear c24
            obtain ⟨c25,H⟩:=Zq.ip H;have c25b0:=decide_eq_true c25;clear c25
            obtain ⟨c26,H⟩:=Zq.ip H;have c26b0:=decide_eq_true c26;clear c26
            obtain ⟨c27,H⟩:=Zq.ip H;have LMc27:=Aa.mk c27;clear c27;(try rw [Option.bind_some] at H);generalize hyy:(x7_3++[wrap64 ((rd t296 x61_3)*(wrap64 (a1-(rd l0 x11_2))))]:List Int)=y304 at H;have Ny304:=Aa.mk hyy.symm;clear hyy;have H':=Aa.mk H;clear H;obtain ⟨ad303,e303,hx303_0,p303,q303⟩:=Zq.at_ (Kd.Ac HO_59.out).2.2 x61_3;obtain rfl:ad300=ad303:=(by injection e303)
            go_wp2_with (((with_reducible refine AW (b := .append) (xs:=#[.tmp 65,.tmp 71]) rfl ?_);(try (refine Dn (by rfl) ?_;dsimp only));at_builtin;refine Zq.ap (.tmp 65) (.tmp 71) 27 Tryz.underlying27 DQ u7 x7_3 (wrap64 ((rd t296 x61_3)*(wrap64 (a1-(rd l0 x11_2))))) (fun k_=>some k_≠(.slice (some ad300) t296.length co23:Value).ownBlock) (fun k_ hk=>Kd.DE (Zq.lt HO_59.out) k_ hk) ((Zs.mvR HO_7.out)) LMc27.out ?_;intro v305 w28 ho hb hg hat;rw [← Ny304.out] at ho;replace HO_59:=Aa.mk (Kd.BV (ok:=(fun _=>True)) ((Zs.mvR (Kd.AJ HO_59.out (fun _ hk=>⟨trivial,hk⟩)))) hg hat);replace HB:=Aa.mk (hb);have HO306:=Aa.mk (ho);clear HO_7;clear ho hb hg hat))
            go_roundg k3
            case measure=>have:=HJ2.out;have:=HK2.out;have:=HK3.out;omega
            case rel=>exact ⟨(y304),(wrap64 (x61_3+1)),Zs.auS,H',⟨by have:=HJ2.out;have:=HK2.out;have:=HK3.out;omega⟩,⟨(Zs.mvR HO306.out)⟩,⟨(Zs.mvR (Kd.AJ HO_59.out (fun _ hk=>(by first|exact hk.2|exact trivial))))⟩,⟨Zs.auHB⟩⟩
           ·have c24b0:=decide_eq_false c24;clear c24
            obtain ⟨c29,H⟩:=Zq.ip H;have c29b0:=decide_eq_true c29;clear c29
            obtain ⟨c30,H⟩:=Zq.ip H;have c30b0:=decide_eq_true c30;clear c30;(try rw [Option.bind_some] at H);generalize hyy:(x7_3.set (x11_2:Int).toNat (wrap64 ((rd x7_3 x11_2)+(wrap64 ((wrap64 (2*(rd l0 x11_2)))*(rd t296 x11_2))))):List Int)=y308 at H;have Ny308:=Aa.mk hyy.symm;clear hyy;have H':=Aa.mk H;clear H;obtain ⟨Ao32,co32,eo32⟩:=Kd.AD HO_7.out;subst eo32;obtain ⟨ad307,e307,hx307_0,p307,q307⟩:=Zq.at_ (Kd.Ac HO_7.out).2.2 x11_2;cases e307;have p31:0≤(x11_2:Int):=Zs.od;have q31:(x11_2:Int)<((x7_3.length:Int):Int):=Zs.od;obtain ⟨go31,co31,eo31,gb31,gl31,cl31,HG31⟩:=Kd.Fj HO_7.out (by omega)
            (first|cases eo31|(injection eo31 with ea_ en_ ec_;(first|subst ea_|(injection ea_ with ea_;subst ea_));subst ec_;clear en_))
            have GB31:=Aa.mk gb31;have GG31:=Aa.mk HG31;clear gb31 gl31 HG31
            (first|simp only [add_plain] at hx307_0|skip)
            obtain ⟨hx31_0,hf31_0⟩:=Kd.Co 0 HO_7.out (x11_2:Int) p31 q31;replace p31:=eq_true p31;replace q31:=eq_true q31;have HP33:=Kd.DP HO_7.out (x11_2:Int) (wrap64 ((rd x7_3 x11_2)+(wrap64 ((wrap64 (2*(rd l0 x11_2)))*(rd t296 x11_2)))))
            go_wp2_with (((with_reducible refine Cy (t:=3) (p:=80) rfl ?_);(try (rw [GK wr];generalize hq_:World.drewN wr _=wr;replace HO_7:=Aa.mk (Kd.R_at hq_ HO_7.out);replace HO_59:=Aa.mk (Kd.R_at hq_ HO_59.out);replace HB:=Aa.mk (below_at hq_ HB.out);clear hq_;(try (have HP33:=Kd.DP HO_7.out (x11_2:Int) (wrap64 ((rd x7_3 x11_2)+(wrap64 ((wrap64 (2*(rd l0 x11_2)))*(rd t296 x11_2)))))))));refine Ci (t:=3) (p:=80) (v:=?vo_w34) (w1:=(wr.setCell ⟨go31,(x11_2:Int).toNat,none⟩ (.int .i64 (wrap64 ((rd x7_3 x11_2)+(wrap64 ((wrap64 (2*(rd l0 x11_2)))*(rd t296 x11_2)))))))) ?hg ?ho ?hn ?hr ?_;(case ho=>rfl);(case hg=>rfl);(case hn=>rfl);(case hr=>first|(go_simp;done)|(go_simp;rfl));intro w34 hw;have hg:wr.grownBy w34 (some go31):=(by rw [hw];exact HP33.2);have hp_:Kd.R (Kd.int .i64) 3 w34 w.heap.size (fun k_=>some k_≠(.slice (some ad300) t296.length co23:Value).ownBlock) (.slice (some ⟨go31,0,none⟩) x7_3.length co32) y308:=(by rw [hw,Ny308.out];exact HP33.1);clear HP33;replace HO_7:=Aa.mk (hp_);replace HO_59:=Aa.mk (Kd.BV (v:=(.slice (some ⟨go31,0,none⟩) x7_3.length co32)) (v1:=(.slice (some ⟨go31,0,none⟩) x7_3.length co32)) (ok:=(fun _=>True)) ((Zs.mvR (Kd.AJ HO_59.out (fun _ hk=>⟨trivial,hk⟩)))) hg (.inl rfl));replace HB:=Aa.mk ((by rw [hw];exact AQ (HB.out) GB31.out:Below w.heap.size w w34));clear hg hw hp_))
            go_meet
            case rel=>exact ⟨_,(y308),((wrap64 ((wrap64 (2*(rd l0 x11_2)))*(rd t296 x11_2)))),Zs.auS,H',⟨by have:=HJ2.out;have:=HK2.out;have:=HK3.out;first|omega|exact Nat.le_refl _⟩,⟨(Zs.mvR (Kd.AJ HO_7.out (fun _ hk=>trivial)))⟩,⟨Zs.auHB⟩⟩
     ·replace c17:=Bool.eq_false_iff.mpr c17;subst c17;rw [if_neg (show ¬(false=true) by decide)] at H;obtain ⟨t309,A35,H⟩:=Zs.be H
      obtain ⟨c36,H⟩:=Zq.ip H;have LMc36:=Aa.mk c36;clear c36;(try rw [Option.bind_some] at H);generalize hyy:(t309++[wrap64 (-a1)]:List Int)=y312 at H;have Ny312:=Aa.mk hyy.symm;clear hyy;replace H:=Option.bind_eq_some_iff.mp H;obtain ⟨⟨t315,t316⟩,A370,H⟩:=H;try dsimp only at H;have A37:=Aa.mk A370;clear A370
      by_cases c38:t316=true
      ·subst c38;rw [if_pos rfl] at H
       obtain ⟨c39,H⟩:=Zq.ip H;have c39b0:=eq_true c39;have c39b1:=decide_eq_true c39;clear c39
       obtain ⟨c40,H⟩:=Zq.ip H;have c40b1:=decide_eq_true c40;clear c40;(try rw [Option.bind_some] at H);generalize hyy:(t315.take ((l0.length:Int):Int).toNat:List Int)=y319 at H;have Ny319:=Aa.mk hyy.symm;clear hyy
       obtain ⟨c41,H⟩:=Zq.ip H;have c41b0:=decide_eq_true c41;clear c41;have H':=Aa.mk H;clear H
       go_wp2_with (first|(go_at_call 87;(with_reducible refine (Be.calls _ _ l0 t309 _ ?side1 ?side2 A35.out).mono ?_);(case side1=>exact Zs.mvC ((Kd.Bw HR0.out HB.out)));(case side2=>exact HC0.out);rintro e w42 ⟨v310,rfl,ho0,hb⟩;have HO311:=Aa.mk (Kd.Bp (Kd.Bj (Kd.Bj ho0 (Zq.lt HO295.out)) (Zq.lt HO299.out)) (Av (Zs.auHB)));replace HO295:=Zq.el HO295.out ho0 hb;replace HO299:=Zq.el HO299.out ho0 hb;replace HB:=Zq.st hb;(try clear hb);(try clear ho0))|((with_reducible refine AW (b := .append) (xs:=#[.tmp 83,.tmp 86]) rfl ?_);(try (refine Dn (by rfl) ?_;dsimp only));at_builtin;refine Zq.ap (.tmp 83) (.tmp 86) 27 Tryz.underlying27 DQ v310 t309 (wrap64 (-a1)) (fun k_=>some k_≠(v294:Value).ownBlock∧some k_≠(v298:Value).ownBlock) (fun k_ hk=>⟨Kd.DE (Zq.lt HO295.out) k_ hk,Kd.DE (Zq.lt HO299.out) k_ hk⟩) ((Zs.mvR (Kd.AJ HO311.out (fun _ hk=>⟨hk.1.2,hk.2⟩)))) LMc36.out ?_;intro v313 w43 ho hb hg hat;rw [← Ny312.out] at ho;replace HO295:=Aa.mk (Kd.BV (ok:=(fun k_=>some k_≠(v298:Value).ownBlock)) ((Zs.mvR (Kd.AJ HO295.out (fun _ hk=>⟨hk.1.2,hk.2⟩)))) hg hat);replace HO299:=Aa.mk (Kd.BV (ok:=(fun k_=>some k_≠(v294:Value).ownBlock)) ((Zs.mvR (Kd.AJ HO299.out (fun _ hk=>⟨hk.1.2,hk.2⟩)))) hg hat);replace HB:=Aa.mk (hb);have HO314:=Aa.mk (ho);clear HO311;clear ho hb hg hat;obtain ⟨Ao44,co44,eo44⟩:=Kd.AD HO314.out;subst eo44)|(go_at_call 37;(with_reducible refine (Bx.calls kj2 _ _ y312 t315 true _ ?side1 ?side2 A37.out).mono ?_);(case side1=>exact Zs.mvC ((Kd.Ac HO314.out).2.2));(case side2=>exact (Kd.Ac HO314.out).2.1);rintro e w45 ⟨v317,rfl,ho0,hb⟩;have HO318:=Aa.mk (Kd.Bp (Kd.Bj (Kd.Bj (Kd.Bj ho0 (Zq.lt HO295.out)) (Zq.lt HO299.out)) (Zq.lt HO314.out)) (Av (Zs.auHB)));replace HO295:=Zq.el HO295.out ho0 hb;replace HO299:=Zq.el HO299.out ho0 hb;replace HO314:=Zq.el HO314.out ho0 hb;replace HB:=Zq.st hb;(try clear hb);(try clear ho0);obtain ⟨Ao47,co47,eo47⟩:=Kd.AD HO318.out;subst eo47;have q46:((l0.length:Int):Int)≤((t315.length:Int):Int):=Zs.od;obtain ⟨i046,hi046,_,hsz46,_⟩:=info_parts DQ;have hroom46:t315.length≤co47:=(Kd.Ac HO318.out).2.1;have hC46:Kd.C (Kd.int .i64) _ Ao47 t315.length t315:=(Kd.Ac HO318.out).2.2;have hcut46:=L0 (P:=Tryz.prog) 27 3 .i64 Tryz.underlying27 hi046 Ao47 t315.length co47 (l0.length:Int) (Zs.od) q46 hroom46;have hr46:=Kd.Om (m:=((l0.length:Int):Int).toNat) hC46 (by omega);have hy46:y319.length=((l0.length:Int):Int).toNat:=(by rw [Ny319.out,List.length_take];omega);rw [← Ny319.out] at hr46;rw [← hy46] at hcut46;have HR322:=Aa.mk hr46;have HC322:=Aa.mk (show y319.length≤co47 from by omega);clear hr46 hC46 hroom46 hi046 hsz46;have KY46:=Aa.mk hy46;clear hy46;have KL46:=Aa.mk (show ((l0.length:Int):Int).toNat≤t315.length from by omega);replace q46:=eq_true q46;obtain ⟨ad323,e323,hx323_0,p323,q323⟩:=Zq.at_ (Kd.Ac HO318.out).2.2 (l0.length:Int);cases e323;(try simp only [Go.IntWalk.toNatUp] at hx323_0)))
       repeat (go_quiet (fail);try go_wp2_with (first|(go_at_call 87;(with_reducible refine (Be.calls _ _ l0 t309 _ ?side1 ?side2 A35.out).mono ?_);(case side1=>exact Zs.mvC ((Kd.Bw HR0.out HB.out)));(case side2=>exact HC0.out);rintro e w42 ⟨v310,rfl,ho0,hb⟩;have HO311:=Aa.mk (Kd.Bp (Kd.Bj (Kd.Bj ho0 (Zq.lt HO295.out)) (Zq.lt HO299.out)) (Av (Zs.auHB)));replace HO295:=Zq.el HO295.out ho0 hb;replace HO299:=Zq.el HO299.out ho0 hb;replace HB:=Zq.st hb;(try clear hb);(try clear ho0))|((with_reducible refine AW (b := .append) (xs:=#[.tmp 83,.tmp 86]) rfl ?_);(try (refine Dn (by rfl) ?_;dsimp only));at_builtin;refine Zq.ap (.tmp 83) (.tmp 86) 27 Tryz.underlying27 DQ v310 t309 (wrap64 (-a1)) (fun k_=>some k_≠(v294:Value).ownBlock∧some k_≠(v298:Value).ownBlock) (fun k_ hk=>⟨Kd.DE (Zq.lt HO295.out) k_ hk,Kd.DE (Zq.lt HO299.out) k_ hk⟩) ((Zs.mvR (Kd.AJ HO311.out (fun _ hk=>⟨hk.1.2,hk.2⟩)))) LMc36.out ?_;intro v313 w43 ho hb hg hat;rw [← Ny312.out] at ho;replace HO295:=Aa.mk (Kd.BV (ok:=(fun k_=>some k_≠(v298:Value).ownBlock)) ((Zs.mvR (Kd.AJ HO295.out (fun _ hk=>⟨hk.1.2,hk.2⟩)))) hg hat);replace HO299:=Aa.mk (Kd.BV (ok:=(fun k_=>some k_≠(v294:Value).ownBlock)) ((Zs.mvR (Kd.AJ HO299.out (fun _ hk=>⟨hk.1.2,hk.2⟩)))) hg hat);replace HB:=Aa.mk (hb);have HO314:=Aa.mk (ho);clear HO311;clear ho hb hg hat;obtain ⟨Ao44,co44,eo44⟩:=Kd.AD HO314.out;subst eo44)|(go_at_call 37;(with_reducible refine (Bx.calls kj2 _ _ y312 t315 true _ ?side1 ?side2 A37.out).mono ?_);(case side1=>exact Zs.mvC ((Kd.Ac HO314.out).2.2));(case side2=>exact (Kd.Ac HO314.out).2.1);rintro e w45 ⟨v317,rfl,ho0,hb⟩;have HO318:=Aa.mk (Kd.Bp (Kd.Bj (Kd.Bj (Kd.Bj ho0 (Zq.lt HO295.out)) (Zq.lt HO299.out)) (Zq.lt HO314.out)) (Av (Zs.auHB)));replace HO295:=Zq.el HO295.out ho0 hb;replace HO299:=Zq.el HO299.out ho0 hb;replace HO314:=Zq.el HO314.out ho0 hb;replace HB:=Zq.st hb;(try clear hb);(try clear ho0);obtain ⟨Ao47,co47,eo47⟩:=Kd.AD HO318.out;subst eo47;have q46:((l0.length:Int):Int)≤((t315.length:Int):Int):=Zs.od;obtain ⟨i046,hi046,_,hsz46,_⟩:=info_parts DQ;have hroom46:t315.length≤co47:=(Kd.Ac HO318.out).2.1;have hC46:Kd.C (Kd.int .i64) _ Ao47 t315.length t315:=(Kd.Ac HO318.out).2.2;have hcut46:=L0 (P:=Tryz.prog) 27 3 .i64 Tryz.underlying27 hi046 Ao47 t315.length co47 (l0.length:Int) (Zs.od) q46 hroom46;have hr46:=Kd.Om (m:=((l0.length:Int):Int).toNat) hC46 (by omega);have hy46:y319.length=((l0.length:Int):Int).toNat:=(by rw [Ny319.out,List.length_take];omega);rw [← Ny319.out] at hr46;rw [← hy46] at hcut46;have HR322:=Aa.mk hr46;have HC322:=Aa.mk (show y319.length≤co47 from by omega);clear hr46 hC46 hroom46 hi046 hsz46;have KY46:=Aa.mk hy46;clear hy46;have KL46:=Aa.mk (show ((l0.length:Int):Int).toNat≤t315.length from by omega);replace q46:=eq_true q46;obtain ⟨ad323,e323,hx323_0,p323,q323⟩:=Zq.at_ (Kd.Ac HO318.out).2.2 (l0.length:Int);cases e323;(try simp only [Go.IntWalk.toNatUp] at hx323_0))))
       have HOcv48:=Aa.mk (sh_pre HO318.out Ny319.out)
       go_meet
       case rel=>exact ⟨_,(y319),(rd t315 (l0.length:Int)),Zs.auS,H',⟨by have:=HJ2.out;first|omega|exact Nat.le_refl _⟩,⟨(Zs.mvR (Kd.AJ HOcv48.out (fun _ hk=>trivial)))⟩,⟨Zs.auHB⟩⟩
      ·replace c38:=Bool.eq_false_iff.mpr c38;subst c38;rw [if_neg (show ¬(false=true) by decide)] at H;simp only [Option.some.injEq,Prod.mk.injEq] at H;obtain ⟨rfl,rfl,rfl⟩:=H
       go_wp2_with (first|(go_at_call 87;(with_reducible refine (Be.calls _ _ l0 t309 _ ?side1 ?side2 A35.out).mono ?_);(case side1=>exact Zs.mvC ((Kd.Bw HR0.out HB.out)));(case side2=>exact HC0.out);rintro e w49 ⟨v310,rfl,ho0,hb⟩;have HO311:=Aa.mk (Kd.Bp (Kd.Bj (Kd.Bj ho0 (Zq.lt HO295.out)) (Zq.lt HO299.out)) (Av (Zs.auHB)));replace HO295:=Zq.el HO295.out ho0 hb;replace HO299:=Zq.el HO299.out ho0 hb;replace HB:=Zq.st hb;(try clear hb);(try clear ho0))|((with_reducible refine AW (b := .append) (xs:=#[.tmp 83,.tmp 86]) rfl ?_);(try (refine Dn (by rfl) ?_;dsimp only));at_builtin;refine Zq.ap (.tmp 83) (.tmp 86) 27 Tryz.underlying27 DQ v310 t309 (wrap64 (-a1)) (fun k_=>some k_≠(v294:Value).ownBlock∧some k_≠(v298:Value).ownBlock) (fun k_ hk=>⟨Kd.DE (Zq.lt HO295.out) k_ hk,Kd.DE (Zq.lt HO299.out) k_ hk⟩) ((Zs.mvR (Kd.AJ HO311.out (fun _ hk=>⟨hk.1.2,hk.2⟩)))) LMc36.out ?_;intro v313 w50 ho hb hg hat;rw [← Ny312.out] at ho;replace HO295:=Aa.mk (Kd.BV (ok:=(fun k_=>some k_≠(v298:Value).ownBlock)) ((Zs.mvR (Kd.AJ HO295.out (fun _ hk=>⟨hk.1.2,hk.2⟩)))) hg hat);replace HO299:=Aa.mk (Kd.BV (ok:=(fun k_=>some k_≠(v294:Value).ownBlock)) ((Zs.mvR (Kd.AJ HO299.out (fun _ hk=>⟨hk.1.2,hk.2⟩)))) hg hat);replace HB:=Aa.mk (hb);have HO314:=Aa.mk (ho);clear HO311;clear ho hb hg hat;obtain ⟨Ao51,co51,eo51⟩:=Kd.AD HO314.out;subst eo51)|(go_at_call 37;(with_reducible refine (Bx.calls kj2 _ _ y312 t315 false _ ?side1 ?side2 A37.out).mono ?_);(case side1=>exact Zs.mvC ((Kd.Ac HO314.out).2.2));(case side2=>exact (Kd.Ac HO314.out).2.1);rintro e w52 ⟨v317,rfl,ho0,hb⟩;have HO318:=Aa.mk (Kd.Bp (Kd.Bj (Kd.Bj (Kd.Bj ho0 (Zq.lt HO295.out)) (Zq.lt HO299.out)) (Zq.lt HO314.out)) (Av (Zs.auHB)));replace HO295:=Zq.el HO295.out ho0 hb;replace HO299:=Zq.el HO299.out ho0 hb;replace HO314:=Zq.el HO314.out ho0 hb;replace HB:=Zq.st hb;(try clear hb);(try clear ho0)))
       go_ret3
       exact ⟨_,Zs.auR,by first|exact Kd.Es _ _ _ _ _|exact Kd.Fq _ _ _ _ _|exact Kd.Fz _ _ _ _ _|exact Kd.FB _ _ _ _ _|exact Kd.Fy _ _ _ _ _,Zs.auHB⟩
    case rest =>
     clear HC13
     obtain ⟨kq,x7_12,x8_12,rfl,HA,HJ12,HO_7,HB⟩:=hcut;cases kq with
     | zero=>exact absurd HA.out (by simp [Ad.j3])
     | succ kj12 =>
      have H:=HA.out;clear HA;simp only [Ad.j3] at H;obtain ⟨t324,A53,H⟩:=Zs.be H
      obtain ⟨c54,H⟩:=Zq.ip H;have LMc54:=Aa.mk c54;clear c54;(try rw [Option.bind_some] at H);generalize hyy:(t324++[x8_12]:List Int)=y327 at H;have Ny327:=Aa.mk hyy.symm;clear hyy;obtain ⟨t330,A55,H⟩:=Zs.be H;have HC56:=Aa.mk H;clear H;obtain ⟨Ao57,co57,eo57⟩:=Kd.AD HO_7.out;subst eo57
      go_upto_if 109 with (first|(go_at_call 87;(with_reducible refine (Be.calls _ _ x7_12 t324 _ ?side1 ?side2 A53.out).mono ?_);(case side1=>exact Zs.mvC ((Kd.Ac HO_7.out).2.2));(case side2=>exact (Kd.Ac HO_7.out).2.1);rintro e w58 ⟨v325,rfl,ho0,hb⟩;have HO326:=Aa.mk (Kd.Bp (Kd.Bj ho0 (Zq.lt HO_7.out)) (Av (Zs.auHB)));replace HO_7:=Zq.el HO_7.out ho0 hb;replace HB:=Zq.st hb;(try clear hb);(try clear ho0))|((with_reducible refine AW (b := .append) (xs:=#[.tmp 103,.tmp 105]) rfl ?_);(try (refine Dn (by rfl) ?_;dsimp only));at_builtin;refine Zq.ap (.tmp 103) (.tmp 105) 27 Tryz.underlying27 DQ v325 t324 x8_12 (fun k_=>some k_≠(.slice Ao57 x7_12.length co57:Value).ownBlock) (fun k_ hk=>Kd.DE (Zq.lt HO_7.out) k_ hk) ((Zs.mvR (Kd.AJ HO326.out (fun _ hk=>(by first|exact hk.2|exact trivial))))) LMc54.out ?_;intro v328 w59 ho hb hg hat;rw [← Ny327.out] at ho;replace HO_7:=Aa.mk (Kd.BV (ok:=(fun _=>True)) ((Zs.mvR HO_7.out)) hg hat);replace HB:=Aa.mk (hb);have HO329:=Aa.mk (ho);clear HO326;clear ho hb hg hat;obtain ⟨Ao60,co60,eo60⟩:=Kd.AD HO329.out;subst eo60)|(go_at_call 88;(with_reducible refine (B2.calls kj12 _ _ y327 t330 _ ?side1 ?side2 A55.out).mono ?_);(case side1=>exact Zs.mvC ((Kd.Ac HO329.out).2.2));(case side2=>exact (Kd.Ac HO329.out).2.1);rintro e w61 ⟨rfl,hb⟩;replace HO_7:=Zq.rb HO_7.out hb;replace HO329:=Zq.rb HO329.out hb;replace HB:=Zq.st hb;(try clear hb)))
      (try simp only [Act.put,List.setIfInBounds_toArray,List.set_cons_zero,List.set_cons_succ])
      go_cut [17] (fun v17 wc => ∃(kq:Nat) (x17_55:Int),v17 = .int .i64 x17_55∧Aa (Ad.j4 kq x7_12 x8_12 x17_55=some (r1,r2,r3))∧Aa (kq≤kj12)∧Aa (Kd.R (Kd.int .i64) 3 wc w.heap.size (fun _=>True) (.slice Ao57 x7_12.length co57) x7_12)∧Aa (Below w.heap.size w wc))
      case first =>
       have H:=HC56.out;clear HC56
       rcases Zq.ii H with ⟨c62,H⟩|⟨c62,H⟩
       ·have c62b0:=decide_eq_true c62;clear c62
        rw [c62b0]
        have H':=Aa.mk H;clear H;go_wp2
        go_meet
        case rel=>exact ⟨_,(wrap64 (-t330)),Zs.auS,H',⟨by have:=HJ2.out;have:=HJ12.out;first|omega|exact Nat.le_refl _⟩,⟨(Zs.mvR (Kd.AJ HO_7.out (fun _ hk=>trivial)))⟩,⟨Zs.auHB⟩⟩
       ·have c62b0:=decide_eq_false c62;clear c62
        rw [c62b0]
        have H':=Aa.mk H;clear H;go_wp2
        go_meet
        case rel=>exact ⟨_,(t330),Zs.auS,H',⟨by have:=HJ2.out;have:=HJ12.out;first|omega|exact Nat.le_refl _⟩,⟨(Zs.mvR (Kd.AJ HO_7.out (fun _ hk=>trivial)))⟩,⟨Zs.auHB⟩⟩
      case rest =>
       clear HC56
       obtain ⟨kq,x17_55,rfl,HA,HJ55,HO_7,HB⟩:=hcut;cases kq with
       | zero=>exact absurd HA.out (by simp [Ad.j4])
       | succ kj55 =>
        have H:=HA.out;clear HA;simp only [Ad.j4] at H;obtain ⟨y331,hyy⟩ : ∃y_:List Int,y_=(([]:List Int)):=⟨_,rfl⟩
        replace H:(Ad.l2 kj55 x8_12 x17_55 y331 x7_12 (x7_12.length:Int) 0)=some (r1,r2,r3):=Zs.auY
        have Ny331:=Aa.mk hyy;clear hyy;have H':=Aa.mk H;clear H
        go_wp2_with (((with_reducible refine Bg (N:=112) rfl ?_);(try (refine Dn (by rfl) ?_;dsimp only));refine Zq.li ([]:List Int) ?_;intro v332 w63 ho64 hb;(first|rw [← Ny331.out] at ho64|(simp only [Int.reduceToNat] at ho64;rw [← Ny331.out] at ho64));have HO333:=Aa.mk (Kd.Bp (Kd.Bj ho64 (Zq.lt HO_7.out)) (Av (Zs.auHB)));replace HO_7:=Zq.el HO_7.out ho64 hb;replace HB:=Zq.st hb;clear hb ho64))
        go_loopg [18,115] kj55 (fun kq v18 v115 w' => ∃(x18_4:List Int) (x115_4:Int),v115 = .int .i64 x115_4∧Aa (Ad.l2 kq x8_12 x17_55 x18_4 x7_12 (x7_12.length:Int) x115_4=some (r1,r2,r3))∧Aa (kq≤kj55)∧Aa (Kd.R (Kd.int .i64) 3 w' w.heap.size (fun k_=>some k_≠((.slice Ao57 x7_12.length co57):Value).ownBlock) v18 x18_4)∧Aa (Kd.R (Kd.int .i64) 3 w' w.heap.size (fun k_=>some k_≠(v18:Value).ownBlock) (.slice Ao57 x7_12.length co57) x7_12)∧Aa (Below w.heap.size w w'))
        case atStart=>exact ⟨(y331),(0),Zs.auS,H',⟨Nat.le_refl _⟩,⟨(Zs.mvR (Kd.AJ HO333.out (fun _ hk=>(by first|exact hk.2|exact trivial))))⟩,⟨(Zs.mvR (Kd.AJ HO_7.out (fun _ hk=>(by first|exact hk.2|exact trivial))))⟩,⟨Zs.auHB⟩⟩
        case round =>
         clear H'
         obtain ⟨x18_4,x115_4,rfl,HA,HK4,HO_18,HO_113,HB⟩:=hrel;cases gk with
         | zero=>exact absurd HA.out (by simp [Ad.l2])
         | succ k4 =>
          have H:=HA.out;clear HA;simp only [Ad.l2] at H
          rcases Zq.ii H with ⟨c65,H⟩|⟨c65,H⟩
          ·have c65b0:=decide_eq_true c65;clear c65
           obtain ⟨c66,H⟩:=Zq.ip H;have c66b0:=decide_eq_true c66;clear c66
           obtain ⟨c67,H⟩:=Zq.ip H;have c67b0:=decide_eq_true c67;clear c67
           by_cases c68:x17_55=0
           ·rw [if_pos c68] at H;exact absurd H (by simp)
           ·rw [if_neg c68] at H
            obtain ⟨c69,H⟩:=Zq.ip H;have LMc69:=Aa.mk c69;clear c69;(try rw [Option.bind_some] at H);generalize hyy:(x18_4++[wrap64 (Int.tdiv (rd x7_12 x115_4) x17_55)]:List Int)=y335 at H;have Ny335:=Aa.mk hyy.symm;clear hyy;have H':=Aa.mk H;clear H;obtain ⟨ad334,e334,hx334_0,p334,q334⟩:=Zq.at_ (Kd.Ac HO_113.out).2.2 x115_4;cases e334
            go_wp2_with (((with_reducible refine AW (b := .append) (xs:=#[.tmp 119,.tmp 123]) rfl ?_);(try (refine Dn (by rfl) ?_;dsimp only));at_builtin;refine Zq.ap (.tmp 119) (.tmp 123) 27 Tryz.underlying27 DQ u18 x18_4 (wrap64 (Int.tdiv (rd x7_12 x115_4) x17_55)) (fun k_=>some k_≠(.slice (some ad334) x7_12.length co57:Value).ownBlock) (fun k_ hk=>Kd.DE (Zq.lt HO_113.out) k_ hk) ((Zs.mvR HO_18.out)) LMc69.out ?_;intro v336 w70 ho hb hg hat;rw [← Ny335.out] at ho;replace HO_113:=Aa.mk (Kd.BV (ok:=(fun _=>True)) ((Zs.mvR (Kd.AJ HO_113.out (fun _ hk=>⟨trivial,hk⟩)))) hg hat);replace HB:=Aa.mk (hb);have HO337:=Aa.mk (ho);clear HO_18;clear ho hb hg hat))
            go_roundg k4
            case measure=>have:=HJ2.out;have:=HJ12.out;have:=HJ55.out;have:=HK4.out;omega
            case rel=>exact ⟨(y335),(wrap64 (x115_4+1)),Zs.auS,H',⟨by have:=HJ2.out;have:=HJ12.out;have:=HJ55.out;have:=HK4.out;omega⟩,⟨(Zs.mvR HO337.out)⟩,⟨(Zs.mvR (Kd.AJ HO_113.out (fun _ hk=>(by first|exact hk.2|exact trivial))))⟩,⟨Zs.auHB⟩⟩
          ·have c65b0:=decide_eq_false c65;clear c65
           rcases Zq.ii H with ⟨c71,H⟩|⟨c71,H⟩
           ·exact absurd H (by simp)
           ·simp only [Option.some.injEq,Prod.mk.injEq] at H;obtain ⟨rfl,rfl,rfl⟩:=H;go_wp2
            repeat (go_quiet (fail);try go_wp2)
            go_ret3
            exact ⟨_,Zs.auR,(Zs.mvR (Kd.AJ HO_18.out (fun _ hk=>trivial))),Zs.auHB⟩
def DH.f (k:Nat) (l0:List Int) (a1:Int):Option (Int):=if a1=0 then ((Bo.f k l0).bind fun t338=>(some (mn t338 (wrap64 ((l0.length:Int)-t338))))) else ((BX.f k l0 a1).bind fun t339=>(if t339=true then (if (l0.length:Int)=4 then ((AR.f k l0).bind fun t340=>((BJ.f k t340 a1).bind fun t341=>(if t341=true then ((AN.f k l0 a1).bind fun t342=>((Cw.f k (-1) (-1) a1).bind fun t343=>(if t342=t343 then (some 2) else (some 1)))) else (some 1)))) else (some 1)) else (some 0)))
theorem DH.calls (k:Nat) (A0:Option Addr) (c0:Nat) (l0:List Int) (a1:Int) (r:Int) (w:World) (hr0:Kd.C (Kd.int .i64) w A0 l0.length l0) (hc0:l0.length≤c0) (h:DH.f k l0 a1=some r) :
  Calls Tryz.prog 148 #[.slice A0 l0.length c0,.int .i64 a1] w fun e w'=>e = .returned (.int .i64 r)∧Below w.heap.size w w':=by
 have HR0:=Aa.mk hr0;have HC0:=Aa.mk hc0;clear hr0 hc0;have HB:=Aa.mk (Below.refl w.heap.size w);unfold DH.f at h;have H:=h;clear h
 rcases Zq.ii H with ⟨c3,H⟩|⟨c3,H⟩
 ·have c3b0:=beq_iff_eq.mpr c3;clear c3;obtain ⟨t338,A4,H⟩:=Zs.be H;obtain ⟨ji5,hji5⟩ : ∃j_:Int,(mn t338 (wrap64 ((l0.length:Int)-t338)))=j_:=⟨_,rfl⟩
  replace H:(some ji5)=some r:=by first|(rw [hji5] at H;exact H)|(simp only [hji5] at H ⊢;exact H)
  (try rw [hji5] at A4);have hji5_:(if (wrap64 ((l0.length:Int)-t338))<t338 then (wrap64 ((l0.length:Int)-t338)) else t338)=ji5:=hji5;obtain rfl:=Option.some.inj H
  go_enter Tryz.func148,Tryz.ntmps148
  go_wp2_with (((with_reducible refine Ab (f:=127) rfl ?_);refine Zq.gp Tryz.func127 (Bo.calls _ _ _ _ _ _ (Zs.mvC (HR0.out)) HC0.out A4.out) ?_;intro nd))
  go_ret
  exact ⟨by first|rfl|(simp [CU,CV]<;>rfl)|(simp only [← hji5];first|rfl|(simp [CU,CV]<;>rfl))|(simp [*,CU,CV]<;>rfl),Zs.auHB⟩
 ·have c3b0:=beq_eq_false_iff_ne.mpr c3;obtain ⟨t339,A6,H⟩:=Zs.be H
  by_cases c7:t339=true
  ·subst c7;rw [if_pos rfl] at H
   rcases Zq.ii H with ⟨c8,H⟩|⟨c8,H⟩
   ·have c8b0:=beq_iff_eq.mpr c8;clear c8;obtain ⟨t340,A9,H⟩:=Zs.be H;obtain ⟨t341,A10,H⟩:=Zs.be H
    by_cases c11:t341=true
    ·subst c11;rw [if_pos rfl] at H;obtain ⟨t342,A12,H⟩:=Zs.be H;obtain ⟨t343,A13,H⟩:=Zs.be H
     rcases Zq.ii H with ⟨c14,H⟩|⟨c14,H⟩
     ·have c14b0:=beq_iff_eq.mpr c14;clear c14;obtain rfl:=Option.some.inj H
      go_enter Tryz.func148,Tryz.ntmps148
      go_wp2_with (first|((with_reducible refine Ab (f:=74) rfl ?_);refine Zq.gp Tryz.func74 (BX.calls _ _ _ _ _ _ _ (Zs.mvC (HR0.out)) HC0.out A6.out) ?_;intro nd)|(go_at_call 65;(with_reducible refine (AR.calls k _ _ l0 t340 _ ?side1 ?side2 A9.out).mono ?_);(case side1=>exact Zs.mvC (HR0.out));(case side2=>exact HC0.out);rintro e w' ⟨rfl,⟨nd,rfl⟩⟩)|(go_at_call 128;(with_reducible refine (BJ.calls k t340 a1 true _ A10.out).mono ?_);rintro e w' ⟨rfl,⟨nd,rfl⟩⟩)|(go_at_call 129;(with_reducible refine (AN.calls k _ _ l0 a1 t342 _ ?side1 ?side2 A12.out).mono ?_);(case side1=>exact Zs.mvC (HR0.out));(case side2=>exact HC0.out);rintro e w' ⟨rfl,⟨nd,rfl⟩⟩)|(go_at_call 69;(with_reducible refine (Cw.calls k (-1) (-1) a1 t343 _ A13.out).mono ?_);rintro e w' ⟨rfl,⟨nd,rfl⟩⟩))
      go_ret
      exact ⟨Zs.auR,Zs.auHB⟩
     ·have c14b0:=beq_eq_false_iff_ne.mpr c14;obtain rfl:=Option.some.inj H
      go_enter Tryz.func148,Tryz.ntmps148
      go_wp2_with (first|((with_reducible refine Ab (f:=74) rfl ?_);refine Zq.gp Tryz.func74 (BX.calls _ _ _ _ _ _ _ (Zs.mvC (HR0.out)) HC0.out A6.out) ?_;intro nd)|(go_at_call 65;(with_reducible refine (AR.calls k _ _ l0 t340 _ ?side1 ?side2 A9.out).mono ?_);(case side1=>exact Zs.mvC (HR0.out));(case side2=>exact HC0.out);rintro e w' ⟨rfl,⟨nd,rfl⟩⟩)|(go_at_call 128;(with_reducible refine (BJ.calls k t340 a1 true _ A10.out).mono ?_);rintro e w' ⟨rfl,⟨nd,rfl⟩⟩)|(go_at_call 129;(with_reducible refine (AN.calls k _ _ l0 a1 t342 _ ?side1 ?side2 A12.out).mono ?_);(case side1=>exact Zs.mvC (HR0.out));(case side2=>exact HC0.out);rintro e w' ⟨rfl,⟨nd,rfl⟩⟩)|(go_at_call 69;(with_reducible refine (Cw.calls k (-1) (-1) a1 t343 _ A13.out).mono ?_);rintro e w' ⟨rfl,⟨nd,rfl⟩⟩))
      go_ret
      exact ⟨Zs.auR,Zs.auHB⟩
    ·replace c11:=Bool.eq_false_iff.mpr c11;subst c11;rw [if_neg (show ¬(false=true) by decide)] at H;obtain rfl:=Option.some.inj H
     go_enter Tryz.func148,Tryz.ntmps148
     go_wp2_with (first|((with_reducible refine Ab (f:=74) rfl ?_);refine Zq.gp Tryz.func74 (BX.calls _ _ _ _ _ _ _ (Zs.mvC (HR0.out)) HC0.out A6.out) ?_;intro nd)|(go_at_call 65;(with_reducible refine (AR.calls k _ _ l0 t340 _ ?side1 ?side2 A9.out).mono ?_);(case side1=>exact Zs.mvC (HR0.out));(case side2=>exact HC0.out);rintro e w' ⟨rfl,⟨nd,rfl⟩⟩)|(go_at_call 128;(with_reducible refine (BJ.calls k t340 a1 false _ A10.out).mono ?_);rintro e w' ⟨rfl,⟨nd,rfl⟩⟩))
     go_ret
     exact ⟨Zs.auR,Zs.auHB⟩
   ·have c8b0:=beq_eq_false_iff_ne.mpr c8;obtain rfl:=Option.some.inj H
    go_enter Tryz.func148,Tryz.ntmps148
    go_wp2_with (((with_reducible refine Ab (f:=74) rfl ?_);refine Zq.gp Tryz.func74 (BX.calls _ _ _ _ _ _ _ (Zs.mvC (HR0.out)) HC0.out A6.out) ?_;intro nd))
    go_ret
    exact ⟨Zs.auR,Zs.auHB⟩
  ·replace c7:=Bool.eq_false_iff.mpr c7;subst c7;rw [if_neg (show ¬(false=true) by decide)] at H;obtain rfl:=Option.some.inj H
   go_enter Tryz.func148,Tryz.ntmps148
   go_wp2_with (((with_reducible refine Ab (f:=74) rfl ?_);refine Zq.gp Tryz.func74 (BX.calls _ _ _ _ _ _ _ (Zs.mvC (HR0.out)) HC0.out A6.out) ?_;intro nd))
   go_ret
   exact ⟨Zs.auR,Zs.auHB⟩
def Br.l0:Nat→List Int→Int→List Int→Int→Int→Option (Int)
 | 0,_,_,_,_,_=>none
 | k+1,x0,x3,x12,x13,x14=>if x14<x13 then (if 0≤x14 then (if x14<(x12.length:Int) then ((DH.f k x0 (rd x12 x14)).bind fun t349=>(Br.l0 k x0 (mn x3 t349) x12 x13 (wrap64 (x14+1)))) else (none)) else (none)) else (some x3)
def Br.f (k:Nat) (l0:List Int):Option (Int):=(Ai.f k l0).bind fun t344=>(if t344=true then ((Bb.f k l0).bind fun t345=>(Br.l0 k l0 (l0.length:Int) t345 (t345.length:Int) 0)) else (some (-1)))
theorem Br.calls (k:Nat) (A0:Option Addr) (c0:Nat) (l0:List Int) (r:Int) (w:World) (hr0:Kd.C (Kd.int .i64) w A0 l0.length l0) (hc0:l0.length≤c0) (h:Br.f k l0=some r) :
  Calls Tryz.prog 104 #[.slice A0 l0.length c0] w fun e w'=>e = .returned (.int .i64 r)∧Below w.heap.size w w':=by
 have HR0:=Aa.mk hr0;have HC0:=Aa.mk hc0;clear hr0 hc0;have HB:=Aa.mk (Below.refl w.heap.size w);unfold Br.f at h;have H:=h;clear h;obtain ⟨t344,A2,H⟩:=Zs.be H
 by_cases c3:t344=true
 ·subst c3;rw [if_pos rfl] at H;obtain ⟨t345,A4,H⟩:=Zs.be H;have H':=Aa.mk H;clear H
  go_enter Tryz.func104,Tryz.ntmps104
  go_wp2_with (first|((with_reducible refine Ab (f:=59) rfl ?_);refine Zq.gb Tryz.func59 (Ai.calls _ _ _ _ _ _ (Zs.mvC (HR0.out)) HC0.out A2.out) ?_;intro w5 hb;replace HB:=Zq.st hb;(try clear hb))|((with_reducible refine Ab (f:=147) rfl ?_);refine Zq.gc (some 12) Tryz.func147 (Bb.calls _ _ _ _ _ _ (Zs.mvC ((Kd.Bw HR0.out HB.out))) HC0.out A4.out) ?_;rintro e w6 ⟨v346,rfl,ho0,hb⟩;refine ⟨_,rfl,?_⟩;have HO347:=Zq.lw ho0;replace HB:=Zq.st hb;(try clear hb);(try clear ho0);obtain ⟨Ao7,co7,eo7⟩:=Kd.AD HO347.out;subst eo7))
  go_loopg [3,14] k (fun kq v3 v14 w' => ∃(x3_1:Int) (x14_1:Int),v3 = .int .i64 x3_1∧v14 = .int .i64 x14_1∧Aa (Br.l0 kq l0 x3_1 t345 (t345.length:Int) x14_1=some r)∧Aa (kq≤k)∧Aa (Kd.R (Kd.int .i64) 3 w' w.heap.size (fun _=>True) (.slice Ao7 t345.length co7) t345)∧Aa (Below w.heap.size w w'))
  case atStart=>exact ⟨((l0.length:Int)),(0),Zs.auS,Zs.auS,H',⟨Nat.le_refl _⟩,⟨(Zs.mvR HO347.out)⟩,⟨Zs.auHB⟩⟩
  case round =>
   clear H'
   obtain ⟨x3_1,x14_1,rfl,rfl,HA,HK1,HO_12,HB⟩:=hrel;cases gk with
   | zero=>exact absurd HA.out (by simp [Br.l0])
   | succ k1 =>
    have H:=HA.out;clear HA;simp only [Br.l0] at H
    rcases Zq.ii H with ⟨c8,H⟩|⟨c8,H⟩
    ·have c8b0:=decide_eq_true c8;clear c8
     obtain ⟨c9,H⟩:=Zq.ip H;have c9b0:=decide_eq_true c9;clear c9
     obtain ⟨c10,H⟩:=Zq.ip H;have c10b0:=decide_eq_true c10;clear c10;obtain ⟨t349,A11,H⟩:=Zs.be H;obtain ⟨ji12,hji12⟩ : ∃j_:Int,(mn x3_1 t349)=j_:=⟨_,rfl⟩
     replace H:(Br.l0 k1 l0 ji12 t345 (t345.length:Int) (wrap64 (x14_1+1)))=some r:=by first|(rw [hji12] at H;exact H)|(simp only [hji12] at H ⊢;exact H)
     (try rw [hji12] at A11);have hji12_:(if t349<x3_1 then t349 else x3_1)=ji12:=hji12;have H':=Aa.mk H;clear H;obtain ⟨ad348,e348,hx348_0,p348,q348⟩:=Zq.at_ (Kd.Ac HO_12.out).2.2 x14_1;cases e348
     go_wp2_with (((with_reducible refine Ab (f:=148) rfl ?_);refine Zq.gb Tryz.func148 (DH.calls _ _ _ _ _ _ _ (Zs.mvC ((Kd.Bw HR0.out HB.out))) HC0.out A11.out) ?_;intro w13 hb;replace HO_12:=Zq.rb HO_12.out hb;replace HB:=Zq.st hb;(try clear hb)))
     go_roundg k1
     case measure=>have:=HK1.out;omega
     case rel=>exact ⟨(ji12),(wrap64 (x14_1+1)),(by first|rfl|(simp;done)|(simp only [← hji12]<;>(first|rfl|simp))|(simp [*];done)),Zs.auS,H',⟨by have:=HK1.out;omega⟩,⟨(Zs.mvR HO_12.out)⟩,⟨Zs.auHB⟩⟩
    ·have c8b0:=decide_eq_false c8;clear c8;obtain rfl:=Option.some.inj H;go_wp2;go_ret
     exact ⟨Zs.auR,Zs.auHB⟩
 ·replace c3:=Bool.eq_false_iff.mpr c3;subst c3;rw [if_neg (show ¬(false=true) by decide)] at H;obtain rfl:=Option.some.inj H
  go_enter Tryz.func104,Tryz.ntmps104
  go_wp2_with (((with_reducible refine Ab (f:=59) rfl ?_);refine Zq.gb Tryz.func59 (Ai.calls _ _ _ _ _ _ (Zs.mvC (HR0.out)) HC0.out A2.out) ?_;intro w14 hb;replace HB:=Zq.st hb;(try clear hb)))
  go_ret
  exact ⟨Zs.auR,Zs.auHB⟩
section
open Locg
theorem Fs (n:Int) (h0:0≤n) (hn:n<4611686018427387904) : ∀(d:Nat) (x bit:Int) (k:Nat),0≤x→x*x≤n→n<(x+2*bit)*(x+2*bit)→x+2*bit≤2147483648→bit=2 ^ d→d+1<k→
  AA.l0 k n x bit=some (isq n,isq n*isq n==n):=by
 intro d
 have stop : ∀(x:Int) (k:Nat),0≤x→x*x≤n→n<(x+1)*(x+1)→0<k→AA.l0 k n x 0=some (isq n,isq n*isq n==n):=by
  intro x k hx hl hg hk;obtain ⟨k,rfl⟩ : ∃m,k=m+1:=⟨k-1,by omega⟩
  simp only [AA.l0]
  have hb:x<2147483648:=by
   rcases Int.lt_or_le x 2147483648 with h|h
   ·exact h
   ·have:=Em (by omega) h;omega
  have hm:wrap64 (x*x)=x*x:=w64' (sq_nonneg x) (by omega);rw [if_neg (by omega),hm,ET hx hl hg]
 induction d with
 | zero =>
  intro x bit k hx hl hg hB hb hk;obtain ⟨k,rfl⟩ : ∃m,k=m+1:=⟨k-1,by omega⟩
  obtain rfl:bit=1:=by simpa using hb
  simp only [AA.l0];have hs:=Em (a:=x+1) (b:=2147483648) (by omega) (by omega);rw [if_pos (by omega),w64 (x:=x+1) (by omega) (by omega),w64' (x:=(x+1)*(x+1)) (sq_nonneg _) (by omega)];have e:wrap64 (Int.tdiv 1 2)=0:=by decide +kernel
  rw [e]
  by_cases c:(x+1)*(x+1)≤n
  ·rw [if_pos c];exact stop _ _ (by omega) c (by rw [show x+1+1=x+2*1 from by omega];exact hg) (by omega)
  ·rw [if_neg c];exact stop _ _ hx hl (by omega) (by omega)
 | succ d ih =>
  intro x bit k hx hl hg hB hb hk;obtain ⟨k,rfl⟩ : ∃m,k=m+1:=⟨k-1,by omega⟩
  have hp:(0:Int)<2 ^ d:=Int.pow_pos (by omega);obtain ⟨c2,hc2⟩ : ∃c2:Int,c2=2 ^ d:=⟨_,rfl⟩
  have hb2:bit=2*c2:=by rw [hb,Int.pow_succ,hc2];omega
  subst hb2;simp only [AA.l0];have hs:=Em (a:=x+2*c2) (b:=2147483648) (by omega) (by omega);have e:wrap64 (Int.tdiv (2*c2) 2)=c2:=by rw [Ih (by omega),w64 (by omega) (by omega)];omega
  rw [if_pos (by omega),w64 (x:=x+2*c2) (by omega) (by omega),w64' (x:=(x+2*c2)*(x+2*c2)) (sq_nonneg _) (by omega),e]
  by_cases c:(x+2*c2)*(x+2*c2)≤n
  ·rw [if_pos c];exact ih _ _ _ (by omega) c (by rw [show x+2*c2+2*c2=x+2*(2*c2) from by omega];exact hg) (by omega) hc2 (by omega)
  ·rw [if_neg c];exact ih _ _ _ hx hl (by omega) (by omega) hc2 (by omega)
theorem Gq (n:Int) (h0:0≤n) (hn:n<4611686018427387904) (k:Nat) (hk:31<k):AA.f k n=some (isq n,isq n*isq n==n):=by
 unfold AA.f
 rw [if_neg (by omega)];exact Fs n h0 hn 30 0 1073741824 k (by omega) (by omega) (by omega) (by omega) (by decide) (by omega)
theorem Ns:(Tryz.prog.info? 3).map (fun i=>(i.zero,i.size,i.bytes))=some (some (.int .i64 0),1,8):=by kernel_rfl
def FR (Bm Bl Bt:Nat) (many:Int) (xs:List Int) (w:World):Prop :=
 ∃v,w.heap[Bl]? = some (.cells #[v] 27 (0,0))∧w.heap[Bm]? = some (.cells #[.int .i64 many] 3 (0,0))∧
  w.heap[Bt]? = some (.cells #[.func (.func 109) #[] #[.pointer (some ⟨Bl,0,none⟩),.pointer (some ⟨Bm,0,none⟩),.pointer (some ⟨Bt,0,none⟩)]] 68 (0,0))∧
  w.ownsRow (Bm+1) 3 1 v xs.length (nums .i64 xs)
theorem FR.drewN {Bm Bl Bt:Nat} {many:Int} {xs:List Int} {w:World} (h:FR Bm Bl Bt many xs w) (n:Nat):FR Bm Bl Bt many xs (w.drewN n):=h
theorem FI {w:World} {b:Nat} {v:Value} {xs:List Value} {g t:Nat} {cells:Array Value} (hown:w.ownsRow b 3 1 v xs.length xs) (hg:w.heap[g]? = some (.cells cells t (0,0))) (ht:t≠3):v.ownBlock≠some g:=by
 intro e;obtain ⟨cells',hc⟩:=DR hown g e;rw [hc] at hg;injection hg with hg
 injection hg with _ hg
 exact ht hg.symm
theorem Lg {Bm Bl Bt:Nat} {many:Int} {xs:List Int} {y:Int} {W w1:World} {v v1:Value} (hv:W.heap[Bl]? = some (.cells #[v] 27 (0,0))) (hmn:W.heap[Bm]? = some (.cells #[.int .i64 many] 3 (0,0)))
  (ht:W.heap[Bt]? = some (.cells #[.func (.func 109) #[] #[.pointer (some ⟨Bl,0,none⟩),.pointer (some ⟨Bm,0,none⟩),.pointer (some ⟨Bt,0,none⟩)]] 68 (0,0)))
  (hown:W.ownsRow (Bm+1) 3 1 v xs.length (nums .i64 xs)) (hown1:w1.ownsRow (Bm+1) 3 1 v1 (xs++[y]).length (nums .i64 (xs++[y]))) (hg:W.grownBy w1 v.ownBlock) :
  FR Bm Bl Bt many (xs++[y]) (w1.setCell ⟨Bl,0,none⟩ v1):=by
 have hl:xs.length=(nums .i64 xs).length:=(DU _ _).symm;have hl1:(xs++[y]).length=(nums .i64 (xs++[y])).length:=(DU _ _).symm;have nl:=FI (by rw [← hl];exact hown) hv (by decide);have nt:=FI (by rw [← hl];exact hown) ht (by decide);have nm:v.ownBlock≠some Bm:=fun e=>by have:=E3 hown Bm e;omega
 have hv':=(hg.block Bl (lt_of_block hv) (fun e=>nl e.symm)).trans hv;have hm':=(hg.block Bm (lt_of_block hmn) (fun e=>nm e.symm)).trans hmn;have ht':=(hg.block Bt (lt_of_block ht) (fun e=>nt e.symm)).trans ht;have n1:=FI (by rw [← hl1];exact hown1) hv' (by decide);have dm:Bm≠Bl:=fun e=>by subst e;rw [hv] at hmn;simp at hmn
 have dt:Bt≠Bl:=fun e=>by subst e;rw [hv] at ht;simp at ht
 refine ⟨v1,one_setCell hv',(Below.heap_setCell _ _ _ _ dm).trans hm',(Below.heap_setCell _ _ _ _ dt).trans ht',E8 hown1 (fun k hk=>Below.heap_setCell _ _ _ _ (fun e=>n1 (by rw [hk,e])))⟩
theorem sq_drop {Bm Bl Bt:Nat} {many:Int} {xs:List Int} {y:Int} {W:World} {g c:Nat} (h:FR Bm Bl Bt many (xs++[y]) W) (hv:W.heap[Bl]? = some (.cells #[.slice (some ⟨g,0,none⟩) (xs++[y]).length c] 27 (0,0))) :
  FR Bm Bl Bt many xs (W.setCell ⟨Bl,0,none⟩ (.slice (some ⟨g,0,none⟩) xs.length c)):=by
 obtain ⟨v,hv0,hmn,ht,hown⟩:=h;obtain rfl:v = .slice (some ⟨g,0,none⟩) (xs++[y]).length c:=by rw [hv] at hv0;simpa using hv0.symm
 have hl1:(xs++[y]).length=(nums .i64 (xs++[y])).length:=(DU _ _).symm;have n1:=FI (by rw [← hl1];exact hown) hv (by decide);have dm:Bm≠Bl:=fun e=>by subst e;rw [hv] at hmn;simp at hmn
 have dt:Bt≠Bl:=fun e=>by subst e;rw [hv] at ht;simp at ht
 have hgl:g≠Bl:=fun e=>n1 (by rw [e];rfl)
 refine ⟨_,one_setCell hv,(Below.heap_setCell _ _ _ _ dm).trans hmn,(Below.heap_setCell _ _ _ _ dt).trans ht,?_⟩
 rcases hown.2 with ⟨h',_⟩|⟨g',cap',cur,h',hb,hh,hnc,hcp,hcs,htake⟩
 ·cases h'
 ·simp only [Value.slice.injEq,Option.some.injEq,Addr.mk.injEq,and_true,true_and] at h';obtain ⟨rfl,rfl⟩:=h';refine ⟨by simp [nums],.inr ⟨g,c,cur,rfl,hb,(Below.heap_setCell _ _ _ _ hgl).trans hh,by simp at hnc;omega,hcp,hcs,?_⟩⟩;have:=congrArg (List.take xs.length) htake;rw [List.take_take] at this
  simpa [nums] using this
theorem KB {Bm Bl:Nat} {xs:List Int} {W w1:World} {v:Value} (hv:W.heap[Bl]? = some (.cells #[v] 27 (0,0))) (hown:W.ownsRow (Bm+1) 3 1 v xs.length (nums .i64 xs)) (hg:W.grownBy w1 v.ownBlock) :
  w1.cell? ⟨Bl,0,none⟩=some v∧w1.frozen? ⟨Bl,0,none⟩=false:=by
 have hl:xs.length=(nums .i64 xs).length:=(DU _ _).symm;have nl:=FI (by rw [← hl];exact hown) hv (by decide);have hv':=(hg.block Bl (lt_of_block hv) (fun e=>nl e.symm)).trans hv;exact ⟨cell_of_one hv',free_of_one hv'⟩
theorem sq_root (n:Int) (h0:0≤n) (hn:n≤5000) : ∃r,0≤r∧r≤71∧isq n=r∧AA.f 32 n=some (r,decide (r*r=n)):=by
 refine ⟨isq n,Ey n,?_,rfl,?_⟩
 ·have:=OB (b:=71) h0 (by omega) (by omega);omega
 ·rw [Gq n h0 (by omega) 32 (by omega)];rfl
theorem CA {p:Prop} (h:p):Hid p:=Lib.hid h
set_option maxHeartbeats 1600000 in
theorem sq_base (Bm Bl Bt:Nat) (many low left:Int) (xs:List Int) (w:World) (h:FR Bm Bl Bt many xs w) (hm:(xs.length:Int)+1=many) (hM:many≤4) (h0:0≤low) (hL:low≤5000) (hl0:0≤left) (hl:left≤5000) (hlt:Bm<Bl) (hlt2:Bm<Bt) :
  Calls Tryz.prog 109 #[.int .i64 low,.int .i64 left,.pointer (some ⟨Bl,0,none⟩),.pointer (some ⟨Bm,0,none⟩),.pointer (some ⟨Bt,0,none⟩)] w fun e w' =>
   e = .returned (.bool (sqs 0 low left).isSome)∧FR Bm Bl Bt many (xs++(sqs 0 low left).getD []) w'∧Below Bm w w':=by
 have hi:=h;obtain ⟨v,hv,hmn,ht,hown⟩:=h;obtain ⟨A,c,rfl⟩:=DC hown;have cL:=cell_of_one hv;have fL:=free_of_one hv;have cM:=cell_of_one hmn;have e1:(((xs.length:Nat):Int)==many-1)=true:=by rw [beq_iff_eq];omega
 obtain ⟨r,hr0,hr1,hr,hsq⟩:=sq_root left hl0 hl;simp only [sqs,hr];have HI:=CA hi;have HV:=CA hv;have HM:=CA hmn;have HT:=CA ht;have HO:=CA hown;have hxl:xs.length≤3:=by omega
 have hM1:1≤many:=by omega
 have hB:Bm<w.heap.size:=lt_of_block hmn;clear hi hv hmn ht hown hr hm
 by_cases c1:r*r=left
 ·rw [decide_eq_true c1] at hsq;have HS:=CA hsq;clear hsq
  by_cases c2:low≤r
  ·have c2b:decide (low≤r)=true:=decide_eq_true c2;rw [if_pos ⟨c1,c2⟩];clear c1
   go_enter Tryz.func109,Tryz.ntmps109
   go_wp2_with (first|(go_at_call 110;refine (AA.calls 32 left r true _ HS.out).mono ?_;rintro e w' ⟨rfl,⟨n,rfl⟩⟩)|(at_builtin;go_loud (refine El (w0:=w) (Bm+1) rfl (.tmp 27) (.tmp 29) 27 3 .i64 8 rfl Tryz.underlying27 Ns (by decide) (.slice A xs.length c) xs r rfl rfl HO.out (As (Below.refl _ _) _) (by simp;omega) (by omega) ?_;intro v1 w1 hown1 hB1 hg1 hat1;clear hat1;obtain ⟨A1,k1,rfl⟩:=DC hown1;have HV1:=CA (Lg (hg:=hg1) (hv:=by exact HV.out) (hmn:=by exact HM.out) (ht:=by exact HT.out) (hown:=by exact HO.out) (hown1:=hown1));obtain ⟨cL1,fL1⟩:=KB (hg:=hg1) (hv:=by exact HV.out) (hown:=by exact HO.out);clear hown1 hg1)))
   go_ret
   exact ⟨rfl,by simpa using HV1.out,(hB1.setCell (show Bm+1≤Bl by omega) _).mono (by omega)⟩
  ·have c2b:decide (low≤r)=false:=decide_eq_false c2;rw [if_neg (fun h=>c2 h.2)];clear c1
   go_enter Tryz.func109,Tryz.ntmps109
   go_wp2_with (first|(go_at_call 110;refine (AA.calls 32 left r true _ HS.out).mono ?_;rintro e w' ⟨rfl,⟨n,rfl⟩⟩)|fail)
   go_ret
   exact ⟨rfl,by simpa using HI.out.drewN n,As (Below.refl _ _) _⟩
 ·rw [decide_eq_false c1] at hsq;rw [if_neg (fun h=>c1 h.1)];have HS:=CA hsq;clear hsq c1
  go_enter Tryz.func109,Tryz.ntmps109
  go_wp2_with (first|(go_at_call 110;refine (AA.calls 32 left r false _ HS.out).mono ?_;rintro e w' ⟨rfl,⟨n,rfl⟩⟩)|fail)
  go_ret
  exact ⟨rfl,by simpa using HI.out.drewN n,As (Below.refl _ _) _⟩
def JA (Bm Bl Bt:Nat) (many:Int) (m:Nat):Prop := ∀(low left:Int) (xs:List Int) (w:World),FR Bm Bl Bt many xs w→(xs.length:Int)+m+1=many→0≤low→low≤5000→0≤left→left≤5000→
  Calls Tryz.prog 109 #[.int .i64 low,.int .i64 left,.pointer (some ⟨Bl,0,none⟩),.pointer (some ⟨Bm,0,none⟩),.pointer (some ⟨Bt,0,none⟩)] w fun e w' =>
   e = .returned (.bool (sqs m low left).isSome)∧FR Bm Bl Bt many (xs++(sqs m low left).getD []) w'∧Below Bm w w'
def SqYes (Bm Bl Bt:Nat) (many x left:Int) (xs res:List Int):Prop := ∀w:World,FR Bm Bl Bt many (xs++[x]) w→
  Calls Tryz.prog 109 #[.int .i64 x,.int .i64 (left-x*x),.pointer (some ⟨Bl,0,none⟩),.pointer (some ⟨Bm,0,none⟩),.pointer (some ⟨Bt,0,none⟩)] w fun e w' =>
   e = .returned (.bool true)∧FR Bm Bl Bt many (xs++x::res) w'∧Below Bm w w'
def SqNo (Bm Bl Bt:Nat) (many x left:Int) (xs:List Int):Prop := ∀w:World,FR Bm Bl Bt many (xs++[x]) w→
  Calls Tryz.prog 109 #[.int .i64 x,.int .i64 (left-x*x),.pointer (some ⟨Bl,0,none⟩),.pointer (some ⟨Bm,0,none⟩),.pointer (some ⟨Bt,0,none⟩)] w fun e w' =>
   e = .returned (.bool false)∧(∃g c,w'.heap[Bl]? = some (.cells #[.slice (some ⟨g,0,none⟩) (xs.length+1) c] 27 (0,0))∧xs.length+1≤c∧c≤9223372036854775807∧FR Bm Bl Bt many (xs++[x]) w')∧Below Bm w w'
theorem sq_yes {Bm Bl Bt:Nat} {many:Int} {m:Nat} (IH:JA Bm Bl Bt many m) {x left:Int} {xs res:List Int} (hm:(xs.length:Int)+(m+1)+1=many) (h0:0≤x) (h1:x≤5000) (h2:x*x≤left) (h3:left≤5000) (hs:sqs m x (left-x*x)=some res):SqYes Bm Bl Bt many x left xs res:=by
 intro w hw;have:=IH x (left-x*x) (xs++[x]) w hw (by simp;omega) h0 h1 (by omega) (by have:=sq_nonneg x;omega);rw [hs] at this
 simpa using this
theorem sq_no {Bm Bl Bt:Nat} {many:Int} {m:Nat} (IH:JA Bm Bl Bt many m) {x left:Int} {xs:List Int} (hm:(xs.length:Int)+(m+1)+1=many) (h0:0≤x) (h1:x≤5000) (h2:x*x≤left) (h3:left≤5000) (hs:sqs m x (left-x*x)=none):SqNo Bm Bl Bt many x left xs:=by
 intro w hw;have:=IH x (left-x*x) (xs++[x]) w hw (by simp;omega) h0 h1 (by omega) (by have:=sq_nonneg x;omega);rw [hs] at this;refine this.mono ?_;rintro e w' ⟨he,hi,hb⟩;simp only [Option.getD_none,List.append_nil] at hi;refine ⟨by simpa using he,?_,hb⟩;have hi0:=hi;obtain ⟨v,hv,_,_,hown⟩:=hi;obtain ⟨g,c,rfl,_⟩:=hown.form (by simp);refine ⟨g,c,by simpa using hv,?_,?_,hi0⟩
 ·rcases hown.2 with ⟨h',_⟩|⟨g',cap',cur,h',_,_,hn,hc,_⟩
  ·cases h'
  ·simp only [Value.slice.injEq,true_and] at h';obtain ⟨_,rfl⟩:=h';simpa using hn
 ·rcases hown.2 with ⟨h',_⟩|⟨g',cap',cur,h',_,_,hn,hc,_⟩
  ·cases h'
  ·simp only [Value.slice.injEq,true_and] at h';obtain ⟨_,rfl⟩:=h';simpa [maxLen] using hc
theorem LO {Bm Bt:Nat} {xs:List Int} {W w1:World} {v u:Value} (ht:W.heap[Bt]? = some (.cells #[u] 68 (0,0))) (hown:W.ownsRow (Bm+1) 3 1 v xs.length (nums .i64 xs)) (hg:W.grownBy w1 v.ownBlock) :
  w1.cell? ⟨Bt,0,none⟩=some u:=by
 have hl:xs.length=(nums .i64 xs).length:=(DU _ _).symm;have nl:=FI (by rw [← hl];exact hown) ht (by decide);exact cell_of_one ((hg.block Bt (lt_of_block ht) (fun e=>nl e.symm)).trans ht)
set_option maxHeartbeats 4000000 in
theorem sq_step (Bm Bl Bt:Nat) (many:Int) (hM:many≤4) (hlt:Bm<Bl) (hlt2:Bm<Bt) (m:Nat) (IH:JA Bm Bl Bt many m):JA Bm Bl Bt many (m+1):=by
 intro low left xs w h hm h0 hL hl0 hl;have hi:=h;obtain ⟨v,hv,hmn,ht,hown⟩:=h;obtain ⟨A,c,rfl⟩:=DC hown;have cL:=cell_of_one hv;have fL:=free_of_one hv;have cM:=cell_of_one hmn;have e1:(((xs.length:Nat):Int)==many-1)=false:=by rw [beq_eq_false_iff_ne];omega
 have hxl:xs.length≤3:=by omega
 have hM1:1≤many:=by omega
 have HI:=CA hi;have HX0:Hid (¬Bt=Bl):=CA (fun e=>by subst e;rw [hv] at ht;simp at ht);have HE:=CA hm;have HIH:=CA IH;clear hi hv hmn ht hown hm IH
 go_enter Tryz.func109,Tryz.ntmps109
 go_wp2;clear cL fL cM
 go_loopw [10] (fun x wr => ∃xi:Int,x = .int .i64 xi∧low≤xi∧Hid (xi≤left+1∨xi=low)∧Hid (FR Bm Bl Bt many xs wr)∧Hid (sqs (m+1) low left=DN (fun x=>sqs m x (left-x*x)) (m+2) left (left+2-xi).toNat xi)∧Below Bm w wr) (fun x _=>(left+2-intOf x).toNat)
 case atStart=>exact ⟨low,rfl,Int.le_refl _,CA (.inr rfl),HI,CA rfl,Below.refl _ _⟩
 case round =>
  obtain ⟨xi,rfl,hlx,HX,HW,HF,hB⟩:=hrel;have hw:=HW.out;obtain ⟨v,hv,hmn,ht,hown⟩:=hw;obtain ⟨A,c,rfl⟩:=DC hown;have cL:=cell_of_one hv;have fL:=free_of_one hv;have cM:=cell_of_one hmn;have hx5:xi≤5001:=by rcases HX.out with h|h<;>omega
  have hs:=sq_nonneg xi;have hS:=Em (show 0≤xi by omega) hx5;have em:many-(xs.length:Int)=m+2:=by have:=HE.out;omega
  have hmm:(m:Int)+2≤4:=by have:=HE.out;omega
  have hp0:0≤xi*xi*(m+2):=Int.mul_nonneg hs (by omega);have hp1:xi*xi*(m+2)≤25010001*4:=Dr hs (by omega) (by omega) hmm;have w1:wrap64 (xi*xi)=xi*xi:=w64 (by omega) (by omega);have w2:wrap64 (many-(xs.length:Int))=m+2:=by rw [em];exact w64 (by omega) (by omega)
  have w3:wrap64 (xi*xi*(m+2))=xi*xi*(m+2):=w64 (by omega) (by omega);have HV:=CA hv;have HM:=CA hmn;have HT:=CA ht;have HO:=CA hown;have HBB:Hid (Bm+1≤wr.heap.size):=CA (lt_of_block hmn);have H88:Hid ((xs.length+1)*8≤140737488355328):=CA (by omega);clear hv hmn ht hown hS hp0 hp1
  by_cases c1:xi*xi*(m+2)≤left
  ·have hbd:=D3 (c:=(m:Int)+2) (by omega) (by omega) c1;have c1b:decide (xi*xi*((m:Int)+2)≤left)=true:=decide_eq_true c1;have C1:=CA c1;clear c1;have w4:wrap64 (left-xi*xi)=left-xi*xi:=w64 (by omega) (by omega);cases hcase:sqs m xi (left-xi*xi) with
   | some res =>
    have HY:=CA (sq_yes HIH.out (xs:=xs) (many:=many) (x:=xi) (left:=left) (res:=res) HE.out (by omega) (by omega) hbd.1 (by omega) hcase);have hfin:sqs (m+1) low left=some (xi::res):=by rw [HF.out];exact FH (by omega) (by omega) C1.out hcase
    have HN:=CA hfin;have hne : ¬Bt=Bl:=HX0.out;have hne2 : ¬Bl=Bt:=fun h=>hne h.symm
    have hxe:xi≤left:=hbd.2;clear hcase hfin hbd
    go_wp2_with (first|(at_builtin;refine El (w0:=wr) (Bm+1) rfl (.tmp 50) (.tmp 52) 27 3 .i64 8 rfl Tryz.underlying27 Ns (by decide) (.slice A xs.length c) xs xi rfl rfl HO.out (Below.refl _ _) HBB.out H88.out ?_;intro v1 w1 hown1 hB1 hg1 hat1;clear hat1;obtain ⟨A1,k1,rfl⟩:=DC hown1;have HV1:=CA (Lg (hg:=hg1) (hv:=by exact HV.out) (hmn:=by exact HM.out) (ht:=by exact HT.out) (hown:=by exact HO.out) (hown1:=hown1));obtain ⟨cL1,fL1⟩:=KB (hg:=hg1) (hv:=by exact HV.out) (hown:=by exact HO.out);have cT1:=LO (u := .func (.func 109) #[] #[.pointer (some ⟨Bl,0,none⟩),.pointer (some ⟨Bm,0,none⟩),.pointer (some ⟨Bt,0,none⟩)]) (xs:=xs) (W:=wr) (v := .slice A xs.length c) HT.out HO.out hg1;clear hown1 hg1 cL fL)|(go_at_call 109;refine (HY.out _ (by simpa using HV1.out)).mono ?_;rintro e w2 ⟨rfl,hI2,hB2⟩;have HI2:=CA hI2;clear hI2))
    go_ret
    rw [HN.out];exact ⟨rfl,by simpa using HI2.out,hB.trans (((hB1.setCell (show Bm+1≤Bl by omega) _).mono (by omega)).trans (by simpa using hB2))⟩
   | none =>
    have HY:=CA (sq_no HIH.out (xs:=xs) (many:=many) (x:=xi) (left:=left) HE.out (by omega) (by omega) hbd.1 (by omega) hcase);have hfin:=(HF.out).trans (Fi (by omega) (by omega) C1.out hcase);have HN:=CA hfin;have hne : ¬Bt=Bl:=HX0.out;have hne2 : ¬Bl=Bt:=fun h=>hne h.symm
    have hxe:xi≤left:=hbd.2;clear hcase hfin hbd
    go_wp2_with (first|(at_builtin;refine El (w0:=wr) (Bm+1) rfl (.tmp 50) (.tmp 52) 27 3 .i64 8 rfl Tryz.underlying27 Ns (by decide) (.slice A xs.length c) xs xi rfl rfl HO.out (Below.refl _ _) HBB.out H88.out ?_;intro v1 w1 hown1 hB1 hg1 hat1;clear hat1;obtain ⟨A1,k1,rfl⟩:=DC hown1;have HV1:=CA (Lg (hg:=hg1) (hv:=by exact HV.out) (hmn:=by exact HM.out) (ht:=by exact HT.out) (hown:=by exact HO.out) (hown1:=hown1));obtain ⟨cL1,fL1⟩:=KB (hg:=hg1) (hv:=by exact HV.out) (hown:=by exact HO.out);have cT1:=LO (u := .func (.func 109) #[] #[.pointer (some ⟨Bl,0,none⟩),.pointer (some ⟨Bm,0,none⟩),.pointer (some ⟨Bt,0,none⟩)]) (xs:=xs) (W:=wr) (v := .slice A xs.length c) HT.out HO.out hg1;clear hown1 hg1 cL fL)|(go_at_call 109;refine (HY.out _ (by simpa using HV1.out)).mono ?_;rintro e w2 ⟨rfl,⟨g2,k2,hv2,hk2,hk3,hI2⟩,hB2⟩;have cL2:=cell_of_one hv2;have fL2:=free_of_one hv2;have HI2:=CA hI2;have HV2:=CA hv2;clear hI2 hv2))
    go_roundw
    case rel=>exact ⟨xi+1,by go_num,by omega,CA (.inl (by omega)),CA (by have:=sq_drop (y:=xi) HI2.out (by simpa using HV2.out);simpa using this),HN,(hB.trans (((hB1.setCell (show Bm+1≤Bl by omega) _).mono (by omega)).trans (by simpa using hB2))).setCell (show Bm≤Bl by omega) _⟩
    case measure=>simp [intOf];omega
  ·have c1b:decide (xi*xi*((m:Int)+2)≤left)=false:=decide_eq_false c1;have hfin:sqs (m+1) low left=none:=by rw [HF.out];exact DT _ c1
   have HN:=CA hfin;clear c1 hfin;go_wp2;go_ret
   rw [HN.out];exact ⟨rfl,by simpa using HW.out,hB⟩
theorem sq_all (Bm Bl Bt:Nat) (many:Int) (hM:many≤4) (hlt:Bm<Bl) (hlt2:Bm<Bt) : ∀m,JA Bm Bl Bt many m
 | 0=>fun low left xs w h hm h0 hL hl0 hl=>sq_base Bm Bl Bt many low left xs w h (by simpa using hm) hM h0 hL hl0 hl hlt hlt2
 | m+1=>sq_step Bm Bl Bt many hM hlt hlt2 m (sq_all Bm Bl Bt many hM hlt hlt2 m)
theorem sq_start (w:World) (a1:Int):FR w.heap.size (w.heap.size+1+1) (w.heap.size+1+1+1) a1 []
  ((((w.alloc (.cells #[.int .i64 a1] 3)).alloc (.cells #[] 3)).alloc (.cells #[.slice (some ⟨w.heap.size+1,0,none⟩) 0 0] 27)).alloc
   (.cells #[.func (.func 109) #[] #[.pointer (some ⟨w.heap.size+1+1,0,none⟩),.pointer (some ⟨w.heap.size,0,none⟩),.pointer (some ⟨w.heap.size+1+1+1,0,none⟩)]] 68)):=by
 refine ⟨.slice (some ⟨w.heap.size+1,0,none⟩) 0 0,?_,?_,?_,by simp [nums],.inr ⟨w.heap.size+1,0,#[],rfl,Nat.le_refl _,?_,Nat.le_refl _,by simp [maxLen],by simp,by simp [nums]⟩⟩
 ·refine (Below.heap_alloc _ _ _ (by simp)).trans ?_
  simpa using heap_alloc_new ((w.alloc (.cells #[.int .i64 a1] 3)).alloc (.cells #[] 3)) (.cells #[.slice (some ⟨w.heap.size+1,0,none⟩) 0 0] 27)
 ·refine (Below.heap_alloc _ _ _ (by simp<;>omega)).trans ((Below.heap_alloc _ _ _ (by simp<;>omega)).trans ((Below.heap_alloc _ _ _ (by simp)).trans ?_));exact heap_alloc_new w _
 ·simpa using heap_alloc_new (((w.alloc (.cells #[.int .i64 a1] 3)).alloc (.cells #[] 3)).alloc (.cells #[.slice (some ⟨w.heap.size+1,0,none⟩) 0 0] 27)) (.cells #[.func (.func 109) #[] #[.pointer (some ⟨w.heap.size+1+1,0,none⟩),.pointer (some ⟨w.heap.size,0,none⟩),.pointer (some ⟨w.heap.size+1+1+1,0,none⟩)]] 68)
 ·refine (Below.heap_alloc _ _ _ (by simp<;>omega)).trans ((Below.heap_alloc _ _ _ (by simp)).trans ?_)
  simpa using heap_alloc_new (w.alloc (.cells #[.int .i64 a1] 3)) (.cells #[] 3)
def Di.f (a0:Int) (a1:Int):Option (List Int×Bool) :=
 if 1≤a1∧a1≤4 then (if a0<0∨a0>2000 then some ([],false) else match sqs (a1-1).toNat 0 a0 with|some r=>some (r,true)|none=>some ([],false)) else none
set_option maxHeartbeats 4000000 in
theorem Di.calls (a0:Int) (a1:Int) (r1:List Int) (r2:Bool) (w:World) (h:Di.f a0 a1=some (r1,r2)) :
  Calls Tryz.prog 55 #[.int .i64 a0,.int .i64 a1] w fun e w' => ∃v0_:Value,e = .returned (.tuple #[v0_,.bool r2])∧Kd.R (Kd.int .i64) 3 w' w.heap.size (fun _=>True) v0_ r1∧Below w.heap.size w w':=by
 unfold Di.f at h
 by_cases hm:1≤a1∧a1≤4
 ·rw [if_pos hm] at h;obtain ⟨hm1,hm4⟩:=hm
  by_cases hlo:a0<0
  ·rw [if_pos (.inl hlo)] at h;have h1:decide (a0<0)=true:=decide_eq_true hlo;simp only [Option.some.injEq,Prod.mk.injEq] at h;obtain ⟨rfl,rfl⟩:=h;clear hlo
   go_enter Tryz.func55,Tryz.ntmps55
   go_wp2;go_ret2
   exact ⟨_,rfl,Kd.Es _ _ _ _ _,(Below.refl _ _).alloc (Nat.le_refl _) _⟩
  ·by_cases hhi:a0>2000
   ·rw [if_pos (.inr hhi)] at h;have h1:decide (a0<0)=false:=decide_eq_false hlo;have h2:decide (2000<a0)=true:=decide_eq_true hhi;simp only [Option.some.injEq,Prod.mk.injEq] at h;obtain ⟨rfl,rfl⟩:=h;clear hlo hhi
    go_enter Tryz.func55,Tryz.ntmps55
    go_wp2;go_ret2
    exact ⟨_,rfl,Kd.Es _ _ _ _ _,(Below.refl _ _).alloc (Nat.le_refl _) _⟩
   ·rw [if_neg (by omega)] at h;have h1:decide (a0<0)=false:=decide_eq_false hlo;have h2:decide (2000<a0)=false:=decide_eq_false hhi;have hs:=sq_all w.heap.size (w.heap.size+1+1) (w.heap.size+1+1+1) a1 hm4 (by omega) (by omega) (a1-1).toNat 0 a0 [] _ (sq_start w a1) (by simp<;>omega) (by omega) (by omega) (by omega) (by omega);simp only [List.nil_append] at hs;clear hlo hhi hm1 hm4;cases hq:sqs (a1-1).toNat 0 a0 with
    | none =>
     rw [hq] at hs h;simp only [Option.some.injEq,Prod.mk.injEq] at h;obtain ⟨rfl,rfl⟩:=h;simp only [Option.isSome_none] at hs;have HS:=CA hs;clear hs hq
     go_enter Tryz.func55,Tryz.ntmps55
     go_wp2_with (go_at_call 109;refine HS.out.mono ?_;rintro e w2 ⟨rfl,hI2,hB2⟩;clear hI2)
     go_ret2
     exact ⟨_,rfl,Kd.Es _ _ _ _ _,(((((Below.refl _ w).alloc (Nat.le_refl _) _).alloc (by simp) _).alloc (by simp<;>omega) _).alloc (by simp<;>omega) _).trans (by simpa using hB2)⟩
    | some r =>
     rw [hq] at hs h;simp only [Option.some.injEq,Prod.mk.injEq] at h;obtain ⟨rfl,rfl⟩:=h;simp only [Option.isSome_some,Option.getD_some] at hs;have HS:=CA hs;clear hs hq
     go_enter Tryz.func55,Tryz.ntmps55
     go_wp2_with (go_at_call 109;refine HS.out.mono ?_;rintro e w2 ⟨rfl,⟨v2,hv2,_,_,hown2⟩,hB2⟩;obtain ⟨A2,k2,rfl⟩:=DC hown2;have cL2:=cell_of_one hv2;clear hv2)
     go_ret2
     exact ⟨_,rfl,Kd.FL (IG hown2 (Nat.le_succ _)) (fun _ _=>trivial),(((((Below.refl _ w).alloc (Nat.le_refl _) _).alloc (by simp) _).alloc (by simp<;>omega) _).alloc (by simp<;>omega) _).trans (by simpa using hB2)⟩
 ·rw [if_neg hm] at h;cases h
end
def CO.f (a0:Int):Option (List Int×Bool):=(Di.f a0 4).bind fun bt350=>(some (bt350.1,bt350.2))
theorem CO.calls (a0:Int) (r1:List Int) (r2:Bool) (w:World) (h:CO.f a0=some (r1,r2)) :
  Calls Tryz.prog 19 #[.int .i64 a0] w fun e w' => ∃v0_:Value,e = .returned (.tuple #[v0_,.bool r2])∧Kd.R (Kd.int .i64) 3 w' w.heap.size (fun _=>True) v0_ r1∧Below w.heap.size w w':=by
 have HB:=Aa.mk (Below.refl w.heap.size w);unfold CO.f at h;have H:=h;clear h;replace H:=Option.bind_eq_some_iff.mp H;obtain ⟨⟨t350,t351⟩,A20,H⟩:=H;try dsimp only at H;have A2:=Aa.mk A20;clear A20;simp only [Option.some.injEq,Prod.mk.injEq] at H;obtain ⟨rfl,rfl⟩:=H
 go_enter Tryz.func19,Tryz.ntmps19
 go_wp2_with (((with_reducible refine Ab (f:=55) rfl ?_);refine Zq.gc (some 5) Tryz.func55 (Di.calls _ _ _ _ _ A2.out) ?_;rintro e w3 ⟨v352,rfl,ho0,hb⟩;refine ⟨_,rfl,?_⟩;have HO353:=Zq.lw ho0;replace HB:=Zq.st hb;(try clear hb);(try clear ho0)))
 go_ret2
 exact ⟨_,Zs.auR,(Zs.mvR HO353.out),Zs.auHB⟩
end Go.Proofs.YtacfcoilmdhgnaaGreatDoor.PFnExactExecute
