/- A function's Lean twin and its walk, written by a program of this session. -/
import Derived.Test.YtacfcoilmdhgnaaGreatDoorTPFnExactExecutex10
set_option maxHeartbeats 8000000
set_option maxRecDepth 100000
namespace Go.Proofs.YtacfcoilmdhgnaaGreatDoor.PFnExactExecute
open Go.RowKit Go.Proofs.YtacfcoilmdhgnaaGreatDoorW.PrintWords Go.Proofs.YtacfcoilmdhgnaaGreatDoorW.PrintLast Go.Proofs.YtacfcoilmdhgnaaGreatDoorW.PrintMore
attribute [local go_sem] Dy Dx D0 D1 Dc De DA Dz   -- for this text's walks alone
set_option linter.unusedVariables false
set_option linter.unusedSimpArgs false
mutual
def Ah.j0:Nat→List Int→Int→Bool→Option (List Int×Int×Bool)
 | 0,_,_,_=>none
 | k+1,x0,x1,x28=>if x28=true then (some ((([]:List Int)),0,false)) else ((B0.f k x0).bind fun bt619=>(if bt619.2=true then ((Cm.f k bt619.1).bind fun t623=>(if 0≤t623 then (if t623<(x0.length:Int) then (if t623<(bt619.1.length:Int) then (Ah.l0 k x0 x1 bt619.1 t623 (wrap64 ((wrap64 (2*(rd x0 t623)))*(rd bt619.1 t623))) (([]:List Int)) 0) else (none)) else (none)) else (none))) else ((some (([]:List Int):List Int)).bind fun y641=>(if y641.length+x0.length<17592186044416 then ((some (y641++x0:List Int)).bind fun y644=>(if y644.length<17592186044416 then ((B0.f k (y644++[wrap64 (-x1)])).bind fun bt650=>(if bt650.2=true then (if 0≤(x0.length:Int) then (if (x0.length:Int)≤(bt650.1.length:Int) then (if (x0.length:Int)<(bt650.1.length:Int) then ((C7.f k (bt650.1.take ((x0.length:Int):Int).toNat) (rd bt650.1 (x0.length:Int))).bind fun bt659=>(some (bt659.1,bt659.2,true))) else (none)) else (none)) else (none)) else (some ((([]:List Int)),0,false)))) else (none))) else (none)))))
def Ah.l0:Nat→List Int→Int→List Int→Int→Int→List Int→Int→Option (List Int×Int×Bool)
 | 0,_,_,_,_,_,_,_=>none
 | k+1,x0,x1,x7,x9,x10,x11,x12=>if x12<(x7.length:Int) then (if 0≤x12 then (if 0≤x9 then (if x9<(x0.length:Int) then (if x12=x9 then (if x11.length<17592186044416 then (Ah.l0 k x0 x1 x7 x9 x10 (x11++[wrap64 ((wrap64 ((rd x7 x12)*(wrap64 (x1-(rd x0 x9)))))+x10)]) (wrap64 (x12+1))) else (none)) else (if x11.length<17592186044416 then (Ah.l0 k x0 x1 x7 x9 x10 (x11++[wrap64 ((rd x7 x12)*(wrap64 (x1-(rd x0 x9))))]) (wrap64 (x12+1))) else (none))) else (none)) else (none)) else (none)) else ((C7.f k x11 x10).bind fun bt637=>(some (bt637.1,bt637.2,true)))
end
def Ah.f (k:Nat) (l0:List Int) (a1:Int):Option (List Int×Int×Bool):=(DJ.f k l0).bind fun t614=>(if t614=true then ((Df.f a1).bind fun t615=>(Ah.j0 k l0 a1 (!t615))) else (Ah.j0 k l0 a1 true))
def Ah.T6:Bool×List (List Nat×List Nat):=(true,[([],[]),([],[]),([0,1],[0,1]),([2],[2]),([3],[3]),([],[]),([],[]),([5,6],[5,6]),([7],[7]),([4,8],[4,8]),([9,0,1,2,3,4,5,6,7,8,9],[9])])
def Ah.B6:List Nat:=Zq.bitsOf Ah.T6.2
theorem Ah.tab6:rtab .any (opsOf Tryz.f41 6)=Ah.T6:=by kernel_rfl
theorem Ah.bits6:DO Ah.T6.2 Ah.B6=true:=by kernel_rfl
def Ah.T11:Bool×List (List Nat×List Nat):=(true,[([],[]),([],[]),([0,1],[0,1]),([2],[2]),([],[]),([],[]),([],[]),([5,6],[5,6]),([7],[7]),([4,8],[4,8]),([3,9],[3,9]),([10,0,1,2,3,4,5,6,7,8,9,10],[10])])
def Ah.B11:List Nat:=Zq.bitsOf Ah.T11.2
theorem Ah.tab11:rtab .any (opsOf Tryz.f41 11)=Ah.T11:=by kernel_rfl
theorem Ah.bits11:DO Ah.T11.2 Ah.B11=true:=by kernel_rfl
def Ah.T21:Bool×List (List Nat×List Nat):=(true,[([],[]),([],[]),([0,1],[0,1]),([],[]),([],[]),([3,4],[3,4]),([5],[5]),([2,6],[2,6]),([7],[7]),([8],[8]),([8],[8]),([9,7,0,1,2,3,4,5,6,7,8,9],[9]),([10,11,0,1,2,3,4,5,6,7,8,9,10,11],[10])])
def Ah.B21:List Nat:=Zq.bitsOf Ah.T21.2
theorem Ah.tab21:rtab .any (opsOf Tryz.f41 21)=Ah.T21:=by kernel_rfl
theorem Ah.bits21:DO Ah.T21.2 Ah.B21=true:=by kernel_rfl
theorem Ah.calls (k:Nat) (A0:Option Addr) (c0:Nat) (l0:List Int) (a1:Int) (r1:List Int) (r2:Int) (r3:Bool) (w:World) (hr0:Kd.C (Kd.int .i64) w A0 l0.length l0) (hc0:l0.length≤c0) (h:Ah.f k l0 a1=some (r1,r2,r3)) :
  Calls Tryz.prog 41 #[.slice A0 l0.length c0,.int .i64 a1] w fun e w' => ∃v0_:Value,e = .returned (.tuple #[v0_,.int .i64 r2,.bool r3])∧Kd.R (Kd.int .i64) 3 w' w.heap.size (fun _=>True) v0_ r1∧Below w.heap.size w w':=by
 have HR0:=Aa.mk hr0;have HC0:=Aa.mk hc0;clear hr0 hc0;have HB:=Aa.mk (Below.refl w.heap.size w);unfold Ah.f at h;have H:=h;clear h;have HC3:=Aa.mk H;clear H
 go_enter Tryz.func41,Tryz.ntmps41
 go_upto_region 1 with (fail)
 go_cut [28] (fun v28 wc => ∃(kq:Nat) (x28_2:Bool),v28 = .bool x28_2∧Aa (Ah.j0 kq l0 a1 x28_2=some (r1,r2,r3))∧Aa (kq≤k)∧Aa (Below w.heap.size w wc))
 case first =>
  have H:=HC3.out;clear HC3;obtain ⟨t614,A4,H⟩:=Zs.be H
  by_cases c5:t614=true
  ·subst c5;rw [if_pos rfl] at H;obtain ⟨t615,A6,H⟩:=Zs.be H;have H':=Aa.mk H;clear H
   go_wp2_with (first|((with_reducible refine Ab (f:=89) rfl ?_);refine Zq.gp Tryz.func89 (DJ.calls _ _ _ _ _ _ (Zs.mvC ((Kd.Bw HR0.out HB.out))) HC0.out A4.out) ?_;intro nd)|(go_at_call 90;(with_reducible refine (Df.calls a1 t615 _ A6.out).mono ?_);rintro e w' ⟨rfl,⟨nd,rfl⟩⟩))
   go_meet
   case rel=>exact ⟨_,(!t615),Zs.auS,H',⟨Zs.auN⟩,⟨Zs.auHB⟩⟩
  ·replace c5:=Bool.eq_false_iff.mpr c5;subst c5;rw [if_neg (show ¬(false=true) by decide)] at H;have H':=Aa.mk H;clear H
   go_wp2_with (((with_reducible refine Ab (f:=89) rfl ?_);refine Zq.gp Tryz.func89 (DJ.calls _ _ _ _ _ _ (Zs.mvC ((Kd.Bw HR0.out HB.out))) HC0.out A4.out) ?_;intro nd))
   go_meet
   case rel=>exact ⟨_,(true),Zs.auS,H',⟨Zs.auN⟩,⟨Zs.auHB⟩⟩
 case rest =>
  clear HC3
  obtain ⟨kq,x28_2,rfl,HA,HJ2,HB⟩:=hcut;cases kq with
  | zero=>exact absurd HA.out (by simp [Ah.j0])
  | succ kj2 =>
   have H:=HA.out;clear HA;simp only [Ah.j0] at H
   by_cases c7:x28_2=true
   ·subst c7;rw [if_pos rfl] at H;obtain ⟨y616,hyy⟩ : ∃y_:List Int,y_=(([]:List Int)):=⟨_,rfl⟩
    replace H:(some (y616,0,false))=some (r1,r2,r3):=Zs.auY
    have Ny616:=Aa.mk hyy;clear hyy;simp only [Option.some.injEq,Prod.mk.injEq] at H;obtain ⟨rfl,rfl,rfl⟩:=H
    go_wp2_with (((with_reducible refine Bg (N:=29) rfl ?_);refine Zq.li ([]:List Int) ?_;intro v617 w8 ho9 hb;(first|rw [← Ny616.out] at ho9|(simp only [Int.reduceToNat] at ho9;rw [← Ny616.out] at ho9));have HO618:=Zq.lw ho9;replace HB:=Zq.st hb;clear hb ho9))
    go_ret3
    exact ⟨_,Zs.auR,(Zs.mvR HO618.out),Zs.auHB⟩
   ·replace c7:=Bool.eq_false_iff.mpr c7;subst c7;rw [if_neg (show ¬(false=true) by decide)] at H;replace H:=Option.bind_eq_some_iff.mp H;obtain ⟨⟨t619,t620⟩,A100,H⟩:=H;try dsimp only at H;have A10:=Aa.mk A100;clear A100
    by_cases c11:t620=true
    ·subst c11;rw [if_pos rfl] at H;obtain ⟨t623,A12,H⟩:=Zs.be H
     obtain ⟨c13,H⟩:=Zq.ip H;have c13b0:=decide_eq_true c13;clear c13
     obtain ⟨c14,H⟩:=Zq.ip H;have c14b0:=decide_eq_true c14;clear c14
     obtain ⟨c15,H⟩:=Zq.ip H;have c15b0:=decide_eq_true c15;clear c15;obtain ⟨y626,hyy⟩ : ∃y_:List Int,y_=(([]:List Int)):=⟨_,rfl⟩
     replace H:(Ah.l0 kj2 l0 a1 t619 t623 (wrap64 ((wrap64 (2*(rd l0 t623)))*(rd t619 t623))) y626 0)=some (r1,r2,r3):=Zs.auY
     have Ny626:=Aa.mk hyy;clear hyy;have H':=Aa.mk H;clear H
     try go_wp2_with (first|((with_reducible refine Ab (f:=38) rfl ?_);refine Zq.gc (some 32) Tryz.func38 (B0.calls _ _ _ _ _ _ _ (Zs.mvC ((Kd.Bw HR0.out HB.out))) HC0.out A10.out) ?_;rintro e w16 ⟨v621,rfl,ho0,hb⟩;refine ⟨_,rfl,?_⟩;have HO622:=Zq.lw ho0;replace HB:=Zq.st hb;(try clear hb);(try clear ho0);obtain ⟨Ao17,co17,eo17⟩:=Kd.AD HO622.out;subst eo17)|((with_reducible refine Ab (f:=91) rfl ?_);refine Zq.gp Tryz.func91 (Cm.calls _ _ _ _ _ _ (Zs.mvC ((Kd.Ac HO622.out).2.2)) ((Kd.Ac HO622.out).2.1) A12.out) ?_;intro nd))
     (try (rw [GK w16];generalize hq_:World.drewN w16 _=w16;replace HO622:Aa (Kd.R (Kd.int .i64) 3 w16 w.heap.size (fun _=>True) (.slice Ao17 t619.length co17) t619):=⟨by rw [← hq_];exact ((Zs.mvR HO622.out))⟩;replace HB:Aa (Below w.heap.size w w16):=⟨by rw [← hq_];exact (Zs.auHB)⟩;clear hq_));have n0_:=Aa.mk (Kd.DB HO622.out);have n1_:=Aa.mk (Ax HB.out);clear HO622;clear HB;have HO622:=n0_;have HB:=n1_;clear n0_ n1_;obtain ⟨ad624,e624,hx624_0,p624,q624⟩:=Zq.at_ HR0.out t623;have hw624_0:=hx624_0;cases e624;replace hx624_0:=Zq.ce HB.out hx624_0;obtain ⟨ad625,e625,hx625_0,p625,q625⟩:=Zq.at_ (Kd.Ac HO622.out).2.2 t623;cases e625;refine D8 (n:=11) (S:=fun w'=>w'.cell? (ad624.add (t623).toNat)=some (.int .i64 (rd l0 t623))∧w'.cell? (ad625.add (t623).toNat)=some (.int .i64 (rd t619 t623))) (ds:=[]) #[false,false,false,false,false,false,false,false,false,false,false] (by kernel_rfl) rfl rfl ⟨((HB.out.cell (World.block_lt_of_cell? w _ hw624_0)).trans hw624_0),hx625_0⟩ (fun hHeld=>?_);refine CL Ah.tab6 Ah.bits6 (fun HT_ HW_=>?_);generalize w16.drew=w18 at HO622 HB hx624_0 hx625_0 hHeld ⊢;refine Zs.pu 0 (some 38) ?_;refine Zs.pu 1 (some 39) ?_;refine Zs.pu 2 (some 40) ?_;refine Zs.pu 5 (some 43) ?_;refine Zs.pu 6 (some 44) ?_;refine Zs.pu 7 (some 45) ?_;refine Zs.ta2 3 (some 41) ?_;refine Zs.pu 4 (some 42) ?_;refine Zs.ta2 8 (some 46) ?_;refine Zs.pu 9 (some 47) ?_;refine Zs.pu 10 (some 10) ?_
     refine Zq.dn ?_
     try go_wp2_with (((with_reducible refine Bg (N:=48) rfl ?_);refine Zq.li ([]:List Int) ?_;intro v627 w19 ho20 hb;(first|rw [← Ny626.out] at ho20|(simp only [Int.reduceToNat] at ho20;rw [← Ny626.out] at ho20));have HO628:=Aa.mk (Kd.Bp (Kd.Bj ho20 (Zq.lt HO622.out)) (Av (Zs.auHB)));replace HO622:=Zq.el HO622.out ho20 hb;replace HB:=Zq.st hb;clear hb ho20))
     go_loopg [11,12] kj2 (fun kq v11 v12 w' => ∃(x11_2:List Int) (x12_2:Int),v12 = .int .i64 x12_2∧Aa (Ah.l0 kq l0 a1 t619 t623 (wrap64 ((wrap64 (2*(rd l0 t623)))*(rd t619 t623))) x11_2 x12_2=some (r1,r2,r3))∧Aa (kq≤kj2)∧Aa (Kd.R (Kd.int .i64) 3 w' w.heap.size (fun k_=>some k_≠(v11:Value).ownBlock) (.slice (some ad625) t619.length co17) t619)∧Aa (Kd.R (Kd.int .i64) 3 w' w.heap.size (fun k_=>some k_≠((.slice (some ad625) t619.length co17):Value).ownBlock) v11 x11_2)∧Aa (Below w.heap.size w w'))
     case atStart=>exact ⟨(y626),(0),Zs.auS,H',⟨Nat.le_refl _⟩,⟨(Zs.mvR (Kd.AJ HO622.out (fun _ hk=>(by first|exact hk.2|exact trivial))))⟩,⟨(Zs.mvR (Kd.AJ HO628.out (fun _ hk=>(by first|exact hk.2|exact trivial))))⟩,⟨Zs.auHB⟩⟩
     case round =>
      clear H'
      obtain ⟨x11_2,x12_2,rfl,HA,HK2,HO_7,HO_11,HB⟩:=hrel;cases gk with
      | zero=>exact absurd HA.out (by simp [Ah.l0])
      | succ k2 =>
       have H:=HA.out;clear HA;simp only [Ah.l0] at H
       rcases Zq.ii H with ⟨c21,H⟩|⟨c21,H⟩
       ·have c21b0:=decide_eq_true c21;clear c21
        obtain ⟨c22,H⟩:=Zq.ip H;have c22b0:=decide_eq_true c22;clear c22
        obtain ⟨c23,H⟩:=Zq.ip H;have c23b0:=decide_eq_true c23;clear c23
        obtain ⟨c24,H⟩:=Zq.ip H;have c24b0:=decide_eq_true c24;clear c24
        rcases Zq.ii H with ⟨c25,H⟩|⟨c25,H⟩
        ·have c25b0:=beq_iff_eq.mpr c25;clear c25
         obtain ⟨c26,H⟩:=Zq.ip H;have LMc26:=Aa.mk c26;clear c26;(try rw [Option.bind_some] at H);generalize hyy:(x11_2++[wrap64 ((wrap64 ((rd t619 x12_2)*(wrap64 (a1-(rd l0 t623)))))+(wrap64 ((wrap64 (2*(rd l0 t623)))*(rd t619 t623))))]:List Int)=y631 at H;have Ny631:=Aa.mk hyy.symm;clear hyy;have H':=Aa.mk H;clear H
         try go_wp2
         have n0_:=Aa.mk (Kd.DB HO_7.out);have n1_:=Aa.mk (Kd.DB HO_11.out);have n2_:=Aa.mk (Ax HB.out);clear HO_7;clear HO_11;clear HB;have HO_7:=n0_;have HO_11:=n1_;have HB:=n2_;clear n0_ n1_ n2_;obtain ⟨ad629,e629,hx629_0,p629,q629⟩:=Zq.at_ (Kd.Ac HO_7.out).2.2 x12_2;obtain rfl:ad625=ad629:=(by injection e629);obtain ⟨ad630,e630,hx630_0,p630,q630⟩:=Zq.at_ HR0.out t623;have hw630_0:=hx630_0;obtain rfl:ad624=ad630:=(by injection e630);replace hx630_0:=Zq.ce HB.out hx630_0;refine D8 (n:=12) (S:=fun w'=>w'.cell? (ad625.add (x12_2).toNat)=some (.int .i64 (rd t619 x12_2))∧w'.cell? (ad624.add (t623).toNat)=some (.int .i64 (rd l0 t623))) (ds:=[]) #[false,false,false,false,false,false,false,false,false,false,false,false] (by kernel_rfl) rfl rfl ⟨hx629_0,((HB.out.cell (World.block_lt_of_cell? w _ hw630_0)).trans hw630_0)⟩ (fun hHeld=>?_);refine CL Ah.tab11 Ah.bits11 (fun HT_ HW_=>?_);generalize wr.drew=w27 at HO_7 HO_11 HB hx629_0 hx630_0 hHeld ⊢;refine Zs.pu 0 (some 55) ?_;refine Zs.pu 1 (some 56) ?_;refine Zs.pu 2 (some 57) ?_;refine Zs.pu 4 (some 59) ?_;refine Zs.pu 5 (some 60) ?_;refine Zs.pu 6 (some 61) ?_;refine Zs.pu 7 (some 62) ?_;refine Zs.ta2 3 (some 58) ?_;refine Zs.ta2 8 (some 63) ?_;refine Zs.pu 9 (some 64) ?_;refine Zs.pu 10 (some 65) ?_;refine Zs.pu 11 (some 13) ?_
         refine Zq.dn ?_
         try go_wp2_with (((with_reducible refine AW (b := .append) (xs:=#[.tmp 72,.tmp 74]) rfl ?_);at_builtin;refine Zq.ap (.tmp 72) (.tmp 74) 27 Tryz.underlying27 DQ u11 x11_2 (wrap64 ((wrap64 ((rd t619 x12_2)*(wrap64 (a1-(rd l0 t623)))))+(wrap64 ((wrap64 (2*(rd l0 t623)))*(rd t619 t623))))) (fun k_=>some k_≠(.slice (some ad625) t619.length co17:Value).ownBlock) (fun k_ hk=>Kd.DE (Zq.lt HO_7.out) k_ hk) ((Zs.mvR HO_11.out)) LMc26.out ?_;intro v632 w28 ho hb hg hat;rw [← Ny631.out] at ho;replace HO_7:=Aa.mk (Kd.BV (ok:=(fun _=>True)) ((Zs.mvR (Kd.AJ HO_7.out (fun _ hk=>⟨trivial,hk⟩)))) hg hat);replace HB:=Aa.mk (hb);have HO633:=Aa.mk (ho);clear HO_11;clear ho hb hg hat))
         go_roundg k2
         case measure=>have:=HJ2.out;have:=HK2.out;omega
         case rel=>exact ⟨(y631),(wrap64 (x12_2+1)),Zs.auS,H',⟨by have:=HJ2.out;have:=HK2.out;omega⟩,⟨(Zs.mvR (Kd.AJ HO_7.out (fun _ hk=>(by first|exact hk.2|exact trivial))))⟩,⟨(Zs.mvR HO633.out)⟩,⟨Zs.auHB⟩⟩
        ·have c25b0:=beq_eq_false_iff_ne.mpr c25
         obtain ⟨c29,H⟩:=Zq.ip H;have LMc29:=Aa.mk c29;clear c29;(try rw [Option.bind_some] at H);generalize hyy:(x11_2++[wrap64 ((rd t619 x12_2)*(wrap64 (a1-(rd l0 t623))))]:List Int)=y634 at H;have Ny634:=Aa.mk hyy.symm;clear hyy;have H':=Aa.mk H;clear H
         try go_wp2
         have n0_:=Aa.mk (Kd.DB HO_7.out);have n1_:=Aa.mk (Kd.DB HO_11.out);have n2_:=Aa.mk (Ax HB.out);clear HO_7;clear HO_11;clear HB;have HO_7:=n0_;have HO_11:=n1_;have HB:=n2_;clear n0_ n1_ n2_;obtain ⟨ad629,e629,hx629_0,p629,q629⟩:=Zq.at_ (Kd.Ac HO_7.out).2.2 x12_2;obtain rfl:ad625=ad629:=(by injection e629);obtain ⟨ad630,e630,hx630_0,p630,q630⟩:=Zq.at_ HR0.out t623;have hw630_0:=hx630_0;obtain rfl:ad624=ad630:=(by injection e630);replace hx630_0:=Zq.ce HB.out hx630_0;refine D8 (n:=12) (S:=fun w'=>w'.cell? (ad625.add (x12_2).toNat)=some (.int .i64 (rd t619 x12_2))∧w'.cell? (ad624.add (t623).toNat)=some (.int .i64 (rd l0 t623))) (ds:=[]) #[false,false,false,false,false,false,false,false,false,false,false,false] (by kernel_rfl) rfl rfl ⟨hx629_0,((HB.out.cell (World.block_lt_of_cell? w _ hw630_0)).trans hw630_0)⟩ (fun hHeld=>?_);refine CL Ah.tab11 Ah.bits11 (fun HT_ HW_=>?_);generalize wr.drew=w30 at HO_7 HO_11 HB hx629_0 hx630_0 hHeld ⊢;refine Zs.pu 0 (some 55) ?_;refine Zs.pu 1 (some 56) ?_;refine Zs.pu 2 (some 57) ?_;refine Zs.pu 4 (some 59) ?_;refine Zs.pu 5 (some 60) ?_;refine Zs.pu 6 (some 61) ?_;refine Zs.pu 7 (some 62) ?_;refine Zs.ta2 3 (some 58) ?_;refine Zs.ta2 8 (some 63) ?_;refine Zs.pu 9 (some 64) ?_;refine Zs.pu 10 (some 65) ?_;refine Zs.pu 11 (some 13) ?_
         refine Zq.dn ?_
         try go_wp2_with (((with_reducible refine AW (b := .append) (xs:=#[.tmp 72,.tmp 74]) rfl ?_);at_builtin;refine Zq.ap (.tmp 72) (.tmp 74) 27 Tryz.underlying27 DQ u11 x11_2 (wrap64 ((rd t619 x12_2)*(wrap64 (a1-(rd l0 t623))))) (fun k_=>some k_≠(.slice (some ad625) t619.length co17:Value).ownBlock) (fun k_ hk=>Kd.DE (Zq.lt HO_7.out) k_ hk) ((Zs.mvR HO_11.out)) LMc29.out ?_;intro v635 w31 ho hb hg hat;rw [← Ny634.out] at ho;replace HO_7:=Aa.mk (Kd.BV (ok:=(fun _=>True)) ((Zs.mvR (Kd.AJ HO_7.out (fun _ hk=>⟨trivial,hk⟩)))) hg hat);replace HB:=Aa.mk (hb);have HO636:=Aa.mk (ho);clear HO_11;clear ho hb hg hat))
         go_roundg k2
         case measure=>have:=HJ2.out;have:=HK2.out;omega
         case rel=>exact ⟨(y634),(wrap64 (x12_2+1)),Zs.auS,H',⟨by have:=HJ2.out;have:=HK2.out;omega⟩,⟨(Zs.mvR (Kd.AJ HO_7.out (fun _ hk=>(by first|exact hk.2|exact trivial))))⟩,⟨(Zs.mvR HO636.out)⟩,⟨Zs.auHB⟩⟩
       ·have c21b0:=decide_eq_false c21;clear c21;replace H:=Option.bind_eq_some_iff.mp H;obtain ⟨⟨t637,t638⟩,A320,H⟩:=H;try dsimp only at H;have A32:=Aa.mk A320;clear A320;simp only [Option.some.injEq,Prod.mk.injEq] at H;obtain ⟨rfl,rfl,rfl⟩:=H;obtain ⟨Ao33,co33,eo33⟩:=Kd.AD HO_11.out;subst eo33
        go_wp2_with (((with_reducible refine Ab (f:=92) rfl ?_);refine Zq.gc (some 79) Tryz.func92 (C7.calls _ _ _ _ _ _ _ _ (Zs.mvC ((Kd.Ac HO_11.out).2.2)) ((Kd.Ac HO_11.out).2.1) A32.out) ?_;rintro e w34 ⟨v639,rfl,ho0,hb⟩;refine ⟨_,rfl,?_⟩;have HO640:=Aa.mk (Kd.Bp (Kd.Bj (Kd.Bj ho0 (Zq.lt HO_7.out)) (Zq.lt HO_11.out)) (Av (Zs.auHB)));replace HO_7:=Zq.el HO_7.out ho0 hb;replace HO_11:=Zq.el HO_11.out ho0 hb;replace HB:=Zq.st hb;(try clear hb);(try clear ho0)))
        go_ret3
        exact ⟨_,Zs.auR,(Zs.mvR (Kd.AJ HO640.out (fun _ hk=>trivial))),Zs.auHB⟩
    ·replace c11:=Bool.eq_false_iff.mpr c11;subst c11;rw [if_neg (show ¬(false=true) by decide)] at H;obtain ⟨y641,hyy⟩ : ∃y_:List Int,y_=(([]:List Int)):=⟨_,rfl⟩
     replace H:(if y641.length+l0.length<17592186044416 then ((some (y641++l0:List Int)).bind fun y644=>(if y644.length<17592186044416 then ((B0.f kj2 (y644++[wrap64 (-a1)])).bind fun bt650=>(if bt650.2=true then (if 0≤(l0.length:Int) then (if (l0.length:Int)≤(bt650.1.length:Int) then (if (l0.length:Int)<(bt650.1.length:Int) then ((C7.f kj2 (bt650.1.take ((l0.length:Int):Int).toNat) (rd bt650.1 (l0.length:Int))).bind fun bt659=>(some (bt659.1,bt659.2,true))) else (none)) else (none)) else (none)) else (some ((([]:List Int)),0,false)))) else (none))) else (none))=some (r1,r2,r3):=Zs.auY
     have Ny641:=Aa.mk hyy;clear hyy
     obtain ⟨c35,H⟩:=Zq.ip H;have LMc35:=Aa.mk c35;clear c35;(try rw [Option.bind_some] at H);generalize hyy:(y641++l0:List Int)=y644 at H;have Ny644:=Aa.mk hyy.symm;clear hyy
     obtain ⟨c36,H⟩:=Zq.ip H;have LMc36:=Aa.mk c36;clear c36;(try rw [Option.bind_some] at H);generalize hyy:(y644++[wrap64 (-a1)]:List Int)=y647 at H;have Ny647:=Aa.mk hyy.symm;clear hyy;replace H:=Option.bind_eq_some_iff.mp H;obtain ⟨⟨t650,t651⟩,A370,H⟩:=H;try dsimp only at H;have A37:=Aa.mk A370;clear A370
     by_cases c38:t651=true
     ·subst c38;rw [if_pos rfl] at H
      obtain ⟨c39,H⟩:=Zq.ip H;have c39b0:=eq_true c39;have c39b1:=decide_eq_true c39;clear c39
      obtain ⟨c40,H⟩:=Zq.ip H;have c40b1:=decide_eq_true c40;clear c40;(try rw [Option.bind_some] at H);generalize hyy:(t650.take ((l0.length:Int):Int).toNat:List Int)=y654 at H;have Ny654:=Aa.mk hyy.symm;clear hyy
      obtain ⟨c41,H⟩:=Zq.ip H;have c41b0:=decide_eq_true c41;clear c41;replace H:=Option.bind_eq_some_iff.mp H;obtain ⟨⟨t659,t660⟩,A420,H⟩:=H;try dsimp only at H;have A42:=Aa.mk A420;clear A420;simp only [Option.some.injEq,Prod.mk.injEq] at H;obtain ⟨rfl,rfl,rfl⟩:=H
      try go_wp2_with (first|((with_reducible refine Ab (f:=38) rfl ?_);refine Zq.gc (some 32) Tryz.func38 (B0.calls _ _ _ _ _ _ _ (Zs.mvC ((Kd.Bw HR0.out HB.out))) HC0.out A10.out) ?_;rintro e w43 ⟨v621,rfl,ho0,hb⟩;refine ⟨_,rfl,?_⟩;have HO622:=Zq.lw ho0;replace HB:=Zq.st hb;(try clear hb);(try clear ho0))|((with_reducible refine Bg (N:=85) rfl ?_);refine Zq.li ([]:List Int) ?_;intro v642 w44 ho45 hb;(first|rw [← Ny641.out] at ho45|(simp only [Int.reduceToNat] at ho45;rw [← Ny641.out] at ho45));have HO643:=Aa.mk (Kd.Bp (Kd.Bj ho45 (Zq.lt HO622.out)) (Av (Zs.auHB)));replace HO622:=Zq.el HO622.out ho45 hb;replace HB:=Zq.st hb;clear hb ho45)|((with_reducible refine AW (b := .append) (xs:=#[.tmp 85,.tmp 86]) rfl ?_);at_builtin;refine Kd.Gd (Kd.int .i64) (w0:=w) w.heap.size rfl (.tmp 85) (.tmp 86) 27 3 (.int .i64 0) 8 rfl Tryz.underlying27 DQ rfl (by decide) (by omega) v642 y641 l0 _ _ _ (fun k_=>some k_≠(v621:Value).ownBlock) (fun _=>False) rfl rfl ?aO ?aR (fun _ _ h=>h) (fun _ h=>h.elim) ?aF ?aB ?aS ?aL ?_;(case aR=>exact Zs.mvC ((Kd.Bw HR0.out HB.out)));(case aB=>exact (Zs.auHB));(case aF=>exact (fun k_ hk=>Kd.DE (Zq.lt HO622.out) k_ hk));(case aO=>exact ((Zs.mvR (Kd.AJ HO643.out (fun _ hk=>(by first|exact hk.2|exact trivial))))));(case aS=>exact (Av (Zs.auHB)));(case aL=>have:=LMc35.out;omega);intro v645 w46 ho hb hg hat;rw [← Ny644.out] at ho;replace HO622:=Aa.mk (Kd.BV (ok:=(fun _=>True)) ((Zs.mvR HO622.out)) hg hat);replace HB:=Aa.mk (hb);have HO646:=Aa.mk (ho);clear HO643;clear ho hb hg hat)|((with_reducible refine AW (b := .append) (xs:=#[.tmp 87,.tmp 90]) rfl ?_);at_builtin;refine Zq.ap (.tmp 87) (.tmp 90) 27 Tryz.underlying27 DQ v645 y644 (wrap64 (-a1)) (fun k_=>some k_≠(v621:Value).ownBlock) (fun k_ hk=>Kd.DE (Zq.lt HO622.out) k_ hk) ((Zs.mvR HO646.out)) LMc36.out ?_;intro v648 w47 ho hb hg hat;rw [← Ny647.out] at ho;replace HO622:=Aa.mk (Kd.BV (ok:=(fun _=>True)) ((Zs.mvR HO622.out)) hg hat);replace HB:=Aa.mk (hb);have HO649:=Aa.mk (ho);clear HO646;clear ho hb hg hat;obtain ⟨Ao48,co48,eo48⟩:=Kd.AD HO649.out;subst eo48)|((with_reducible refine Ab (f:=38) rfl ?_);refine Zq.gc (some 92) Tryz.func38 (B0.calls _ _ _ _ _ _ _ (Zs.mvC ((Kd.Ac HO649.out).2.2)) ((Kd.Ac HO649.out).2.1) A37.out) ?_;rintro e w49 ⟨v652,rfl,ho0,hb⟩;refine ⟨_,rfl,?_⟩;have HO653:=Aa.mk (Kd.Bp (Kd.Bj (Kd.Bj ho0 (Zq.lt HO622.out)) (Zq.lt HO649.out)) (Av (Zs.auHB)));replace HO622:=Zq.el HO622.out ho0 hb;replace HO649:=Zq.el HO649.out ho0 hb;replace HB:=Zq.st hb;(try clear hb);(try clear ho0)))
      have n0_:=Aa.mk (Kd.DB HO622.out);have n1_:=Aa.mk (Kd.DB HO649.out);have n2_:=Aa.mk (Kd.DB HO653.out);have n3_:=Aa.mk (Ax HB.out);clear HO622;clear HO649;clear HO653;clear HB;have HO622:=n0_;have HO649:=n1_;have HO653:=n2_;have HB:=n3_;clear n0_ n1_ n2_ n3_;obtain ⟨Ao52,co52,eo52⟩:=Kd.AD HO653.out
      (first|subst eo52|(injection eo52 with f1_ f2_ f3_;have f4_:=f1_.symm;have f5_:=f3_.symm;clear f1_ f2_ f3_;subst f4_;subst f5_))
      have q51:((l0.length:Int):Int)≤((t650.length:Int):Int):=Zs.od;obtain ⟨i051,hi051,_,hsz51,_⟩:=info_parts DQ;have hroom51:t650.length≤co52:=(Kd.Ac HO653.out).2.1;have hC51:Kd.C (Kd.int .i64) _ Ao52 t650.length t650:=(Kd.Ac HO653.out).2.2;have hcut51:=L0 (P:=Tryz.prog) 27 3 .i64 Tryz.underlying27 hi051 Ao52 t650.length co52 (l0.length:Int) (Zs.od) q51 hroom51;have hr51:=Kd.Om (m:=((l0.length:Int):Int).toNat) hC51 (by omega);have hy51:y654.length=((l0.length:Int):Int).toNat:=(by rw [Ny654.out,List.length_take];omega);rw [← Ny654.out] at hr51;rw [← hy51] at hcut51;have HR657:=Aa.mk hr51;have HC657:=Aa.mk (show y654.length≤co52 from by omega);clear hr51 hC51 hroom51 hi051 hsz51;have KY51:=Aa.mk hy51;clear hy51;have KL51:=Aa.mk (show ((l0.length:Int):Int).toNat≤t650.length from by omega);replace q51:=eq_true q51;obtain ⟨ad658,e658,hx658_0,p658,q658⟩:=Zq.at_ (Kd.Ac HO653.out).2.2 (l0.length:Int);cases e658;(try simp only [Go.IntWalk.toNatUp] at hx658_0);refine D8 (n:=13) (S:=fun w'=>w'.cell? (ad658.add l0.length)=some (.int .i64 (rd t650 (l0.length:Int)))) (ds:=[]) #[false,false,false,false,false,false,false,false,false,false,false,false,false] (by kernel_rfl) rfl rfl (hx658_0) (fun hHeld=>?_);refine CL Ah.tab21 Ah.bits21 (fun HT_ HW_=>?_);generalize w49.drew=w50 at HO622 HO649 HO653 HB HR657 hx658_0 hHeld ⊢;refine Zs.pu 0 (some 101) ?_;refine Zs.pu 1 (some 102) ?_;refine Zs.pu 2 (some 103) ?_;refine Zs.pu 3 (some 104) ?_;refine Zs.pu 4 (some 105) ?_;refine Zs.pu 5 (some 106) ?_;refine Zs.ta1 6 (some 107) ?_
      refine Zq.o1 7 (some 108) (fun K hK=>?_);refine GV Tryz.func92 (by kernel_rfl) rfl #[.slice (some ad658) y654.length co52,.int .i64 (rd t650 (l0.length:Int))] (by rfl) rfl rfl Zs.auM ?_
      with_reducible refine (C7.calls kj2 _ _ y654 (rd t650 (l0.length:Int)) t659 t660 _ ?side1 ?side2 A42.out).mono ?_
      (case side1=>repeat (first|exact (by repeat (first|(with_reducible exact HR657.out)|(with_reducible refine Kd.F4 ?_ _)|(with_reducible refine Kd.GJ ?_ _)|(with_reducible refine Kd.Hb ?_)|exact HR657.out))|(with_reducible refine Kd.F4 ?_ _)|(with_reducible refine Kd.GJ ?_ _)|(with_reducible refine Kd.Hb ?_)))
      (case side2=>exact HC657.out)
      rintro e w53 ⟨v661,rfl,ho0,hb⟩;have HS0_:=(hb.cell (World.block_lt_of_cell? _ _ (hHeld))).trans (hHeld);refine ⟨_,rfl,?_⟩;have n0_:=Zq.el HO622.out ho0 hb;have n1_:=Zq.el HO649.out ho0 hb;have n2_:=Zq.el HO653.out ho0 hb;have n3_:=Aa.mk (Kd.Bp (Kd.Bj (Kd.Bj (Kd.Bj ho0 (Zq.lt HO622.out)) (Zq.lt HO649.out)) (Zq.lt HO653.out)) (Av (Zs.auHB)));have n4_:=Aa.mk (Kd.Bw (by repeat (first|(with_reducible exact HR657.out)|(with_reducible refine Kd.F4 ?_ _)|(with_reducible refine Kd.GJ ?_ _)|(with_reducible refine Kd.Hb ?_)|exact HR657.out)) hb);have n5_:=Zq.st hb;clear HO622;clear HO649;clear HO653;clear HR657;clear HB;have HO622:=n0_;have HO649:=n1_;have HO653:=n2_;have HO662:=n3_;have HR657:=n4_;have HB:=n5_;clear n0_ n1_ n2_ n3_ n4_ n5_;(try clear hb);(try clear hb2);(try clear hk);(try clear hi);(try clear ho0);refine hK.out _ _ (HS0_) (fun hHeld=>?_);clear hK K;refine Zq.nm (some 108) ?_
      refine Zs.pu 8 (some 100) ?_;refine Zs.pu 9 (some 109) ?_;refine Zs.pu 10 (some 110) ?_;refine Zs.pu 11 (some 19) ?_;refine Zs.pu 12 (some 20) ?_
      refine Zq.dn ?_
      try go_wp2
      go_ret3
      exact ⟨_,Zs.auR,(Zs.mvR (Kd.AJ HO662.out (fun _ hk=>trivial))),Zs.auHB⟩
     ·replace c38:=Bool.eq_false_iff.mpr c38;subst c38;rw [if_neg (show ¬(false=true) by decide)] at H;obtain ⟨y663,hyy⟩ : ∃y_:List Int,y_=(([]:List Int)):=⟨_,rfl⟩
      replace H:(some (y663,0,false))=some (r1,r2,r3):=Zs.auY
      have Ny663:=Aa.mk hyy;clear hyy;simp only [Option.some.injEq,Prod.mk.injEq] at H;obtain ⟨rfl,rfl,rfl⟩:=H
      go_wp2_with (first|((with_reducible refine Ab (f:=38) rfl ?_);refine Zq.gc (some 32) Tryz.func38 (B0.calls _ _ _ _ _ _ _ (Zs.mvC ((Kd.Bw HR0.out HB.out))) HC0.out A10.out) ?_;rintro e w54 ⟨v621,rfl,ho0,hb⟩;refine ⟨_,rfl,?_⟩;have HO622:=Zq.lw ho0;replace HB:=Zq.st hb;(try clear hb);(try clear ho0))|((with_reducible refine Bg (N:=85) rfl ?_);refine Zq.li ([]:List Int) ?_;intro v642 w55 ho56 hb;(first|rw [← Ny641.out] at ho56|(simp only [Int.reduceToNat] at ho56;rw [← Ny641.out] at ho56));have HO643:=Aa.mk (Kd.Bp (Kd.Bj ho56 (Zq.lt HO622.out)) (Av (Zs.auHB)));replace HO622:=Zq.el HO622.out ho56 hb;replace HB:=Zq.st hb;clear hb ho56)|((with_reducible refine AW (b := .append) (xs:=#[.tmp 85,.tmp 86]) rfl ?_);at_builtin;refine Kd.Gd (Kd.int .i64) (w0:=w) w.heap.size rfl (.tmp 85) (.tmp 86) 27 3 (.int .i64 0) 8 rfl Tryz.underlying27 DQ rfl (by decide) (by omega) v642 y641 l0 _ _ _ (fun k_=>some k_≠(v621:Value).ownBlock) (fun _=>False) rfl rfl ?aO ?aR (fun _ _ h=>h) (fun _ h=>h.elim) ?aF ?aB ?aS ?aL ?_;(case aR=>exact Zs.mvC ((Kd.Bw HR0.out HB.out)));(case aB=>exact (Zs.auHB));(case aF=>exact (fun k_ hk=>Kd.DE (Zq.lt HO622.out) k_ hk));(case aO=>exact ((Zs.mvR (Kd.AJ HO643.out (fun _ hk=>(by first|exact hk.2|exact trivial))))));(case aS=>exact (Av (Zs.auHB)));(case aL=>have:=LMc35.out;omega);intro v645 w57 ho hb hg hat;rw [← Ny644.out] at ho;replace HO622:=Aa.mk (Kd.BV (ok:=(fun _=>True)) ((Zs.mvR HO622.out)) hg hat);replace HB:=Aa.mk (hb);have HO646:=Aa.mk (ho);clear HO643;clear ho hb hg hat)|((with_reducible refine AW (b := .append) (xs:=#[.tmp 87,.tmp 90]) rfl ?_);at_builtin;refine Zq.ap (.tmp 87) (.tmp 90) 27 Tryz.underlying27 DQ v645 y644 (wrap64 (-a1)) (fun k_=>some k_≠(v621:Value).ownBlock) (fun k_ hk=>Kd.DE (Zq.lt HO622.out) k_ hk) ((Zs.mvR HO646.out)) LMc36.out ?_;intro v648 w58 ho hb hg hat;rw [← Ny647.out] at ho;replace HO622:=Aa.mk (Kd.BV (ok:=(fun _=>True)) ((Zs.mvR HO622.out)) hg hat);replace HB:=Aa.mk (hb);have HO649:=Aa.mk (ho);clear HO646;clear ho hb hg hat;obtain ⟨Ao59,co59,eo59⟩:=Kd.AD HO649.out;subst eo59)|((with_reducible refine Ab (f:=38) rfl ?_);refine Zq.gc (some 92) Tryz.func38 (B0.calls _ _ _ _ _ _ _ (Zs.mvC ((Kd.Ac HO649.out).2.2)) ((Kd.Ac HO649.out).2.1) A37.out) ?_;rintro e w60 ⟨v652,rfl,ho0,hb⟩;refine ⟨_,rfl,?_⟩;have HO653:=Aa.mk (Kd.Bp (Kd.Bj (Kd.Bj ho0 (Zq.lt HO622.out)) (Zq.lt HO649.out)) (Av (Zs.auHB)));replace HO622:=Zq.el HO622.out ho0 hb;replace HO649:=Zq.el HO649.out ho0 hb;replace HB:=Zq.st hb;(try clear hb);(try clear ho0))|((with_reducible refine Bg (N:=97) rfl ?_);refine Zq.li ([]:List Int) ?_;intro v664 w61 ho62 hb;(first|rw [← Ny663.out] at ho62|(simp only [Int.reduceToNat] at ho62;rw [← Ny663.out] at ho62));have HO665:=Aa.mk (Kd.Bp (Kd.Bj (Kd.Bj (Kd.Bj ho62 (Zq.lt HO622.out)) (Zq.lt HO649.out)) (Zq.lt HO653.out)) (Av (Zs.auHB)));replace HO622:=Zq.el HO622.out ho62 hb;replace HO649:=Zq.el HO649.out ho62 hb;replace HO653:=Zq.el HO653.out ho62 hb;replace HB:=Zq.st hb;clear hb ho62))
      go_ret3
      exact ⟨_,Zs.auR,(Zs.mvR (Kd.AJ HO665.out (fun _ hk=>trivial))),Zs.auHB⟩
def AX.f:Nat→Int→Option (ByteArray)
 | 0,_=>none
 | k+1,a0=>if a0<(-9223372036854775807) then (some (⟨#[45,57,50,50,51,51,55,50,48,51,54,56,53,52,55,55,53,56,48,56]⟩:ByteArray)) else (if a0<0 then ((AX.f k (wrap64 (-a0))).bind fun t666=>(if 1+t666.size≤9223372036854775807 then (some ((⟨#[45]⟩:ByteArray)++t666)) else (none))) else (if a0<10 then (some (strOfNums (([(wrap64 (48+a0))%256]:List Int)))) else ((AX.f k (wrap64 (Int.tdiv a0 10))).bind fun t670=>((some (([(wrap64 (48+(Int.tmod a0 10)))%256]:List Int):List Int)).bind fun y671=>(if t670.size+(strOfNums y671).size≤9223372036854775807 then (some (t670++(strOfNums y671))) else (none))))))
def AX.T7:Bool×List (List Nat×List Nat):=(true,[([],[]),([0],[0]),([1],[1]),([],[]),([3],[3]),([4],[4]),([5],[5]),([6],[6]),([7],[7]),([2,8],[2,8]),([9,2,0,1,2,3,4,5,6,7,8,9],[9])])
def AX.B7:List Nat:=Zq.bitsOf AX.T7.2
theorem AX.tab7:rtab .any (opsOf Tryz.f53 7)=AX.T7:=by kernel_rfl
theorem AX.bits7:DO AX.T7.2 AX.B7=true:=by kernel_rfl
theorem AX.calls (k:Nat) : ∀(a0:Int) (r:ByteArray) (w:World) (h:AX.f k a0=some r),
  Calls Tryz.prog 53 #[.int .i64 a0] w fun e w'=>e = .returned (.string r)∧Below w.heap.size w w':=by
 induction k using Nat.strongRecOn with
 | _ k ih =>
 intro a0 r w h;cases k with
 | zero=>exact absurd h (by simp [AX.f])
 | succ k =>
 simp only [AX.f] at h;have HB:=Aa.mk (Below.refl w.heap.size w);have H:(if a0<(-9223372036854775807) then (some (⟨#[45,57,50,50,51,51,55,50,48,51,54,56,53,52,55,55,53,56,48,56]⟩:ByteArray)) else (if a0<0 then ((AX.f k (wrap64 (-a0))).bind fun t666=>(if 1+t666.size≤9223372036854775807 then (some ((⟨#[45]⟩:ByteArray)++t666)) else (none))) else (if a0<10 then (some (strOfNums (([(wrap64 (48+a0))%256]:List Int)))) else ((AX.f k (wrap64 (Int.tdiv a0 10))).bind fun t670=>((some (([(wrap64 (48+(Int.tmod a0 10)))%256]:List Int):List Int)).bind fun y671=>(if t670.size+(strOfNums y671).size≤9223372036854775807 then (some (t670++(strOfNums y671))) else (none)))))))=some r:=h;clear h
 rcases Zq.ii H with ⟨c2,H⟩|⟨c2,H⟩
 ·have c2b0:=decide_eq_true c2;clear c2;obtain rfl:=Option.some.inj H
  go_enter Tryz.func53,Tryz.ntmps53
  go_wp2;go_ret
  exact ⟨Zs.auR,Zs.auHB⟩
 ·have c2b0:=decide_eq_false c2;clear c2
  rcases Zq.ii H with ⟨c3,H⟩|⟨c3,H⟩
  ·have c3b0:=decide_eq_true c3;clear c3;obtain ⟨t666,A4,H⟩:=Zs.be H
   obtain ⟨c5,H⟩:=Zq.ip H
   try have c5b2:(9223372036854775807<1+t666.size)=False:=eq_false (Nat.not_lt.2 c5)
   obtain rfl:=Option.some.inj H
   go_enter Tryz.func53,Tryz.ntmps53
   go_wp2_with (((with_reducible refine Ab (f:=53) rfl ?_);refine Zq.gb Tryz.func53 (ih k (by omega) (wrap64 (-a0)) t666 _ A4.out) ?_;intro w6 hb;replace HB:=Zq.st hb;(try clear hb)))
   go_ret
   exact ⟨Zs.auR,Zs.auHB⟩
  ·have c3b0:=decide_eq_false c3;clear c3
   rcases Zq.ii H with ⟨c7,H⟩|⟨c7,H⟩
   ·have c7b0:=decide_eq_true c7;clear c7;(try rw [Option.bind_some] at H);generalize hyy:([(wrap64 (48+a0))%256]:List Int)=y667 at H;have Ny667:=Aa.mk hyy.symm;clear hyy;obtain rfl:=Option.some.inj H
    go_enter Tryz.func53,Tryz.ntmps53
    go_wp2_with (((with_reducible refine Bg (N:=16) rfl ?_);refine Kd.MF (Kd.int .u8) _ 5 ?hg (N:=16) ?hd (xs:=([(wrap64 (48+a0))%256]:List Int)) (inner:=[.int .u8 ((wrap64 (48+a0))%256)]) (ok:=fun _=>True) (okp:=fun _=>True) ?hr ?hp (fun _ hk=>hk) trivial (Below.refl _ _) (Nat.le_refl _) (by simp) ?_;(case hd=>rfl);(case hg=>rfl);(case hr=>first|(go_simp;done)|(go_simp;rfl));(case hp=>exact (Reps.one (show Kd.M (Kd.int .u8) _ _ _ ((wrap64 (48+a0))%256) [.int .u8 ((wrap64 (48+a0))%256)] from rfl) (Reps.none _ _)));intro v668 w8 ho9 hb hg_ hnew_;clear hg_ hnew_;(first|rw [← Ny667.out] at ho9|(simp only [Int.reduceToNat] at ho9;rw [← Ny667.out] at ho9));have HO669:=Zq.lw ho9;replace HB:=Zq.st hb;clear hb ho9;have hcv10:=FP (P:=Tryz.prog) Tryz.underlying22 Tryz.underlying5 Tryz.underlying9 (Kd.Eg HO669.out)))
    go_ret
    exact ⟨Zs.auR,Zs.auHB⟩
   ·have c7b0:=decide_eq_false c7;clear c7;obtain ⟨t670,A11,H⟩:=Zs.be H;(try rw [Option.bind_some] at H);generalize hyy:([(wrap64 (48+(Int.tmod a0 10)))%256]:List Int)=y671 at H;have Ny671:=Aa.mk hyy.symm;clear hyy
    obtain ⟨c12,H⟩:=Zq.ip H
    try have c12b2:(9223372036854775807<t670.size+(strOfNums y671).size)=False:=eq_false (Nat.not_lt.2 c12)
    obtain rfl:=Option.some.inj H
    go_enter Tryz.func53,Tryz.ntmps53
    try go_wp2
    have n0_:=Aa.mk (Ax HB.out);clear HB;have HB:=n0_;clear n0_;refine D8 (n:=11) (S:=fun w'=>True) (ds:=[]) #[false,false,false,false,false,false,false,false,false,false,false] (by kernel_rfl) rfl rfl trivial (fun hHeld=>?_);refine CL AX.tab7 AX.bits7 (fun HT_ HW_=>?_);generalize w.drew=w13 at HB hHeld ⊢;refine Zs.pu 0 (some 18) ?_;refine Zs.pu 1 (some 19) ?_;refine Zs.pu 3 (some 21) ?_;refine Zs.pu 4 (some 22) ?_;refine Zs.pu 5 (some 23) ?_;refine Zs.pu 6 (some 24) ?_
    refine join_ (σ:=Value) 2 #[true,true,true,true,true,true,true,true,true,false,false] (fun s_=>[(20,.string t670),(25,s_),(26,.string (strOfNums y671))]) (fun s_ w'=>(Kd.R (Kd.int .u8) 5 w' w.heap.size (fun _=>True) s_ y671)∧(Below w.heap.size w w')) ?_ ?_;rotate_left
    ·intro hCont;refine two_ (i:=2) (j:=7) (Ni:=some 20) (Nj:=some 25) #[true,true,true,true,true,true,true,false,false,false,false] #[true,true,false,true,true,true,true,true,false,false,false] rfl rfl rfl rfl (two_of HT_.out (by kernel_rfl)) (by decide) (by decide) (fun K hK=>?_) (fun K hK=>?_)
     ·skip
      refine GV Tryz.func53 (by kernel_rfl) rfl #[.int .i64 (wrap64 (Int.tdiv a0 10))] (by rfl) rfl rfl Zs.auM ?_
      with_reducible refine (ih k (by omega) (wrap64 (Int.tdiv a0 10)) t670 _ A11.out).mono ?_
      rintro e w14 ⟨rfl,hb⟩;refine ⟨_,rfl,?_⟩;have n0_:=Zq.st hb;clear HB;have HB:=n0_;clear n0_;(try clear hb);(try clear hb2);(try clear hk);(try clear hi);refine hK.out _ _ trivial (fun hHeld=>?_);clear hK K;refine Zq.nm (some 20) ?_
      refine Zq.o1 7 (some 25) (fun K hK=>?_);refine Kd.Ed (Kd.int .u8) _ 5 ?hg (N:=25) ?hd (xs:=([(wrap64 (48+(Int.tmod a0 10)))%256]:List Int)) (inner:=[.int .u8 ((wrap64 (48+(Int.tmod a0 10)))%256)]) (ok:=fun _=>True) (okp:=fun _=>True) ?hr ?hp (fun _ hk=>hk) trivial (Below.refl _ _) (Nat.le_refl _) (by simp) ?_;(case hd=>rfl);(case hg=>rfl);(case hr=>first|(go_simp;done)|(go_simp;rfl));(case hp=>exact (Reps.one (show Kd.M (Kd.int .u8) _ _ _ ((wrap64 (48+(Int.tmod a0 10)))%256) [.int .u8 ((wrap64 (48+(Int.tmod a0 10)))%256)] from rfl) (Reps.none _ _)));intro v672 w15 ho16 hb hg_ hnew_;clear hg_ hnew_
      (first|rw [← Ny671.out] at ho16|(simp only [Int.reduceToNat] at ho16;rw [← Ny671.out] at ho16))
      have n0_:=Zq.lw ho16;have n1_:=Zq.st hb;clear HB;have HO673:=n0_;have HB:=n1_;clear n0_ n1_;clear hb ho16;refine hK.out _ _ trivial (fun hHeld=>?_);clear hK K;refine Zq.nm (some 25) ?_
      refine Zq.o1 8 (some 26) (fun K hK=>?_);have hcv17:=FP (P:=Tryz.prog) Tryz.underlying22 Tryz.underlying5 Tryz.underlying9 (Kd.Eg HO673.out);refine N8 (w1:=?_) (v:=?_) (by rfl) rfl ?_ ?_;rotate_left 2
      ·go_simp
       constructor
       ·rfl
       ·rfl
      clear hcv17;refine hK.out _ _ trivial (fun hHeld=>?_);clear hK K;refine Zq.nm (some 26) ?_
      exact Nz (by simp only [H4,Act.put,List.setIfInBounds_toArray,List.set_cons_zero,List.set_cons_succ]) (hCont (v672) _ ⟨((Zs.mvR HO673.out)),(Zs.auHB)⟩)
     ·skip
      refine Kd.Ed (Kd.int .u8) _ 5 ?hg (N:=25) ?hd (xs:=([(wrap64 (48+(Int.tmod a0 10)))%256]:List Int)) (inner:=[.int .u8 ((wrap64 (48+(Int.tmod a0 10)))%256)]) (ok:=fun _=>True) (okp:=fun _=>True) ?hr ?hp (fun _ hk=>hk) trivial (Below.refl _ _) (Nat.le_refl _) (by simp) ?_;(case hd=>rfl);(case hg=>rfl);(case hr=>first|(go_simp;done)|(go_simp;rfl));(case hp=>exact (Reps.one (show Kd.M (Kd.int .u8) _ _ _ ((wrap64 (48+(Int.tmod a0 10)))%256) [.int .u8 ((wrap64 (48+(Int.tmod a0 10)))%256)] from rfl) (Reps.none _ _)));intro v672 w14 ho15 hb hg_ hnew_;clear hg_ hnew_
      (first|rw [← Ny671.out] at ho15|(simp only [Int.reduceToNat] at ho15;rw [← Ny671.out] at ho15))
      have n0_:=Zq.lw ho15;have n1_:=Zq.st hb;clear HB;have HO673:=n0_;have HB:=n1_;clear n0_ n1_;clear hb ho15;refine hK.out _ _ trivial (fun hHeld=>?_);clear hK K;refine Zq.nm (some 25) ?_
      refine two_ (i:=2) (j:=8) (Ni:=some 20) (Nj:=some 26) #[true,true,true,true,true,true,true,true,false,false,false] #[true,true,false,true,true,true,true,true,true,false,false] rfl rfl rfl rfl (two_of HT_.out (by kernel_rfl)) (by decide) (by decide) (fun K hK=>?_) (fun K hK=>?_)
      ·skip
       refine GV Tryz.func53 (by kernel_rfl) rfl #[.int .i64 (wrap64 (Int.tdiv a0 10))] (by rfl) rfl rfl Zs.auM ?_
       with_reducible refine (ih k (by omega) (wrap64 (Int.tdiv a0 10)) t670 _ A11.out).mono ?_
       rintro e w16 ⟨rfl,hb⟩;refine ⟨_,rfl,?_⟩;have n0_:=Zq.rb HO673.out hb;have n1_:=Zq.st hb;clear HO673;clear HB;have HO673:=n0_;have HB:=n1_;clear n0_ n1_;(try clear hb);(try clear hb2);(try clear hk);(try clear hi);refine hK.out _ _ trivial (fun hHeld=>?_);clear hK K;refine Zq.nm (some 20) ?_
       refine Zq.o1 8 (some 26) (fun K hK=>?_);have hcv17:=FP (P:=Tryz.prog) Tryz.underlying22 Tryz.underlying5 Tryz.underlying9 (Kd.Eg HO673.out);refine N8 (w1:=?_) (v:=?_) (by rfl) rfl ?_ ?_;rotate_left 2
       ·go_simp
        constructor
        ·rfl
        ·rfl
       clear hcv17;refine hK.out _ _ trivial (fun hHeld=>?_);clear hK K;refine Zq.nm (some 26) ?_
       exact Nz (by simp only [H4,Act.put,List.setIfInBounds_toArray,List.set_cons_zero,List.set_cons_succ]) (hCont (v672) _ ⟨((Zs.mvR HO673.out)),(Zs.auHB)⟩)
      ·skip
       have hcv16:=FP (P:=Tryz.prog) Tryz.underlying22 Tryz.underlying5 Tryz.underlying9 (Kd.Eg HO673.out);refine N8 (w1:=?_) (v:=?_) (by rfl) rfl ?_ ?_;rotate_left 2
       ·go_simp
        constructor
        ·rfl
        ·rfl
       clear hcv16;refine hK.out _ _ trivial (fun hHeld=>?_);clear hK K;refine Zq.nm (some 26) ?_
       refine Zq.o1 2 (some 20) (fun K hK=>?_);refine GV Tryz.func53 (by kernel_rfl) rfl #[.int .i64 (wrap64 (Int.tdiv a0 10))] (by rfl) rfl rfl Zs.auM ?_
       with_reducible refine (ih k (by omega) (wrap64 (Int.tdiv a0 10)) t670 _ A11.out).mono ?_
       rintro e w17 ⟨rfl,hb⟩;refine ⟨_,rfl,?_⟩;have n0_:=Zq.rb HO673.out hb;have n1_:=Zq.st hb;clear HO673;clear HB;have HO673:=n0_;have HB:=n1_;clear n0_ n1_;(try clear hb);(try clear hb2);(try clear hk);(try clear hi);refine hK.out _ _ trivial (fun hHeld=>?_);clear hK K;refine Zq.nm (some 20) ?_
       exact Nz (by simp only [H4,Act.put,List.setIfInBounds_toArray,List.set_cons_zero,List.set_cons_succ]) (hCont (v672) _ ⟨((Zs.mvR HO673.out)),(Zs.auHB)⟩)
    rintro v672 w18 ⟨h0_,h1_⟩;have n0_:Aa (Kd.R (Kd.int .u8) 5 w18 w.heap.size (fun _=>True) v672 y671):=⟨h0_⟩;have n1_:Aa (Below w.heap.size w w18):=⟨h1_⟩;clear HB;clear h0_ h1_;have HO673:=n0_;have HB:=n1_;clear n0_ n1_;have hHeld:=trivial;refine Nz (a':=?_) ?_ ?_;rotate_left
    ·simp only [H4,Act.put,List.setIfInBounds_toArray,List.set_cons_zero,List.set_cons_succ];rfl
    refine Zs.pu 9 (some 27) ?_;refine Zs.pu 10 (some 2) ?_
    refine Zq.dn ?_
    try go_wp2
    go_ret
    exact ⟨Zs.auR,Zs.auHB⟩
def Cn.f (a0:ByteArray) (a1:Bool):Option (ByteArray):=if a1=true then (if a0.size+1≤9223372036854775807 then (some (a0++(⟨#[10]⟩:ByteArray))) else (none)) else (some (⟨#[110,111,10]⟩:ByteArray))
theorem Cn.calls (a0:ByteArray) (a1:Bool) (r:ByteArray) (w:World) (h:Cn.f a0 a1=some r) :
  Calls Tryz.prog 152 #[.string a0,.bool a1] w fun e w'=>e = .returned (.string r)∧Bh w w':=by
 unfold Cn.f at h;have H:=h;clear h
 by_cases c3:a1=true
 ·subst c3;rw [if_pos rfl] at H
  obtain ⟨c4,H⟩:=Zq.ip H
  try have c4b2:(9223372036854775807<a0.size+1)=False:=eq_false (Nat.not_lt.2 c4)
  obtain rfl:=Option.some.inj H
  go_enter Tryz.func152,Tryz.ntmps152
  go_wp2;go_ret
  exact ⟨Zs.auS,Zq.dr⟩
 ·replace c3:=Bool.eq_false_iff.mpr c3;subst c3;rw [if_neg (show ¬(false=true) by decide)] at H;obtain rfl:=Option.some.inj H
  go_enter Tryz.func152,Tryz.ntmps152
  go_wp2;go_ret
  exact ⟨Zs.auS,Zq.dr⟩
def Bu.l0:Nat→List Int→ByteArray→Int→Option (ByteArray)
 | 0,_,_,_=>none
 | k+1,x0,x3,x4=>if x4<(x0.length:Int) then (if x4>0 then (if x3.size+1≤9223372036854775807 then (if 0≤x4 then ((AX.f k (rd x0 x4)).bind fun t675=>(if (x3++(⟨#[32]⟩:ByteArray)).size+t675.size≤9223372036854775807 then (Bu.l0 k x0 ((x3++(⟨#[32]⟩:ByteArray))++t675) (wrap64 (x4+1))) else (none))) else (none)) else (none)) else (if 0≤x4 then ((AX.f k (rd x0 x4)).bind fun t677=>(if x3.size+t677.size≤9223372036854775807 then (Bu.l0 k x0 (x3++t677) (wrap64 (x4+1))) else (none))) else (none))) else (some x3)
def Bu.f (k:Nat) (l0:List Int):Option (ByteArray):=Bu.l0 k l0 (⟨#[]⟩:ByteArray) 0
theorem Bu.calls (k:Nat) (A0:Option Addr) (c0:Nat) (l0:List Int) (r:ByteArray) (w:World) (hr0:Kd.C (Kd.int .i64) w A0 l0.length l0) (hc0:l0.length≤c0) (h:Bu.f k l0=some r) :
  Calls Tryz.prog 154 #[.slice A0 l0.length c0] w fun e w'=>e = .returned (.string r)∧Below w.heap.size w w':=by
 have HR0:=Aa.mk hr0;have HC0:=Aa.mk hc0;clear hr0 hc0;have HB:=Aa.mk (Below.refl w.heap.size w);unfold Bu.f at h;have H:=h;clear h;have H':=Aa.mk H;clear H
 go_enter Tryz.func154,Tryz.ntmps154
 go_wp2
 go_loopg [3,4] k (fun kq v3 v4 w' => ∃(x3_1:ByteArray) (x4_1:Int),v3 = .string x3_1∧v4 = .int .i64 x4_1∧Aa (Bu.l0 kq l0 x3_1 x4_1=some r)∧Aa (kq≤k)∧Aa (Below w.heap.size w w'))
 case atStart=>exact ⟨((⟨#[]⟩:ByteArray)),(0),Zs.auS,Zs.auS,H',⟨Nat.le_refl _⟩,⟨Zs.auHB⟩⟩
 case round =>
  clear H'
  obtain ⟨x3_1,x4_1,rfl,rfl,HA,HK1,HB⟩:=hrel;cases gk with
  | zero=>exact absurd HA.out (by simp [Bu.l0])
  | succ k1 =>
   have H:=HA.out;clear HA;simp only [Bu.l0] at H
   rcases Zq.ii H with ⟨c2,H⟩|⟨c2,H⟩
   ·have c2b0:=decide_eq_true c2;clear c2
    rcases Zq.ii H with ⟨c3,H⟩|⟨c3,H⟩
    ·have c3b0:decide (0<x4_1)=true:=decide_eq_true c3;clear c3
     obtain ⟨c4,H⟩:=Zq.ip H
     try have c4b2:(9223372036854775807<x3_1.size+1)=False:=eq_false (Nat.not_lt.2 c4)
     obtain ⟨c5,H⟩:=Zq.ip H;have c5b0:=decide_eq_true c5;clear c5;obtain ⟨t675,A6,H⟩:=Zs.be H
     obtain ⟨c7,H⟩:=Zq.ip H
     try skip
     have c7b4:=eq_false (Nat.not_lt.2 c7);simp only [ByteArray.size_append,show (⟨#[32]⟩:ByteArray).size=1 from rfl] at c7b4;have H':=Aa.mk H;clear H;obtain ⟨ad674,e674,hx674_0,p674,q674⟩:=Zq.at_ HR0.out x4_1;cases e674;replace hx674_0:=Zq.ce HB.out hx674_0
     go_wp2_with (((with_reducible refine Ab (f:=53) rfl ?_);refine Zq.gb Tryz.func53 (AX.calls _ _ _ _ A6.out) ?_;intro w8 hb;replace HB:=Zq.st hb;(try clear hb)))
     go_roundg k1
     case measure=>have:=HK1.out;omega
     case rel=>exact ⟨((x3_1++(⟨#[32]⟩:ByteArray))++t675),(wrap64 (x4_1+1)),Zs.auS,Zs.auS,H',⟨by have:=HK1.out;omega⟩,⟨Zs.auHB⟩⟩
    ·have c3b0:decide (0<x4_1)=false:=decide_eq_false c3;clear c3
     obtain ⟨c9,H⟩:=Zq.ip H;have c9b0:=decide_eq_true c9;clear c9;obtain ⟨t677,A10,H⟩:=Zs.be H
     obtain ⟨c11,H⟩:=Zq.ip H
     try have c11b2:(9223372036854775807<x3_1.size+t677.size)=False:=eq_false (Nat.not_lt.2 c11)
     have H':=Aa.mk H;clear H;obtain ⟨ad676,e676,hx676_0,p676,q676⟩:=Zq.at_ HR0.out x4_1;cases e676;replace hx676_0:=Zq.ce HB.out hx676_0
     go_wp2_with (((with_reducible refine Ab (f:=53) rfl ?_);refine Zq.gb Tryz.func53 (AX.calls _ _ _ _ A10.out) ?_;intro w12 hb;replace HB:=Zq.st hb;(try clear hb)))
     go_roundg k1
     case measure=>have:=HK1.out;omega
     case rel=>exact ⟨(x3_1++t677),(wrap64 (x4_1+1)),Zs.auS,Zs.auS,H',⟨by have:=HK1.out;omega⟩,⟨Zs.auHB⟩⟩
   ·have c2b0:=decide_eq_false c2;clear c2;obtain rfl:=Option.some.inj H;go_wp2;go_ret
    exact ⟨Zs.auR,Zs.auHB⟩
def AY.l0:Nat→List Int→Int→Int→Option (Int)
 | 0,_,_,_=>none
 | k+1,x0,x3,x4=>if x4<(x0.length:Int) then (if 0≤x4 then (AY.l0 k x0 (wrap64 (x3*(rd x0 x4))) (wrap64 (x4+1))) else (none)) else (some x3)
def AY.f (k:Nat) (l0:List Int):Option (Int):=AY.l0 k l0 1 0
theorem AY.calls (k:Nat) (A0:Option Addr) (c0:Nat) (l0:List Int) (r:Int) (w:World) (hr0:Kd.C (Kd.int .i64) w A0 l0.length l0) (hc0:l0.length≤c0) (h:AY.f k l0=some r) :
  Calls Tryz.prog 131 #[.slice A0 l0.length c0] w fun e w'=>e = .returned (.int .i64 r)∧Bh w w':=by
 have HR0:=Aa.mk hr0;have HC0:=Aa.mk hc0;clear hr0 hc0;unfold AY.f at h;have H:=h;clear h;have H':=Aa.mk H;clear H
 go_enter Tryz.func131,Tryz.ntmps131
 go_wp2
 go_loopg [3,4] k (fun kq v3 v4 w' => ∃(x3_1:Int) (x4_1:Int),v3 = .int .i64 x3_1∧v4 = .int .i64 x4_1∧Aa (AY.l0 kq l0 x3_1 x4_1=some r)∧Aa (kq≤k)∧Bh w w')
 case atStart=>exact ⟨(1),(0),Zs.auS,Zs.auS,H',⟨Nat.le_refl _⟩,Zq.dr⟩
 case round =>
  clear H'
  obtain ⟨x3_1,x4_1,rfl,rfl,HA,HK1,⟨m1,rfl⟩⟩:=hrel;cases gk with
  | zero=>exact absurd HA.out (by simp [AY.l0])
  | succ k1 =>
   have H:=HA.out;clear HA;simp only [AY.l0] at H
   rcases Zq.ii H with ⟨c2,H⟩|⟨c2,H⟩
   ·have c2b0:=decide_eq_true c2;clear c2
    obtain ⟨c3,H⟩:=Zq.ip H;have c3b0:=decide_eq_true c3;clear c3;have H':=Aa.mk H;clear H;obtain ⟨ad678,e678,hx678_0,p678,q678⟩:=Zq.at_ HR0.out x4_1;cases e678;go_wp2
    go_roundg k1
    case measure=>have:=HK1.out;omega
    case rel=>exact ⟨(wrap64 (x3_1*(rd l0 x4_1))),(wrap64 (x4_1+1)),Zs.auS,Zs.auS,H',⟨by have:=HK1.out;omega⟩,Zq.dr⟩
   ·have c2b0:=decide_eq_false c2;clear c2;obtain rfl:=Option.some.inj H;go_wp2;go_ret
    exact ⟨Zs.auS,Zq.dr⟩
def Dg.f (k:Nat) (l0:List Int):Option (Int):=(Au.f k l0).bind fun t679=>(if t679=true then ((AY.f k l0).bind fun t680=>((AP.f k t680).bind fun bt681=>(some bt681.1))) else (some 0))
theorem Dg.calls (k:Nat) (A0:Option Addr) (c0:Nat) (l0:List Int) (r:Int) (w:World) (hr0:Kd.C (Kd.int .i64) w A0 l0.length l0) (hc0:l0.length≤c0) (h:Dg.f k l0=some r) :
  Calls Tryz.prog 172 #[.slice A0 l0.length c0] w fun e w'=>e = .returned (.int .i64 r)∧Below w.heap.size w w':=by
 have HR0:=Aa.mk hr0;have HC0:=Aa.mk hc0;clear hr0 hc0;have HB:=Aa.mk (Below.refl w.heap.size w);unfold Dg.f at h;have H:=h;clear h;obtain ⟨t679,A2,H⟩:=Zs.be H
 by_cases c3:t679=true
 ·subst c3;rw [if_pos rfl] at H;obtain ⟨t680,A4,H⟩:=Zs.be H;replace H:=Option.bind_eq_some_iff.mp H;obtain ⟨⟨t681,t682⟩,A50,H⟩:=H;try dsimp only at H;have A5:=Aa.mk A50;clear A50;obtain rfl:=Option.some.inj H
  go_enter Tryz.func172,Tryz.ntmps172
  go_wp2_with (first|((with_reducible refine Ab (f:=62) rfl ?_);refine Zq.gp Tryz.func62 (Au.calls _ _ _ _ _ _ (Zs.mvC (HR0.out)) HC0.out A2.out) ?_;intro nd)|((with_reducible refine Ab (f:=131) rfl ?_);refine Zq.gp Tryz.func131 (AY.calls _ _ _ _ _ _ (Zs.mvC (HR0.out)) HC0.out A4.out) ?_;intro nd)|((with_reducible refine Ab (f:=81) rfl ?_);refine Zq.gb Tryz.func81 (AP.calls _ _ _ _ _ A5.out) ?_;intro w6 hb;replace HB:=Zq.st hb;(try clear hb)))
  go_ret
  exact ⟨Zs.auR,Zs.auHB⟩
 ·replace c3:=Bool.eq_false_iff.mpr c3;subst c3;rw [if_neg (show ¬(false=true) by decide)] at H;obtain rfl:=Option.some.inj H
  go_enter Tryz.func172,Tryz.ntmps172
  go_wp2_with (((with_reducible refine Ab (f:=62) rfl ?_);refine Zq.gp Tryz.func62 (Au.calls _ _ _ _ _ _ (Zs.mvC (HR0.out)) HC0.out A2.out) ?_;intro nd))
  go_ret
  exact ⟨Zs.auR,Zs.auHB⟩
def BK.l0:Nat→List Int→Int→Int→Option (Int)
 | 0,_,_,_=>none
 | k+1,x0,x3,x4=>if x4<(x0.length:Int) then (if 0≤x4 then (if (rd x0 x4)<0 then (BK.l0 k x0 (wrap64 (x3+1)) (wrap64 (x4+1))) else (BK.l0 k x0 x3 (wrap64 (x4+1)))) else (none)) else (some x3)
def BK.f (k:Nat) (l0:List Int):Option (Int):=BK.l0 k l0 0 0
theorem BK.calls (k:Nat) (A0:Option Addr) (c0:Nat) (l0:List Int) (r:Int) (w:World) (hr0:Kd.C (Kd.int .i64) w A0 l0.length l0) (hc0:l0.length≤c0) (h:BK.f k l0=some r) :
  Calls Tryz.prog 130 #[.slice A0 l0.length c0] w fun e w'=>e = .returned (.int .i64 r)∧Bh w w':=by
 have HR0:=Aa.mk hr0;have HC0:=Aa.mk hc0;clear hr0 hc0;unfold BK.f at h;have H:=h;clear h;have H':=Aa.mk H;clear H
 go_enter Tryz.func130,Tryz.ntmps130
 go_wp2
 go_loopg [3,4] k (fun kq v3 v4 w' => ∃(x3_1:Int) (x4_1:Int),v3 = .int .i64 x3_1∧v4 = .int .i64 x4_1∧Aa (BK.l0 kq l0 x3_1 x4_1=some r)∧Aa (kq≤k)∧Bh w w')
 case atStart=>exact ⟨(0),(0),Zs.auS,Zs.auS,H',⟨Nat.le_refl _⟩,Zq.dr⟩
 case round =>
  clear H'
  obtain ⟨x3_1,x4_1,rfl,rfl,HA,HK1,⟨m1,rfl⟩⟩:=hrel;cases gk with
  | zero=>exact absurd HA.out (by simp [BK.l0])
  | succ k1 =>
   have H:=HA.out;clear HA;simp only [BK.l0] at H
   rcases Zq.ii H with ⟨c2,H⟩|⟨c2,H⟩
   ·have c2b0:=decide_eq_true c2;clear c2
    obtain ⟨c3,H⟩:=Zq.ip H;have c3b0:=decide_eq_true c3;clear c3
    rcases Zq.ii H with ⟨c4,H⟩|⟨c4,H⟩
    ·have c4b0:=decide_eq_true c4;clear c4;have H':=Aa.mk H;clear H;obtain ⟨ad683,e683,hx683_0,p683,q683⟩:=Zq.at_ HR0.out x4_1;cases e683;go_wp2
     go_roundg k1
     case measure=>have:=HK1.out;omega
     case rel=>exact ⟨(wrap64 (x3_1+1)),(wrap64 (x4_1+1)),Zs.auS,Zs.auS,H',⟨by have:=HK1.out;omega⟩,Zq.dr⟩
    ·have c4b0:=decide_eq_false c4;clear c4;have H':=Aa.mk H;clear H;obtain ⟨ad683,e683,hx683_0,p683,q683⟩:=Zq.at_ HR0.out x4_1;cases e683;go_wp2
     go_roundg k1
     case measure=>have:=HK1.out;omega
     case rel=>exact ⟨(x3_1),(wrap64 (x4_1+1)),Zs.auS,Zs.auS,H',⟨by have:=HK1.out;omega⟩,Zq.dr⟩
   ·have c2b0:=decide_eq_false c2;clear c2;obtain rfl:=Option.some.inj H;go_wp2;go_ret
    exact ⟨Zs.auS,Zq.dr⟩
def Cx.f (k:Nat) (a0:Int) (a1:Int):Option (Bool):=if a1=0 then (some (decide (a0>0))) else ((AG.f k a0 a1).bind fun bt684=>(if a1=2 then (if (Int.tmod bt684.1 2)=0 then ((CW.f bt684.2 8).bind fun t686=>(some (t686==1))) else (some false)) else (if (Int.tmod bt684.1 2)=0 then ((B9.f k bt684.2 a1).bind fun t687=>(some (t687==1))) else (some false))))
theorem Cx.calls (k:Nat) (a0:Int) (a1:Int) (r:Bool) (w:World) (h:Cx.f k a0 a1=some r) :
  Calls Tryz.prog 132 #[.int .i64 a0,.int .i64 a1] w fun e w'=>e = .returned (.bool r)∧Bh w w':=by
 unfold Cx.f at h;have H:=h;clear h
 rcases Zq.ii H with ⟨c3,H⟩|⟨c3,H⟩
 ·have c3b0:=beq_iff_eq.mpr c3;clear c3;obtain rfl:=Option.some.inj H
  go_enter Tryz.func132,Tryz.ntmps132
  go_wp2;go_ret
  exact ⟨Zs.auS,Zq.dr⟩
 ·have c3b0:=beq_eq_false_iff_ne.mpr c3;replace H:=Option.bind_eq_some_iff.mp H;obtain ⟨⟨t684,t685⟩,A40,H⟩:=H;try dsimp only at H;have A4:=Aa.mk A40;clear A40
  rcases Zq.ii H with ⟨c5,H⟩|⟨c5,H⟩
  ·have c5b0:=beq_iff_eq.mpr c5;clear c5
   rcases Zq.ii H with ⟨c6,H⟩|⟨c6,H⟩
   ·have c6b0:=beq_iff_eq.mpr c6;clear c6;obtain ⟨t686,A7,H⟩:=Zs.be H;obtain rfl:=Option.some.inj H
    go_enter Tryz.func132,Tryz.ntmps132
    go_wp2_with (first|((with_reducible refine Ab (f:=122) rfl ?_);refine Zq.gp Tryz.func122 (AG.calls _ _ _ _ _ _ A4.out) ?_;intro nd)|(go_at_call 123;(with_reducible refine (CW.calls t685 8 t686 _ A7.out).mono ?_);rintro e w' ⟨rfl,⟨nd,rfl⟩⟩))
    go_ret
    exact ⟨Zs.auS,Zq.dr⟩
   ·have c6b0:=beq_eq_false_iff_ne.mpr c6;obtain rfl:=Option.some.inj H
    go_enter Tryz.func132,Tryz.ntmps132
    go_wp2_with (((with_reducible refine Ab (f:=122) rfl ?_);refine Zq.gp Tryz.func122 (AG.calls _ _ _ _ _ _ A4.out) ?_;intro nd))
    go_ret
    exact ⟨Zs.auS,Zq.dr⟩
  ·have c5b0:=beq_eq_false_iff_ne.mpr c5
   rcases Zq.ii H with ⟨c8,H⟩|⟨c8,H⟩
   ·have c8b0:=beq_iff_eq.mpr c8;clear c8;obtain ⟨t687,A9,H⟩:=Zs.be H;obtain rfl:=Option.some.inj H
    go_enter Tryz.func132,Tryz.ntmps132
    go_wp2_with (first|((with_reducible refine Ab (f:=122) rfl ?_);refine Zq.gp Tryz.func122 (AG.calls _ _ _ _ _ _ A4.out) ?_;intro nd)|(go_at_call 125;(with_reducible refine (B9.calls k t685 a1 t687 _ A9.out).mono ?_);rintro e w' ⟨rfl,⟨nd,rfl⟩⟩))
    go_ret
    exact ⟨Zs.auS,Zq.dr⟩
   ·have c8b0:=beq_eq_false_iff_ne.mpr c8;obtain rfl:=Option.some.inj H
    go_enter Tryz.func132,Tryz.ntmps132
    go_wp2_with (((with_reducible refine Ab (f:=122) rfl ?_);refine Zq.gp Tryz.func122 (AG.calls _ _ _ _ _ _ A4.out) ?_;intro nd))
    go_ret
    exact ⟨Zs.auS,Zq.dr⟩
mutual
def AK.l0:Nat→List Int→Int→Int→Int→Option (Int)
 | 0,_,_,_,_=>none
 | k+1,x0,x1,x5,x6=>if x6<(x0.length:Int) then (AK.l1 k x0 x1 x5 x6 0) else (some x5)
def AK.l1:Nat→List Int→Int→Int→Int→Int→Option (Int)
 | 0,_,_,_,_,_=>none
 | k+1,x0,x1,x5,x6,x7=>if x7<x6 then (if 0≤x7 then (if x7<(x0.length:Int) then (if 0≤x6 then (if x6<(x0.length:Int) then ((B3.f k (rd x0 x7) (rd x0 x6) x1).bind fun t690=>(AK.l1 k x0 x1 (wrap64 (x5*t690)) x6 (wrap64 (x7+1)))) else (none)) else (none)) else (none)) else (none)) else (AK.l0 k x0 x1 x5 (wrap64 (x6+1)))
end
def AK.f (k:Nat) (l0:List Int) (a1:Int):Option (Int):=AK.l0 k l0 a1 1 0
theorem AK.calls (k:Nat) (A0:Option Addr) (c0:Nat) (l0:List Int) (a1:Int) (r:Int) (w:World) (hr0:Kd.C (Kd.int .i64) w A0 l0.length l0) (hc0:l0.length≤c0) (h:AK.f k l0 a1=some r) :
  Calls Tryz.prog 133 #[.slice A0 l0.length c0,.int .i64 a1] w fun e w'=>e = .returned (.int .i64 r)∧Bh w w':=by
 have HR0:=Aa.mk hr0;have HC0:=Aa.mk hc0;clear hr0 hc0;unfold AK.f at h;have H:=h;clear h;have H':=Aa.mk H;clear H
 go_enter Tryz.func133,Tryz.ntmps133
 go_wp2
 go_loopg [5,6] k (fun kq v5 v6 w' => ∃(x5_1:Int) (x6_1:Int),v5 = .int .i64 x5_1∧v6 = .int .i64 x6_1∧Aa (AK.l0 kq l0 a1 x5_1 x6_1=some r)∧Aa (kq≤k)∧Bh w w')
 case atStart=>exact ⟨(1),(0),Zs.auS,Zs.auS,H',⟨Nat.le_refl _⟩,Zq.dr⟩
 case round =>
  clear H'
  obtain ⟨x5_1,x6_1,rfl,rfl,HA,HK1,⟨m1,rfl⟩⟩:=hrel;cases gk with
  | zero=>exact absurd HA.out (by simp [AK.l0])
  | succ k1 =>
   have H:=HA.out;clear HA;simp only [AK.l0] at H
   rcases Zq.ii H with ⟨c3,H⟩|⟨c3,H⟩
   ·have c3b0:=decide_eq_true c3;clear c3;have H':=Aa.mk H;clear H;go_wp2
    go_loopg [5,7] k1 (fun kq v5 v7 w' => ∃(x5_2:Int) (x7_2:Int),v5 = .int .i64 x5_2∧v7 = .int .i64 x7_2∧Aa (AK.l1 kq l0 a1 x5_2 x6_1 x7_2=some r)∧Aa (kq≤k1)∧Bh w w')
    case atStart=>exact ⟨(x5_1),(0),Zs.auS,Zs.auS,H',⟨Nat.le_refl _⟩,Zq.dr⟩
    case round =>
     clear H'
     obtain ⟨x5_2,x7_2,rfl,rfl,HA,HK2,⟨m2,rfl⟩⟩:=hrel;cases gk with
     | zero=>exact absurd HA.out (by simp [AK.l1])
     | succ k2 =>
      have H:=HA.out;clear HA;simp only [AK.l1] at H
      rcases Zq.ii H with ⟨c4,H⟩|⟨c4,H⟩
      ·have c4b0:=decide_eq_true c4;clear c4
       obtain ⟨c5,H⟩:=Zq.ip H;have c5b0:=decide_eq_true c5;clear c5
       obtain ⟨c6,H⟩:=Zq.ip H;have c6b0:=decide_eq_true c6;clear c6
       obtain ⟨c7,H⟩:=Zq.ip H;have c7b0:=decide_eq_true c7;clear c7
       obtain ⟨c8,H⟩:=Zq.ip H;have c8b0:=decide_eq_true c8;clear c8;obtain ⟨t690,A9,H⟩:=Zs.be H;have H':=Aa.mk H;clear H;obtain ⟨ad688,e688,hx688_0,p688,q688⟩:=Zq.at_ HR0.out x7_2;cases e688;obtain ⟨ad689,e689,hx689_0,p689,q689⟩:=Zq.at_ HR0.out x6_1;obtain rfl:ad688=ad689:=(by injection e689)
       go_wp2_with ((go_at_call 72;(with_reducible refine (B3.calls k2 (rd l0 x7_2) (rd l0 x6_1) a1 t690 _ A9.out).mono ?_);rintro e w' ⟨rfl,⟨nd,rfl⟩⟩;(try exact Zq.dd)))
       repeat (go_quiet ((go_at_call 72;(with_reducible refine (B3.calls k2 (rd l0 x7_2) (rd l0 x6_1) a1 t690 _ A9.out).mono ?_);rintro e w' ⟨rfl,⟨nd,rfl⟩⟩;(try exact Zq.dd)));try go_wp2_with ((go_at_call 72;(with_reducible refine (B3.calls k2 (rd l0 x7_2) (rd l0 x6_1) a1 t690 _ A9.out).mono ?_);rintro e w' ⟨rfl,⟨nd,rfl⟩⟩;(try exact Zq.dd))))
       go_roundg k2
       case measure=>have:=HK1.out;have:=HK2.out;omega
       case rel=>exact ⟨(wrap64 (x5_2*t690)),(wrap64 (x7_2+1)),Zs.auS,Zs.auS,H',⟨by have:=HK1.out;have:=HK2.out;omega⟩,Zq.dr⟩
      ·have c4b0:=decide_eq_false c4;clear c4;have H':=Aa.mk H;clear H;go_wp2
       go_roundg k2
       case measure=>have:=HK1.out;have:=HK2.out;omega
       case rel=>exact ⟨(x5_2),(wrap64 (x6_1+1)),Zs.auS,Zs.auS,H',⟨by have:=HK1.out;have:=HK2.out;omega⟩,Zq.dr⟩
   ·have c3b0:=decide_eq_false c3;clear c3;obtain rfl:=Option.some.inj H;go_wp2
    go_ret
    exact ⟨Zs.auS,Zq.dr⟩
end Go.Proofs.YtacfcoilmdhgnaaGreatDoor.PFnExactExecute
