/- A function's Lean twin and its walk, written by a program of this session. -/
import Derived.Test.YtacfcoilmdhgnaaGreatDoorTPFnExactExecutex11
set_option maxHeartbeats 8000000
set_option maxRecDepth 100000
namespace Go.Proofs.YtacfcoilmdhgnaaGreatDoor.PFnExactExecute
open Go.RowKit Go.Proofs.YtacfcoilmdhgnaaGreatDoorW.PrintWords Go.Proofs.YtacfcoilmdhgnaaGreatDoorW.PrintLast Go.Proofs.YtacfcoilmdhgnaaGreatDoorW.PrintMore
attribute [local go_sem] Dy Dx D0 D1 Dc De DA Dz   -- for this text's walks alone
set_option linter.unusedVariables false
set_option linter.unusedSimpArgs false
def BC.f (k:Nat) (l0:List Int) (a1:Int):Option (Bool):=if a1=0 then ((BK.f k l0).bind fun t691=>(if t691>0 then ((BK.f k l0).bind fun t692=>(some (decide (t692<(l0.length:Int))))) else (some false))) else ((AY.f k l0).bind fun t693=>(if (l0.length:Int)=1 then (some false) else (if (l0.length:Int)=2 then ((Cx.f k (wrap64 (-t693)) a1).bind fun t694=>(some t694)) else (if (l0.length:Int)=3 then ((AK.f k l0 a1).bind fun t695=>((B3.f k (-1) (wrap64 (-t693)) a1).bind fun t696=>(some (t695==t696)))) else ((Cx.f k t693 a1).bind fun t697=>(if t697=true then ((AK.f k l0 a1).bind fun t698=>((B3.f k (-1) (-1) a1).bind fun t699=>(some (t698==t699)))) else (some true)))))))
theorem BC.calls (k:Nat) (A0:Option Addr) (c0:Nat) (l0:List Int) (a1:Int) (r:Bool) (w:World) (hr0:Kd.C (Kd.int .i64) w A0 l0.length l0) (hc0:l0.length≤c0) (h:BC.f k l0 a1=some r) :
  Calls Tryz.prog 75 #[.slice A0 l0.length c0,.int .i64 a1] w fun e w'=>e = .returned (.bool r)∧Bh w w':=by
 have HR0:=Aa.mk hr0;have HC0:=Aa.mk hc0;clear hr0 hc0;unfold BC.f at h;have H:=h;clear h
 rcases Zq.ii H with ⟨c3,H⟩|⟨c3,H⟩
 ·have c3b0:=beq_iff_eq.mpr c3;clear c3;obtain ⟨t691,A4,H⟩:=Zs.be H
  rcases Zq.ii H with ⟨c5,H⟩|⟨c5,H⟩
  ·have c5b0:decide (0<t691)=true:=decide_eq_true c5;clear c5;obtain ⟨t692,A6,H⟩:=Zs.be H;obtain rfl:=Option.some.inj H
   go_enter Tryz.func75,Tryz.ntmps75
   go_wp2_with (first|((with_reducible refine Ab (f:=130) rfl ?_);refine Zq.gp Tryz.func130 (BK.calls _ _ _ _ _ _ (Zs.mvC (HR0.out)) HC0.out A4.out) ?_;intro nd)|(go_at_call 130;(with_reducible refine (BK.calls k _ _ l0 t692 _ ?side1 ?side2 A6.out).mono ?_);(case side1=>exact Zs.mvC (HR0.out));(case side2=>exact HC0.out);rintro e w' ⟨rfl,⟨nd,rfl⟩⟩))
   go_ret
   exact ⟨Zs.auS,Zq.dr⟩
  ·have c5b0:decide (0<t691)=false:=decide_eq_false c5;clear c5;obtain rfl:=Option.some.inj H
   go_enter Tryz.func75,Tryz.ntmps75
   go_wp2_with (((with_reducible refine Ab (f:=130) rfl ?_);refine Zq.gp Tryz.func130 (BK.calls _ _ _ _ _ _ (Zs.mvC (HR0.out)) HC0.out A4.out) ?_;intro nd))
   go_ret
   exact ⟨Zs.auS,Zq.dr⟩
 ·have c3b0:=beq_eq_false_iff_ne.mpr c3;obtain ⟨t693,A7,H⟩:=Zs.be H
  rcases Zq.ii H with ⟨c8,H⟩|⟨c8,H⟩
  ·have c8b0:=beq_iff_eq.mpr c8;clear c8;obtain rfl:=Option.some.inj H
   go_enter Tryz.func75,Tryz.ntmps75
   go_wp2_with (((with_reducible refine Ab (f:=131) rfl ?_);refine Zq.gp Tryz.func131 (AY.calls _ _ _ _ _ _ (Zs.mvC (HR0.out)) HC0.out A7.out) ?_;intro nd))
   go_ret
   exact ⟨Zs.auS,Zq.dr⟩
  ·have c8b0:=beq_eq_false_iff_ne.mpr c8
   rcases Zq.ii H with ⟨c9,H⟩|⟨c9,H⟩
   ·have c9b0:=beq_iff_eq.mpr c9;clear c9;obtain ⟨t694,A10,H⟩:=Zs.be H;obtain rfl:=Option.some.inj H
    go_enter Tryz.func75,Tryz.ntmps75
    go_wp2_with (first|((with_reducible refine Ab (f:=131) rfl ?_);refine Zq.gp Tryz.func131 (AY.calls _ _ _ _ _ _ (Zs.mvC (HR0.out)) HC0.out A7.out) ?_;intro nd)|((with_reducible refine Ab (f:=132) rfl ?_);refine Zq.gp Tryz.func132 (Cx.calls _ _ _ _ _ A10.out) ?_;intro nd))
    go_ret
    exact ⟨Zs.auS,Zq.dr⟩
   ·have c9b0:=beq_eq_false_iff_ne.mpr c9
    rcases Zq.ii H with ⟨c11,H⟩|⟨c11,H⟩
    ·have c11b0:=beq_iff_eq.mpr c11;clear c11;obtain ⟨t695,A12,H⟩:=Zs.be H;obtain ⟨t696,A13,H⟩:=Zs.be H;obtain rfl:=Option.some.inj H
     go_enter Tryz.func75,Tryz.ntmps75
     go_wp2_with (first|((with_reducible refine Ab (f:=131) rfl ?_);refine Zq.gp Tryz.func131 (AY.calls _ _ _ _ _ _ (Zs.mvC (HR0.out)) HC0.out A7.out) ?_;intro nd)|((with_reducible refine Ab (f:=133) rfl ?_);refine Zq.gp Tryz.func133 (AK.calls _ _ _ _ _ _ _ (Zs.mvC (HR0.out)) HC0.out A12.out) ?_;intro nd)|((with_reducible refine Ab (f:=72) rfl ?_);refine Zq.gp Tryz.func72 (B3.calls _ _ _ _ _ _ A13.out) ?_;intro nd))
     go_ret
     exact ⟨Zs.auS,Zq.dr⟩
    ·have c11b0:=beq_eq_false_iff_ne.mpr c11;obtain ⟨t697,A14,H⟩:=Zs.be H
     by_cases c15:t697=true
     ·subst c15;rw [if_pos rfl] at H;obtain ⟨t698,A16,H⟩:=Zs.be H;obtain ⟨t699,A17,H⟩:=Zs.be H;obtain rfl:=Option.some.inj H
      go_enter Tryz.func75,Tryz.ntmps75
      go_wp2_with (first|((with_reducible refine Ab (f:=131) rfl ?_);refine Zq.gp Tryz.func131 (AY.calls _ _ _ _ _ _ (Zs.mvC (HR0.out)) HC0.out A7.out) ?_;intro nd)|((with_reducible refine Ab (f:=132) rfl ?_);refine Zq.gp Tryz.func132 (Cx.calls _ _ _ _ _ A14.out) ?_;intro nd)|(go_at_call 133;(with_reducible refine (AK.calls k _ _ l0 a1 t698 _ ?side1 ?side2 A16.out).mono ?_);(case side1=>exact Zs.mvC (HR0.out));(case side2=>exact HC0.out);rintro e w' ⟨rfl,⟨nd,rfl⟩⟩)|(go_at_call 72;(with_reducible refine (B3.calls k (-1) (-1) a1 t699 _ A17.out).mono ?_);rintro e w' ⟨rfl,⟨nd,rfl⟩⟩))
      go_ret
      exact ⟨Zs.auS,Zq.dr⟩
     ·replace c15:=Bool.eq_false_iff.mpr c15;subst c15;rw [if_neg (show ¬(false=true) by decide)] at H;obtain rfl:=Option.some.inj H
      go_enter Tryz.func75,Tryz.ntmps75
      go_wp2_with (first|((with_reducible refine Ab (f:=131) rfl ?_);refine Zq.gp Tryz.func131 (AY.calls _ _ _ _ _ _ (Zs.mvC (HR0.out)) HC0.out A7.out) ?_;intro nd)|((with_reducible refine Ab (f:=132) rfl ?_);refine Zq.gp Tryz.func132 (Cx.calls _ _ _ _ _ A14.out) ?_;intro nd))
      go_ret
      exact ⟨Zs.auS,Zq.dr⟩
def BM.l0:Nat→List Int→List Int→Int→Option (List Int)
 | 0,_,_,_=>none
 | k+1,x3,x4,x5=>if x5<(x4.length:Int) then (if 0≤x5 then (if (rd x4 x5)>2 then (if x3.length<17592186044416 then (BM.l0 k (x3++[rd x4 x5]) x4 (wrap64 (x5+1))) else (none)) else (BM.l0 k x3 x4 (wrap64 (x5+1)))) else (none)) else (some x3)
def BM.f (k:Nat) (a0:Int):Option (List Int):=(Az.f k a0).bind fun t703=>(BM.l0 k (([0,2]:List Int)) t703 0)
theorem BM.calls (k:Nat) (a0:Int) (r:List Int) (w:World) (h:BM.f k a0=some r) :
  Calls Tryz.prog 158 #[.int .i64 a0] w fun e w' => ∃v0_:Value,e = .returned (v0_)∧Kd.R (Kd.int .i64) 3 w' w.heap.size (fun _=>True) v0_ r∧Below w.heap.size w w':=by
 have HB:=Aa.mk (Below.refl w.heap.size w);unfold BM.f at h;have H:=h;clear h;(try rw [Option.bind_some] at H);generalize hyy:([0,2]:List Int)=y700 at H;have Ny700:=Aa.mk hyy.symm;clear hyy;obtain ⟨t703,A2,H⟩:=Zs.be H;have H':=Aa.mk H;clear H
 go_enter Tryz.func158,Tryz.ntmps158
 go_wp2_with (first|((with_reducible refine Bg (N:=6) rfl ?_);refine Zq.li ([0,2]:List Int) ?_;intro v701 w3 ho4 hb;(first|rw [← Ny700.out] at ho4|(simp only [Int.reduceToNat] at ho4;rw [← Ny700.out] at ho4));have HO702:=Zq.lw ho4;replace HB:=Zq.st hb;clear hb ho4)|((with_reducible refine Ab (f:=175) rfl ?_);refine Zq.gc (some 8) Tryz.func175 (Az.calls _ _ _ _ A2.out) ?_;rintro e w5 ⟨v704,rfl,ho0,hb⟩;refine ⟨_,rfl,?_⟩;have HO705:=Aa.mk (Kd.Bp (Kd.Bj ho0 (Zq.lt HO702.out)) (Av (Zs.auHB)));replace HO702:=Zq.el HO702.out ho0 hb;replace HB:=Zq.st hb;(try clear hb);(try clear ho0)))
 go_loopg [3,5] k (fun kq v3 v5 w' => ∃(x3_1:List Int) (x5_1:Int),v5 = .int .i64 x5_1∧Aa (BM.l0 kq x3_1 t703 x5_1=some r)∧Aa (kq≤k)∧Aa (Kd.R (Kd.int .i64) 3 w' w.heap.size (fun k_=>some k_≠(v704:Value).ownBlock) v3 x3_1)∧Aa (Kd.R (Kd.int .i64) 3 w' w.heap.size (fun k_=>some k_≠(v3:Value).ownBlock) v704 t703)∧Aa (Below w.heap.size w w'))
 case atStart=>exact ⟨(y700),(0),Zs.auS,H',⟨Nat.le_refl _⟩,⟨(Zs.mvR (Kd.AJ HO702.out (fun _ hk=>(by first|exact hk.2|exact trivial))))⟩,⟨(Zs.mvR (Kd.AJ HO705.out (fun _ hk=>(by first|exact hk.2|exact trivial))))⟩,⟨Zs.auHB⟩⟩
 case round =>
  clear H'
  obtain ⟨x3_1,x5_1,rfl,HA,HK1,HO_3,HO_4,HB⟩:=hrel;cases gk with
  | zero=>exact absurd HA.out (by simp [BM.l0])
  | succ k1 =>
   have H:=HA.out;clear HA;simp only [BM.l0] at H
   rcases Zq.ii H with ⟨c6,H⟩|⟨c6,H⟩
   ·have c6b0:=decide_eq_true c6;clear c6
    obtain ⟨c7,H⟩:=Zq.ip H;have c7b0:=decide_eq_true c7;clear c7
    rcases Zq.ii H with ⟨c8,H⟩|⟨c8,H⟩
    ·have c8b0:decide (2<(rd t703 x5_1))=true:=decide_eq_true c8;clear c8
     obtain ⟨c9,H⟩:=Zq.ip H;have LMc9:=Aa.mk c9;clear c9;(try rw [Option.bind_some] at H);generalize hyy:(x3_1++[rd t703 x5_1]:List Int)=y708 at H;have Ny708:=Aa.mk hyy.symm;clear hyy;have H':=Aa.mk H;clear H;obtain ⟨Ao10,co10,eo10⟩:=Kd.AD HO_4.out;subst eo10;obtain ⟨ad706,e706,hx706_0,p706,q706⟩:=Zq.at_ (Kd.Ac HO_4.out).2.2 x5_1;cases e706;obtain ⟨ad707,e707,hx707_0,p707,q707⟩:=Zq.at_ (Kd.Ac HO_4.out).2.2 x5_1;obtain rfl:ad706=ad707:=(by injection e707)
     go_wp2_with (((with_reducible refine AW (b := .append) (xs:=#[.tmp 20,.tmp 25]) rfl ?_);at_builtin;refine Zq.ap (.tmp 20) (.tmp 25) 27 Tryz.underlying27 DQ u3 x3_1 (rd t703 x5_1) (fun k_=>some k_≠(.slice (some ad706) t703.length co10:Value).ownBlock) (fun k_ hk=>Kd.DE (Zq.lt HO_4.out) k_ hk) ((Zs.mvR HO_3.out)) LMc9.out ?_;intro v709 w11 ho hb hg hat;rw [← Ny708.out] at ho;replace HO_4:=Aa.mk (Kd.BV (ok:=(fun _=>True)) ((Zs.mvR (Kd.AJ HO_4.out (fun _ hk=>⟨trivial,hk⟩)))) hg hat);replace HB:=Aa.mk (hb);have HO710:=Aa.mk (ho);clear HO_3;clear ho hb hg hat))
     go_roundg k1
     case measure=>have:=HK1.out;omega
     case rel=>exact ⟨(y708),(wrap64 (x5_1+1)),Zs.auS,H',⟨by have:=HK1.out;omega⟩,⟨(Zs.mvR HO710.out)⟩,⟨(Zs.mvR (Kd.AJ HO_4.out (fun _ hk=>(by first|exact hk.2|exact trivial))))⟩,⟨Zs.auHB⟩⟩
    ·have c8b0:decide (2<(rd t703 x5_1))=false:=decide_eq_false c8;clear c8;have H':=Aa.mk H;clear H;obtain ⟨Ao12,co12,eo12⟩:=Kd.AD HO_4.out;subst eo12;obtain ⟨ad706,e706,hx706_0,p706,q706⟩:=Zq.at_ (Kd.Ac HO_4.out).2.2 x5_1;cases e706;go_wp2
     go_roundg k1
     case measure=>have:=HK1.out;omega
     case rel=>exact ⟨(x3_1),(wrap64 (x5_1+1)),Zs.auS,H',⟨by have:=HK1.out;omega⟩,⟨(Zs.mvR HO_3.out)⟩,⟨(Zs.mvR HO_4.out)⟩,⟨Zs.auHB⟩⟩
   ·have c6b0:=decide_eq_false c6;clear c6;obtain rfl:=Option.some.inj H;obtain ⟨Ao13,co13,eo13⟩:=Kd.AD HO_4.out;subst eo13;go_wp2;go_ret
    exact ⟨_,Zs.auR,(Zs.mvR (Kd.AJ HO_3.out (fun _ hk=>trivial))),Zs.auHB⟩
def Cr.f (k:Nat) (l0:List Int):Option (List Int):=(Au.f k l0).bind fun t711=>(if t711=true then ((AY.f k l0).bind fun t712=>((BM.f k t712).bind fun t713=>(some t713))) else (some (([]:List Int))))
theorem Cr.calls (k:Nat) (A0:Option Addr) (c0:Nat) (l0:List Int) (r:List Int) (w:World) (hr0:Kd.C (Kd.int .i64) w A0 l0.length l0) (hc0:l0.length≤c0) (h:Cr.f k l0=some r) :
  Calls Tryz.prog 126 #[.slice A0 l0.length c0] w fun e w' => ∃v0_:Value,e = .returned (v0_)∧Kd.R (Kd.int .i64) 3 w' w.heap.size (fun _=>True) v0_ r∧Below w.heap.size w w':=by
 have HR0:=Aa.mk hr0;have HC0:=Aa.mk hc0;clear hr0 hc0;have HB:=Aa.mk (Below.refl w.heap.size w);unfold Cr.f at h;have H:=h;clear h;obtain ⟨t711,A2,H⟩:=Zs.be H
 by_cases c3:t711=true
 ·subst c3;rw [if_pos rfl] at H;obtain ⟨t712,A4,H⟩:=Zs.be H;obtain ⟨t713,A5,H⟩:=Zs.be H;obtain rfl:=Option.some.inj H
  go_enter Tryz.func126,Tryz.ntmps126
  go_wp2_with (first|((with_reducible refine Ab (f:=62) rfl ?_);refine Zq.gp Tryz.func62 (Au.calls _ _ _ _ _ _ (Zs.mvC (HR0.out)) HC0.out A2.out) ?_;intro nd)|((with_reducible refine Ab (f:=131) rfl ?_);refine Zq.gp Tryz.func131 (AY.calls _ _ _ _ _ _ (Zs.mvC (HR0.out)) HC0.out A4.out) ?_;intro nd)|((with_reducible refine Ab (f:=158) rfl ?_);refine Zq.gc (some 9) Tryz.func158 (BM.calls _ _ _ _ A5.out) ?_;rintro e w6 ⟨v714,rfl,ho0,hb⟩;refine ⟨_,rfl,?_⟩;have HO715:=Zq.lw ho0;replace HB:=Zq.st hb;(try clear hb);(try clear ho0)))
  go_ret
  exact ⟨_,Zs.auR,(Zs.mvR HO715.out),Zs.auHB⟩
 ·replace c3:=Bool.eq_false_iff.mpr c3;subst c3;rw [if_neg (show ¬(false=true) by decide)] at H;obtain ⟨y716,hyy⟩ : ∃y_:List Int,y_=(([]:List Int)):=⟨_,rfl⟩
  replace H:(some y716)=some r:=Zs.auY
  have Ny716:=Aa.mk hyy;clear hyy;obtain rfl:=Option.some.inj H
  go_enter Tryz.func126,Tryz.ntmps126
  go_wp2_with (first|((with_reducible refine Ab (f:=62) rfl ?_);refine Zq.gp Tryz.func62 (Au.calls _ _ _ _ _ _ (Zs.mvC (HR0.out)) HC0.out A2.out) ?_;intro nd)|((with_reducible refine Bg (N:=6) rfl ?_);refine Zq.li ([]:List Int) ?_;intro v717 w7 ho8 hb;(first|rw [← Ny716.out] at ho8|(simp only [Int.reduceToNat] at ho8;rw [← Ny716.out] at ho8));have HO718:=Zq.lw ho8;replace HB:=Zq.st hb;clear hb ho8))
  go_ret
  exact ⟨_,Zs.auR,(Zs.mvR HO718.out),Zs.auHB⟩
def BZ.l0:Nat→List Int→List Int→List Int→Int→Option (List Int)
 | 0,_,_,_,_=>none
 | k+1,x0,x3,x4,x5=>if x5<(x4.length:Int) then (if 0≤x5 then ((BC.f k x0 (rd x4 x5)).bind fun t726=>(if t726=true then (BZ.l0 k x0 x3 x4 (wrap64 (x5+1))) else (if x3.length<17592186044416 then (BZ.l0 k x0 (x3++[rd x4 x5]) x4 (wrap64 (x5+1))) else (none)))) else (none)) else (some x3)
def BZ.f (k:Nat) (l0:List Int):Option (List Int):=(Cr.f k l0).bind fun t722=>(BZ.l0 k l0 (([]:List Int)) t722 0)
theorem BZ.calls (k:Nat) (A0:Option Addr) (c0:Nat) (l0:List Int) (r:List Int) (w:World) (hr0:Kd.C (Kd.int .i64) w A0 l0.length l0) (hc0:l0.length≤c0) (h:BZ.f k l0=some r) :
  Calls Tryz.prog 191 #[.slice A0 l0.length c0] w fun e w' => ∃v0_:Value,e = .returned (v0_)∧Kd.R (Kd.int .i64) 3 w' w.heap.size (fun _=>True) v0_ r∧Below w.heap.size w w':=by
 have HR0:=Aa.mk hr0;have HC0:=Aa.mk hc0;clear hr0 hc0;have HB:=Aa.mk (Below.refl w.heap.size w);unfold BZ.f at h;have H:=h;clear h;obtain ⟨y719,hyy⟩ : ∃y_:List Int,y_=(([]:List Int)):=⟨_,rfl⟩
 replace H:((Cr.f k l0).bind fun t722=>(BZ.l0 k l0 y719 t722 0))=some r:=Zs.auY
 have Ny719:=Aa.mk hyy;clear hyy;obtain ⟨t722,A2,H⟩:=Zs.be H;have H':=Aa.mk H;clear H
 go_enter Tryz.func191,Tryz.ntmps191
 go_wp2_with (first|((with_reducible refine Bg (N:=6) rfl ?_);refine Zq.li ([]:List Int) ?_;intro v720 w3 ho4 hb;(first|rw [← Ny719.out] at ho4|(simp only [Int.reduceToNat] at ho4;rw [← Ny719.out] at ho4));have HO721:=Zq.lw ho4;replace HB:=Zq.st hb;clear hb ho4)|((with_reducible refine Ab (f:=126) rfl ?_);refine Zq.gc (some 8) Tryz.func126 (Cr.calls _ _ _ _ _ _ (Zs.mvC ((Kd.Bw HR0.out HB.out))) HC0.out A2.out) ?_;rintro e w5 ⟨v723,rfl,ho0,hb⟩;refine ⟨_,rfl,?_⟩;have HO724:=Aa.mk (Kd.Bp (Kd.Bj ho0 (Zq.lt HO721.out)) (Av (Zs.auHB)));replace HO721:=Zq.el HO721.out ho0 hb;replace HB:=Zq.st hb;(try clear hb);(try clear ho0)))
 go_loopg [3,5] k (fun kq v3 v5 w' => ∃(x3_1:List Int) (x5_1:Int),v5 = .int .i64 x5_1∧Aa (BZ.l0 kq l0 x3_1 t722 x5_1=some r)∧Aa (kq≤k)∧Aa (Kd.R (Kd.int .i64) 3 w' w.heap.size (fun k_=>some k_≠(v723:Value).ownBlock) v3 x3_1)∧Aa (Kd.R (Kd.int .i64) 3 w' w.heap.size (fun k_=>some k_≠(v3:Value).ownBlock) v723 t722)∧Aa (Below w.heap.size w w'))
 case atStart=>exact ⟨(y719),(0),Zs.auS,H',⟨Nat.le_refl _⟩,⟨(Zs.mvR (Kd.AJ HO721.out (fun _ hk=>(by first|exact hk.2|exact trivial))))⟩,⟨(Zs.mvR (Kd.AJ HO724.out (fun _ hk=>(by first|exact hk.2|exact trivial))))⟩,⟨Zs.auHB⟩⟩
 case round =>
  clear H'
  obtain ⟨x3_1,x5_1,rfl,HA,HK1,HO_3,HO_4,HB⟩:=hrel;cases gk with
  | zero=>exact absurd HA.out (by simp [BZ.l0])
  | succ k1 =>
   have H:=HA.out;clear HA;simp only [BZ.l0] at H
   rcases Zq.ii H with ⟨c6,H⟩|⟨c6,H⟩
   ·have c6b0:=decide_eq_true c6;clear c6
    obtain ⟨c7,H⟩:=Zq.ip H;have c7b0:=decide_eq_true c7;clear c7;obtain ⟨t726,A8,H⟩:=Zs.be H
    by_cases c9:t726=true
    ·subst c9;rw [if_pos rfl] at H;have H':=Aa.mk H;clear H;obtain ⟨Ao10,co10,eo10⟩:=Kd.AD HO_4.out;subst eo10;obtain ⟨ad725,e725,hx725_0,p725,q725⟩:=Zq.at_ (Kd.Ac HO_4.out).2.2 x5_1;cases e725
     go_wp2_with (((with_reducible refine Ab (f:=75) rfl ?_);refine Zq.gp Tryz.func75 (BC.calls _ _ _ _ _ _ _ (Zs.mvC ((Kd.Bw HR0.out HB.out))) HC0.out A8.out) ?_;intro nd))
     go_roundg k1
     case measure=>have:=HK1.out;omega
     case rel=>exact ⟨(x3_1),(wrap64 (x5_1+1)),Zs.auS,H',⟨by have:=HK1.out;omega⟩,⟨(Zs.mvR HO_3.out)⟩,⟨(Zs.mvR HO_4.out)⟩,⟨Zs.auHB⟩⟩
    ·replace c9:=Bool.eq_false_iff.mpr c9;subst c9;rw [if_neg (show ¬(false=true) by decide)] at H
     obtain ⟨c11,H⟩:=Zq.ip H;have LMc11:=Aa.mk c11;clear c11;(try rw [Option.bind_some] at H);generalize hyy:(x3_1++[rd t722 x5_1]:List Int)=y728 at H;have Ny728:=Aa.mk hyy.symm;clear hyy;have H':=Aa.mk H;clear H;obtain ⟨Ao12,co12,eo12⟩:=Kd.AD HO_4.out;subst eo12;obtain ⟨ad725,e725,hx725_0,p725,q725⟩:=Zq.at_ (Kd.Ac HO_4.out).2.2 x5_1;cases e725
     go_wp2_with (first|((with_reducible refine Ab (f:=75) rfl ?_);refine Zq.gp Tryz.func75 (BC.calls _ _ _ _ _ _ _ (Zs.mvC ((Kd.Bw HR0.out HB.out))) HC0.out A8.out) ?_;intro nd;obtain ⟨ad727,e727,hx727_0,p727,q727⟩:=Zq.at_ (Kd.Ac HO_4.out).2.2 x5_1;obtain rfl:ad725=ad727:=(by injection e727))|((with_reducible refine AW (b := .append) (xs:=#[.tmp 22,.tmp 27]) rfl ?_);at_builtin;refine Zq.ap (.tmp 22) (.tmp 27) 27 Tryz.underlying27 DQ u3 x3_1 (rd t722 x5_1) (fun k_=>some k_≠(.slice (some ad725) t722.length co12:Value).ownBlock) (fun k_ hk=>Kd.DE (Zq.lt HO_4.out) k_ hk) ((Zs.mvR HO_3.out)) LMc11.out ?_;intro v729 w13 ho hb hg hat;rw [← Ny728.out] at ho;replace HO_4:=Aa.mk (Kd.BV (ok:=(fun _=>True)) ((Zs.mvR (Kd.AJ HO_4.out (fun _ hk=>⟨trivial,hk⟩)))) hg hat);replace HB:=Aa.mk (hb);have HO730:=Aa.mk (ho);clear HO_3;clear ho hb hg hat))
     go_roundg k1
     case measure=>have:=HK1.out;omega
     case rel=>exact ⟨(y728),(wrap64 (x5_1+1)),Zs.auS,H',⟨by have:=HK1.out;omega⟩,⟨(Zs.mvR HO730.out)⟩,⟨(Zs.mvR (Kd.AJ HO_4.out (fun _ hk=>(by first|exact hk.2|exact trivial))))⟩,⟨Zs.auHB⟩⟩
   ·have c6b0:=decide_eq_false c6;clear c6;obtain rfl:=Option.some.inj H;obtain ⟨Ao14,co14,eo14⟩:=Kd.AD HO_4.out;subst eo14;go_wp2;go_ret
    exact ⟨_,Zs.auR,(Zs.mvR (Kd.AJ HO_3.out (fun _ hk=>trivial))),Zs.auHB⟩
def BT.l0:Nat→ByteArray→List Int→Int→Option (ByteArray)
 | 0,_,_,_=>none
 | k+1,x3,x4,x5=>if x5<(x4.length:Int) then (if x5>0 then (if x3.size+1≤9223372036854775807 then (if 0≤x5 then (if (rd x4 x5)=0 then (if (x3++(⟨#[32]⟩:ByteArray)).size+1≤9223372036854775807 then (BT.l0 k ((x3++(⟨#[32]⟩:ByteArray))++(⟨#[114]⟩:ByteArray)) x4 (wrap64 (x5+1))) else (none)) else ((AX.f k (rd x4 x5)).bind fun t736=>(if (x3++(⟨#[32]⟩:ByteArray)).size+t736.size≤9223372036854775807 then (BT.l0 k ((x3++(⟨#[32]⟩:ByteArray))++t736) x4 (wrap64 (x5+1))) else (none)))) else (none)) else (none)) else (if 0≤x5 then (if (rd x4 x5)=0 then (if x3.size+1≤9223372036854775807 then (BT.l0 k (x3++(⟨#[114]⟩:ByteArray)) x4 (wrap64 (x5+1))) else (none)) else ((AX.f k (rd x4 x5)).bind fun t739=>(if x3.size+t739.size≤9223372036854775807 then (BT.l0 k (x3++t739) x4 (wrap64 (x5+1))) else (none)))) else (none))) else (if x3.size+1≤9223372036854775807 then (some (x3++(⟨#[10]⟩:ByteArray))) else (none))
def BT.f (k:Nat) (l0:List Int):Option (ByteArray):=(BZ.f k l0).bind fun t731=>(BT.l0 k (⟨#[]⟩:ByteArray) t731 0)
theorem BT.calls (k:Nat) (A0:Option Addr) (c0:Nat) (l0:List Int) (r:ByteArray) (w:World) (hr0:Kd.C (Kd.int .i64) w A0 l0.length l0) (hc0:l0.length≤c0) (h:BT.f k l0=some r) :
  Calls Tryz.prog 173 #[.slice A0 l0.length c0] w fun e w'=>e = .returned (.string r)∧Below w.heap.size w w':=by
 have HR0:=Aa.mk hr0;have HC0:=Aa.mk hc0;clear hr0 hc0;have HB:=Aa.mk (Below.refl w.heap.size w);unfold BT.f at h;have H:=h;clear h;obtain ⟨t731,A2,H⟩:=Zs.be H;have H':=Aa.mk H;clear H
 go_enter Tryz.func173,Tryz.ntmps173
 go_wp2_with (((with_reducible refine Ab (f:=191) rfl ?_);refine Zq.gc (some 7) Tryz.func191 (BZ.calls _ _ _ _ _ _ (Zs.mvC (HR0.out)) HC0.out A2.out) ?_;rintro e w3 ⟨v732,rfl,ho0,hb⟩;refine ⟨_,rfl,?_⟩;have HO733:=Zq.lw ho0;replace HB:=Zq.st hb;(try clear hb);(try clear ho0)))
 go_loopg [3,5] k (fun kq v3 v5 w' => ∃(x3_1:ByteArray) (x5_1:Int),v3 = .string x3_1∧v5 = .int .i64 x5_1∧Aa (BT.l0 kq x3_1 t731 x5_1=some r)∧Aa (kq≤k)∧Aa (Kd.R (Kd.int .i64) 3 w' w.heap.size (fun _=>True) v732 t731)∧Aa (Below w.heap.size w w'))
 case atStart=>exact ⟨((⟨#[]⟩:ByteArray)),(0),Zs.auS,Zs.auS,H',⟨Nat.le_refl _⟩,⟨(Zs.mvR HO733.out)⟩,⟨Zs.auHB⟩⟩
 case round =>
  clear H'
  obtain ⟨x3_1,x5_1,rfl,rfl,HA,HK1,HO_4,HB⟩:=hrel;cases gk with
  | zero=>exact absurd HA.out (by simp [BT.l0])
  | succ k1 =>
   have H:=HA.out;clear HA;simp only [BT.l0] at H
   rcases Zq.ii H with ⟨c4,H⟩|⟨c4,H⟩
   ·have c4b0:=decide_eq_true c4;clear c4
    rcases Zq.ii H with ⟨c5,H⟩|⟨c5,H⟩
    ·have c5b0:decide (0<x5_1)=true:=decide_eq_true c5;clear c5
     obtain ⟨c6,H⟩:=Zq.ip H
     try have c6b2:(9223372036854775807<x3_1.size+1)=False:=eq_false (Nat.not_lt.2 c6)
     obtain ⟨c7,H⟩:=Zq.ip H;have c7b0:=decide_eq_true c7;clear c7
     rcases Zq.ii H with ⟨c8,H⟩|⟨c8,H⟩
     ·have c8b0:=beq_iff_eq.mpr c8;clear c8
      obtain ⟨c9,H⟩:=Zq.ip H
      try skip
      have c9b4:=eq_false (Nat.not_lt.2 c9);simp only [ByteArray.size_append,show (⟨#[32]⟩:ByteArray).size=1 from rfl] at c9b4;have H':=Aa.mk H;clear H;obtain ⟨Ao10,co10,eo10⟩:=Kd.AD HO_4.out;subst eo10;obtain ⟨ad734,e734,hx734_0,p734,q734⟩:=Zq.at_ (Kd.Ac HO_4.out).2.2 x5_1;cases e734;go_wp2
      go_roundg k1
      case measure=>have:=HK1.out;omega
      case rel=>exact ⟨((x3_1++(⟨#[32]⟩:ByteArray))++(⟨#[114]⟩:ByteArray)),(wrap64 (x5_1+1)),Zs.auS,Zs.auS,H',⟨by have:=HK1.out;omega⟩,⟨(Zs.mvR HO_4.out)⟩,⟨Zs.auHB⟩⟩
     ·have c8b0:=beq_eq_false_iff_ne.mpr c8;obtain ⟨t736,A11,H⟩:=Zs.be H
      obtain ⟨c12,H⟩:=Zq.ip H
      try skip
      have c12b4:=eq_false (Nat.not_lt.2 c12);simp only [ByteArray.size_append,show (⟨#[32]⟩:ByteArray).size=1 from rfl] at c12b4;have H':=Aa.mk H;clear H;obtain ⟨Ao13,co13,eo13⟩:=Kd.AD HO_4.out;subst eo13;obtain ⟨ad734,e734,hx734_0,p734,q734⟩:=Zq.at_ (Kd.Ac HO_4.out).2.2 x5_1;cases e734;obtain ⟨ad735,e735,hx735_0,p735,q735⟩:=Zq.at_ (Kd.Ac HO_4.out).2.2 x5_1;obtain rfl:ad734=ad735:=(by injection e735)
      go_wp2_with (((with_reducible refine Ab (f:=53) rfl ?_);refine Zq.gb Tryz.func53 (AX.calls _ _ _ _ A11.out) ?_;intro w14 hb;replace HO_4:=Zq.rb HO_4.out hb;replace HB:=Zq.st hb;(try clear hb)))
      go_roundg k1
      case measure=>have:=HK1.out;omega
      case rel=>exact ⟨((x3_1++(⟨#[32]⟩:ByteArray))++t736),(wrap64 (x5_1+1)),Zs.auS,Zs.auS,H',⟨by have:=HK1.out;omega⟩,⟨(Zs.mvR HO_4.out)⟩,⟨Zs.auHB⟩⟩
    ·have c5b0:decide (0<x5_1)=false:=decide_eq_false c5;clear c5
     obtain ⟨c15,H⟩:=Zq.ip H;have c15b0:=decide_eq_true c15;clear c15
     rcases Zq.ii H with ⟨c16,H⟩|⟨c16,H⟩
     ·have c16b0:=beq_iff_eq.mpr c16;clear c16
      obtain ⟨c17,H⟩:=Zq.ip H
      try have c17b2:(9223372036854775807<x3_1.size+1)=False:=eq_false (Nat.not_lt.2 c17)
      have H':=Aa.mk H;clear H;obtain ⟨Ao18,co18,eo18⟩:=Kd.AD HO_4.out;subst eo18;obtain ⟨ad737,e737,hx737_0,p737,q737⟩:=Zq.at_ (Kd.Ac HO_4.out).2.2 x5_1;cases e737;go_wp2
      go_roundg k1
      case measure=>have:=HK1.out;omega
      case rel=>exact ⟨(x3_1++(⟨#[114]⟩:ByteArray)),(wrap64 (x5_1+1)),Zs.auS,Zs.auS,H',⟨by have:=HK1.out;omega⟩,⟨(Zs.mvR HO_4.out)⟩,⟨Zs.auHB⟩⟩
     ·have c16b0:=beq_eq_false_iff_ne.mpr c16;obtain ⟨t739,A19,H⟩:=Zs.be H
      obtain ⟨c20,H⟩:=Zq.ip H
      try have c20b2:(9223372036854775807<x3_1.size+t739.size)=False:=eq_false (Nat.not_lt.2 c20)
      have H':=Aa.mk H;clear H;obtain ⟨Ao21,co21,eo21⟩:=Kd.AD HO_4.out;subst eo21;obtain ⟨ad737,e737,hx737_0,p737,q737⟩:=Zq.at_ (Kd.Ac HO_4.out).2.2 x5_1;cases e737;obtain ⟨ad738,e738,hx738_0,p738,q738⟩:=Zq.at_ (Kd.Ac HO_4.out).2.2 x5_1;obtain rfl:ad737=ad738:=(by injection e738)
      go_wp2_with (((with_reducible refine Ab (f:=53) rfl ?_);refine Zq.gb Tryz.func53 (AX.calls _ _ _ _ A19.out) ?_;intro w22 hb;replace HO_4:=Zq.rb HO_4.out hb;replace HB:=Zq.st hb;(try clear hb)))
      go_roundg k1
      case measure=>have:=HK1.out;omega
      case rel=>exact ⟨(x3_1++t739),(wrap64 (x5_1+1)),Zs.auS,Zs.auS,H',⟨by have:=HK1.out;omega⟩,⟨(Zs.mvR HO_4.out)⟩,⟨Zs.auHB⟩⟩
   ·have c4b0:=decide_eq_false c4;clear c4
    obtain ⟨c23,H⟩:=Zq.ip H
    try have c23b2:(9223372036854775807<x3_1.size+1)=False:=eq_false (Nat.not_lt.2 c23)
    obtain rfl:=Option.some.inj H;obtain ⟨Ao24,co24,eo24⟩:=Kd.AD HO_4.out;subst eo24;go_wp2;go_ret
    exact ⟨Zs.auR,Zs.auHB⟩
def CR.f (k:Nat) (l0:List Int) (a1:Int):Option (Int):=if a1=0 then ((BK.f k l0).bind fun t740=>((BK.f k l0).bind fun t741=>(some (mn t740 (wrap64 ((l0.length:Int)-t741)))))) else ((BC.f k l0 a1).bind fun t742=>(if t742=true then (if (l0.length:Int)=4 then ((AY.f k l0).bind fun t743=>((Cx.f k t743 a1).bind fun t744=>(if t744=true then (some 2) else (some 1)))) else (some 1)) else (some 0)))
theorem CR.calls (k:Nat) (A0:Option Addr) (c0:Nat) (l0:List Int) (a1:Int) (r:Int) (w:World) (hr0:Kd.C (Kd.int .i64) w A0 l0.length l0) (hc0:l0.length≤c0) (h:CR.f k l0 a1=some r) :
  Calls Tryz.prog 192 #[.slice A0 l0.length c0,.int .i64 a1] w fun e w'=>e = .returned (.int .i64 r)∧Below w.heap.size w w':=by
 have HR0:=Aa.mk hr0;have HC0:=Aa.mk hc0;clear hr0 hc0;have HB:=Aa.mk (Below.refl w.heap.size w);unfold CR.f at h;have H:=h;clear h
 rcases Zq.ii H with ⟨c3,H⟩|⟨c3,H⟩
 ·have c3b0:=beq_iff_eq.mpr c3;clear c3;obtain ⟨t740,A4,H⟩:=Zs.be H;obtain ⟨t741,A5,H⟩:=Zs.be H;obtain ⟨ji6,hji6⟩ : ∃j_:Int,(mn t740 (wrap64 ((l0.length:Int)-t741)))=j_:=⟨_,rfl⟩
  replace H:(some ji6)=some r:=by first|(rw [hji6] at H;exact H)|(simp only [hji6] at H ⊢;exact H)
  (try rw [hji6] at A4);(try rw [hji6] at A5);have hji6_:(if (wrap64 ((l0.length:Int)-t741))<t740 then (wrap64 ((l0.length:Int)-t741)) else t740)=ji6:=hji6;obtain rfl:=Option.some.inj H
  go_enter Tryz.func192,Tryz.ntmps192
  go_wp2_with (first|((with_reducible refine Ab (f:=130) rfl ?_);refine Zq.gc (some 8) Tryz.func130 (BK.calls _ _ _ _ _ _ (Zs.mvC (HR0.out)) HC0.out A4.out) ?_;rintro e w' ⟨rfl,⟨nd,rfl⟩⟩;refine ⟨_,rfl,?_⟩)|((with_reducible refine Ab (f:=130) rfl ?_);refine Zq.gc (some 12) Tryz.func130 (BK.calls _ _ _ _ _ _ (Zs.mvC (HR0.out)) HC0.out A5.out) ?_;rintro e w' ⟨rfl,⟨nd,rfl⟩⟩;refine ⟨_,rfl,?_⟩))
  go_ret
  exact ⟨by first|rfl|(simp [CU,CV]<;>rfl)|(simp only [← hji6];first|rfl|(simp [CU,CV]<;>rfl))|(simp [*,CU,CV]<;>rfl),Zs.auHB⟩
 ·have c3b0:=beq_eq_false_iff_ne.mpr c3;obtain ⟨t742,A7,H⟩:=Zs.be H
  by_cases c8:t742=true
  ·subst c8;rw [if_pos rfl] at H
   rcases Zq.ii H with ⟨c9,H⟩|⟨c9,H⟩
   ·have c9b0:=beq_iff_eq.mpr c9;clear c9;obtain ⟨t743,A10,H⟩:=Zs.be H;obtain ⟨t744,A11,H⟩:=Zs.be H
    by_cases c12:t744=true
    ·subst c12;rw [if_pos rfl] at H;obtain rfl:=Option.some.inj H
     go_enter Tryz.func192,Tryz.ntmps192
     go_wp2_with (first|((with_reducible refine Ab (f:=75) rfl ?_);refine Zq.gp Tryz.func75 (BC.calls _ _ _ _ _ _ _ (Zs.mvC (HR0.out)) HC0.out A7.out) ?_;intro nd)|(go_at_call 131;(with_reducible refine (AY.calls k _ _ l0 t743 _ ?side1 ?side2 A10.out).mono ?_);(case side1=>exact Zs.mvC (HR0.out));(case side2=>exact HC0.out);rintro e w' ⟨rfl,⟨nd,rfl⟩⟩)|(go_at_call 132;(with_reducible refine (Cx.calls k t743 a1 true _ A11.out).mono ?_);rintro e w' ⟨rfl,⟨nd,rfl⟩⟩))
     go_ret
     exact ⟨Zs.auR,Zs.auHB⟩
    ·replace c12:=Bool.eq_false_iff.mpr c12;subst c12;rw [if_neg (show ¬(false=true) by decide)] at H;obtain rfl:=Option.some.inj H
     go_enter Tryz.func192,Tryz.ntmps192
     go_wp2_with (first|((with_reducible refine Ab (f:=75) rfl ?_);refine Zq.gp Tryz.func75 (BC.calls _ _ _ _ _ _ _ (Zs.mvC (HR0.out)) HC0.out A7.out) ?_;intro nd)|(go_at_call 131;(with_reducible refine (AY.calls k _ _ l0 t743 _ ?side1 ?side2 A10.out).mono ?_);(case side1=>exact Zs.mvC (HR0.out));(case side2=>exact HC0.out);rintro e w' ⟨rfl,⟨nd,rfl⟩⟩)|(go_at_call 132;(with_reducible refine (Cx.calls k t743 a1 false _ A11.out).mono ?_);rintro e w' ⟨rfl,⟨nd,rfl⟩⟩))
     go_ret
     exact ⟨Zs.auR,Zs.auHB⟩
   ·have c9b0:=beq_eq_false_iff_ne.mpr c9;obtain rfl:=Option.some.inj H
    go_enter Tryz.func192,Tryz.ntmps192
    go_wp2_with (((with_reducible refine Ab (f:=75) rfl ?_);refine Zq.gp Tryz.func75 (BC.calls _ _ _ _ _ _ _ (Zs.mvC (HR0.out)) HC0.out A7.out) ?_;intro nd))
    go_ret
    exact ⟨Zs.auR,Zs.auHB⟩
  ·replace c8:=Bool.eq_false_iff.mpr c8;subst c8;rw [if_neg (show ¬(false=true) by decide)] at H;obtain rfl:=Option.some.inj H
   go_enter Tryz.func192,Tryz.ntmps192
   go_wp2_with (((with_reducible refine Ab (f:=75) rfl ?_);refine Zq.gp Tryz.func75 (BC.calls _ _ _ _ _ _ _ (Zs.mvC (HR0.out)) HC0.out A7.out) ?_;intro nd))
   go_ret
   exact ⟨Zs.auR,Zs.auHB⟩
def BH.l0:Nat→List Int→List Int→Int→Int→Option (Int)
 | 0,_,_,_,_=>none
 | k+1,x0,x3,x4,x5=>if x5<(x3.length:Int) then (if 0≤x5 then ((CR.f k x0 (rd x3 x5)).bind fun t750=>(BH.l0 k x0 x3 (mn x4 t750) (wrap64 (x5+1)))) else (none)) else (some x4)
def BH.f (k:Nat) (l0:List Int):Option (Int):=(Cr.f k l0).bind fun t745=>(if (t745.length:Int)=0 then (some (-1)) else ((CR.f k l0 0).bind fun t748=>(BH.l0 k l0 t745 t748 0)))
theorem BH.calls (k:Nat) (A0:Option Addr) (c0:Nat) (l0:List Int) (r:Int) (w:World) (hr0:Kd.C (Kd.int .i64) w A0 l0.length l0) (hc0:l0.length≤c0) (h:BH.f k l0=some r) :
  Calls Tryz.prog 174 #[.slice A0 l0.length c0] w fun e w'=>e = .returned (.int .i64 r)∧Below w.heap.size w w':=by
 have HR0:=Aa.mk hr0;have HC0:=Aa.mk hc0;clear hr0 hc0;have HB:=Aa.mk (Below.refl w.heap.size w);unfold BH.f at h;have H:=h;clear h;obtain ⟨t745,A2,H⟩:=Zs.be H
 rcases Zq.ii H with ⟨c3,H⟩|⟨c3,H⟩
 ·have c3b0:=beq_iff_eq.mpr c3;clear c3;obtain rfl:=Option.some.inj H
  go_enter Tryz.func174,Tryz.ntmps174
  go_wp2_with (((with_reducible refine Ab (f:=126) rfl ?_);refine Zq.gc (some 7) Tryz.func126 (Cr.calls _ _ _ _ _ _ (Zs.mvC (HR0.out)) HC0.out A2.out) ?_;rintro e w4 ⟨v746,rfl,ho0,hb⟩;refine ⟨_,rfl,?_⟩;have HO747:=Zq.lw ho0;replace HB:=Zq.st hb;(try clear hb);(try clear ho0);obtain ⟨Ao5,co5,eo5⟩:=Kd.AD HO747.out;subst eo5))
  go_ret
  exact ⟨Zs.auR,Zs.auHB⟩
 ·have c3b0:=beq_eq_false_iff_ne.mpr c3
  obtain ⟨t748,A6,H⟩:=Zs.be H;have H':=Aa.mk H;clear H
  go_enter Tryz.func174,Tryz.ntmps174
  go_wp2_with (first|((with_reducible refine Ab (f:=126) rfl ?_);refine Zq.gc (some 7) Tryz.func126 (Cr.calls _ _ _ _ _ _ (Zs.mvC (HR0.out)) HC0.out A2.out) ?_;rintro e w7 ⟨v746,rfl,ho0,hb⟩;refine ⟨_,rfl,?_⟩;have HO747:=Zq.lw ho0;replace HB:=Zq.st hb;(try clear hb);(try clear ho0);obtain ⟨Ao8,co8,eo8⟩:=Kd.AD HO747.out;subst eo8)|((with_reducible refine Ab (f:=192) rfl ?_);refine Zq.gb Tryz.func192 (CR.calls _ _ _ _ _ _ _ (Zs.mvC ((Kd.Bw HR0.out HB.out))) HC0.out A6.out) ?_;intro w9 hb;replace HO747:=Zq.rb HO747.out hb;replace HB:=Zq.st hb;(try clear hb)))
  go_loopg [4,5] k (fun kq v4 v5 w' => ∃(x4_1:Int) (x5_1:Int),v4 = .int .i64 x4_1∧v5 = .int .i64 x5_1∧Aa (BH.l0 kq l0 t745 x4_1 x5_1=some r)∧Aa (kq≤k)∧Aa (Kd.R (Kd.int .i64) 3 w' w.heap.size (fun _=>True) (.slice Ao8 t745.length co8) t745)∧Aa (Below w.heap.size w w'))
  case atStart=>exact ⟨(t748),(0),Zs.auS,Zs.auS,H',⟨Nat.le_refl _⟩,⟨(Zs.mvR HO747.out)⟩,⟨Zs.auHB⟩⟩
  case round =>
   clear H'
   obtain ⟨x4_1,x5_1,rfl,rfl,HA,HK1,HO_3,HB⟩:=hrel;cases gk with
   | zero=>exact absurd HA.out (by simp [BH.l0])
   | succ k1 =>
    have H:=HA.out;clear HA;simp only [BH.l0] at H
    rcases Zq.ii H with ⟨c10,H⟩|⟨c10,H⟩
    ·have c10b0:=decide_eq_true c10;clear c10
     obtain ⟨c11,H⟩:=Zq.ip H;have c11b0:=decide_eq_true c11;clear c11;obtain ⟨t750,A12,H⟩:=Zs.be H;obtain ⟨ji13,hji13⟩ : ∃j_:Int,(mn x4_1 t750)=j_:=⟨_,rfl⟩
     replace H:(BH.l0 k1 l0 t745 ji13 (wrap64 (x5_1+1)))=some r:=by first|(rw [hji13] at H;exact H)|(simp only [hji13] at H ⊢;exact H)
     (try rw [hji13] at A12);have hji13_:(if t750<x4_1 then t750 else x4_1)=ji13:=hji13;have H':=Aa.mk H;clear H;obtain ⟨ad749,e749,hx749_0,p749,q749⟩:=Zq.at_ (Kd.Ac HO_3.out).2.2 x5_1;cases e749
     go_wp2_with (((with_reducible refine Ab (f:=192) rfl ?_);refine Zq.gb Tryz.func192 (CR.calls _ _ _ _ _ _ _ (Zs.mvC ((Kd.Bw HR0.out HB.out))) HC0.out A12.out) ?_;intro w14 hb;replace HO_3:=Zq.rb HO_3.out hb;replace HB:=Zq.st hb;(try clear hb)))
     go_roundg k1
     case measure=>have:=HK1.out;omega
     case rel=>exact ⟨(ji13),(wrap64 (x5_1+1)),(by first|rfl|(simp;done)|(simp only [← hji13]<;>(first|rfl|simp))|(simp [*];done)),Zs.auS,H',⟨by have:=HK1.out;omega⟩,⟨(Zs.mvR HO_3.out)⟩,⟨Zs.auHB⟩⟩
    ·have c10b0:=decide_eq_false c10;clear c10;obtain rfl:=Option.some.inj H;go_wp2;go_ret
     exact ⟨Zs.auR,Zs.auHB⟩
def DG.f (k:Nat) (l0:List Int) (a1:ByteArray):Option (ByteArray):=if a1.toList=([115,104,111,119]:List UInt8) then ((Bu.f k l0).bind fun t751=>(if t751.size+1≤9223372036854775807 then (some (t751++(⟨#[10]⟩:ByteArray))) else (none))) else (if a1.toList=([100,105,115,99]:List UInt8) then ((Dg.f k l0).bind fun t752=>((AX.f k t752).bind fun t753=>(if t753.size+1≤9223372036854775807 then (some (t753++(⟨#[10]⟩:ByteArray))) else (none)))) else (if a1.toList=([98,97,100]:List UInt8) then ((BT.f k l0).bind fun t754=>(some t754)) else (if a1.toList=([122,101,114,111]:List UInt8) then ((B0.f k l0).bind fun bt755=>((Bu.f k bt755.1).bind fun t759=>((Cn.f t759 bt755.2).bind fun t760=>(some t760)))) else (if a1.toList=([112,108,97,110,101,115]:List UInt8) then ((BH.f k l0).bind fun t761=>((AX.f k t761).bind fun t762=>(if t762.size+1≤9223372036854775807 then (some (t762++(⟨#[10]⟩:ByteArray))) else (none)))) else (some (⟨#[119,104,97,116,10]⟩:ByteArray))))))
theorem DG.calls (k:Nat) (A0:Option Addr) (c0:Nat) (l0:List Int) (a1:ByteArray) (r:ByteArray) (w:World) (hr0:Kd.C (Kd.int .i64) w A0 l0.length l0) (hc0:l0.length≤c0) (h:DG.f k l0 a1=some r) :
  Calls Tryz.prog 150 #[.slice A0 l0.length c0,.string a1] w fun e w'=>e = .returned (.string r)∧Below w.heap.size w w':=by
 have HR0:=Aa.mk hr0;have HC0:=Aa.mk hc0;clear hr0 hc0;have HB:=Aa.mk (Below.refl w.heap.size w);unfold DG.f at h;have H:=h;clear h
 rcases Zq.ii H with ⟨c3,H⟩|⟨c3,H⟩
 ·have c3b0:=beq_iff_eq.mpr c3;clear c3;obtain ⟨t751,A4,H⟩:=Zs.be H
  obtain ⟨c5,H⟩:=Zq.ip H
  try have c5b2:(9223372036854775807<t751.size+1)=False:=eq_false (Nat.not_lt.2 c5)
  obtain rfl:=Option.some.inj H
  go_enter Tryz.func150,Tryz.ntmps150
  go_wp2_with (((with_reducible refine Ab (f:=154) rfl ?_);refine Zq.gb Tryz.func154 (Bu.calls _ _ _ _ _ _ (Zs.mvC (HR0.out)) HC0.out A4.out) ?_;intro w6 hb;replace HB:=Zq.st hb;(try clear hb)))
  go_ret
  exact ⟨Zs.auR,Zs.auHB⟩
 ·have c3b0:=beq_eq_false_iff_ne.mpr c3
  rcases Zq.ii H with ⟨c7,H⟩|⟨c7,H⟩
  ·have c7b0:=beq_iff_eq.mpr c7;clear c7;obtain ⟨t752,A8,H⟩:=Zs.be H;obtain ⟨t753,A9,H⟩:=Zs.be H
   obtain ⟨c10,H⟩:=Zq.ip H
   try have c10b2:(9223372036854775807<t753.size+1)=False:=eq_false (Nat.not_lt.2 c10)
   obtain rfl:=Option.some.inj H
   go_enter Tryz.func150,Tryz.ntmps150
   go_wp2_with (first|((with_reducible refine Ab (f:=172) rfl ?_);refine Zq.gb Tryz.func172 (Dg.calls _ _ _ _ _ _ (Zs.mvC (HR0.out)) HC0.out A8.out) ?_;intro w11 hb;replace HB:=Zq.st hb;(try clear hb))|((with_reducible refine Ab (f:=53) rfl ?_);refine Zq.gb Tryz.func53 (AX.calls _ _ _ _ A9.out) ?_;intro w12 hb;replace HB:=Zq.st hb;(try clear hb)))
   go_ret
   exact ⟨Zs.auR,Zs.auHB⟩
  ·have c7b0:=beq_eq_false_iff_ne.mpr c7
   rcases Zq.ii H with ⟨c13,H⟩|⟨c13,H⟩
   ·have c13b0:=beq_iff_eq.mpr c13;clear c13;obtain ⟨t754,A14,H⟩:=Zs.be H;obtain rfl:=Option.some.inj H
    go_enter Tryz.func150,Tryz.ntmps150
    go_wp2_with (((with_reducible refine Ab (f:=173) rfl ?_);refine Zq.gb Tryz.func173 (BT.calls _ _ _ _ _ _ (Zs.mvC (HR0.out)) HC0.out A14.out) ?_;intro w15 hb;replace HB:=Zq.st hb;(try clear hb)))
    go_ret
    exact ⟨Zs.auR,Zs.auHB⟩
   ·have c13b0:=beq_eq_false_iff_ne.mpr c13
    rcases Zq.ii H with ⟨c16,H⟩|⟨c16,H⟩
    ·have c16b0:=beq_iff_eq.mpr c16;clear c16;replace H:=Option.bind_eq_some_iff.mp H;obtain ⟨⟨t755,t756⟩,A170,H⟩:=H;try dsimp only at H;have A17:=Aa.mk A170;clear A170;obtain ⟨t759,A18,H⟩:=Zs.be H;obtain ⟨t760,A19,H⟩:=Zs.be H;obtain rfl:=Option.some.inj H
     go_enter Tryz.func150,Tryz.ntmps150
     go_wp2_with (first|((with_reducible refine Ab (f:=38) rfl ?_);refine Zq.gc (some 27) Tryz.func38 (B0.calls _ _ _ _ _ _ _ (Zs.mvC (HR0.out)) HC0.out A17.out) ?_;rintro e w20 ⟨v757,rfl,ho0,hb⟩;refine ⟨_,rfl,?_⟩;have HO758:=Zq.lw ho0;replace HB:=Zq.st hb;(try clear hb);(try clear ho0);obtain ⟨Ao21,co21,eo21⟩:=Kd.AD HO758.out;subst eo21)|((with_reducible refine Ab (f:=154) rfl ?_);refine Zq.gb Tryz.func154 (Bu.calls _ _ _ _ _ _ (Zs.mvC ((Kd.Ac HO758.out).2.2)) ((Kd.Ac HO758.out).2.1) A18.out) ?_;intro w22 hb;replace HO758:=Zq.rb HO758.out hb;replace HB:=Zq.st hb;(try clear hb))|((with_reducible refine Ab (f:=152) rfl ?_);refine Zq.gp Tryz.func152 (Cn.calls _ _ _ _ A19.out) ?_;intro nd))
     go_ret
     exact ⟨Zs.auR,Zs.auHB⟩
    ·have c16b0:=beq_eq_false_iff_ne.mpr c16
     rcases Zq.ii H with ⟨c23,H⟩|⟨c23,H⟩
     ·have c23b0:=beq_iff_eq.mpr c23;clear c23;obtain ⟨t761,A24,H⟩:=Zs.be H;obtain ⟨t762,A25,H⟩:=Zs.be H
      obtain ⟨c26,H⟩:=Zq.ip H
      try have c26b2:(9223372036854775807<t762.size+1)=False:=eq_false (Nat.not_lt.2 c26)
      obtain rfl:=Option.some.inj H
      go_enter Tryz.func150,Tryz.ntmps150
      go_wp2_with (first|((with_reducible refine Ab (f:=174) rfl ?_);refine Zq.gb Tryz.func174 (BH.calls _ _ _ _ _ _ (Zs.mvC (HR0.out)) HC0.out A24.out) ?_;intro w27 hb;replace HB:=Zq.st hb;(try clear hb))|((with_reducible refine Ab (f:=53) rfl ?_);refine Zq.gb Tryz.func53 (AX.calls _ _ _ _ A25.out) ?_;intro w28 hb;replace HB:=Zq.st hb;(try clear hb)))
      go_ret
      exact ⟨Zs.auR,Zs.auHB⟩
     ·have c23b0:=beq_eq_false_iff_ne.mpr c23;obtain rfl:=Option.some.inj H
      go_enter Tryz.func150,Tryz.ntmps150
      go_wp2;go_ret
      exact ⟨Zs.auR,Zs.auHB⟩
def CG.f (k:Nat) (a0:ByteArray):Option (Int):=if a0.toList=([114]:List UInt8) then (some 0) else ((Am.f k a0).bind fun t763=>(if t763=0 then (some (-1)) else (some t763)))
theorem CG.calls (k:Nat) (a0:ByteArray) (r:Int) (w:World) (h:CG.f k a0=some r) :
  Calls Tryz.prog 151 #[.string a0] w fun e w'=>e = .returned (.int .i64 r)∧Bh w w':=by
 unfold CG.f at h;have H:=h;clear h
 rcases Zq.ii H with ⟨c2,H⟩|⟨c2,H⟩
 ·have c2b0:=beq_iff_eq.mpr c2;clear c2;obtain rfl:=Option.some.inj H
  go_enter Tryz.func151,Tryz.ntmps151
  go_wp2;go_ret
  exact ⟨Zs.auS,Zq.dr⟩
 ·have c2b0:=beq_eq_false_iff_ne.mpr c2;obtain ⟨t763,A3,H⟩:=Zs.be H
  rcases Zq.ii H with ⟨c4,H⟩|⟨c4,H⟩
  ·have c4b0:=beq_iff_eq.mpr c4;clear c4;obtain rfl:=Option.some.inj H
   go_enter Tryz.func151,Tryz.ntmps151
   go_wp2_with (((with_reducible refine Ab (f:=106) rfl ?_);refine Zq.gp Tryz.func106 (Am.calls _ _ _ _ A3.out) ?_;intro nd))
   go_ret
   exact ⟨Zs.auS,Zq.dr⟩
  ·have c4b0:=beq_eq_false_iff_ne.mpr c4;obtain rfl:=Option.some.inj H
   go_enter Tryz.func151,Tryz.ntmps151
   go_wp2_with (((with_reducible refine Ab (f:=106) rfl ?_);refine Zq.gp Tryz.func106 (Am.calls _ _ _ _ A3.out) ?_;intro nd))
   go_ret
   exact ⟨Zs.auS,Zq.dr⟩
def DY.f (k:Nat) (l0:List Int) (a1:Int):Option (ByteArray):=(Cj.f k a1).bind fun t764=>(if t764=true then ((BC.f k l0 a1).bind fun t765=>(if t765=true then (some (⟨#[122,101,114,111,10]⟩:ByteArray)) else (some (⟨#[110,111,110,101,10]⟩:ByteArray)))) else (some (⟨#[110,111,10]⟩:ByteArray)))
theorem DY.calls (k:Nat) (A0:Option Addr) (c0:Nat) (l0:List Int) (a1:Int) (r:ByteArray) (w:World) (hr0:Kd.C (Kd.int .i64) w A0 l0.length l0) (hc0:l0.length≤c0) (h:DY.f k l0 a1=some r) :
  Calls Tryz.prog 153 #[.slice A0 l0.length c0,.int .i64 a1] w fun e w'=>e = .returned (.string r)∧Bh w w':=by
 have HR0:=Aa.mk hr0;have HC0:=Aa.mk hc0;clear hr0 hc0;unfold DY.f at h;have H:=h;clear h;obtain ⟨t764,A3,H⟩:=Zs.be H
 by_cases c4:t764=true
 ·subst c4;rw [if_pos rfl] at H;obtain ⟨t765,A5,H⟩:=Zs.be H
  by_cases c6:t765=true
  ·subst c6;rw [if_pos rfl] at H;obtain rfl:=Option.some.inj H
   go_enter Tryz.func153,Tryz.ntmps153
   go_wp2_with (first|((with_reducible refine Ab (f:=71) rfl ?_);refine Zq.gp Tryz.func71 (Cj.calls _ _ _ _ A3.out) ?_;intro nd)|((with_reducible refine Ab (f:=75) rfl ?_);refine Zq.gp Tryz.func75 (BC.calls _ _ _ _ _ _ _ (Zs.mvC (HR0.out)) HC0.out A5.out) ?_;intro nd))
   go_ret
   exact ⟨Zs.auS,Zq.dr⟩
  ·replace c6:=Bool.eq_false_iff.mpr c6;subst c6;rw [if_neg (show ¬(false=true) by decide)] at H;obtain rfl:=Option.some.inj H
   go_enter Tryz.func153,Tryz.ntmps153
   go_wp2_with (first|((with_reducible refine Ab (f:=71) rfl ?_);refine Zq.gp Tryz.func71 (Cj.calls _ _ _ _ A3.out) ?_;intro nd)|((with_reducible refine Ab (f:=75) rfl ?_);refine Zq.gp Tryz.func75 (BC.calls _ _ _ _ _ _ _ (Zs.mvC (HR0.out)) HC0.out A5.out) ?_;intro nd))
   go_ret
   exact ⟨Zs.auS,Zq.dr⟩
 ·replace c4:=Bool.eq_false_iff.mpr c4;subst c4;rw [if_neg (show ¬(false=true) by decide)] at H;obtain rfl:=Option.some.inj H
  go_enter Tryz.func153,Tryz.ntmps153
  go_wp2_with (((with_reducible refine Ab (f:=71) rfl ?_);refine Zq.gp Tryz.func71 (Cj.calls _ _ _ _ A3.out) ?_;intro nd))
  go_ret
  exact ⟨Zs.auS,Zq.dr⟩
mutual
def AL.j0:Nat→List Int→List ByteArray→Bool→Option (ByteArray)
 | 0,_,_,_=>none
 | k+1,x0,x1,x20=>if x20=true then (if 1<(x1.length:Int) then ((Am.f k (rdOf ByteArray.empty x1 1)).bind fun t770=>(if 2<(x1.length:Int) then ((Am.f k (rdOf ByteArray.empty x1 2)).bind fun t772=>(if 3<(x1.length:Int) then ((CG.f k (rdOf ByteArray.empty x1 3)).bind fun t774=>((CS.f k t770 t772 t774).bind fun t775=>((AX.f k t775).bind fun t776=>((Cn.f t776 (t775 != 0)).bind fun t777=>(some t777))))) else (none))) else (none))) else (none)) else (if 0<(x1.length:Int) then (if (rdOf ByteArray.empty x1 0).toList=([97,116]:List UInt8) then (AL.j1 k x0 x1 ((x1.length:Int)==2)) else (AL.j1 k x0 x1 false)) else (none))
def AL.j1:Nat→List Int→List ByteArray→Bool→Option (ByteArray)
 | 0,_,_,_=>none
 | k+1,x0,x1,x48=>if x48=true then (if 1<(x1.length:Int) then ((CG.f k (rdOf ByteArray.empty x1 1)).bind fun t780=>((DY.f k x0 t780).bind fun t781=>(some t781))) else (none)) else (if 0<(x1.length:Int) then (if (rdOf ByteArray.empty x1 0).toList=([118,97,108,117,101]:List UInt8) then (AL.j2 k x0 x1 ((x1.length:Int)==2)) else (AL.j2 k x0 x1 false)) else (none))
def AL.j2:Nat→List Int→List ByteArray→Bool→Option (ByteArray)
 | 0,_,_,_=>none
 | k+1,x0,x1,x64=>if x64=true then (if 1<(x1.length:Int) then ((Am.f k (rdOf ByteArray.empty x1 1)).bind fun t784=>((Ah.f k x0 t784).bind fun bt785=>((Bu.f k bt785.1).bind fun t790=>(if t790.size+3≤9223372036854775807 then ((AX.f k bt785.2.1).bind fun t791=>(if (t790++(⟨#[32,47,32]⟩:ByteArray)).size+t791.size≤9223372036854775807 then ((Cn.f ((t790++(⟨#[32,47,32]⟩:ByteArray))++t791) bt785.2.2).bind fun t792=>(some t792)) else (none))) else (none))))) else (none)) else (if 0<(x1.length:Int) then (if (rdOf ByteArray.empty x1 0).toList=([115,113,117,97,114,101,115]:List UInt8) then (AL.j3 k x1 ((x1.length:Int)==2)) else (AL.j3 k x1 false)) else (none))
def AL.j3:Nat→List ByteArray→Bool→Option (ByteArray)
 | 0,_,_=>none
 | k+1,x1,x92=>if x92=true then (if 1<(x1.length:Int) then ((Am.f k (rdOf ByteArray.empty x1 1)).bind fun t795=>((Ak.f k t795).bind fun bt796=>((Bu.f k bt796.1).bind fun t800=>((Cn.f t800 bt796.2).bind fun t801=>(some t801))))) else (none)) else (some (⟨#[119,104,97,116,10]⟩:ByteArray))
end
def AL.f (k:Nat) (l0:List Int) (l1:List ByteArray):Option (ByteArray):=if (l1.length:Int)=1 then (if 0<(l1.length:Int) then ((DG.f k l0 (rdOf ByteArray.empty l1 0)).bind fun t767=>(some t767)) else (none)) else (if 0<(l1.length:Int) then (if (rdOf ByteArray.empty l1 0).toList=([115,121,109,98,111,108]:List UInt8) then (AL.j0 k l0 l1 ((l1.length:Int)==4)) else (AL.j0 k l0 l1 false)) else (none))
theorem AL.calls (k:Nat) (A0:Option Addr) (c0:Nat) (l0:List Int) (A1:Option Addr) (c1:Nat) (l1:List ByteArray) (r:ByteArray) (w:World) (hr0:Kd.C (Kd.int .i64) w A0 l0.length l0) (hc0:l0.length≤c0) (hr1:Kd.C Kd.string w A1 l1.length l1) (hc1:l1.length≤c1) (h:AL.f k l0 l1=some r) :
  Calls Tryz.prog 108 #[.slice A0 l0.length c0,.slice A1 l1.length c1] w fun e w'=>e = .returned (.string r)∧Below w.heap.size w w':=by
 have HR0:=Aa.mk hr0;have HC0:=Aa.mk hc0;clear hr0 hc0;have HR1:=Aa.mk hr1;have HC1:=Aa.mk hc1;clear hr1 hc1;have HB:=Aa.mk (Below.refl w.heap.size w);unfold AL.f at h;have H:=h;clear h
 rcases Zq.ii H with ⟨c3,H⟩|⟨c3,H⟩
 ·have c3b0:=beq_iff_eq.mpr c3;clear c3
  obtain ⟨c4,H⟩:=Zq.ip H;have c4b0:=decide_eq_true c4;clear c4;obtain ⟨t767,A5,H⟩:=Zs.be H;obtain rfl:=Option.some.inj H;have p766:0≤(0:Int):=(by omega);have q766:0<(l1.length:Int):=Zs.od;obtain ⟨ad766,e766,hx766_0⟩:=Kd.Ba HR1.out 0 p766 q766;cases e766;have qi766:(0<l1.length)=True:=eq_true (by omega);(try rw [show ((0:Int)).toNat=0 from rfl] at hx766_0);(try rw [Addr.add_zero'] at hx766_0);replace p766:=eq_true p766;replace q766:=eq_true q766
  go_enter Tryz.func108,Tryz.ntmps108
  go_wp2_with ((go_at_call 150;(with_reducible refine (DG.calls k _ _ l0 (rdOf ByteArray.empty l1 0) t767 _ ?side1 ?side2 A5.out).mono ?_);(case side1=>exact Zs.mvC (HR0.out));(case side2=>exact HC0.out);rintro e w6 ⟨rfl,hb⟩;replace HB:=Zq.st hb;(try clear hb)))
  go_ret
  exact ⟨Zs.auR,Zs.auHB⟩
 ·have c3b0:=beq_eq_false_iff_ne.mpr c3;have HC7:=Aa.mk H;clear H
  go_enter Tryz.func108,Tryz.ntmps108
  go_upto_region 3 with (fail)
  go_cut [20] (fun v20 wc => ∃(kq:Nat) (x20_6:Bool),v20 = .bool x20_6∧Aa (AL.j0 kq l0 l1 x20_6=some r)∧Aa (kq≤k)∧Aa (Below w.heap.size w wc))
  case first =>
   have H:=HC7.out;clear HC7
   obtain ⟨c8,H⟩:=Zq.ip H;have c8b0:=decide_eq_true c8;clear c8
   rcases Zq.ii H with ⟨c9,H⟩|⟨c9,H⟩
   ·have c9b0:=beq_iff_eq.mpr c9;clear c9;have H':=Aa.mk H;clear H;have p768:0≤(0:Int):=(by omega);have q768:0<(l1.length:Int):=Zs.od;obtain ⟨ad768,e768,hx768_0⟩:=Kd.Ba HR1.out 0 p768 q768;cases e768;have qi768:(0<l1.length)=True:=eq_true (by omega);(try rw [show ((0:Int)).toNat=0 from rfl] at hx768_0);(try rw [Addr.add_zero'] at hx768_0);replace hx768_0:=Zq.ce HB.out hx768_0;replace p768:=eq_true p768;replace q768:=eq_true q768;go_wp2
    go_meet
    case rel=>exact ⟨_,(((l1.length:Int)==4)),Zs.auS,H',⟨Zs.auN⟩,⟨Zs.auHB⟩⟩
   ·have c9b0:=beq_eq_false_iff_ne.mpr c9;have H':=Aa.mk H;clear H;have p768:0≤(0:Int):=(by omega);have q768:0<(l1.length:Int):=Zs.od;obtain ⟨ad768,e768,hx768_0⟩:=Kd.Ba HR1.out 0 p768 q768;cases e768;have qi768:(0<l1.length)=True:=eq_true (by omega);(try rw [show ((0:Int)).toNat=0 from rfl] at hx768_0);(try rw [Addr.add_zero'] at hx768_0);replace hx768_0:=Zq.ce HB.out hx768_0;replace p768:=eq_true p768;replace q768:=eq_true q768;go_wp2
    go_meet
    case rel=>exact ⟨_,(false),Zs.auS,H',⟨Zs.auN⟩,⟨Zs.auHB⟩⟩
  case rest =>
   clear HC7
   obtain ⟨kq,x20_6,rfl,HA,HJ6,HB⟩:=hcut;cases kq with
   | zero=>exact absurd HA.out (by simp [AL.j0])
   | succ kj6 =>
    have H:=HA.out;clear HA;simp only [AL.j0] at H
    by_cases c10:x20_6=true
    ·subst c10;rw [if_pos rfl] at H
     obtain ⟨c11,H⟩:=Zq.ip H;have c11b0:=decide_eq_true c11;clear c11;obtain ⟨t770,A12,H⟩:=Zs.be H
     obtain ⟨c13,H⟩:=Zq.ip H;have c13b0:=decide_eq_true c13;clear c13;obtain ⟨t772,A14,H⟩:=Zs.be H
     obtain ⟨c15,H⟩:=Zq.ip H;have c15b0:=decide_eq_true c15;clear c15;obtain ⟨t774,A16,H⟩:=Zs.be H;obtain ⟨t775,A17,H⟩:=Zs.be H;obtain ⟨t776,A18,H⟩:=Zs.be H;obtain ⟨t777,A19,H⟩:=Zs.be H;obtain rfl:=Option.some.inj H;have p769:0≤(1:Int):=(by omega);have q769:1<(l1.length:Int):=Zs.od;obtain ⟨ad769,e769,hx769_0⟩:=Kd.Ba HR1.out 1 p769 q769;cases e769;(try simp only [show (1:Int).toNat=1 from rfl,Nat.reduceMul,Nat.reduceEqDiff,Go.Addr.add,↓reduceIte] at hx769_0);(try rw [show ((1:Int)).toNat=1 from rfl] at hx769_0);replace hx769_0:=Zq.ce HB.out hx769_0;replace p769:=eq_true p769;replace q769:=eq_true q769
     go_wp2_with (first|(go_at_call 106;(with_reducible refine (Am.calls kj6 (rdOf ByteArray.empty l1 1) t770 _ A12.out).mono ?_);rintro e w' ⟨rfl,⟨nd,rfl⟩⟩;(try exact Zq.dd);have p771:0≤(2:Int):=(by omega);have q771:2<(l1.length:Int):=Zs.od;obtain ⟨ad771,e771,hx771_0⟩:=Kd.Ba HR1.out 2 p771 q771;obtain rfl:ad769=ad771:=(by injection e771);(try simp only [show (2:Int).toNat=2 from rfl,Nat.reduceMul,Nat.reduceEqDiff,Go.Addr.add,↓reduceIte] at hx771_0);(try rw [show ((2:Int)).toNat=2 from rfl] at hx771_0);replace hx771_0:=Zq.ce HB.out hx771_0;replace p771:=eq_true p771;replace q771:=eq_true q771)|(go_at_call 106;(with_reducible refine (Am.calls kj6 (rdOf ByteArray.empty l1 2) t772 _ A14.out).mono ?_);rintro e w' ⟨rfl,⟨nd,rfl⟩⟩;(try exact Zq.dd);have p773:0≤(3:Int):=(by omega);have q773:3<(l1.length:Int):=Zs.od;obtain ⟨ad773,e773,hx773_0⟩:=Kd.Ba HR1.out 3 p773 q773;obtain rfl:ad769=ad773:=(by injection e773);(try simp only [show (3:Int).toNat=3 from rfl,Nat.reduceMul,Nat.reduceEqDiff,Go.Addr.add,↓reduceIte] at hx773_0);(try rw [show ((3:Int)).toNat=3 from rfl] at hx773_0);replace hx773_0:=Zq.ce HB.out hx773_0;replace p773:=eq_true p773;replace q773:=eq_true q773)|(go_at_call 151;(with_reducible refine (CG.calls kj6 (rdOf ByteArray.empty l1 3) t774 _ A16.out).mono ?_);rintro e w' ⟨rfl,⟨nd,rfl⟩⟩;(try exact Zq.dd))|(go_at_call 32;(with_reducible refine (CS.calls kj6 t770 t772 t774 t775 _ A17.out).mono ?_);rintro e w' ⟨rfl,⟨nd,rfl⟩⟩;(try exact Zq.dd))|(go_at_call 53;(with_reducible refine (AX.calls kj6 t775 t776 _ A18.out).mono ?_);rintro e w20 ⟨rfl,hb⟩;replace HB:=Zq.st hb;(try clear hb))|(go_at_call 152;(with_reducible refine (Cn.calls t776 (t775 != 0) t777 _ A19.out).mono ?_);rintro e w' ⟨rfl,⟨nd,rfl⟩⟩;(try exact Zq.dd)))
     repeat (go_quiet (first|(go_at_call 106;(with_reducible refine (Am.calls kj6 (rdOf ByteArray.empty l1 1) t770 _ A12.out).mono ?_);rintro e w' ⟨rfl,⟨nd,rfl⟩⟩;(try exact Zq.dd);have p771:0≤(2:Int):=(by omega);have q771:2<(l1.length:Int):=Zs.od;obtain ⟨ad771,e771,hx771_0⟩:=Kd.Ba HR1.out 2 p771 q771;obtain rfl:ad769=ad771:=(by injection e771);(try simp only [show (2:Int).toNat=2 from rfl,Nat.reduceMul,Nat.reduceEqDiff,Go.Addr.add,↓reduceIte] at hx771_0);(try rw [show ((2:Int)).toNat=2 from rfl] at hx771_0);replace hx771_0:=Zq.ce HB.out hx771_0;replace p771:=eq_true p771;replace q771:=eq_true q771)|(go_at_call 106;(with_reducible refine (Am.calls kj6 (rdOf ByteArray.empty l1 2) t772 _ A14.out).mono ?_);rintro e w' ⟨rfl,⟨nd,rfl⟩⟩;(try exact Zq.dd);have p773:0≤(3:Int):=(by omega);have q773:3<(l1.length:Int):=Zs.od;obtain ⟨ad773,e773,hx773_0⟩:=Kd.Ba HR1.out 3 p773 q773;obtain rfl:ad769=ad773:=(by injection e773);(try simp only [show (3:Int).toNat=3 from rfl,Nat.reduceMul,Nat.reduceEqDiff,Go.Addr.add,↓reduceIte] at hx773_0);(try rw [show ((3:Int)).toNat=3 from rfl] at hx773_0);replace hx773_0:=Zq.ce HB.out hx773_0;replace p773:=eq_true p773;replace q773:=eq_true q773)|(go_at_call 151;(with_reducible refine (CG.calls kj6 (rdOf ByteArray.empty l1 3) t774 _ A16.out).mono ?_);rintro e w' ⟨rfl,⟨nd,rfl⟩⟩;(try exact Zq.dd))|(go_at_call 32;(with_reducible refine (CS.calls kj6 t770 t772 t774 t775 _ A17.out).mono ?_);rintro e w' ⟨rfl,⟨nd,rfl⟩⟩;(try exact Zq.dd))|(go_at_call 53;(with_reducible refine (AX.calls kj6 t775 t776 _ A18.out).mono ?_);rintro e w20 ⟨rfl,hb⟩;replace HB:=Zq.st hb;(try clear hb))|(go_at_call 152;(with_reducible refine (Cn.calls t776 (t775 != 0) t777 _ A19.out).mono ?_);rintro e w' ⟨rfl,⟨nd,rfl⟩⟩;(try exact Zq.dd)));try go_wp2_with (first|(go_at_call 106;(with_reducible refine (Am.calls kj6 (rdOf ByteArray.empty l1 1) t770 _ A12.out).mono ?_);rintro e w' ⟨rfl,⟨nd,rfl⟩⟩;(try exact Zq.dd);have p771:0≤(2:Int):=(by omega);have q771:2<(l1.length:Int):=Zs.od;obtain ⟨ad771,e771,hx771_0⟩:=Kd.Ba HR1.out 2 p771 q771;obtain rfl:ad769=ad771:=(by injection e771);(try simp only [show (2:Int).toNat=2 from rfl,Nat.reduceMul,Nat.reduceEqDiff,Go.Addr.add,↓reduceIte] at hx771_0);(try rw [show ((2:Int)).toNat=2 from rfl] at hx771_0);replace hx771_0:=Zq.ce HB.out hx771_0;replace p771:=eq_true p771;replace q771:=eq_true q771)|(go_at_call 106;(with_reducible refine (Am.calls kj6 (rdOf ByteArray.empty l1 2) t772 _ A14.out).mono ?_);rintro e w' ⟨rfl,⟨nd,rfl⟩⟩;(try exact Zq.dd);have p773:0≤(3:Int):=(by omega);have q773:3<(l1.length:Int):=Zs.od;obtain ⟨ad773,e773,hx773_0⟩:=Kd.Ba HR1.out 3 p773 q773;obtain rfl:ad769=ad773:=(by injection e773);(try simp only [show (3:Int).toNat=3 from rfl,Nat.reduceMul,Nat.reduceEqDiff,Go.Addr.add,↓reduceIte] at hx773_0);(try rw [show ((3:Int)).toNat=3 from rfl] at hx773_0);replace hx773_0:=Zq.ce HB.out hx773_0;replace p773:=eq_true p773;replace q773:=eq_true q773)|(go_at_call 151;(with_reducible refine (CG.calls kj6 (rdOf ByteArray.empty l1 3) t774 _ A16.out).mono ?_);rintro e w' ⟨rfl,⟨nd,rfl⟩⟩;(try exact Zq.dd))|(go_at_call 32;(with_reducible refine (CS.calls kj6 t770 t772 t774 t775 _ A17.out).mono ?_);rintro e w' ⟨rfl,⟨nd,rfl⟩⟩;(try exact Zq.dd))|(go_at_call 53;(with_reducible refine (AX.calls kj6 t775 t776 _ A18.out).mono ?_);rintro e w20 ⟨rfl,hb⟩;replace HB:=Zq.st hb;(try clear hb))|(go_at_call 152;(with_reducible refine (Cn.calls t776 (t775 != 0) t777 _ A19.out).mono ?_);rintro e w' ⟨rfl,⟨nd,rfl⟩⟩;(try exact Zq.dd))))
     go_ret
     exact ⟨Zs.auR,Zs.auHB⟩
    ·replace c10:=Bool.eq_false_iff.mpr c10;subst c10;rw [if_neg (show ¬(false=true) by decide)] at H;have HC21:=Aa.mk H;clear H
     go_upto_region 6 with (fail)
     go_cut [48] (fun v48 wc => ∃(kq:Nat) (x48_20:Bool),v48 = .bool x48_20∧Aa (AL.j1 kq l0 l1 x48_20=some r)∧Aa (kq≤kj6)∧Aa (Below w.heap.size w wc))
     case first =>
      have H:=HC21.out;clear HC21
      obtain ⟨c22,H⟩:=Zq.ip H;have c22b0:=decide_eq_true c22;clear c22
      rcases Zq.ii H with ⟨c23,H⟩|⟨c23,H⟩
      ·have c23b0:=beq_iff_eq.mpr c23;clear c23;have H':=Aa.mk H;clear H;have p778:0≤(0:Int):=(by omega);have q778:0<(l1.length:Int):=Zs.od;obtain ⟨ad778,e778,hx778_0⟩:=Kd.Ba HR1.out 0 p778 q778;cases e778;have qi778:(0<l1.length)=True:=eq_true (by omega);(try rw [show ((0:Int)).toNat=0 from rfl] at hx778_0);(try rw [Addr.add_zero'] at hx778_0);replace hx778_0:=Zq.ce HB.out hx778_0;replace p778:=eq_true p778;replace q778:=eq_true q778;go_wp2
       go_meet
       case rel=>exact ⟨_,(((l1.length:Int)==2)),Zs.auS,H',⟨by have:=HJ6.out;first|omega|exact Nat.le_refl _⟩,⟨Zs.auHB⟩⟩
      ·have c23b0:=beq_eq_false_iff_ne.mpr c23;have H':=Aa.mk H;clear H;have p778:0≤(0:Int):=(by omega);have q778:0<(l1.length:Int):=Zs.od;obtain ⟨ad778,e778,hx778_0⟩:=Kd.Ba HR1.out 0 p778 q778;cases e778;have qi778:(0<l1.length)=True:=eq_true (by omega);(try rw [show ((0:Int)).toNat=0 from rfl] at hx778_0);(try rw [Addr.add_zero'] at hx778_0);replace hx778_0:=Zq.ce HB.out hx778_0;replace p778:=eq_true p778;replace q778:=eq_true q778;go_wp2
       go_meet
       case rel=>exact ⟨_,(false),Zs.auS,H',⟨by have:=HJ6.out;first|omega|exact Nat.le_refl _⟩,⟨Zs.auHB⟩⟩
     case rest =>
      clear HC21
      obtain ⟨kq,x48_20,rfl,HA,HJ20,HB⟩:=hcut;cases kq with
      | zero=>exact absurd HA.out (by simp [AL.j1])
      | succ kj20 =>
       have H:=HA.out;clear HA;simp only [AL.j1] at H
       by_cases c24:x48_20=true
       ·subst c24;rw [if_pos rfl] at H
        obtain ⟨c25,H⟩:=Zq.ip H;have c25b0:=decide_eq_true c25;clear c25;obtain ⟨t780,A26,H⟩:=Zs.be H;obtain ⟨t781,A27,H⟩:=Zs.be H;obtain rfl:=Option.some.inj H;have p779:0≤(1:Int):=(by omega);have q779:1<(l1.length:Int):=Zs.od;obtain ⟨ad779,e779,hx779_0⟩:=Kd.Ba HR1.out 1 p779 q779;cases e779;(try simp only [show (1:Int).toNat=1 from rfl,Nat.reduceMul,Nat.reduceEqDiff,Go.Addr.add,↓reduceIte] at hx779_0);(try rw [show ((1:Int)).toNat=1 from rfl] at hx779_0);replace hx779_0:=Zq.ce HB.out hx779_0;replace p779:=eq_true p779;replace q779:=eq_true q779
        go_wp2_with (first|(go_at_call 151;(with_reducible refine (CG.calls kj20 (rdOf ByteArray.empty l1 1) t780 _ A26.out).mono ?_);rintro e w' ⟨rfl,⟨nd,rfl⟩⟩;(try exact Zq.dd))|(go_at_call 153;(with_reducible refine (DY.calls kj20 _ _ l0 t780 t781 _ ?side1 ?side2 A27.out).mono ?_);(case side1=>repeat (first|exact (Kd.Bw HR0.out (Zs.auHB))|(with_reducible refine Kd.F4 ?_ _)|(with_reducible refine Kd.GJ ?_ _)|(with_reducible refine Kd.Hb ?_)));(case side2=>exact HC0.out);rintro e w' ⟨rfl,⟨nd,rfl⟩⟩;(try exact Zq.dd)))
        go_ret
        exact ⟨Zs.auR,Zs.auHB⟩
       ·replace c24:=Bool.eq_false_iff.mpr c24;subst c24;rw [if_neg (show ¬(false=true) by decide)] at H;have HC28:=Aa.mk H;clear H
        go_upto_region 8 with (fail)
        go_cut [64] (fun v64 wc => ∃(kq:Nat) (x64_27:Bool),v64 = .bool x64_27∧Aa (AL.j2 kq l0 l1 x64_27=some r)∧Aa (kq≤kj20)∧Aa (Below w.heap.size w wc))
        case first =>
         have H:=HC28.out;clear HC28
         obtain ⟨c29,H⟩:=Zq.ip H;have c29b0:=decide_eq_true c29;clear c29
         rcases Zq.ii H with ⟨c30,H⟩|⟨c30,H⟩
         ·have c30b0:=beq_iff_eq.mpr c30;clear c30;have H':=Aa.mk H;clear H;have p782:0≤(0:Int):=(by omega);have q782:0<(l1.length:Int):=Zs.od;obtain ⟨ad782,e782,hx782_0⟩:=Kd.Ba HR1.out 0 p782 q782;cases e782;have qi782:(0<l1.length)=True:=eq_true (by omega);(try rw [show ((0:Int)).toNat=0 from rfl] at hx782_0);(try rw [Addr.add_zero'] at hx782_0);replace hx782_0:=Zq.ce HB.out hx782_0;replace p782:=eq_true p782;replace q782:=eq_true q782;go_wp2
          go_meet
          case rel=>exact ⟨_,(((l1.length:Int)==2)),Zs.auS,H',⟨by have:=HJ6.out;have:=HJ20.out;first|omega|exact Nat.le_refl _⟩,⟨Zs.auHB⟩⟩
         ·have c30b0:=beq_eq_false_iff_ne.mpr c30;have H':=Aa.mk H;clear H;have p782:0≤(0:Int):=(by omega);have q782:0<(l1.length:Int):=Zs.od;obtain ⟨ad782,e782,hx782_0⟩:=Kd.Ba HR1.out 0 p782 q782;cases e782;have qi782:(0<l1.length)=True:=eq_true (by omega);(try rw [show ((0:Int)).toNat=0 from rfl] at hx782_0);(try rw [Addr.add_zero'] at hx782_0);replace hx782_0:=Zq.ce HB.out hx782_0;replace p782:=eq_true p782;replace q782:=eq_true q782;go_wp2
          go_meet
          case rel=>exact ⟨_,(false),Zs.auS,H',⟨by have:=HJ6.out;have:=HJ20.out;first|omega|exact Nat.le_refl _⟩,⟨Zs.auHB⟩⟩
        case rest =>
         clear HC28
         obtain ⟨kq,x64_27,rfl,HA,HJ27,HB⟩:=hcut;cases kq with
         | zero=>exact absurd HA.out (by simp [AL.j2])
         | succ kj27 =>
          have H:=HA.out;clear HA;simp only [AL.j2] at H
          by_cases c31:x64_27=true
          ·subst c31;rw [if_pos rfl] at H
           obtain ⟨c32,H⟩:=Zq.ip H;have c32b0:=decide_eq_true c32;clear c32;obtain ⟨t784,A33,H⟩:=Zs.be H;replace H:=Option.bind_eq_some_iff.mp H;obtain ⟨⟨t785,t786,t787⟩,A340,H⟩:=H;try dsimp only at H;have A34:=Aa.mk A340;clear A340;obtain ⟨t790,A35,H⟩:=Zs.be H
           obtain ⟨c36,H⟩:=Zq.ip H
           try have c36b2:(9223372036854775807<t790.size+3)=False:=eq_false (Nat.not_lt.2 c36)
           obtain ⟨t791,A37,H⟩:=Zs.be H
           obtain ⟨c38,H⟩:=Zq.ip H
           try skip
           have c38b4:=eq_false (Nat.not_lt.2 c38);simp only [ByteArray.size_append,show (⟨#[32,47,32]⟩:ByteArray).size=3 from rfl] at c38b4;obtain ⟨t792,A39,H⟩:=Zs.be H;obtain rfl:=Option.some.inj H;have p783:0≤(1:Int):=(by omega);have q783:1<(l1.length:Int):=Zs.od;obtain ⟨ad783,e783,hx783_0⟩:=Kd.Ba HR1.out 1 p783 q783;cases e783;(try simp only [show (1:Int).toNat=1 from rfl,Nat.reduceMul,Nat.reduceEqDiff,Go.Addr.add,↓reduceIte] at hx783_0);(try rw [show ((1:Int)).toNat=1 from rfl] at hx783_0);replace hx783_0:=Zq.ce HB.out hx783_0;replace p783:=eq_true p783;replace q783:=eq_true q783
           go_wp2_with (first|(go_at_call 106;(with_reducible refine (Am.calls kj27 (rdOf ByteArray.empty l1 1) t784 _ A33.out).mono ?_);rintro e w' ⟨rfl,⟨nd,rfl⟩⟩;(try exact Zq.dd))|(go_at_call 41;(with_reducible refine (Ah.calls kj27 _ _ l0 t784 t785 t786 t787 _ ?side1 ?side2 A34.out).mono ?_);(case side1=>repeat (first|exact (Kd.Bw HR0.out (Zs.auHB))|(with_reducible refine Kd.F4 ?_ _)|(with_reducible refine Kd.GJ ?_ _)|(with_reducible refine Kd.Hb ?_)));(case side2=>exact HC0.out);rintro e w40 ⟨v788,rfl,ho0,hb⟩;have HO789:=Zq.lw ho0;replace HB:=Zq.st hb;(try clear hb);(try clear ho0);obtain ⟨Ao41,co41,eo41⟩:=Kd.AD HO789.out;subst eo41)|(go_at_call 154;(with_reducible refine (Bu.calls kj27 _ _ t785 t790 _ ?side1 ?side2 A35.out).mono ?_);(case side1=>exact Zs.mvC ((Kd.Ac HO789.out).2.2));(case side2=>exact (Kd.Ac HO789.out).2.1);rintro e w42 ⟨rfl,hb⟩;replace HO789:=Zq.rb HO789.out hb;replace HB:=Zq.st hb;(try clear hb))|(go_at_call 53;(with_reducible refine (AX.calls kj27 t786 t791 _ A37.out).mono ?_);rintro e w43 ⟨rfl,hb⟩;replace HO789:=Zq.rb HO789.out hb;replace HB:=Zq.st hb;(try clear hb))|(go_at_call 152;(with_reducible refine (Cn.calls ((t790++(⟨#[32,47,32]⟩:ByteArray))++t791) t787 t792 _ A39.out).mono ?_);rintro e w' ⟨rfl,⟨nd,rfl⟩⟩;(try exact Zq.dd)))
           go_ret
           exact ⟨Zs.auR,Zs.auHB⟩
          ·replace c31:=Bool.eq_false_iff.mpr c31;subst c31;rw [if_neg (show ¬(false=true) by decide)] at H;have HC44:=Aa.mk H;clear H
           go_upto_region 11 with (fail)
           go_cut [92] (fun v92 wc => ∃(kq:Nat) (x92_43:Bool),v92 = .bool x92_43∧Aa (AL.j3 kq l1 x92_43=some r)∧Aa (kq≤kj27)∧Aa (Below w.heap.size w wc))
           case first =>
            have H:=HC44.out;clear HC44
            obtain ⟨c45,H⟩:=Zq.ip H;have c45b0:=decide_eq_true c45;clear c45
            rcases Zq.ii H with ⟨c46,H⟩|⟨c46,H⟩
            ·have c46b0:=beq_iff_eq.mpr c46;clear c46;have H':=Aa.mk H;clear H;have p793:0≤(0:Int):=(by omega);have q793:0<(l1.length:Int):=Zs.od;obtain ⟨ad793,e793,hx793_0⟩:=Kd.Ba HR1.out 0 p793 q793;cases e793;have qi793:(0<l1.length)=True:=eq_true (by omega);(try rw [show ((0:Int)).toNat=0 from rfl] at hx793_0);(try rw [Addr.add_zero'] at hx793_0);replace hx793_0:=Zq.ce HB.out hx793_0;replace p793:=eq_true p793;replace q793:=eq_true q793;go_wp2
             go_meet
             case rel=>exact ⟨_,(((l1.length:Int)==2)),Zs.auS,H',⟨by have:=HJ6.out;have:=HJ20.out;have:=HJ27.out;first|omega|exact Nat.le_refl _⟩,⟨Zs.auHB⟩⟩
            ·have c46b0:=beq_eq_false_iff_ne.mpr c46;have H':=Aa.mk H;clear H;have p793:0≤(0:Int):=(by omega);have q793:0<(l1.length:Int):=Zs.od;obtain ⟨ad793,e793,hx793_0⟩:=Kd.Ba HR1.out 0 p793 q793;cases e793;have qi793:(0<l1.length)=True:=eq_true (by omega);(try rw [show ((0:Int)).toNat=0 from rfl] at hx793_0);(try rw [Addr.add_zero'] at hx793_0);replace hx793_0:=Zq.ce HB.out hx793_0;replace p793:=eq_true p793;replace q793:=eq_true q793;go_wp2
             go_meet
             case rel=>exact ⟨_,(false),Zs.auS,H',⟨by have:=HJ6.out;have:=HJ20.out;have:=HJ27.out;first|omega|exact Nat.le_refl _⟩,⟨Zs.auHB⟩⟩
           case rest =>
            clear HC44
            obtain ⟨kq,x92_43,rfl,HA,HJ43,HB⟩:=hcut;cases kq with
            | zero=>exact absurd HA.out (by simp [AL.j3])
            | succ kj43 =>
             have H:=HA.out;clear HA;simp only [AL.j3] at H
             by_cases c47:x92_43=true
             ·subst c47;rw [if_pos rfl] at H
              obtain ⟨c48,H⟩:=Zq.ip H;have c48b0:=decide_eq_true c48;clear c48;obtain ⟨t795,A49,H⟩:=Zs.be H;replace H:=Option.bind_eq_some_iff.mp H;obtain ⟨⟨t796,t797⟩,A500,H⟩:=H;try dsimp only at H;have A50:=Aa.mk A500;clear A500;obtain ⟨t800,A51,H⟩:=Zs.be H;obtain ⟨t801,A52,H⟩:=Zs.be H;obtain rfl:=Option.some.inj H;have p794:0≤(1:Int):=(by omega);have q794:1<(l1.length:Int):=Zs.od;obtain ⟨ad794,e794,hx794_0⟩:=Kd.Ba HR1.out 1 p794 q794;cases e794;(try simp only [show (1:Int).toNat=1 from rfl,Nat.reduceMul,Nat.reduceEqDiff,Go.Addr.add,↓reduceIte] at hx794_0);(try rw [show ((1:Int)).toNat=1 from rfl] at hx794_0);replace hx794_0:=Zq.ce HB.out hx794_0;replace p794:=eq_true p794;replace q794:=eq_true q794
              go_wp2_with (first|(go_at_call 106;(with_reducible refine (Am.calls kj43 (rdOf ByteArray.empty l1 1) t795 _ A49.out).mono ?_);rintro e w' ⟨rfl,⟨nd,rfl⟩⟩;(try exact Zq.dd))|(go_at_call 20;(with_reducible refine (Ak.calls kj43 t795 t796 t797 _ A50.out).mono ?_);rintro e w53 ⟨v798,rfl,ho0,hb⟩;have HO799:=Zq.lw ho0;replace HB:=Zq.st hb;(try clear hb);(try clear ho0);obtain ⟨Ao54,co54,eo54⟩:=Kd.AD HO799.out;subst eo54)|(go_at_call 154;(with_reducible refine (Bu.calls kj43 _ _ t796 t800 _ ?side1 ?side2 A51.out).mono ?_);(case side1=>exact Zs.mvC ((Kd.Ac HO799.out).2.2));(case side2=>exact (Kd.Ac HO799.out).2.1);rintro e w55 ⟨rfl,hb⟩;replace HO799:=Zq.rb HO799.out hb;replace HB:=Zq.st hb;(try clear hb))|(go_at_call 152;(with_reducible refine (Cn.calls t800 t797 t801 _ A52.out).mono ?_);rintro e w' ⟨rfl,⟨nd,rfl⟩⟩;(try exact Zq.dd)))
              go_ret
              exact ⟨Zs.auR,Zs.auHB⟩
             ·replace c47:=Bool.eq_false_iff.mpr c47;subst c47;rw [if_neg (show ¬(false=true) by decide)] at H;obtain rfl:=Option.some.inj H;go_wp2
              go_ret
              exact ⟨Zs.auR,Zs.auHB⟩
end Go.Proofs.YtacfcoilmdhgnaaGreatDoor.PFnExactExecute
