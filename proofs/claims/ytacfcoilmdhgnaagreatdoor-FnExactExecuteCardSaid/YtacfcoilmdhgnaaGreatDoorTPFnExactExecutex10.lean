/- A function's Lean twin and its walk, written by a program of this session. -/
import Derived.Test.YtacfcoilmdhgnaaGreatDoorTPFnExactExecutex9
set_option maxHeartbeats 8000000
set_option maxRecDepth 100000
namespace Go.Proofs.YtacfcoilmdhgnaaGreatDoor.PFnExactExecute
open Go.RowKit Go.Proofs.YtacfcoilmdhgnaaGreatDoorW.PrintWords Go.Proofs.YtacfcoilmdhgnaaGreatDoorW.PrintLast Go.Proofs.YtacfcoilmdhgnaaGreatDoorW.PrintMore
attribute [local go_sem] Dy Dx D0 D1 Dc De DA Dz   -- for this text's walks alone
set_option linter.unusedVariables false
set_option linter.unusedSimpArgs false
def B0.f (k:Nat) (l0:List Int):Option (List Int×Bool):=(Au.f k l0).bind fun t560=>(if t560=true then (if (l0.length:Int)=2 then (if 0<(l0.length:Int) then ((AP.f k (rd l0 0)).bind fun bt565=>(if 1<(l0.length:Int) then ((AP.f k (rd l0 1)).bind fun bt568=>(if (wrap64 (bt565.1+bt568.1))=0 then ((AE.f k (([bt568.2,bt565.2]:List Int))).bind fun t573=>(some (t573,true))) else (some ((([]:List Int)),false)))) else (none))) else (none)) else (if (l0.length:Int)=3 then ((BN.f k l0).bind fun bt579=>(some (bt579.1,bt579.2))) else (if (l0.length:Int)=4 then ((Aj.f k l0).bind fun bt583=>(some (bt583.1,bt583.2))) else (some ((([]:List Int)),false))))) else (some ((([]:List Int)),false)))
theorem B0.calls (k:Nat) (A0:Option Addr) (c0:Nat) (l0:List Int) (r1:List Int) (r2:Bool) (w:World) (hr0:Kd.C (Kd.int .i64) w A0 l0.length l0) (hc0:l0.length≤c0) (h:B0.f k l0=some (r1,r2)) :
  Calls Tryz.prog 38 #[.slice A0 l0.length c0] w fun e w' => ∃v0_:Value,e = .returned (.tuple #[v0_,.bool r2])∧Kd.R (Kd.int .i64) 3 w' w.heap.size (fun _=>True) v0_ r1∧Below w.heap.size w w':=by
 have HR0:=Aa.mk hr0;have HC0:=Aa.mk hc0;clear hr0 hc0;have HB:=Aa.mk (Below.refl w.heap.size w);unfold B0.f at h;have H:=h;clear h;obtain ⟨t560,A2,H⟩:=Zs.be H
 by_cases c3:t560=true
 ·subst c3;rw [if_pos rfl] at H
  rcases Zq.ii H with ⟨c4,H⟩|⟨c4,H⟩
  ·have c4b0:=beq_iff_eq.mpr c4;clear c4
   obtain ⟨c5,H⟩:=Zq.ip H;have c5b0:=decide_eq_true c5;clear c5;replace H:=Option.bind_eq_some_iff.mp H;obtain ⟨⟨t565,t566⟩,A60,H⟩:=H;try dsimp only at H;have A6:=Aa.mk A60;clear A60
   obtain ⟨c7,H⟩:=Zq.ip H;have c7b0:=decide_eq_true c7;clear c7;replace H:=Option.bind_eq_some_iff.mp H;obtain ⟨⟨t568,t569⟩,A80,H⟩:=H;try dsimp only at H;have A8:=Aa.mk A80;clear A80
   rcases Zq.ii H with ⟨c9,H⟩|⟨c9,H⟩
   ·have c9b0:=beq_iff_eq.mpr c9;clear c9;(try rw [Option.bind_some] at H);generalize hyy:([t569,t566]:List Int)=y570 at H;have Ny570:=Aa.mk hyy.symm;clear hyy;obtain ⟨t573,A10,H⟩:=Zs.be H;simp only [Option.some.injEq,Prod.mk.injEq] at H;obtain ⟨rfl,rfl⟩:=H
    go_enter Tryz.func38,Tryz.ntmps38
    go_wp2_with (first|((with_reducible refine Ab (f:=62) rfl ?_);refine Zq.gp Tryz.func62 (Au.calls _ _ _ _ _ _ (Zs.mvC (HR0.out)) HC0.out A2.out) ?_;intro nd;obtain ⟨ad564,e564,hx564_0,p564,q564⟩:=Zq.at_ HR0.out 0;cases e564;have qi564:(0<l0.length)=True:=eq_true (by have:=of_eq_true q564;omega);(try rw [show ((0:Int)).toNat=0 from rfl] at hx564_0);(try rw [Addr.add_zero'] at hx564_0))|((with_reducible refine Ab (f:=81) rfl ?_);refine Zq.gc (some 20) Tryz.func81 (AP.calls _ _ _ _ _ A6.out) ?_;rintro e w11 ⟨rfl,hb⟩;refine ⟨_,rfl,?_⟩;replace HB:=Zq.st hb;(try clear hb);obtain ⟨ad567,e567,hx567_0,p567,q567⟩:=Zq.at_ HR0.out 1;obtain rfl:ad564=ad567:=(by injection e567);(try simp only [show (1:Int).toNat=1 from rfl,Nat.reduceMul,Nat.reduceEqDiff,Go.Addr.add,↓reduceIte] at hx567_0);(try rw [show ((1:Int)).toNat=1 from rfl] at hx567_0);replace hx567_0:=Zq.ce HB.out hx567_0)|((with_reducible refine Ab (f:=81) rfl ?_);refine Zq.gc (some 27) Tryz.func81 (AP.calls _ _ _ _ _ A8.out) ?_;rintro e w12 ⟨rfl,hb⟩;refine ⟨_,rfl,?_⟩;replace HB:=Zq.st hb;(try clear hb))|((with_reducible refine Bg (N:=36) rfl ?_);refine Zq.li ([t569,t566]:List Int) ?_;intro v571 w13 ho14 hb;(first|rw [← Ny570.out] at ho14|(simp only [Int.reduceToNat] at ho14;rw [← Ny570.out] at ho14));have HO572:=Zq.lw ho14;replace HB:=Zq.st hb;clear hb ho14;obtain ⟨Ao15,co15,eo15⟩:=Kd.AD HO572.out;subst eo15)|((with_reducible refine Ab (f:=82) rfl ?_);refine Zq.gc (some 37) Tryz.func82 (AE.calls _ _ _ _ _ _ (Zs.mvC ((Kd.Ac HO572.out).2.2)) ((Kd.Ac HO572.out).2.1) A10.out) ?_;rintro e w16 ⟨v574,rfl,ho0,hb⟩;refine ⟨_,rfl,?_⟩;have HO575:=Aa.mk (Kd.Bp (Kd.Bj ho0 (Zq.lt HO572.out)) (Av (Zs.auHB)));replace HO572:=Zq.el HO572.out ho0 hb;replace HB:=Zq.st hb;(try clear hb);(try clear ho0)))
    go_ret2
    exact ⟨_,Zs.auR,(Zs.mvR (Kd.AJ HO575.out (fun _ hk=>trivial))),Zs.auHB⟩
   ·have c9b0:=beq_eq_false_iff_ne.mpr c9;obtain ⟨y576,hyy⟩ : ∃y_:List Int,y_=(([]:List Int)):=⟨_,rfl⟩
    replace H:(some (y576,false))=some (r1,r2):=Zs.auY
    have Ny576:=Aa.mk hyy;clear hyy;simp only [Option.some.injEq,Prod.mk.injEq] at H;obtain ⟨rfl,rfl⟩:=H
    go_enter Tryz.func38,Tryz.ntmps38
    go_wp2_with (first|((with_reducible refine Ab (f:=62) rfl ?_);refine Zq.gp Tryz.func62 (Au.calls _ _ _ _ _ _ (Zs.mvC (HR0.out)) HC0.out A2.out) ?_;intro nd;obtain ⟨ad564,e564,hx564_0,p564,q564⟩:=Zq.at_ HR0.out 0;cases e564;have qi564:(0<l0.length)=True:=eq_true (by have:=of_eq_true q564;omega);(try rw [show ((0:Int)).toNat=0 from rfl] at hx564_0);(try rw [Addr.add_zero'] at hx564_0))|((with_reducible refine Ab (f:=81) rfl ?_);refine Zq.gc (some 20) Tryz.func81 (AP.calls _ _ _ _ _ A6.out) ?_;rintro e w17 ⟨rfl,hb⟩;refine ⟨_,rfl,?_⟩;replace HB:=Zq.st hb;(try clear hb);obtain ⟨ad567,e567,hx567_0,p567,q567⟩:=Zq.at_ HR0.out 1;obtain rfl:ad564=ad567:=(by injection e567);(try simp only [show (1:Int).toNat=1 from rfl,Nat.reduceMul,Nat.reduceEqDiff,Go.Addr.add,↓reduceIte] at hx567_0);(try rw [show ((1:Int)).toNat=1 from rfl] at hx567_0);replace hx567_0:=Zq.ce HB.out hx567_0)|((with_reducible refine Ab (f:=81) rfl ?_);refine Zq.gc (some 27) Tryz.func81 (AP.calls _ _ _ _ _ A8.out) ?_;rintro e w18 ⟨rfl,hb⟩;refine ⟨_,rfl,?_⟩;replace HB:=Zq.st hb;(try clear hb))|((with_reducible refine Bg (N:=50) rfl ?_);refine Zq.li ([]:List Int) ?_;intro v577 w19 ho20 hb;(first|rw [← Ny576.out] at ho20|(simp only [Int.reduceToNat] at ho20;rw [← Ny576.out] at ho20));have HO578:=Zq.lw ho20;replace HB:=Zq.st hb;clear hb ho20))
    go_ret2
    exact ⟨_,Zs.auR,(Zs.mvR HO578.out),Zs.auHB⟩
  ·have c4b0:=beq_eq_false_iff_ne.mpr c4
   rcases Zq.ii H with ⟨c21,H⟩|⟨c21,H⟩
   ·have c21b0:=beq_iff_eq.mpr c21;clear c21;replace H:=Option.bind_eq_some_iff.mp H;obtain ⟨⟨t579,t580⟩,A220,H⟩:=H;try dsimp only at H;have A22:=Aa.mk A220;clear A220;simp only [Option.some.injEq,Prod.mk.injEq] at H;obtain ⟨rfl,rfl⟩:=H
    go_enter Tryz.func38,Tryz.ntmps38
    go_wp2_with (first|((with_reducible refine Ab (f:=62) rfl ?_);refine Zq.gp Tryz.func62 (Au.calls _ _ _ _ _ _ (Zs.mvC (HR0.out)) HC0.out A2.out) ?_;intro nd)|((with_reducible refine Ab (f:=83) rfl ?_);refine Zq.gc (some 41) Tryz.func83 (BN.calls _ _ _ _ _ _ _ (Zs.mvC (HR0.out)) HC0.out A22.out) ?_;rintro e w23 ⟨v581,rfl,ho0,hb⟩;refine ⟨_,rfl,?_⟩;have HO582:=Zq.lw ho0;replace HB:=Zq.st hb;(try clear hb);(try clear ho0)))
    go_ret2
    exact ⟨_,Zs.auR,(Zs.mvR HO582.out),Zs.auHB⟩
   ·have c21b0:=beq_eq_false_iff_ne.mpr c21
    rcases Zq.ii H with ⟨c24,H⟩|⟨c24,H⟩
    ·have c24b0:=beq_iff_eq.mpr c24;clear c24;replace H:=Option.bind_eq_some_iff.mp H;obtain ⟨⟨t583,t584⟩,A250,H⟩:=H;try dsimp only at H;have A25:=Aa.mk A250;clear A250;simp only [Option.some.injEq,Prod.mk.injEq] at H;obtain ⟨rfl,rfl⟩:=H
     go_enter Tryz.func38,Tryz.ntmps38
     go_wp2_with (first|((with_reducible refine Ab (f:=62) rfl ?_);refine Zq.gp Tryz.func62 (Au.calls _ _ _ _ _ _ (Zs.mvC (HR0.out)) HC0.out A2.out) ?_;intro nd)|((with_reducible refine Ab (f:=84) rfl ?_);refine Zq.gc (some 47) Tryz.func84 (Aj.calls _ _ _ _ _ _ _ (Zs.mvC (HR0.out)) HC0.out A25.out) ?_;rintro e w26 ⟨v585,rfl,ho0,hb⟩;refine ⟨_,rfl,?_⟩;have HO586:=Zq.lw ho0;replace HB:=Zq.st hb;(try clear hb);(try clear ho0)))
     go_ret2
     exact ⟨_,Zs.auR,(Zs.mvR HO586.out),Zs.auHB⟩
    ·have c24b0:=beq_eq_false_iff_ne.mpr c24;obtain ⟨y587,hyy⟩ : ∃y_:List Int,y_=(([]:List Int)):=⟨_,rfl⟩
     replace H:(some (y587,false))=some (r1,r2):=Zs.auY
     have Ny587:=Aa.mk hyy;clear hyy;simp only [Option.some.injEq,Prod.mk.injEq] at H;obtain ⟨rfl,rfl⟩:=H
     go_enter Tryz.func38,Tryz.ntmps38
     go_wp2_with (first|((with_reducible refine Ab (f:=62) rfl ?_);refine Zq.gp Tryz.func62 (Au.calls _ _ _ _ _ _ (Zs.mvC (HR0.out)) HC0.out A2.out) ?_;intro nd)|((with_reducible refine Bg (N:=50) rfl ?_);refine Zq.li ([]:List Int) ?_;intro v588 w27 ho28 hb;(first|rw [← Ny587.out] at ho28|(simp only [Int.reduceToNat] at ho28;rw [← Ny587.out] at ho28));have HO589:=Zq.lw ho28;replace HB:=Zq.st hb;clear hb ho28))
     go_ret2
     exact ⟨_,Zs.auR,(Zs.mvR HO589.out),Zs.auHB⟩
 ·replace c3:=Bool.eq_false_iff.mpr c3;subst c3;rw [if_neg (show ¬(false=true) by decide)] at H;obtain ⟨y561,hyy⟩ : ∃y_:List Int,y_=(([]:List Int)):=⟨_,rfl⟩
  replace H:(some (y561,false))=some (r1,r2):=Zs.auY
  have Ny561:=Aa.mk hyy;clear hyy;simp only [Option.some.injEq,Prod.mk.injEq] at H;obtain ⟨rfl,rfl⟩:=H
  go_enter Tryz.func38,Tryz.ntmps38
  go_wp2_with (first|((with_reducible refine Ab (f:=62) rfl ?_);refine Zq.gp Tryz.func62 (Au.calls _ _ _ _ _ _ (Zs.mvC (HR0.out)) HC0.out A2.out) ?_;intro nd)|((with_reducible refine Bg (N:=11) rfl ?_);refine Zq.li ([]:List Int) ?_;intro v562 w29 ho30 hb;(first|rw [← Ny561.out] at ho30|(simp only [Int.reduceToNat] at ho30;rw [← Ny561.out] at ho30));have HO563:=Zq.lw ho30;replace HB:=Zq.st hb;clear hb ho30))
  go_ret2
  exact ⟨_,Zs.auR,(Zs.mvR HO563.out),Zs.auHB⟩
def DJ.f (k:Nat) (l0:List Int):Option (Bool):=(Au.f k l0).bind fun t590=>(if t590=true then (some (decide ((l0.length:Int)≤3))) else (some false))
theorem DJ.calls (k:Nat) (A0:Option Addr) (c0:Nat) (l0:List Int) (r:Bool) (w:World) (hr0:Kd.C (Kd.int .i64) w A0 l0.length l0) (hc0:l0.length≤c0) (h:DJ.f k l0=some r) :
  Calls Tryz.prog 89 #[.slice A0 l0.length c0] w fun e w'=>e = .returned (.bool r)∧Bh w w':=by
 have HR0:=Aa.mk hr0;have HC0:=Aa.mk hc0;clear hr0 hc0;unfold DJ.f at h;have H:=h;clear h;obtain ⟨t590,A2,H⟩:=Zs.be H
 by_cases c3:t590=true
 ·subst c3;rw [if_pos rfl] at H;obtain rfl:=Option.some.inj H
  go_enter Tryz.func89,Tryz.ntmps89
  go_wp2_with (((with_reducible refine Ab (f:=62) rfl ?_);refine Zq.gp Tryz.func62 (Au.calls _ _ _ _ _ _ (Zs.mvC (HR0.out)) HC0.out A2.out) ?_;intro nd))
  go_ret
  exact ⟨Zs.auS,Zq.dr⟩
 ·replace c3:=Bool.eq_false_iff.mpr c3;subst c3;rw [if_neg (show ¬(false=true) by decide)] at H;obtain rfl:=Option.some.inj H
  go_enter Tryz.func89,Tryz.ntmps89
  go_wp2_with (((with_reducible refine Ab (f:=62) rfl ?_);refine Zq.gp Tryz.func62 (Au.calls _ _ _ _ _ _ (Zs.mvC (HR0.out)) HC0.out A2.out) ?_;intro nd))
  go_ret
  exact ⟨Zs.auS,Zq.dr⟩
def Df.f (a0:Int):Option (Bool):=if a0=0 then (some false) else ((Cq.f a0 (-30) 30).bind fun t591=>(some t591))
theorem Df.calls (a0:Int) (r:Bool) (w:World) (h:Df.f a0=some r) :
  Calls Tryz.prog 90 #[.int .i64 a0] w fun e w'=>e = .returned (.bool r)∧Bh w w':=by
 unfold Df.f at h;have H:=h;clear h
 rcases Zq.ii H with ⟨c2,H⟩|⟨c2,H⟩
 ·have c2b1:=bne_eq_false_iff_eq.mpr c2;clear c2;obtain rfl:=Option.some.inj H
  go_enter Tryz.func90,Tryz.ntmps90
  go_wp2;go_ret
  exact ⟨Zs.auS,Zq.dr⟩
 ·have c2b1:=bne_iff_ne.mpr c2;obtain ⟨t591,A3,H⟩:=Zs.be H;obtain rfl:=Option.some.inj H
  go_enter Tryz.func90,Tryz.ntmps90
  go_wp2_with ((go_at_call 111;(with_reducible refine (Cq.calls a0 (-30) 30 t591 _ A3.out).mono ?_);rintro e w' ⟨rfl,⟨nd,rfl⟩⟩))
  go_ret
  exact ⟨Zs.auS,Zq.dr⟩
def Cm.l0:Nat→List Int→Int→Option (Int)
 | 0,_,_=>none
 | k+1,x0,x3=>if 0≤x3 then (if x3<(x0.length:Int) then (if (rd x0 x3)=0 then (Cm.l0 k x0 (wrap64 (x3+1))) else (some x3)) else (none)) else (none)
def Cm.f (k:Nat) (l0:List Int):Option (Int):=Cm.l0 k l0 0
theorem Cm.calls (k:Nat) (A0:Option Addr) (c0:Nat) (l0:List Int) (r:Int) (w:World) (hr0:Kd.C (Kd.int .i64) w A0 l0.length l0) (hc0:l0.length≤c0) (h:Cm.f k l0=some r) :
  Calls Tryz.prog 91 #[.slice A0 l0.length c0] w fun e w'=>e = .returned (.int .i64 r)∧Bh w w':=by
 have HR0:=Aa.mk hr0;have HC0:=Aa.mk hc0;clear hr0 hc0;unfold Cm.f at h;have H:=h;clear h;have H':=Aa.mk H;clear H
 go_enter Tryz.func91,Tryz.ntmps91
 go_wp2
 go_loopg [3] k (fun kq v3 w' => ∃(x3_1:Int),v3 = .int .i64 x3_1∧Aa (Cm.l0 kq l0 x3_1=some r)∧Aa (kq≤k)∧Bh w w')
 case atStart=>exact ⟨(0),Zs.auS,H',⟨Nat.le_refl _⟩,Zq.dr⟩
 case round =>
  clear H';obtain ⟨x3_1,rfl,HA,HK1,⟨m1,rfl⟩⟩:=hrel;cases gk with
  | zero=>exact absurd HA.out (by simp [Cm.l0])
  | succ k1 =>
   have H:=HA.out;clear HA;simp only [Cm.l0] at H
   obtain ⟨c2,H⟩:=Zq.ip H;have c2b0:=decide_eq_true c2;clear c2
   obtain ⟨c3,H⟩:=Zq.ip H;have c3b0:=decide_eq_true c3;clear c3
   rcases Zq.ii H with ⟨c4,H⟩|⟨c4,H⟩
   ·have c4b0:=beq_iff_eq.mpr c4;clear c4;have H':=Aa.mk H;clear H;obtain ⟨ad592,e592,hx592_0,p592,q592⟩:=Zq.at_ HR0.out x3_1;cases e592;go_wp2
    go_roundg k1
    case measure=>have:=HK1.out;omega
    case rel=>exact ⟨(wrap64 (x3_1+1)),Zs.auS,H',⟨by have:=HK1.out;omega⟩,Zq.dr⟩
   ·have c4b0:=beq_eq_false_iff_ne.mpr c4;obtain rfl:=Option.some.inj H;obtain ⟨ad592,e592,hx592_0,p592,q592⟩:=Zq.at_ HR0.out x3_1;cases e592;go_wp2;go_ret
    exact ⟨Zs.auS,Zq.dr⟩
mutual
def AH.l0:Nat→List (List Int)→Int→Int→Int→Option ((List (List Int))×Int)
 | 0,_,_,_,_=>none
 | k+1,x0,x1,x5,x6=>if x6<(x0.length:Int) then (AH.l1 k x0 x1 x5 x6 0) else (if x1<0 then (AH.j2 k x0 x1 (wrap64 (-x5))) else (AH.j2 k x0 x1 x5))
def AH.l1:Nat→List (List Int)→Int→Int→Int→Int→Option ((List (List Int))×Int)
 | 0,_,_,_,_,_=>none
 | k+1,x0,x1,x5,x6,x7=>if 0≤x6 then (if x6<(x0.length:Int) then (if x7<((Gs x0 x6).length:Int) then (if 0≤x7 then ((BU.f k x5 (rd (Gs x0 x6) x7)).bind fun t597=>(AH.l1 k x0 x1 t597 x6 (wrap64 (x7+1)))) else (none)) else (AH.l0 k x0 x1 x5 (wrap64 (x6+1)))) else (none)) else (none)
def AH.j2:Nat→List (List Int)→Int→Int→Option ((List (List Int))×Int)
 | 0,_,_,_=>none
 | k+1,x0,x1,x5=>if x5=0 then (none) else (AH.l2 k x0 x5 0 (([]:List (List Int))) (wrap64 (Int.tdiv x1 x5)))
def AH.l2:Nat→List (List Int)→Int→Int→List (List Int)→Int→Option ((List (List Int))×Int)
 | 0,_,_,_,_,_=>none
 | k+1,x0,x5,x9,x602000,x602001=>if x9<(x0.length:Int) then (AH.l3 k x0 x5 x9 (([]:List Int)) 0 x602000 x602001) else (some (x602000,x602001))
def AH.l3:Nat→List (List Int)→Int→Int→List Int→Int→List (List Int)→Int→Option ((List (List Int))×Int)
 | 0,_,_,_,_,_,_,_=>none
 | k+1,x0,x5,x9,x10,x11,x602000,x602001=>if 0≤x9 then (if x9<(x0.length:Int) then (if x11<((Gs x0 x9).length:Int) then (if 0≤x11 then (if x5=0 then (none) else (if x10.length<17592186044416 then (AH.l3 k x0 x5 x9 (x10++[wrap64 (Int.tdiv (rd (Gs x0 x9) x11) x5)]) (wrap64 (x11+1)) x602000 x602001) else (none))) else (none)) else (if x602000.length<5864062014805 then (AH.l2 k x0 x5 (wrap64 (x9+1)) (x602000++[x10]) x602001) else (none))) else (none)) else (none)
end
def AH.f (k:Nat) (l0:List (List Int)) (a1:Int):Option ((List (List Int))×Int):=AH.l0 k l0 a1 a1 0
theorem AH.calls (k:Nat) (A0:Option Addr) (c0:Nat) (l0:List (List Int)) (a1:Int) (r1:List (List Int)) (r2:Int) (w:World) (hr0:Kd.C (Kd.slice 3 (Kd.int .i64)) w A0 l0.length l0) (hc0:l0.length≤c0) (h:AH.f k l0 a1=some (r1,r2)) :
  Calls Tryz.prog 139 #[.slice A0 l0.length c0,.int .i64 a1] w fun e w' => ∃v0_:Value,e = .returned (.agg #[v0_,.int .i64 r2])∧Kd.S (Kd.slice 3 (Kd.int .i64)) 27 w' w.heap.size (fun _=>True) v0_ r1∧Below w.heap.size w w':=by
 have hu105:=Tryz.underlying105;have HR0:=Aa.mk hr0;have HC0:=Aa.mk hc0;clear hr0 hc0;have HB:=Aa.mk (Below.refl w.heap.size w);unfold AH.f at h;have H:=h;clear h;have H':=Aa.mk H;clear H
 go_enter Tryz.func139,Tryz.ntmps139
 go_wp2_with (((with_reducible refine Bg (N:=4) rfl ?_);refine J0 ?hg (N:=4) ?hd (cs:=#[.slice none 0 0,.int .i64 0]) (t:=105) ?hr ?_;(case hd=>rfl);(case hg=>rfl);(case hr=>first|(go_simp;done)|(go_simp;rfl));intro gb593 hg w3 hbox hb;have BK593:=Aa.mk (hbox);have GW593:=Aa.mk ((by rw [hg];exact (Av (Zs.auHB)):w.heap.size≤gb593));have GE593:=Aa.mk ((by rw [hg];exact (Av (Zs.auHB)):w.heap.size≤gb593));replace HB:=Zq.st hb;clear hb hbox hg))
 go_loopg [5,6] k (fun kq v5 v6 w' => ∃(x5_1:Int) (x6_1:Int),v5 = .int .i64 x5_1∧v6 = .int .i64 x6_1∧Aa (AH.l0 kq l0 a1 x5_1 x6_1=some (r1,r2))∧Aa (kq≤k)∧Aa (w'.heap[gb593]? = some (.cells #[(.slice none 0 0),.int .i64 0] 105 (0,0)))∧Aa (Below w.heap.size w w'))
 case atStart=>exact ⟨(a1),(0),Zs.auS,Zs.auS,H',⟨Nat.le_refl _⟩,⟨by (with_reducible repeat (first|refine BG ?_ _|refine Cb ?_|refine BF ?_ _));exact BK593.out⟩,⟨by repeat (first|(with_reducible first|exact HB.out|apply Al|apply As|apply Ax|refine AQ ?_ GE593.out)|exact HB.out)⟩⟩
 case round =>
  clear H'
  obtain ⟨x5_1,x6_1,rfl,rfl,HA,HK1,BK593,HB⟩:=hrel;cases gk with
  | zero=>exact absurd HA.out (by simp [AH.l0])
  | succ k1 =>
   have H:=HA.out;clear HA;simp only [AH.l0] at H
   rcases Zq.ii H with ⟨c4,H⟩|⟨c4,H⟩
   ·have c4b0:=decide_eq_true c4;clear c4;have H':=Aa.mk H;clear H;go_wp2
    go_loopg [5,7] k1 (fun kq v5 v7 w' => ∃(x5_2:Int) (x7_2:Int),v5 = .int .i64 x5_2∧v7 = .int .i64 x7_2∧Aa (AH.l1 kq l0 a1 x5_2 x6_1 x7_2=some (r1,r2))∧Aa (kq≤k1)∧Aa (w'.heap[gb593]? = some (.cells #[(.slice none 0 0),.int .i64 0] 105 (0,0)))∧Aa (Below w.heap.size w w'))
    case atStart=>exact ⟨(x5_1),(0),Zs.auS,Zs.auS,H',⟨Nat.le_refl _⟩,⟨by (with_reducible repeat (first|refine BG ?_ _|refine Cb ?_|refine BF ?_ _));exact BK593.out⟩,⟨by repeat (first|(with_reducible first|exact HB.out|apply Al|apply As|apply Ax|refine AQ ?_ GE593.out)|exact HB.out)⟩⟩
    case round =>
     clear H'
     obtain ⟨x5_2,x7_2,rfl,rfl,HA,HK2,BK593,HB⟩:=hrel;cases gk with
     | zero=>exact absurd HA.out (by simp [AH.l1])
     | succ k2 =>
      have H:=HA.out;clear HA;simp only [AH.l1] at H
      obtain ⟨c5,H⟩:=Zq.ip H;have c5b0:=decide_eq_true c5;clear c5
      obtain ⟨c6,H⟩:=Zq.ip H;have c6b0:=decide_eq_true c6;clear c6
      rcases Zq.ii H with ⟨c7,H⟩|⟨c7,H⟩
      ·have c7b0:=decide_eq_true c7;clear c7
       obtain ⟨c8,H⟩:=Zq.ip H;have c8b0:=decide_eq_true c8;clear c8;obtain ⟨t597,A9,H⟩:=Zs.be H;have H':=Aa.mk H;clear H;have p594:0≤(x6_1:Int):=Zs.od;have q594:x6_1<(l0.length:Int):=Zs.od;obtain ⟨ad594,A594_0,c594_0,e594,hx594_0,hl594_0,hi594_0⟩:=Mv HR0.out x6_1 p594 q594;cases e594;replace hx594_0:=Zq.ce HB.out hx594_0;have HR594_0:=Aa.mk hi594_0;have HC594_0:=Aa.mk hl594_0;clear hi594_0 hl594_0;replace p594:=eq_true p594;replace q594:=eq_true q594;have p595:0≤(x6_1:Int):=Zs.od;have q595:x6_1<(l0.length:Int):=Zs.od;obtain ⟨ad595,A595_0,c595_0,e595,hx595_0,hl595_0,hi595_0⟩:=Mv HR0.out x6_1 p595 q595;obtain rfl:ad594=ad595:=(by injection e595);replace hx595_0:=Zq.ce HB.out hx595_0;have HR595_0:=Aa.mk hi595_0;have HC595_0:=Aa.mk hl595_0;clear hi595_0 hl595_0;replace p595:=eq_true p595;replace q595:=eq_true q595;have ea_:=Option.some.inj (hx594_0.symm.trans hx595_0);injection ea_ with ea_ en_ ec_
       subst ea_;subst ec_;clear en_;obtain ⟨ad596,e596,hx596_0,p596,q596⟩:=Zq.at_ HR595_0.out x7_2;cases e596;replace hx596_0:=Zq.ce HB.out hx596_0
       go_wp2_with (((with_reducible refine Ab (f:=136) rfl ?_);refine Zq.gb Tryz.func136 (BU.calls _ _ _ _ _ A9.out) ?_;intro w10 hb;replace BK593:=Aa.mk (Ft (g:=gb593) (o := .cells #[.slice none 0 0,.int .i64 0] 105 (0,0)) (by (with_reducible repeat (first|refine BG ?_ _|refine Cb ?_|refine BF ?_ _));exact BK593.out) hb);replace HB:=Aa.mk (Ch (by repeat (first|(with_reducible first|exact HB.out|apply Al|apply As|apply Ax|refine AQ ?_ GE593.out)|exact HB.out)) hb);(try clear hb)))
       go_roundg k2
       case measure=>have:=HK1.out;have:=HK2.out;omega
       case rel=>exact ⟨(t597),(wrap64 (x7_2+1)),Zs.auS,Zs.auS,H',⟨by have:=HK1.out;have:=HK2.out;omega⟩,⟨by (with_reducible repeat (first|refine BG ?_ _|refine Cb ?_|refine BF ?_ _));exact BK593.out⟩,⟨by repeat (first|(with_reducible first|exact HB.out|apply Al|apply As|apply Ax|refine AQ ?_ GE593.out)|exact HB.out)⟩⟩
      ·have c7b0:=decide_eq_false c7;clear c7;have H':=Aa.mk H;clear H;have p594:0≤(x6_1:Int):=Zs.od;have q594:x6_1<(l0.length:Int):=Zs.od;obtain ⟨ad594,A594_0,c594_0,e594,hx594_0,hl594_0,hi594_0⟩:=Mv HR0.out x6_1 p594 q594;cases e594;replace hx594_0:=Zq.ce HB.out hx594_0;have HR594_0:=Aa.mk hi594_0;have HC594_0:=Aa.mk hl594_0;clear hi594_0 hl594_0;replace p594:=eq_true p594;replace q594:=eq_true q594;go_wp2
       go_roundg k2
       case measure=>have:=HK1.out;have:=HK2.out;omega
       case rel=>exact ⟨(x5_2),(wrap64 (x6_1+1)),Zs.auS,Zs.auS,H',⟨by have:=HK1.out;have:=HK2.out;omega⟩,⟨by (with_reducible repeat (first|refine BG ?_ _|refine Cb ?_|refine BF ?_ _));exact BK593.out⟩,⟨by repeat (first|(with_reducible first|exact HB.out|apply Al|apply As|apply Ax|refine AQ ?_ GE593.out)|exact HB.out)⟩⟩
   ·have c4b0:=decide_eq_false c4;clear c4;have HC11:=Aa.mk H;clear H
    go_upto_if 38 with (fail)
    go_cut [5] (fun v5 wc => ∃(kq:Nat) (x5_10:Int),v5 = .int .i64 x5_10∧Aa (AH.j2 kq l0 a1 x5_10=some (r1,r2))∧Aa (kq≤k1)∧Aa (wc.heap[gb593]? = some (.cells #[(.slice none 0 0),.int .i64 0] 105 (0,0)))∧Aa (Below w.heap.size w wc))
    case first =>
     have H:=HC11.out;clear HC11
     rcases Zq.ii H with ⟨c12,H⟩|⟨c12,H⟩
     ·have c12b0:=decide_eq_true c12;clear c12
      rw [c12b0]
      have H':=Aa.mk H;clear H;go_wp2
      go_meet
      case rel=>exact ⟨_,(wrap64 (-x5_1)),Zs.auS,H',⟨by have:=HK1.out;first|omega|exact Nat.le_refl _⟩,⟨by (with_reducible repeat (first|refine BG ?_ _|refine Cb ?_|refine BF ?_ _));exact BK593.out⟩,⟨by repeat (first|(with_reducible first|exact HB.out|apply Al|apply As|apply Ax|refine AQ ?_ GE593.out)|exact HB.out)⟩⟩
     ·have c12b0:=decide_eq_false c12;clear c12
      rw [c12b0]
      have H':=Aa.mk H;clear H;go_wp2
      go_meet
      case rel=>exact ⟨_,(x5_1),Zs.auS,H',⟨by have:=HK1.out;first|omega|exact Nat.le_refl _⟩,⟨by (with_reducible repeat (first|refine BG ?_ _|refine Cb ?_|refine BF ?_ _));exact BK593.out⟩,⟨by repeat (first|(with_reducible first|exact HB.out|apply Al|apply As|apply Ax|refine AQ ?_ GE593.out)|exact HB.out)⟩⟩
    case rest =>
     clear HC11
     obtain ⟨kq,x5_10,rfl,HA,HJ10,BK593,HB⟩:=hcut;cases kq with
     | zero=>exact absurd HA.out (by simp [AH.j2])
     | succ kj10 =>
      have H:=HA.out;clear HA;simp only [AH.j2] at H;obtain ⟨y598,hyy⟩ : ∃y_:List (List Int),y_=(([]:List (List Int))):=⟨_,rfl⟩
      replace H:(if x5_10=0 then (none) else (AH.l2 kj10 l0 x5_10 0 y598 (wrap64 (Int.tdiv a1 x5_10))))=some (r1,r2):=Zs.auY
      have Ny598:=Aa.mk hyy;clear hyy
      rcases Zq.ii H with ⟨c13,H⟩|⟨c13,H⟩
      ·exact absurd H (by simp)
      ·have H':=Aa.mk H;clear H
       go_wp2_with (first|((with_reducible refine Bg (N:=41) rfl ?_);refine Kd.S_lit (Kd.slice 3 (Kd.int .i64)) _ 27 ?hg (N:=41) ?hd (xs:=([]:List (List Int))) (inner:=[]) (ok:=fun _=>True) (okp:=fun _=>True) ?hr ?hp (fun _ hk=>hk) trivial (Below.refl _ _) (Nat.le_refl _) (by simp) ?_;(case hd=>rfl);(case hg=>rfl);(case hr=>first|(go_simp;done)|(go_simp;rfl));(case hp=>exact (Reps.none _ _));intro v599 w14 ho15 hb hg_ hnew_;clear hg_ hnew_;(first|rw [← Ny598.out] at ho15|(simp only [Int.reduceToNat] at ho15;rw [← Ny598.out] at ho15));have HO600:=Aa.mk (Kd.S_lower ho15 (Av (by repeat (first|(with_reducible first|exact HB.out|apply Al|apply As|apply Ax|refine AQ ?_ GE593.out)|exact HB.out))));replace BK593:=Aa.mk (Ft (g:=gb593) (o := .cells #[.slice none 0 0,.int .i64 0] 105 (0,0)) (by (with_reducible repeat (first|refine BG ?_ _|refine Cb ?_|refine BF ?_ _));exact BK593.out) hb);replace HB:=Aa.mk (Ch (by repeat (first|(with_reducible first|exact HB.out|apply Al|apply As|apply Ax|refine AQ ?_ GE593.out)|exact HB.out)) hb);clear hb ho15;obtain ⟨Ao16,co16,eo16⟩:=Kd.Lu HO600.out;subst eo16)|((with_reducible refine Bg (N:=8) rfl ?_);refine J0 ?hg (N:=8) ?hd (cs:=#[.slice none 0 0,.int .i64 0]) (t:=105) ?hr ?_;(case hd=>rfl);(case hg=>rfl);(case hr=>first|(go_simp;done)|(go_simp;rfl));intro gb601 hg w17 hbox hb;replace HO600:=Aa.mk (Kd.Ju (by (with_reducible repeat (first|apply Kd.Fe|apply Kd.E6|apply Kd.Gp));exact HO600.out) hb);have BK601:=Aa.mk (hbox);have GW601:=Aa.mk ((by rw [hg];exact (Av (by repeat (first|(with_reducible first|exact HB.out|apply Al|apply As|apply Ax|refine AQ ?_ GE593.out)|exact HB.out))):w.heap.size≤gb601));have GE601:=Aa.mk ((by rw [hg];exact (Av (by repeat (first|(with_reducible first|exact HB.out|apply Al|apply As|apply Ax|refine AQ ?_ GE593.out)|exact HB.out))):w.heap.size≤gb601));replace HB:=Aa.mk (Ch (by repeat (first|(with_reducible first|exact HB.out|apply Al|apply As|apply Ax|refine AQ ?_ GE593.out)|exact HB.out)) hb);have NB593_601:=Aa.mk ((by rw [hg];exact Nat.ne_of_lt (IC (g:=gb593) (o := .cells #[.slice none 0 0,.int .i64 0] 105 (0,0)) (by (with_reducible repeat (first|refine BG ?_ _|refine Cb ?_|refine BF ?_ _));exact BK593.out)):gb593≠gb601));have NB601_593:=Aa.mk ((by rw [hg];exact Nat.ne_of_gt (IC (g:=gb593) (o := .cells #[.slice none 0 0,.int .i64 0] 105 (0,0)) (by (with_reducible repeat (first|refine BG ?_ _|refine Cb ?_|refine BF ?_ _));exact BK593.out)):gb601≠gb593));replace BK593:=Aa.mk (Ft (g:=gb593) (o := .cells #[.slice none 0 0,.int .i64 0] 105 (0,0)) (by (with_reducible repeat (first|refine BG ?_ _|refine Cb ?_|refine BF ?_ _));exact BK593.out) hb);clear hb hbox hg;have hnb18:=NB601_593.out;have hnc18:=NB593_601.out;have hcz19_0:w17.cell? ⟨gb601,0,none⟩=some (.slice none 0 0):=(CK BK601.out 0).trans rfl;have hcz19_1:w17.cell? ⟨gb601,1,none⟩=some (.int .i64 0):=(CK BK601.out 1).trans rfl;have hfz19_0:=Dp BK601.out 0;have hfz19_1:=Dp BK601.out 1))
       go_loopg [9] kj10 (fun kq v9 w' => ∃(x9_3:Int) (x602000_3:List (List Int)) (u602000:Value),v9 = .int .i64 x9_3∧Aa (AH.l2 kq l0 x5_10 x9_3 x602000_3 (wrap64 (Int.tdiv a1 x5_10))=some (r1,r2))∧Aa (kq≤kj10)∧Aa (Kd.S (Kd.slice 3 (Kd.int .i64)) 27 w' w.heap.size (fun _=>True) u602000 x602000_3)∧Aa (w'.heap[gb593]? = some (.cells #[(.slice none 0 0),.int .i64 0] 105 (0,0)))∧Aa (w'.heap[gb601]? = some (.cells #[u602000,.int .i64 (wrap64 (Int.tdiv a1 x5_10))] 105 (0,0)))∧Aa (Below w.heap.size w w'))
       case atStart=>exact ⟨(0),(y598),(.slice Ao16 y598.length co16),Zs.auS,H',⟨Nat.le_refl _⟩,⟨by (with_reducible repeat (first|apply Kd.Fe|apply Kd.E6|apply Kd.Gp));exact Kd.GQ (Kd.NF (p:=⟨gb601,1,none⟩) (Kd.NF (p:=⟨gb601,0,none⟩) (Kd.KM HO600.out BK601.out (by decide)) (fun _ hk=>(by first|exact hk.2|exact trivial)) (.slice Ao16 y598.length co16)) (fun _ hk=>(by first|exact hk.2|exact trivial)) (.int .i64 (wrap64 (Int.tdiv a1 x5_10)))) (fun _ hk=>trivial)⟩,⟨by (with_reducible repeat (first|refine BG ?_ _|refine Cb ?_|refine BF ?_ _));refine KJ ?_ NB593_601.out _;(with_reducible repeat (first|refine BG ?_ _|refine Cb ?_|refine BF ?_ _));refine KJ ?_ NB593_601.out _;(with_reducible repeat (first|refine BG ?_ _|refine Cb ?_|refine BF ?_ _));exact BK593.out⟩,⟨by (with_reducible repeat (first|refine BG ?_ _|refine Cb ?_|refine BF ?_ _));refine G7 (cs:=#[.slice Ao16 y598.length co16,.int .i64 0]) ?_ 1 _ rfl;(with_reducible repeat (first|refine BG ?_ _|refine Cb ?_|refine BF ?_ _));refine G7 (cs:=#[.slice none 0 0,.int .i64 0]) ?_ 0 _ rfl;(with_reducible repeat (first|refine BG ?_ _|refine Cb ?_|refine BF ?_ _));exact BK601.out⟩,⟨by repeat (first|(with_reducible first|exact HB.out|apply Al|apply As|apply Ax|refine AQ ?_ GE593.out|refine AQ ?_ GE601.out)|exact HB.out)⟩⟩
       case round =>
        clear H'
        obtain ⟨x9_3,x602000_3,u602000,rfl,HA,HK3,HO_602000,BK593,BK601,HB⟩:=hrel;cases gk with
        | zero=>exact absurd HA.out (by simp [AH.l2])
        | succ k3 =>
         have H:=HA.out;clear HA;simp only [AH.l2] at H
         rcases Zq.ii H with ⟨c20,H⟩|⟨c20,H⟩
         ·have c20b0:=decide_eq_true c20;clear c20;obtain ⟨y602,hyy⟩ : ∃y_:List Int,y_=(([]:List Int)):=⟨_,rfl⟩
          replace H:(AH.l3 k3 l0 x5_10 x9_3 y602 0 x602000_3 (wrap64 (Int.tdiv a1 x5_10)))=some (r1,r2):=Zs.auY
          have Ny602:=Aa.mk hyy;clear hyy;have H':=Aa.mk H;clear H
          go_wp2_with (((with_reducible refine Bg (N:=52) rfl ?_);refine Zq.li ([]:List Int) ?_;intro v603 w21 ho22 hb;(first|rw [← Ny602.out] at ho22|(simp only [Int.reduceToNat] at ho22;rw [← Ny602.out] at ho22));replace HO_602000:=Aa.mk (Kd.S_elder' (by (with_reducible repeat (first|apply Kd.Fe|apply Kd.E6|apply Kd.Gp));exact HO_602000.out) (Kd.NM ho22) hb);have HO604:=Aa.mk (Kd.Bp ho22 (Av (by repeat (first|(with_reducible first|exact HB.out|apply Al|apply As|apply Ax|refine AQ ?_ GE593.out|refine AQ ?_ GE601.out)|exact HB.out))));replace BK593:=Aa.mk (Ft (g:=gb593) (o := .cells #[.slice none 0 0,.int .i64 0] 105 (0,0)) (by (with_reducible repeat (first|refine BG ?_ _|refine Cb ?_|refine BF ?_ _));exact BK593.out) hb);replace BK601:=Aa.mk (Ft (g:=gb601) (o := .cells #[u602000,.int .i64 (wrap64 (Int.tdiv a1 x5_10))] 105 (0,0)) (by (with_reducible repeat (first|refine BG ?_ _|refine Cb ?_|refine BF ?_ _));exact BK601.out) hb);replace HB:=Aa.mk (Ch (by repeat (first|(with_reducible first|exact HB.out|apply Al|apply As|apply Ax|refine AQ ?_ GE593.out|refine AQ ?_ GE601.out)|exact HB.out)) hb);clear hb ho22))
          go_loopg [10,11] k3 (fun kq v10 v11 w' => ∃(x10_4:List Int) (x11_4:Int),v11 = .int .i64 x11_4∧Aa (AH.l3 kq l0 x5_10 x9_3 x10_4 x11_4 x602000_3 (wrap64 (Int.tdiv a1 x5_10))=some (r1,r2))∧Aa (kq≤k3)∧Aa (Kd.R (Kd.int .i64) 3 w' w.heap.size (fun _=>True) v10 x10_4)∧Aa (Kd.S (Kd.slice 3 (Kd.int .i64)) 27 w' w.heap.size (fun k_=>some k_≠(v10:Value).ownBlock) u602000 x602000_3)∧Aa (w'.heap[gb593]? = some (.cells #[(.slice none 0 0),.int .i64 0] 105 (0,0)))∧Aa (w'.heap[gb601]? = some (.cells #[u602000,.int .i64 (wrap64 (Int.tdiv a1 x5_10))] 105 (0,0)))∧Aa (Below w.heap.size w w'))
          case atStart=>exact ⟨(y602),(0),Zs.auS,H',⟨Nat.le_refl _⟩,⟨(Zs.mvR HO604.out)⟩,⟨by (with_reducible repeat (first|apply Kd.Fe|apply Kd.E6|apply Kd.Gp));exact Kd.GQ HO_602000.out (fun _ hk=>(by first|exact hk.2|exact trivial))⟩,⟨by (with_reducible repeat (first|refine BG ?_ _|refine Cb ?_|refine BF ?_ _));exact BK593.out⟩,⟨by (with_reducible repeat (first|refine BG ?_ _|refine Cb ?_|refine BF ?_ _));exact BK601.out⟩,⟨by repeat (first|(with_reducible first|exact HB.out|apply Al|apply As|apply Ax|refine AQ ?_ GE593.out|refine AQ ?_ GE601.out)|exact HB.out)⟩⟩
          case round =>
           clear H'
           obtain ⟨x10_4,x11_4,rfl,HA,HK4,HO_10,HO_602000,BK593,BK601,HB⟩:=hrel;cases gk with
           | zero=>exact absurd HA.out (by simp [AH.l3])
           | succ k4 =>
            have H:=HA.out;clear HA;simp only [AH.l3] at H
            obtain ⟨c23,H⟩:=Zq.ip H;have c23b0:=decide_eq_true c23;clear c23
            obtain ⟨c24,H⟩:=Zq.ip H;have c24b0:=decide_eq_true c24;clear c24
            rcases Zq.ii H with ⟨c25,H⟩|⟨c25,H⟩
            ·have c25b0:=decide_eq_true c25;clear c25
             obtain ⟨c26,H⟩:=Zq.ip H;have c26b0:=decide_eq_true c26;clear c26
             by_cases c27:x5_10=0
             ·rw [if_pos c27] at H;exact absurd H (by simp)
             ·rw [if_neg c27] at H
              obtain ⟨c28,H⟩:=Zq.ip H;have LMc28:=Aa.mk c28;clear c28;(try rw [Option.bind_some] at H);generalize hyy:(x10_4++[wrap64 (Int.tdiv (rd (Gs l0 x9_3) x11_4) x5_10)]:List Int)=y608 at H;have Ny608:=Aa.mk hyy.symm;clear hyy;have H':=Aa.mk H;clear H;have p605:0≤(x9_3:Int):=Zs.od;have q605:x9_3<(l0.length:Int):=Zs.od;obtain ⟨ad605,A605_0,c605_0,e605,hx605_0,hl605_0,hi605_0⟩:=Mv HR0.out x9_3 p605 q605;cases e605;replace hx605_0:=Zq.ce HB.out hx605_0;have HR605_0:=Aa.mk hi605_0;have HC605_0:=Aa.mk hl605_0;clear hi605_0 hl605_0;replace p605:=eq_true p605;replace q605:=eq_true q605;have p606:0≤(x9_3:Int):=Zs.od;have q606:x9_3<(l0.length:Int):=Zs.od;obtain ⟨ad606,A606_0,c606_0,e606,hx606_0,hl606_0,hi606_0⟩:=Mv HR0.out x9_3 p606 q606;obtain rfl:ad605=ad606:=(by injection e606);replace hx606_0:=Zq.ce HB.out hx606_0;have HR606_0:=Aa.mk hi606_0;have HC606_0:=Aa.mk hl606_0;clear hi606_0 hl606_0;replace p606:=eq_true p606;replace q606:=eq_true q606;have ea_:=Option.some.inj (hx605_0.symm.trans hx606_0);injection ea_ with ea_ en_ ec_
              subst ea_;subst ec_;clear en_;obtain ⟨ad607,e607,hx607_0,p607,q607⟩:=Zq.at_ HR606_0.out x11_4;cases e607;replace hx607_0:=Zq.ce HB.out hx607_0
              go_wp2_with (((with_reducible refine AW (b := .append) (xs:=#[.tmp 62,.tmp 72]) rfl ?_);at_builtin;refine Kd.Ei (Kd.int .i64) (w0:=w) w.heap.size rfl (.tmp 62) (.tmp 72) 27 3 (.int .i64 0) 8 rfl Tryz.underlying27 DQ rfl (by decide) (by omega) u10 x10_4 (wrap64 (Int.tdiv (rd (Gs l0 x9_3) x11_4) x5_10)) [.int .i64 (wrap64 (Int.tdiv (rd (Gs l0 x9_3) x11_4) x5_10))] (fun _=>True) (fun _=>False) rfl rfl ?aP (fun _ hk=>hk.elim) ?aF ?aO ?aB ?aS ?aL ?_;(case aP=>exact rfl);(case aB=>exact (by repeat (first|(with_reducible first|exact HB.out|apply Al|apply As|apply Ax|refine AQ ?_ GE593.out|refine AQ ?_ GE601.out)|exact HB.out)));(case aF=>exact (fun _ _=>trivial));(case aO=>exact ((Zs.mvR HO_10.out)));(case aS=>exact (Av (by repeat (first|(with_reducible first|exact HB.out|apply Al|apply As|apply Ax|refine AQ ?_ GE593.out|refine AQ ?_ GE601.out)|exact HB.out))));(case aL=>have:=LMc28.out;omega);intro v609 w29 ho hb hg hat;rw [← Ny608.out] at ho;replace HO_602000:=Aa.mk (Kd.S_after (ok:=(fun _=>True)) (by (with_reducible repeat (first|apply Kd.Fe|apply Kd.E6|apply Kd.Gp));exact Kd.GQ HO_602000.out (fun _ hk=>⟨trivial,hk⟩)) hg hat);replace BK593:=Aa.mk (Gh (g:=gb593) (o := .cells #[.slice none 0 0,.int .i64 0] 105 (0,0)) (by (with_reducible repeat (first|refine BG ?_ _|refine Cb ?_|refine BF ?_ _));exact BK593.out) hg (Kd.R_ne HO_10.out BK593.out (by decide)));replace BK601:=Aa.mk (Gh (g:=gb601) (o := .cells #[u602000,.int .i64 (wrap64 (Int.tdiv a1 x5_10))] 105 (0,0)) (by (with_reducible repeat (first|refine BG ?_ _|refine Cb ?_|refine BF ?_ _));exact BK601.out) hg (Kd.R_ne HO_10.out BK601.out (by decide)));replace HB:=Aa.mk (hb);have HO610:=Aa.mk (ho);clear HO_10;clear ho hb hg hat))
              go_roundg k4
              case measure=>have:=HK1.out;have:=HJ10.out;have:=HK3.out;have:=HK4.out;omega
              case rel=>exact ⟨(y608),(wrap64 (x11_4+1)),Zs.auS,H',⟨by have:=HK1.out;have:=HJ10.out;have:=HK3.out;have:=HK4.out;omega⟩,⟨(Zs.mvR HO610.out)⟩,⟨by (with_reducible repeat (first|apply Kd.Fe|apply Kd.E6|apply Kd.Gp));exact Kd.GQ HO_602000.out (fun _ hk=>(by first|exact hk.2|exact trivial))⟩,⟨by (with_reducible repeat (first|refine BG ?_ _|refine Cb ?_|refine BF ?_ _));exact BK593.out⟩,⟨by (with_reducible repeat (first|refine BG ?_ _|refine Cb ?_|refine BF ?_ _));exact BK601.out⟩,⟨by repeat (first|(with_reducible first|exact HB.out|apply Al|apply As|apply Ax|refine AQ ?_ GE593.out|refine AQ ?_ GE601.out)|exact HB.out)⟩⟩
            ·have c25b0:=decide_eq_false c25;clear c25
             obtain ⟨c30,H⟩:=Zq.ip H;have LMc30:=Aa.mk c30;clear c30;(try rw [Option.bind_some] at H);generalize hyy:(x602000_3++[x10_4]:List (List Int))=y611 at H;have Ny611:=Aa.mk hyy.symm;clear hyy;have H':=Aa.mk H;clear H;have p605:0≤(x9_3:Int):=Zs.od;have q605:x9_3<(l0.length:Int):=Zs.od;obtain ⟨ad605,A605_0,c605_0,e605,hx605_0,hl605_0,hi605_0⟩:=Mv HR0.out x9_3 p605 q605;cases e605;replace hx605_0:=Zq.ce HB.out hx605_0;have HR605_0:=Aa.mk hi605_0;have HC605_0:=Aa.mk hl605_0;clear hi605_0 hl605_0;replace p605:=eq_true p605;replace q605:=eq_true q605;have hnb31:=NB601_593.out;have hnc31:=NB593_601.out;have hcz32_0:wr.cell? ⟨gb601,0,none⟩=some (u602000):=(CK BK601.out 0).trans rfl;have hcz32_1:wr.cell? ⟨gb601,1,none⟩=some (.int .i64 (wrap64 (Int.tdiv a1 x5_10))):=(CK BK601.out 1).trans rfl;have hfz32_0:=Dp BK601.out 0;have hfz32_1:=Dp BK601.out 1;obtain ⟨Ao34,co34,eo34⟩:=Kd.AD HO_10.out;subst eo34
             go_wp2_with (((with_reducible refine AW (b := .append) (xs:=#[.tmp 75,.tmp 77]) rfl ?_);at_builtin;refine Kd.S_append (Kd.slice 3 (Kd.int .i64)) (w0:=w) w.heap.size rfl (.tmp 75) (.tmp 77) 103 27 (.slice none 0 0) 24 rfl Tryz.underlying103 info27 rfl (by decide) (by omega) u602000 x602000_3 x10_4 [.slice Ao34 x10_4.length co34] (fun _=>True) (fun k_=>some k_=(.slice Ao34 x10_4.length co34:Value).ownBlock) rfl rfl ?aP (fun k_ hk_=>((Kd.AJ (ok':=fun k_=>((fun _=>True)) k_∧some k_≠(u602000:Value).ownBlock) (Kd.Gn (HO_10.out) (Kd.ML HO_602000.out) (by decide)) (fun k_ hk=>⟨trivial,hk.2⟩))).1 k_ hk_.symm) ?aF ?aO ?aB ?aS ?aL ?_;(case aP=>exact Kd.M_row (Kd.AJ (Kd.Jt rfl (Kd.AJ (ok':=fun k_=>((fun _=>True)) k_∧some k_≠(u602000:Value).ownBlock) (Kd.Gn (HO_10.out) (Kd.ML HO_602000.out) (by decide)) (fun k_ hk=>⟨trivial,hk.2⟩))) (fun _ h_=>h_)));(case aB=>exact (by repeat (first|(with_reducible first|exact HB.out|apply Al|apply As|apply Ax|refine AQ ?_ GE593.out|refine AQ ?_ GE601.out)|exact HB.out)));(case aF=>exact (fun _ _=>trivial));(case aO=>exact (by (with_reducible repeat (first|apply Kd.Fe|apply Kd.E6|apply Kd.Gp));exact Kd.GQ HO_602000.out (fun k_ hk=>⟨trivial,fun e_=>hk e_⟩)));(case aS=>exact (Av (by repeat (first|(with_reducible first|exact HB.out|apply Al|apply As|apply Ax|refine AQ ?_ GE593.out|refine AQ ?_ GE601.out)|exact HB.out))));(case aL=>have:=LMc30.out;omega);intro v612 w33 ho hb hg hat;rw [← Ny611.out] at ho;replace BK593:=Aa.mk (Gh (g:=gb593) (o := .cells #[.slice none 0 0,.int .i64 0] 105 (0,0)) (by (with_reducible repeat (first|refine BG ?_ _|refine Cb ?_|refine BF ?_ _));exact BK593.out) hg (Kd.S_ne HO_602000.out BK593.out (by decide)));replace BK601:=Aa.mk (Gh (g:=gb601) (o := .cells #[u602000,.int .i64 (wrap64 (Int.tdiv a1 x5_10))] 105 (0,0)) (by (with_reducible repeat (first|refine BG ?_ _|refine Cb ?_|refine BF ?_ _));exact BK601.out) hg (Kd.S_ne HO_602000.out BK601.out (by decide)));replace HB:=Aa.mk (hb);have HO613:=Aa.mk (ho);clear HO_602000 HO_10;clear ho hb hg hat;obtain ⟨Ao35,co35,eo35⟩:=Kd.Lu HO613.out;subst eo35;have hcz36_0:w33.cell? ⟨gb601,0,none⟩=some (u602000):=(CK BK601.out 0).trans rfl;have hcz36_1:w33.cell? ⟨gb601,1,none⟩=some (.int .i64 (wrap64 (Int.tdiv a1 x5_10))):=(CK BK601.out 1).trans rfl;have hfz36_0:=Dp BK601.out 0;have hfz36_1:=Dp BK601.out 1))
             go_roundg k4
             case measure=>have:=HK1.out;have:=HJ10.out;have:=HK3.out;have:=HK4.out;omega
             case rel=>exact ⟨(wrap64 (x9_3+1)),(y611),(.slice Ao35 y611.length co35),Zs.auS,H',⟨by have:=HK1.out;have:=HJ10.out;have:=HK3.out;have:=HK4.out;omega⟩,⟨by (with_reducible repeat (first|apply Kd.Fe|apply Kd.E6|apply Kd.Gp));exact Kd.GQ (Kd.NF (p:=⟨gb601,0,none⟩) (Kd.KM HO613.out BK601.out (by decide)) (fun _ hk=>(by first|exact hk.2|exact trivial)) (.slice Ao35 y611.length co35)) (fun _ hk=>trivial)⟩,⟨by (with_reducible repeat (first|refine BG ?_ _|refine Cb ?_|refine BF ?_ _));refine KJ ?_ NB593_601.out _;(with_reducible repeat (first|refine BG ?_ _|refine Cb ?_|refine BF ?_ _));exact BK593.out⟩,⟨by (with_reducible repeat (first|refine BG ?_ _|refine Cb ?_|refine BF ?_ _));refine G7 (cs:=#[u602000,.int .i64 (wrap64 (Int.tdiv a1 x5_10))]) ?_ 0 _ rfl;(with_reducible repeat (first|refine BG ?_ _|refine Cb ?_|refine BF ?_ _));exact BK601.out⟩,⟨by repeat (first|(with_reducible first|exact HB.out|apply Al|apply As|apply Ax|refine AQ ?_ GE593.out|refine AQ ?_ GE601.out)|exact HB.out)⟩⟩
         ·have c20b0:=decide_eq_false c20;clear c20;simp only [Option.some.injEq,Prod.mk.injEq] at H;obtain ⟨rfl,rfl⟩:=H;have hnb37:=NB601_593.out;have hnc37:=NB593_601.out;have hcz38_0:wr.cell? ⟨gb601,0,none⟩=some (u602000):=(CK BK601.out 0).trans rfl;have hcz38_1:wr.cell? ⟨gb601,1,none⟩=some (.int .i64 (wrap64 (Int.tdiv a1 x5_10))):=(CK BK601.out 1).trans rfl;have hfz38_0:=Dp BK601.out 0;have hfz38_1:=Dp BK601.out 1;obtain ⟨Ao39,co39,eo39⟩:=Kd.Lu HO_602000.out;subst eo39;have hcz40_0:wr.cell? ⟨gb593,0,none⟩=some (.slice none 0 0):=(CK BK593.out 0).trans rfl;have hcz40_1:wr.cell? ⟨gb593,1,none⟩=some (.int .i64 0):=(CK BK593.out 1).trans rfl;have hfz40_0:=Dp BK593.out 0;have hfz40_1:=Dp BK593.out 1;go_wp2;refine bodyPost_ret (results_cell_row rfl _ _ gb593 105 #[.slice Ao39 x602000_3.length co39,.int .i64 (wrap64 (Int.tdiv a1 x5_10))] (0,0) _ rfl (by (with_reducible repeat (first|refine BG ?_ _|refine Cb ?_|refine BF ?_ _));refine G7 (cs:=#[.slice Ao39 x602000_3.length co39,.int .i64 0]) ?_ 1 _ rfl;(with_reducible repeat (first|refine BG ?_ _|refine Cb ?_|refine BF ?_ _));refine G7 (cs:=#[.slice none 0 0,.int .i64 0]) ?_ 0 _ rfl;(with_reducible repeat (first|refine BG ?_ _|refine Cb ?_|refine BF ?_ _));exact BK593.out) Tryz.underlying105 rfl (by kernel_rfl)) rfl ?_;exact ⟨_,Zs.auR,by (with_reducible repeat (first|apply Kd.Fe|apply Kd.E6|apply Kd.Gp));exact Kd.GQ (Kd.NF (p:=⟨gb593,1,none⟩) (Kd.NF (p:=⟨gb593,0,none⟩) (Kd.KM HO_602000.out BK593.out (by decide)) (fun _ hk=>(by first|exact hk.2|exact trivial)) (.slice Ao39 x602000_3.length co39)) (fun _ hk=>(by first|exact hk.2|exact trivial)) (.int .i64 (wrap64 (Int.tdiv a1 x5_10)))) (fun _ hk=>trivial),by repeat (first|(with_reducible first|exact HB.out|apply Al|apply As|apply Ax|refine AQ ?_ GE593.out|refine AQ ?_ GE601.out)|exact HB.out)⟩
section
open Locg
def C7.f (k:Nat) (l0:List Int) (a1:Int):Option (List Int×Int):=(AH.f k [l0] a1).bind fun t=>if 0<t.1.length then some (t.1.getD 0 [],t.2) else none
set_option maxHeartbeats 4000000 in
theorem C7.calls (k:Nat) (A0:Option Addr) (c0:Nat) (l0:List Int) (a1:Int) (r1:List Int) (r2:Int) (w:World) (hr0:Kd.C (Kd.int .i64) w A0 l0.length l0) (hc0:l0.length≤c0) (h:C7.f k l0 a1=some (r1,r2)) :
  Calls Tryz.prog 92 #[.slice A0 l0.length c0,.int .i64 a1] w fun e w' => ∃v0_:Value,e = .returned (.tuple #[v0_,.int .i64 r2])∧Kd.R (Kd.int .i64) 3 w' w.heap.size (fun _=>True) v0_ r1∧Below w.heap.size w w':=by
 obtain ⟨⟨t1,t2⟩,h1,h2⟩:=Option.bind_eq_some_iff.mp h
 by_cases hp:0<t1.length
 ·rw [if_pos hp] at h2;simp only [Option.some.injEq,Prod.mk.injEq] at h2;obtain ⟨rfl,rfl⟩:=h2;have HH:=Aa.mk h1;have HR0:=Aa.mk hr0;clear h h1
  go_enter Tryz.func92,Tryz.ntmps92
  go_wp2_with fail
  refine (AH.calls k (some ⟨w.heap.size,0,none⟩) 1 [l0] a1 t1 t2 _ ?s1 (by simp) HH.out).mono ?_
  case s1 =>
   refine ⟨rfl,by simp,fun _=>⟨_,rfl,fun j p hj=>⟨[.slice A0 l0.length c0],rfl,?_,fun i u hu=>?_⟩⟩⟩
   ·match j,hj with
    | 0,hj=>simp at hj;subst hj;exact ⟨A0,c0,rfl,hc0,Kd.F4 hr0 _⟩
   ·match j,hj,i,hu with
    | 0,hj,0,hu=>simp at hu;subst hu;exact CK (heap_alloc_new w _) 0
  rintro e w1 ⟨v,rfl,hS,hb⟩
  dsimp only
  have hR:=Kd.S_R hS;obtain ⟨Ao,co,rfl⟩:=Kd.AD hR;have hlen:=(Kd.Ac hR).1;obtain ⟨g,cap,hsl,hg1,hg2,cells,hcells⟩:=Kd.Fj hR hp;cases hsl;obtain ⟨c,hcl,hM,hcc⟩:=Kd.R_getA hR [] 0 (by omega) (by omega);obtain ⟨v2,rfl,hR2⟩:=hM;have hc0':w1.cell? ⟨g,0,none⟩=some v2:=hcc 0 v2 rfl;have HR2:=Aa.mk hR2;have HB1:=Aa.mk (IA (Al (Below.refl _ _) _) (by simp) hb:Below w.heap.size w w1);clear hS hR hcc hR2 hb
  go_wp2_with fail
  have z0:=CK (heap_alloc_new w1 (.cells #[.slice (some ⟨g,0,none⟩) t1.length co,.int .i64 t2] 105 (0,0))) 0;have z1:=CK (heap_alloc_new w1 (.cells #[.slice (some ⟨g,0,none⟩) t1.length co,.int .i64 t2] 105 (0,0))) 1;have zg:(w1.alloc (.cells #[.slice (some ⟨g,0,none⟩) t1.length co,.int .i64 t2] 105 (0,0))).cell? ⟨g,0,none⟩=some v2:=((Al (Below.refl w1.heap.size w1) _).cell hg2).trans hc0'
  go_quiet (fail)
  go_wp2;go_ret2
  refine ⟨v2,rfl,?_,?_⟩
  ·have h1:=Kd.Fv (Kd.FZ HR2.out (.cells #[.slice (some ⟨g,0,none⟩) t1.length co,.int .i64 t2] 105 (0,0))) nq;exact Kd.AJ (Kd.Bp h1 (by simp)) (fun _ _=>trivial)
  ·exact As (Al HB1.out _) nq
 ·rw [if_neg hp] at h2;cases h2
end
end Go.Proofs.YtacfcoilmdhgnaaGreatDoor.PFnExactExecute
