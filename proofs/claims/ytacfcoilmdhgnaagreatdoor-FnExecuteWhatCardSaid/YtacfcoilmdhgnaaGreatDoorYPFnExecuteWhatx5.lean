/- A function's Lean twin and its walk, written by a program of this session. -/
import Derived.Test.YtacfcoilmdhgnaaGreatDoorYPFnExecuteWhatx4
set_option maxHeartbeats 8000000
set_option maxRecDepth 100000
namespace Go.Proofs.YtacfcoilmdhgnaaGreatDoor.PFnExecuteWhat
open Go.RowKit Go.Proofs.YtacfcoilmdhgnaaGreatDoorW.PrintWords Go.Proofs.YtacfcoilmdhgnaaGreatDoorW.PrintLast Go.Proofs.YtacfcoilmdhgnaaGreatDoorW.PrintMore
attribute [local go_sem] DN DO El En Du Dt DP DK   -- for this text's walks alone
set_option linter.unusedVariables false
set_option linter.unusedSimpArgs false
section
open Locg
def AN.l0:Nat→List Int→List Int→Int→Int→Option (List Int×Bool)
 | 0,_,_,_,_=>none
 | k+1,x9,x11,x59,x60=>if x60<x59 then if 0≤x60 then if x60<(x11.length:Int) then if x60<(x9.length:Int) then AN.l0 k x9 (x11.set (x60:Int).toNat (wrap64 ((rd x11 x60)*(rd x9 x60)))) x59 (wrap64 (x60+1)) else none else none else none else (Bf.f k x11).bind fun t3=>(some (t3,true))
def AN.f (z4:Nat→List Int→Option (List Int×Bool)) (k:Nat) (l0:List Int):Option (List Int×Bool):=(Am.f k l0).bind fun t3=>(if t3=true then if (l0.length:Int)=2 then if 0<(l0.length:Int) then (AW.f k (rd l0 0)).bind fun bt5=>(if 1<(l0.length:Int) then (AW.f k (rd l0 1)).bind fun bt6=>(if bt5.1=(wrap64 (-bt6.1)) then (Bf.f k (([bt6.2,bt5.2]:List Int))).bind fun t7=>(some (t7,true)) else some (([]:List Int),false)) else none) else none else if (l0.length:Int)=3 then (Aw.f k l0).bind fun bt8=>((Ae.f k bt8.1).bind fun bt9=>(if bt9.2=true then AN.l0 k bt8.2.1 bt9.1 (bt9.1.length:Int) 0 else some (([]:List Int),false))) else if (l0.length:Int)=4 then (z4 k l0).bind fun bt10=>(some (bt10.1,bt10.2)) else some (([]:List Int),false) else some (([]:List Int),false))
def AN.T17:Bool×List (List Nat×List Nat):=(true,[([],[]),([],[]),([0,1],[0,1]),([2],[2]),([],[]),([],[]),([4,5],[4,5]),([6],[6]),([3,7],[3,7]),([0,1,0,1,2,3,4,5,6,7,8],[0,1]),([9,8,0,1,2,3,4,5,6,7,8],[8,9])])
def AN.B17:List Nat:=[0,0,3,7,0,0,48,112,255,511,1023]
theorem AN.tab17:rtab .any (opsOf Tryz.f37 17)=AN.T17:=by kernel_rfl
theorem AN.bits17:DJ AN.T17.2 AN.B17=true:=by kernel_rfl
theorem AN.calls (z4:Nat→List Int→Option (List Int×Bool)) (hz : ∀(k:Nat) (A0:Option Addr) (c0:Nat) (l0 r1:List Int) (r2:Bool) (w:World) (hr0:Kd.C (Kd.int .i64) w A0 l0.length l0) (hc0:l0.length≤c0) (_h:z4 k l0=some (r1,r2)),Calls Tryz.prog 80 #[.slice A0 l0.length c0] w fun e w' => ∃v0_:Value,e = .returned (.tuple #[v0_,.bool r2])∧Kd.R (Kd.int .i64) 3 w' w.heap.size (fun _=>True) v0_ r1∧Below w.heap.size w w') (k:Nat) (A0:Option Addr) (c0:Nat) (l0 r1:List Int) (r2:Bool) (w:World) (hr0:Kd.C (Kd.int .i64) w A0 l0.length l0) (hc0:l0.length≤c0) (h:AN.f z4 k l0=some (r1,r2)) :
  Calls Tryz.prog 37 #[.slice A0 l0.length c0] w fun e w' => ∃v0_:Value,e = .returned (.tuple #[v0_,.bool r2])∧Kd.R (Kd.int .i64) 3 w' w.heap.size (fun _=>True) v0_ r1∧Below w.heap.size w w':=by
 have HR0:=Aa.mk hr0;have HC0:=Aa.mk hc0;clear hr0 hc0;have HB:=Aa.mk (Below.refl w.heap.size w);unfold AN.f at h;have H:=h;clear h;obtain ⟨t50,A2,H⟩:=Zs.be H
 cases t50
 ·replace H:=Zq.fh H;obtain ⟨rfl,rfl⟩:=Zq.pi H
  go_enter Tryz.func37,Tryz.ntmps37
  go_wp2_with (((with_reducible refine Ab (f:=59) rfl ?_);refine Zq.gb Tryz.func59 (Am.calls _ _ _ _ _ _ (Zs.mvC (HR0.out)) HC0.out A2.out) ?_;intro w49 hb;replace HB:=Zq.st hb;(try clear hb)))
  go_ret2
  exact ⟨_,Zs.auR,Zq.nl,Zs.auHB⟩
 ·replace H:=Zq.th H
  rcases Zq.jn H with ⟨c4b0,H⟩|⟨c4,c4b0,H⟩
  ·obtain ⟨c5b0,H⟩:=Zq.pd H;obtain ⟨t52,t53,A6,H⟩:=Zq.bp H;try dsimp only at H
   obtain ⟨c7b0,H⟩:=Zq.pd H;obtain ⟨t55,t56,A8,H⟩:=Zq.bp H;try dsimp only at H
   rcases Zq.jn H with ⟨c9b0,H⟩|⟨c9,c9b0,H⟩
   ·generalize hyy:([t56,t53]:List Int)=y57 at H;have Ny57:=Aa.mk hyy.symm;clear hyy;obtain ⟨t63,A10,H⟩:=Zs.be H;obtain ⟨rfl,rfl⟩:=Zq.pi H
    go_enter Tryz.func37,Tryz.ntmps37
    go_wp2_with (first|((with_reducible refine Ab (f:=59) rfl ?_);refine Zq.gb Tryz.func59 (Am.calls _ _ _ _ _ _ (Zs.mvC (HR0.out)) HC0.out A2.out) ?_;intro w11 hb;replace HB:=Zq.st hb;(try clear hb);obtain ⟨ad51,e51,hx51_0,p51,q51,qi51⟩:=Zq.a0 HR0.out;cases e51;replace hx51_0:=Zq.ce HB.out hx51_0)|((with_reducible refine Ab (f:=61) rfl ?_);refine Zq.gc (some 25) Tryz.func61 (AW.calls _ _ _ _ _ A6.out) ?_;rintro e w12 ⟨rfl,hb⟩;refine ⟨_,rfl,?_⟩;replace HB:=Zq.st hb;(try clear hb);obtain ⟨ad54,e54,hx54_0,p54,q54⟩:=Zq.an HR0.out 1 1;obtain rfl:ad51=ad54:=(by injection e54);replace hx54_0:=Zq.ce HB.out hx54_0)|((with_reducible refine Ab (f:=61) rfl ?_);refine Zq.gc (some 32) Tryz.func61 (AW.calls _ _ _ _ _ A8.out) ?_;rintro e w13 ⟨rfl,hb⟩;refine ⟨_,rfl,?_⟩;replace HB:=Zq.st hb;(try clear hb))|((with_reducible refine Bb (N:=41) rfl ?_);refine Zq.li ([t56,t53]:List Int) ?_;intro v58 w14 ho15 hb;(first|rw [← Ny57.out] at ho15|(simp only [Int.reduceToNat] at ho15;rw [← Ny57.out] at ho15));have HO62:=Zq.lw ho15;replace HB:=Zq.st hb;clear hb ho15;obtain ⟨Ao16,co16,eo16⟩:=Kd.Az HO62.out;subst eo16)|((with_reducible refine Ab (f:=77) rfl ?_);refine Zq.gc (some 42) Tryz.func77 (Bf.calls _ _ _ _ _ _ (Zs.mvC ((Kd.Ac HO62.out).2.2)) ((Kd.Ac HO62.out).2.1) A10.out) ?_;rintro e w17 ⟨v65,rfl,ho0,hb⟩;refine ⟨_,rfl,?_⟩;have HO66:=Aa.mk (Kd.Bp (Kd.Br ho0 (Zq.lt HO62.out)) (Ay (Zs.auHB)));replace HO62:=Zq.el HO62.out ho0 hb;replace HB:=Zq.st hb;(try clear hb);(try clear ho0)))
    go_ret2
    exact ⟨_,Zs.auR,(Zs.mvR (Kd.AB HO66.out (fun _ hk=>trivial))),Zs.auHB⟩
   ·obtain ⟨rfl,rfl⟩:=Zq.pi H
    go_enter Tryz.func37,Tryz.ntmps37
    go_wp2_with (first|((with_reducible refine Ab (f:=59) rfl ?_);refine Zq.gb Tryz.func59 (Am.calls _ _ _ _ _ _ (Zs.mvC (HR0.out)) HC0.out A2.out) ?_;intro w18 hb;replace HB:=Zq.st hb;(try clear hb);obtain ⟨ad51,e51,hx51_0,p51,q51,qi51⟩:=Zq.a0 HR0.out;cases e51;replace hx51_0:=Zq.ce HB.out hx51_0)|((with_reducible refine Ab (f:=61) rfl ?_);refine Zq.gc (some 25) Tryz.func61 (AW.calls _ _ _ _ _ A6.out) ?_;rintro e w19 ⟨rfl,hb⟩;refine ⟨_,rfl,?_⟩;replace HB:=Zq.st hb;(try clear hb);obtain ⟨ad54,e54,hx54_0,p54,q54⟩:=Zq.an HR0.out 1 1;obtain rfl:ad51=ad54:=(by injection e54);replace hx54_0:=Zq.ce HB.out hx54_0)|((with_reducible refine Ab (f:=61) rfl ?_);refine Zq.gc (some 32) Tryz.func61 (AW.calls _ _ _ _ _ A8.out) ?_;rintro e w20 ⟨rfl,hb⟩;refine ⟨_,rfl,?_⟩;replace HB:=Zq.st hb;(try clear hb)))
    go_ret2
    exact ⟨_,Zs.auR,Zq.nl,Zs.auHB⟩
  ·rcases Zq.jn H with ⟨c21b0,H⟩|⟨c21,c21b0,H⟩
   ·replace H:=Option.bind_eq_some_iff.mp H;obtain ⟨⟨t67,t68,t69⟩,A24,H⟩:=H;try dsimp only at H;have A22:=Aa.mk A24;clear A24;obtain ⟨t74,t75,A23,H⟩:=Zq.bp H;try dsimp only at H
    cases t75
    ·replace H:=Zq.fh H;obtain ⟨rfl,rfl⟩:=Zq.pi H
     go_enter Tryz.func37,Tryz.ntmps37
     go_wp2_with (first|((with_reducible refine Ab (f:=59) rfl ?_);refine Zq.gb Tryz.func59 (Am.calls _ _ _ _ _ _ (Zs.mvC (HR0.out)) HC0.out A2.out) ?_;intro w40 hb;replace HB:=Zq.st hb;(try clear hb))|((with_reducible refine Ab (f:=78) rfl ?_);refine Zq.gc (some 47) Tryz.func78 (Aw.calls _ _ _ _ _ _ _ _ (Zs.mvC ((Kd.BF HR0.out HB.out))) HC0.out A22.out) ?_;rintro e w41 ⟨v70,v72,rfl,ho0,ho1,hb⟩;refine ⟨_,rfl,?_⟩;have HO71:=Zq.lw ho0;have HO73:=Zq.lw ho1;replace HB:=Zq.st hb;(try clear hb);(try clear ho0);(try clear ho1);obtain ⟨Ao42,co42,eo42⟩:=Kd.Az HO71.out;subst eo42)|((with_reducible refine Ab (f:=79) rfl ?_);refine Zq.gc (some 53) Tryz.func79 (Ae.calls _ _ _ _ _ _ _ (Zs.mvC ((Kd.Ac HO71.out).2.2)) ((Kd.Ac HO71.out).2.1) A23.out) ?_;rintro e w43 ⟨v76,rfl,ho0,hb⟩;refine ⟨_,rfl,?_⟩;have HO81:=Aa.mk (Kd.Bp (Kd.Br (Kd.Br ho0 (Zq.lt HO71.out)) (Zq.lt HO73.out)) (Ay (Zs.auHB)));replace HO71:=Zq.el HO71.out ho0 hb;replace HO73:=Zq.el HO73.out ho0 hb;replace HB:=Zq.st hb;(try clear hb);(try clear ho0)))
     go_ret2
     exact ⟨_,Zs.auR,Zq.nl,Zs.auHB⟩
    ·replace H:=Zq.th H;have H':=Aa.mk H;clear H
     go_enter Tryz.func37,Tryz.ntmps37
     go_wp2_with (first|((with_reducible refine Ab (f:=59) rfl ?_);refine Zq.gb Tryz.func59 (Am.calls _ _ _ _ _ _ (Zs.mvC (HR0.out)) HC0.out A2.out) ?_;intro w25 hb;replace HB:=Zq.st hb;(try clear hb))|((with_reducible refine Ab (f:=78) rfl ?_);refine Zq.gc (some 47) Tryz.func78 (Aw.calls _ _ _ _ _ _ _ _ (Zs.mvC ((Kd.BF HR0.out HB.out))) HC0.out A22.out) ?_;rintro e w26 ⟨v70,v72,rfl,ho0,ho1,hb⟩;refine ⟨_,rfl,?_⟩;have HO71:=Zq.lw ho0;have HO73:=Zq.lw ho1;replace HB:=Zq.st hb;(try clear hb);(try clear ho0);(try clear ho1);obtain ⟨Ao27,co27,eo27⟩:=Kd.Az HO71.out;subst eo27)|((with_reducible refine Ab (f:=79) rfl ?_);refine Zq.gc (some 53) Tryz.func79 (Ae.calls _ _ _ _ _ _ _ (Zs.mvC ((Kd.Ac HO71.out).2.2)) ((Kd.Ac HO71.out).2.1) A23.out) ?_;rintro e w28 ⟨v76,rfl,ho0,hb⟩;refine ⟨_,rfl,?_⟩;have HO81:=Aa.mk (Kd.Bp (Kd.Br (Kd.Br ho0 (Zq.lt HO71.out)) (Zq.lt HO73.out)) (Ay (Zs.auHB)));replace HO71:=Zq.el HO71.out ho0 hb;replace HO73:=Zq.el HO73.out ho0 hb;replace HB:=Zq.st hb;(try clear hb);(try clear ho0);obtain ⟨Ao29,co29,eo29⟩:=Kd.Az HO81.out;subst eo29))
     go_loopg [60] k (fun kq v60 w' => ∃(x11_1:List Int) (x60_1:Int),v60 = .int .i64 x60_1∧Aa (AN.l0 kq t68 x11_1 (t74.length:Int) x60_1=some (r1,r2))∧Aa (kq≤k)∧Aa (Kd.R (Kd.int .i64) 3 w' w.heap.size (fun k_=>some k_≠((.slice Ao29 t74.length co29):Value).ownBlock) v72 t68)∧Aa (Kd.R (Kd.int .i64) 3 w' w.heap.size (fun k_=>some k_≠(v72:Value).ownBlock) (.slice Ao29 t74.length co29) x11_1)∧Aa (Below w.heap.size w w'))
     case atStart=>exact ⟨(t74),(0),Zs.auS,H',⟨Nat.le_refl _⟩,⟨(Zs.mvR (Kd.AB HO73.out Zq.tk))⟩,⟨(Zs.mvR (Kd.AB HO81.out Zq.tk))⟩,⟨Zs.auHB⟩⟩
     case round =>
      clear H'
      obtain ⟨x11_1,x60_1,rfl,HA,HK1,HO_9,HO_11,HB⟩:=hrel;have hl11_1:=(Kd.Ac HO_11.out).1;rw [hl11_1] at HO_11;(try simp only [hl11_1]);(try simp only [hl11_1] at HO_9);cases gk with
      | zero=>exact absurd HA.out (by simp [AN.l0])
      | succ k1 =>
       have H:=HA.out;clear HA;simp only [AN.l0] at H
       rcases Zq.ii H with ⟨c30,H⟩|⟨c30,H⟩
       ·have c30b0:=decide_eq_true c30
        try have c30bl:decide (x60_1<(x11_1.length:Int))=true:=by rw [← hl11_1];exact c30b0
        clear c30
        obtain ⟨c31b0,H⟩:=Zq.pd H
        obtain ⟨c32b0,H⟩:=Zq.pd H
        obtain ⟨c33,H⟩:=Zq.ip H;have c33b0:=decide_eq_true c33
        try have c33bl:decide (x60_1<(x11_1.length:Int))=true:=by rw [← hl11_1];exact c33b0
        clear c33;generalize hyy:(x11_1.set (x60_1:Int).toNat (wrap64 ((rd x11_1 x60_1)*(rd t68 x60_1))):List Int)=y84 at H;have Ny84:=Aa.mk hyy.symm;clear hyy;have H':=Aa.mk H;clear H
        try go_wp2
        have n0_:=Aa.mk (Kd.DE HO_9.out);have n1_:=Aa.mk (Kd.DE HO_11.out);have n2_:=Aa.mk (Al HB.out);clear HO_9;clear HO_11;clear HB;have HO_9:=n0_;have HO_11:=n1_;have HB:=n2_;clear n0_ n1_ n2_;obtain ⟨ad82,e82,hx82_0,p82,q82⟩:=Zq.at_ (Kd.Ac HO_11.out).2.2 x60_1;cases e82;obtain ⟨Ao36,co36,eo36⟩:=Kd.Az HO_9.out
        (first|subst eo36|(injection eo36 with f1_ f2_ f3_;have f4_:=f1_.symm;have f5_:=f3_.symm;clear f1_ f2_ f3_;subst f4_;subst f5_))
        obtain ⟨ad83,e83,hx83_0,p83,q83⟩:=Zq.at_ (Kd.Ac HO_9.out).2.2 x60_1;cases e83;have p34:0≤(x60_1:Int):=Zs.od;have q34:(x60_1:Int)<((x11_1.length:Int):Int):=Zs.od;obtain ⟨go34,co34,eo34,gb34,gl34,cl34,HG34⟩:=Kd.E7 HO_11.out (by omega)
        (first|cases eo34|(injection eo34 with ea_ en_ ec_;(first|subst ea_|(injection ea_ with ea_;subst ea_));subst ec_;clear en_))
        have GB34:=Aa.mk gb34;have GG34:=Aa.mk HG34;clear gb34 gl34 HG34
        (first|simp only [add_plain] at hx82_0|skip)
        obtain ⟨hx34_0,hf34_0⟩:=Kd.Co 0 HO_11.out (x60_1:Int) p34 q34;replace p34:=eq_true p34;replace q34:=eq_true q34;have HP37:=Kd.R_putn HO_11.out (x60_1:Int) (wrap64 ((rd x11_1 x60_1)*(rd t68 x60_1)));rw [← Ny84.out] at HP37;have HQ37:=Aa.mk HP37;clear HP37;refine D6 (n:=11) (S:=fun w'=>w'.cell? ⟨go34,(x60_1).toNat,none⟩=some (.int .i64 (rd x11_1 x60_1))∧w'.cell? (ad83.add (x60_1).toNat)=some (.int .i64 (rd t68 x60_1))) (ds:=[10]) #[false,false,false,false,false,false,false,false,false,false,false] (by kernel_rfl) rfl rfl ⟨hx82_0,hx83_0⟩ (fun hHeld=>?_);refine CP AN.tab17 AN.bits17 (fun HT_ HW_=>?_);generalize wr.drew=w35 at HO_9 HO_11 HB GG34 HQ37 hf34_0 hx82_0 hx83_0 hx34_0 hHeld ⊢;refine Zs.pu 0 (some 63) ?_;refine Zs.pu 1 (some 64) ?_;refine Zs.pu 2 (some 65) ?_;refine Zs.pu 4 (some 67) ?_;refine Zs.pu 5 (some 68) ?_;refine Zs.pu 6 (some 69) ?_;refine Zs.ta2 3 (some 66) ?_;refine Zs.ta2 7 (some 70) ?_;refine Zs.pu 8 (some 71) ?_;refine Zs.pu 9 (some 72) ?_
        refine last_ (i:=10) (N:=none) #[true,true,true,true,true,true,true,true,true,true,true] rfl rfl (one_of HT_.out (by kernel_rfl)) (by decide) (fun K hK=>?_);refine skip_ (w1:=?_) (by rfl) rfl ?_ ?_;rotate_left
        ·go_simp;rfl
        refine hK.out _ _ ?_;clear hK K;refine Zq.dn ?_
        try go_wp2
        (try simp only [← hl11_1])
        go_roundg k1
        case measure=>have:=HK1.out;omega
        case rel=>exact ⟨(y84),(wrap64 (x60_1+1)),Zs.auS,H',⟨by have:=HK1.out;omega⟩,⟨by (try simp only [hl11_1]);(with_reducible repeat (first|apply Kd.Gs|apply Kd.FR|apply Kd.DE));exact Kd.AB (Kd.R_far (p:=⟨go34,(x60_1:Int).toNat,none⟩) (Kd.AB HO_9.out (fun k_ hk=>(⟨hk,fun e_=>hk (by rw [e_];rfl)⟩:_∧k_≠go34))) Zq.tk (.int .i64 (wrap64 ((rd x11_1 x60_1)*(rd t68 x60_1))))) (fun _ hk=>hk.1)⟩,⟨by (try simp only [hl11_1]);(with_reducible repeat (first|apply Kd.Gs|apply Kd.FR|apply Kd.DE));exact HQ37.out⟩,⟨by repeat (first|(with_reducible first|exact HB.out|apply Ah|apply Ag|apply Al|refine AE ?_ GB34.out)|exact HB.out)⟩⟩
       ·have c30b0:=decide_eq_false c30
        try have c30bl:decide (x60_1<(x11_1.length:Int))=false:=by rw [← hl11_1];exact c30b0
        clear c30;obtain ⟨t85,A38,H⟩:=Zs.be H;obtain ⟨rfl,rfl⟩:=Zq.pi H
        go_wp2_with (((with_reducible refine Ab (f:=77) rfl ?_);refine Zq.gc (some 75) Tryz.func77 (Bf.calls _ _ _ _ _ _ (Zs.mvC ((Kd.Ac HO_11.out).2.2)) ((Kd.Ac HO_11.out).2.1) A38.out) ?_;rintro e w39 ⟨v86,rfl,ho0,hb⟩;refine ⟨_,rfl,?_⟩;have HO87:=Aa.mk (Kd.Bp (Kd.Br (Kd.Br ho0 (Zq.lt HO_9.out)) (Zq.lt HO_11.out)) (Ay (Zs.auHB)));replace HO_9:=Zq.el HO_9.out ho0 hb;replace HO_11:=Zq.el HO_11.out ho0 hb;replace HB:=Zq.st hb;(try clear hb);(try clear ho0)))
        go_ret2
        exact ⟨_,Zs.auR,(Zs.mvR (Kd.AB HO87.out (fun _ hk=>trivial))),Zs.auHB⟩
   ·rcases Zq.jn H with ⟨c44b0,H⟩|⟨c44,c44b0,H⟩
    ·obtain ⟨t88,t89,A45,H⟩:=Zq.bp H;try dsimp only at H;obtain ⟨rfl,rfl⟩:=Zq.pi H
     go_enter Tryz.func37,Tryz.ntmps37
     go_wp2_with (first|((with_reducible refine Ab (f:=59) rfl ?_);refine Zq.gb Tryz.func59 (Am.calls _ _ _ _ _ _ (Zs.mvC (HR0.out)) HC0.out A2.out) ?_;intro w46 hb;replace HB:=Zq.st hb;(try clear hb))|((with_reducible refine Ab (f:=80) rfl ?_);refine Zq.gc (some 79) Tryz.func80 (hz k _ _ l0 t88 t89 _ (Zs.mvC ((Kd.BF HR0.out HB.out))) HC0.out A45.out) ?_;rintro e w47 ⟨v90,rfl,ho0,hb⟩;refine ⟨_,rfl,?_⟩;have HO91:=Zq.lw ho0;replace HB:=Zq.st hb;(try clear hb);(try clear ho0)))
     go_ret2
     exact ⟨_,Zs.auR,(Zs.mvR HO91.out),Zs.auHB⟩
    ·obtain ⟨rfl,rfl⟩:=Zq.pi H
     go_enter Tryz.func37,Tryz.ntmps37
     go_wp2_with (((with_reducible refine Ab (f:=59) rfl ?_);refine Zq.gb Tryz.func59 (Am.calls _ _ _ _ _ _ (Zs.mvC (HR0.out)) HC0.out A2.out) ?_;intro w48 hb;replace HB:=Zq.st hb;(try clear hb)))
     go_ret2
     exact ⟨_,Zs.auR,Zq.nl,Zs.auHB⟩
def Di.f (k:Nat) (l0:List Int):Option (List Int×Bool):=AN.f (fun _ _=>none) k l0
theorem Di.calls (k:Nat) (A0:Option Addr) (c0:Nat) (l0 r1:List Int) (r2:Bool) (w:World) (hr0:Kd.C (Kd.int .i64) w A0 l0.length l0) (hc0:l0.length≤c0) (h:Di.f k l0=some (r1,r2)) :
  Calls Tryz.prog 37 #[.slice A0 l0.length c0] w fun e w' => ∃v0_:Value,e = .returned (.tuple #[v0_,.bool r2])∧Kd.R (Kd.int .i64) 3 w' w.heap.size (fun _=>True) v0_ r1∧Below w.heap.size w w':=AN.calls (fun _ _=>none) (fun _ _ _ _ _ _ _ _ _ h=>by cases h) k A0 c0 l0 r1 r2 w hr0 hc0 h
mutual
def Ai.l0:Nat→Int→Int→Int→Int→Int→Option (List Int×Bool)
 | 0,_,_,_,_,_=>none
 | k+1,x4,x5,x6,x7,x8=>if x8≤3 then Ai.l1 k x4 x5 x6 x7 x8 0 else some (([]:List Int),false)
def Ai.l1:Nat→Int→Int→Int→Int→Int→Int→Option (List Int×Bool)
 | 0,_,_,_,_,_,_=>none
 | k+1,x4,x5,x6,x7,x8,x9=>if x9≤3 then if x8=0 then Ai.j2 k x4 x5 x6 x7 x8 x9 (x9==0) else Ai.j2 k x4 x5 x6 x7 x8 x9 false else Ai.l0 k x4 x5 x6 x7 (wrap64 (x8+1))
def Ai.j2:Nat→Int→Int→Int→Int→Int→Int→Bool→Option (List Int×Bool)
 | 0,_,_,_,_,_,_,_=>none
 | k+1,x4,x5,x6,x7,x8,x9,x40=>if x40=true then Ai.l1 k x4 x5 x6 x7 x8 (wrap64 (x9+1)) else if (wrap64 ((wrap64 ((wrap64 (x4*x8))*x8))+(wrap64 ((wrap64 (x5*x9))*x9))))=0 then (Bf.f k (([x8,x9,0,0]:List Int))).bind fun t3=>(some (t3,true)) else (AW.f k (wrap64 ((wrap64 ((wrap64 (x4*x8))*x8))+(wrap64 ((wrap64 (x5*x9))*x9))))).bind fun bt10=>((Di.f k (([x6,x7,bt10.1]:List Int))).bind fun bt11=>(if bt11.2=true then if 2<(bt11.1.length:Int) then if 0<(bt11.1.length:Int) then if 1<(bt11.1.length:Int) then (Bf.f k (([wrap64 (x8*(rd bt11.1 2)),wrap64 (x9*(rd bt11.1 2)),wrap64 (bt10.2*(rd bt11.1 0)),wrap64 (bt10.2*(rd bt11.1 1))]:List Int))).bind fun t12=>(some (t12,true)) else none else none else none else Ai.l1 k x4 x5 x6 x7 x8 (wrap64 (x9+1))))
end
def Ai.f (k:Nat) (l0:List Int):Option (List Int×Bool):=if 0<(l0.length:Int) then if 1<(l0.length:Int) then if 2<(l0.length:Int) then if 3<(l0.length:Int) then Ai.l0 k (rd l0 0) (rd l0 1) (rd l0 2) (rd l0 3) 0 else none else none else none else none
def Ai.T1:Bool×List (List Nat×List Nat):=(true,[([],[]),([0],[0]),([1],[1]),([],[]),([3],[3]),([4],[4]),([],[]),([6],[6]),([7],[7]),([],[]),([9],[9]),([10],[10]),([2,0,1,2],[2]),([5,12,0,1,2,3,4,5,12],[5]),([8,13,0,1,2,3,4,5,6,7,8,12,13],[8]),([11,14,0,1,2,3,4,5,6,7,8,9,10,11,12,13,14],[11])])
def Ai.B1:List Nat:=[0,1,3,0,8,24,0,64,192,0,512,1536,7,4159,12799,32767]
theorem Ai.tab1:rtab .any (opsOf Tryz.f80 1)=Ai.T1:=by kernel_rfl
theorem Ai.bits1:DJ Ai.T1.2 Ai.B1=true:=by kernel_rfl
def Ai.T15:Bool×List (List Nat×List Nat):=(true,[([],[]),([],[]),([1],[1]),([2],[2]),([0,3],[0,3]),([],[]),([],[]),([6],[6]),([7],[7]),([5,8],[5,8]),([],[]),([],[]),([11],[11]),([12],[12]),([10,13],[10,13]),([],[]),([],[]),([16],[16]),([17],[17]),([15,18],[15,18]),([4,9,14,19],[4,9,14,19]),([20],[20]),([21,21,0,1,2,3,4,5,6,7,8,9,10,11,12,13,14,15,16,17,18,19,20,21],[21]),([22,0,1,2,3,4,5,6,7,8,9,10,11,12,13,14,15,16,17,18,19,20,21,22],[])])
def Ai.B15:List Nat:=[0,0,2,6,15,0,0,64,192,480,0,0,2048,6144,15360,0,0,65536,196608,491520,1048575,2097151,4194303,8388607]
theorem Ai.tab15:rtab .any (opsOf Tryz.f80 15)=Ai.T15:=by kernel_rfl
theorem Ai.Of:DJ Ai.T15.2 Ai.B15=true:=by kernel_rfl
theorem Ai.calls (k:Nat) (A0:Option Addr) (c0:Nat) (l0 r1:List Int) (r2:Bool) (w:World) (hr0:Kd.C (Kd.int .i64) w A0 l0.length l0) (hc0:l0.length≤c0) (h:Ai.f k l0=some (r1,r2)) :
  Calls Tryz.prog 80 #[.slice A0 l0.length c0] w fun e w' => ∃v0_:Value,e = .returned (.tuple #[v0_,.bool r2])∧Kd.R (Kd.int .i64) 3 w' w.heap.size (fun _=>True) v0_ r1∧Below w.heap.size w w':=by
 have HR0:=Aa.mk hr0;have HC0:=Aa.mk hc0;clear hr0 hc0;have HB:=Aa.mk (Below.refl w.heap.size w);unfold Ai.f at h;have H:=h;clear h
 obtain ⟨c2b0,H⟩:=Zq.pd H
 obtain ⟨c3b0,H⟩:=Zq.pd H
 obtain ⟨c4b0,H⟩:=Zq.pd H
 obtain ⟨c5b0,H⟩:=Zq.pd H;have H':=Aa.mk H;clear H
 go_enter Tryz.func80,Tryz.ntmps80
 try go_wp2
 have n0_:=Aa.mk (Al HB.out);clear HB;have HB:=n0_;clear n0_;obtain ⟨ad11,e11,hx11_0,p11,q11,qi11⟩:=Zq.a0 HR0.out;have hw11_0:=hx11_0;cases e11;replace hx11_0:=Zq.ce HB.out hx11_0;obtain ⟨ad20,e20,hx20_0,p20,q20⟩:=Zq.an HR0.out 1 1;have hw20_0:=hx20_0;obtain rfl:ad11=ad20:=(by injection e20);replace hx20_0:=Zq.ce HB.out hx20_0;obtain ⟨ad41,e41,hx41_0,p41,q41⟩:=Zq.an HR0.out 2 2;have hw41_0:=hx41_0;obtain rfl:ad11=ad41:=(by injection e41);replace hx41_0:=Zq.ce HB.out hx41_0;obtain ⟨ad42,e42,hx42_0,p42,q42⟩:=Zq.an HR0.out 3 3;have hw42_0:=hx42_0;obtain rfl:ad11=ad42:=(by injection e42);replace hx42_0:=Zq.ce HB.out hx42_0;refine D6 (n:=16) (S:=fun w'=>w'.cell? ad11=some (.int .i64 (rd l0 0))∧w'.cell? ⟨ad11.block,ad11.off+1,none⟩=some (.int .i64 (rd l0 1))∧w'.cell? ⟨ad11.block,ad11.off+2,none⟩=some (.int .i64 (rd l0 2))∧w'.cell? ⟨ad11.block,ad11.off+3,none⟩=some (.int .i64 (rd l0 3))) (ds:=[]) #[false,false,false,false,false,false,false,false,false,false,false,false,false,false,false,false] (by kernel_rfl) rfl rfl ⟨(Zq.ce HB.out hw11_0),(Zq.ce HB.out hw20_0),(Zq.ce HB.out hw41_0),(Zq.ce HB.out hw42_0)⟩ (fun hHeld=>?_);refine CP Ai.tab1 Ai.bits1 (fun HT_ HW_=>?_)
 generalize w.drew=w6 at HB hx11_0 hx20_0 hx41_0 hx42_0 hHeld ⊢;refine Zs.pu 0 (some 15) ?_;refine Zs.pu 1 (some 16) ?_;refine Zs.pu 3 (some 18) ?_;refine Zs.pu 4 (some 19) ?_;refine Zs.pu 6 (some 21) ?_;refine Zs.pu 7 (some 22) ?_;refine Zs.pu 9 (some 24) ?_;refine Zs.pu 10 (some 25) ?_;refine Zs.ta4 2 (some 17) ?_;refine Zs.pu 12 (some 4) ?_;refine Zs.ta4 5 (some 20) ?_;refine Zs.pu 13 (some 5) ?_;refine Zs.ta4 8 (some 23) ?_;refine Zs.pu 14 (some 6) ?_;refine Zs.ta4 11 (some 26) ?_;refine Zs.pu 15 (some 7) ?_
 refine Zq.dn ?_
 try go_wp2
 go_loopg [8] k (fun kq v8 w' => ∃x8_1:Int,v8 = .int .i64 x8_1∧Aa (Ai.l0 kq (rd l0 0) (rd l0 1) (rd l0 2) (rd l0 3) x8_1=some (r1,r2))∧Aa (kq≤k)∧Aa (Below w.heap.size w w'))
 case atStart=>exact ⟨(0),Zs.auS,H',⟨Nat.le_refl _⟩,⟨Zs.auHB⟩⟩
 case round =>
  clear H'
  obtain ⟨x8_1,rfl,HA,HK1,HB⟩:=hrel;cases gk with
  | zero=>exact absurd HA.out (by simp [Ai.l0])
  | succ k1 =>
   have H:=HA.out;clear HA;simp only [Ai.l0] at H
   rcases Zq.jd H with ⟨c7b0,H⟩|⟨c7b0,H⟩
   ·have H':=Aa.mk H;clear H;go_wp2
    go_loopg [9] k1 (fun kq v9 w' => ∃x9_2:Int,v9 = .int .i64 x9_2∧Aa (Ai.l1 kq (rd l0 0) (rd l0 1) (rd l0 2) (rd l0 3) x8_1 x9_2=some (r1,r2))∧Aa (kq≤k1)∧Aa (Below w.heap.size w w'))
    case atStart=>exact ⟨(0),Zs.auS,H',⟨Nat.le_refl _⟩,⟨Zs.auHB⟩⟩
    case round =>
     clear H'
     obtain ⟨x9_2,rfl,HA,HK2,HB⟩:=hrel;cases gk with
     | zero=>exact absurd HA.out (by simp [Ai.l1])
     | succ k2 =>
      have H:=HA.out;clear HA;simp only [Ai.l1] at H
      rcases Zq.jd H with ⟨c8b0,H⟩|⟨c8b0,H⟩
      ·have HC9:=Aa.mk H;clear H
       go_upto_region 8 with (fail)
       go_cut [40] (fun v40 wc => ∃(kq:Nat) (x40_8:Bool),v40 = .bool x40_8∧Aa (Ai.j2 kq (rd l0 0) (rd l0 1) (rd l0 2) (rd l0 3) x8_1 x9_2 x40_8=some (r1,r2))∧Aa (kq≤k2)∧Aa (Below w.heap.size w wc))
       case first =>
        have H:=HC9.out;clear HC9
        rcases Zq.jn H with ⟨c10b0,H⟩|⟨c10,c10b0,H⟩
        ·have H':=Aa.mk H;clear H;go_wp2
         go_meet
         case rel=>exact ⟨_,((x9_2==0)),Zs.auS,H',⟨by have:=HK1.out;have:=HK2.out;first|omega|exact Nat.le_refl _⟩,⟨Zs.auHB⟩⟩
        ·have H':=Aa.mk H;clear H;go_wp2
         go_meet
         case rel=>exact ⟨_,(false),Zs.auS,H',⟨by have:=HK1.out;have:=HK2.out;first|omega|exact Nat.le_refl _⟩,⟨Zs.auHB⟩⟩
       case rest =>
        clear HC9
        obtain ⟨kq,x40_8,rfl,HA,HJ8,HB⟩:=hcut;cases kq with
        | zero=>exact absurd HA.out (by simp [Ai.j2])
        | succ kj8 =>
         have H:=HA.out;clear HA;simp only [Ai.j2] at H
         cases x40_8
         ·replace H:=Zq.fh H
          rcases Zq.jn H with ⟨c12b0,H⟩|⟨c12,c12b0,H⟩
          ·generalize hyy:([x8_1,x9_2,0,0]:List Int)=y43 at H;have Ny43:=Aa.mk hyy.symm;clear hyy;obtain ⟨t46,A13,H⟩:=Zs.be H;obtain ⟨rfl,rfl⟩:=Zq.pi H
           go_wp2_with (first|((with_reducible refine Bb (N:=56) rfl ?_);refine Zq.li ([x8_1,x9_2,0,0]:List Int) ?_;intro v44 w14 ho15 hb;(first|rw [← Ny43.out] at ho15|(simp only [Int.reduceToNat] at ho15;rw [← Ny43.out] at ho15));have HO45:=Zq.lw ho15;replace HB:=Zq.st hb;clear hb ho15;obtain ⟨Ao16,co16,eo16⟩:=Kd.Az HO45.out;subst eo16)|((with_reducible refine Ab (f:=77) rfl ?_);refine Zq.gc (some 57) Tryz.func77 (Bf.calls _ _ _ _ _ _ (Zs.mvC ((Kd.Ac HO45.out).2.2)) ((Kd.Ac HO45.out).2.1) A13.out) ?_;rintro e w17 ⟨v47,rfl,ho0,hb⟩;refine ⟨_,rfl,?_⟩;have HO48:=Aa.mk (Kd.Bp (Kd.Br ho0 (Zq.lt HO45.out)) (Ay (Zs.auHB)));replace HO45:=Zq.el HO45.out ho0 hb;replace HB:=Zq.st hb;(try clear hb);(try clear ho0)))
           go_ret2
           exact ⟨_,Zs.auR,(Zs.mvR (Kd.AB HO48.out (fun _ hk=>trivial))),Zs.auHB⟩
          ·obtain ⟨t49,t50,A18,H⟩:=Zq.bp H;try dsimp only at H;generalize hyy:([(rd l0 2),(rd l0 3),t49]:List Int)=y51 at H;have Ny51:=Aa.mk hyy.symm;clear hyy;obtain ⟨t54,t55,A19,H⟩:=Zq.bp H;try dsimp only at H
           cases t55
           ·replace H:=Zq.fh H;have H':=Aa.mk H;clear H
            go_wp2_with (first|((with_reducible refine Ab (f:=61) rfl ?_);refine Zq.gb Tryz.func61 (AW.calls _ _ _ _ _ A18.out) ?_;intro w36 hb;replace HB:=Zq.st hb;(try clear hb))|((with_reducible refine Bb (N:=67) rfl ?_);refine Zq.li ([(rd l0 2),(rd l0 3),t49]:List Int) ?_;intro v52 w37 ho38 hb;(first|rw [← Ny51.out] at ho38|(simp only [Int.reduceToNat] at ho38;rw [← Ny51.out] at ho38));have HO53:=Zq.lw ho38;replace HB:=Zq.st hb;clear hb ho38;obtain ⟨Ao39,co39,eo39⟩:=Kd.Az HO53.out;subst eo39)|((with_reducible refine Ab (f:=37) rfl ?_);refine Zq.gc (some 68) Tryz.func37 (Di.calls _ _ _ _ _ _ _ (Zs.mvC ((Kd.Ac HO53.out).2.2)) ((Kd.Ac HO53.out).2.1) A19.out) ?_;rintro e w40 ⟨v56,rfl,ho0,hb⟩;refine ⟨_,rfl,?_⟩;have HO57:=Aa.mk (Kd.Bp (Kd.Br ho0 (Zq.lt HO53.out)) (Ay (Zs.auHB)));replace HO53:=Zq.el HO53.out ho0 hb;replace HB:=Zq.st hb;(try clear hb);(try clear ho0)))
            go_roundg kj8
            case measure=>have:=HK1.out;have:=HK2.out;have:=HJ8.out;omega
            case rel=>exact ⟨(wrap64 (x9_2+1)),Zs.auS,H',⟨by have:=HK1.out;have:=HK2.out;have:=HJ8.out;omega⟩,⟨Zs.auHB⟩⟩
           ·replace H:=Zq.th H
            obtain ⟨c21b0,H⟩:=Zq.pd H
            obtain ⟨c22b0,H⟩:=Zq.pd H
            obtain ⟨c23b0,H⟩:=Zq.pd H;generalize hyy:([wrap64 (x8_1*(rd t54 2)),wrap64 (x9_2*(rd t54 2)),wrap64 (t50*(rd t54 0)),wrap64 (t50*(rd t54 1))]:List Int)=y63 at H;have Ny63:=Aa.mk hyy.symm;clear hyy;obtain ⟨t67,A24,H⟩:=Zs.be H;obtain ⟨rfl,rfl⟩:=Zq.pi H
            try go_wp2_with (first|((with_reducible refine Ab (f:=61) rfl ?_);refine Zq.gb Tryz.func61 (AW.calls _ _ _ _ _ A18.out) ?_;intro w25 hb;replace HB:=Zq.st hb;(try clear hb))|((with_reducible refine Bb (N:=67) rfl ?_);refine Zq.li ([(rd l0 2),(rd l0 3),t49]:List Int) ?_;intro v52 w26 ho27 hb;(first|rw [← Ny51.out] at ho27|(simp only [Int.reduceToNat] at ho27;rw [← Ny51.out] at ho27));have HO53:=Zq.lw ho27;replace HB:=Zq.st hb;clear hb ho27;obtain ⟨Ao28,co28,eo28⟩:=Kd.Az HO53.out;subst eo28)|((with_reducible refine Ab (f:=37) rfl ?_);refine Zq.gc (some 68) Tryz.func37 (Di.calls _ _ _ _ _ _ _ (Zs.mvC ((Kd.Ac HO53.out).2.2)) ((Kd.Ac HO53.out).2.1) A19.out) ?_;rintro e w29 ⟨v56,rfl,ho0,hb⟩;refine ⟨_,rfl,?_⟩;have HO57:=Aa.mk (Kd.Bp (Kd.Br ho0 (Zq.lt HO53.out)) (Ay (Zs.auHB)));replace HO53:=Zq.el HO53.out ho0 hb;replace HB:=Zq.st hb;(try clear hb);(try clear ho0)))
            have n0_:=Aa.mk (Kd.DE HO53.out);have n1_:=Aa.mk (Kd.DE HO57.out);have n2_:=Aa.mk (Al HB.out);clear HO53;clear HO57;clear HB;have HO53:=n0_;have HO57:=n1_;have HB:=n2_;clear n0_ n1_ n2_;obtain ⟨Ao31,co31,eo31⟩:=Kd.Az HO57.out
            (first|subst eo31|(injection eo31 with f1_ f2_ f3_;have f4_:=f1_.symm;have f5_:=f3_.symm;clear f1_ f2_ f3_;subst f4_;subst f5_))
            obtain ⟨ad58,e58,hx58_0,p58,q58⟩:=Zq.an (Kd.Ac HO57.out).2.2 2 2;cases e58;obtain ⟨ad59,e59,hx59_0,p59,q59⟩:=Zq.an (Kd.Ac HO57.out).2.2 2 2;obtain rfl:ad58=ad59:=(by injection e59);obtain ⟨ad60,e60,hx60_0,p60,q60,qi60⟩:=Zq.a0 (Kd.Ac HO57.out).2.2;obtain rfl:ad58=ad60:=(by injection e60);obtain ⟨ad62,e62,hx62_0,p62,q62⟩:=Zq.an (Kd.Ac HO57.out).2.2 1 1;obtain rfl:ad58=ad62:=(by injection e62);refine D6 (n:=24) (S:=fun w'=>w'.cell? ⟨ad58.block,ad58.off+2,none⟩=some (.int .i64 (rd t54 2))∧w'.cell? ⟨ad58.block,ad58.off+2,none⟩=some (.int .i64 (rd t54 2))∧w'.cell? ad58=some (.int .i64 (rd t54 0))∧w'.cell? ⟨ad58.block,ad58.off+1,none⟩=some (.int .i64 (rd t54 1))) (ds:=[]) #[false,false,false,false,false,false,false,false,false,false,false,false,false,false,false,false,false,false,false,false,false,false,false,false] (by kernel_rfl) rfl rfl ⟨hx58_0,hx59_0,hx60_0,hx62_0⟩ (fun hHeld=>?_);refine CP Ai.tab15 Ai.Of (fun HT_ HW_=>?_);generalize w29.drew=w30 at HO53 HO57 HB hx58_0 hx59_0 hx60_0 hx62_0 hHeld ⊢;refine Zs.pu 0 (some 72) ?_;refine Zs.pu 1 (some 73) ?_;refine Zs.pu 2 (some 74) ?_;refine Zs.pu 5 (some 77) ?_;refine Zs.pu 6 (some 78) ?_;refine Zs.pu 7 (some 79) ?_;refine Zs.pu 10 (some 82) ?_;refine Zs.pu 11 (some 83) ?_;refine Zs.pu 12 (some 84) ?_;refine Zs.pu 15 (some 87) ?_;refine Zs.pu 16 (some 88) ?_;refine Zs.pu 17 (some 89) ?_;refine Zs.ta4 3 (some 75) ?_;refine Zs.pu 4 (some 76) ?_;refine Zs.ta4 8 (some 80) ?_;refine Zs.pu 9 (some 81) ?_;refine Zs.ta4 13 (some 85) ?_;refine Zs.pu 14 (some 86) ?_;refine Zs.ta4 18 (some 90) ?_;refine Zs.pu 19 (some 91) ?_
            refine Zq.o1 20 (some 92) (fun K hK=>?_);refine Kd.EA (Kd.int .i64) _ 3 ?hg (N:=92) ?hd (xs:=([wrap64 (x8_1*(rd t54 2)),wrap64 (x9_2*(rd t54 2)),wrap64 (t50*(rd t54 0)),wrap64 (t50*(rd t54 1))]:List Int)) (inner:=[.int .i64 (wrap64 (x8_1*(rd t54 2))),.int .i64 (wrap64 (x9_2*(rd t54 2))),.int .i64 (wrap64 (t50*(rd t54 0))),.int .i64 (wrap64 (t50*(rd t54 1)))]) (ok:=fun _=>True) (okp:=fun _=>True) ?hr ?hp (fun _ hk=>hk) trivial (Below.refl _ _) (Nat.le_refl _) (by simp) ?_;(case hd=>rfl);(case hg=>rfl);(case hr=>first|(go_simp;done)|(go_simp;rfl));(case hp=>exact (Reps.one (show Kd.M (Kd.int .i64) _ _ _ (wrap64 (x8_1*(rd t54 2))) [.int .i64 (wrap64 (x8_1*(rd t54 2)))] from rfl) (Reps.one (show Kd.M (Kd.int .i64) _ _ _ (wrap64 (x9_2*(rd t54 2))) [.int .i64 (wrap64 (x9_2*(rd t54 2)))] from rfl) (Reps.one (show Kd.M (Kd.int .i64) _ _ _ (wrap64 (t50*(rd t54 0))) [.int .i64 (wrap64 (t50*(rd t54 0)))] from rfl) (Reps.one (show Kd.M (Kd.int .i64) _ _ _ (wrap64 (t50*(rd t54 1))) [.int .i64 (wrap64 (t50*(rd t54 1)))] from rfl) (Reps.none _ _))))));intro v65 w32 ho33 hb hg_ hnew_;have HS0_:=(hb.cell (World.block_lt_of_cell? _ _ (hHeld.1))).trans (hHeld.1);have HS1_:=(hb.cell (World.block_lt_of_cell? _ _ (hHeld.2.1))).trans (hHeld.2.1);have HS2_:=(hb.cell (World.block_lt_of_cell? _ _ (hHeld.2.2.1))).trans (hHeld.2.2.1);have HS3_:=(hb.cell (World.block_lt_of_cell? _ _ (hHeld.2.2.2))).trans (hHeld.2.2.2);clear hg_ hnew_
            (first|rw [← Ny63.out] at ho33|(simp only [Int.reduceToNat] at ho33;rw [← Ny63.out] at ho33))
            have n0_:=Zq.el HO53.out ho33 hb;have n1_:=Zq.el HO57.out ho33 hb;have n2_:=Aa.mk (Kd.Bp (Kd.Br (Kd.Br ho33 (Zq.lt HO53.out)) (Zq.lt HO57.out)) (Ay (Zs.auHB)));have n3_:=Zq.st hb;clear HO53;clear HO57;clear HB;have HO53:=n0_;have HO57:=n1_;have HO66:=n2_;have HB:=n3_;clear n0_ n1_ n2_ n3_;clear hb ho33;obtain ⟨Ao34,co34,eo34⟩:=Kd.Az HO66.out
            (first|subst eo34|(injection eo34 with f1_ f2_ f3_;have f4_:=f1_.symm;have f5_:=f3_.symm;clear f1_ f2_ f3_;subst f4_;subst f5_))
            refine hK.out _ _ ⟨HS0_,HS1_,HS2_,HS3_⟩ (fun hHeld=>?_);clear hK K;refine Zq.nm (some 92) ?_
            refine Zq.o1 21 (some 93) (fun K hK=>?_);refine FN Tryz.func77 (by kernel_rfl) rfl #[.slice Ao34 y63.length co34] (by rfl) rfl rfl Zs.auM ?_
            with_reducible refine (Bf.calls kj8 _ _ y63 t67 _ ?side1 ?side2 A24.out).mono ?_
            (case side1=>exact Zs.mvC ((Kd.Ac HO66.out).2.2))
            (case side2=>exact (Kd.Ac HO66.out).2.1)
            rintro e w35 ⟨v68,rfl,ho0,hb⟩;have HS0_:=(hb.cell (World.block_lt_of_cell? _ _ (hHeld.1))).trans (hHeld.1);have HS1_:=(hb.cell (World.block_lt_of_cell? _ _ (hHeld.2.1))).trans (hHeld.2.1);have HS2_:=(hb.cell (World.block_lt_of_cell? _ _ (hHeld.2.2.1))).trans (hHeld.2.2.1);have HS3_:=(hb.cell (World.block_lt_of_cell? _ _ (hHeld.2.2.2))).trans (hHeld.2.2.2);refine ⟨_,rfl,?_⟩;have n0_:=Zq.el HO53.out ho0 hb;have n1_:=Zq.el HO57.out ho0 hb;have n2_:=Zq.el HO66.out ho0 hb;have n3_:=Aa.mk (Kd.Bp (Kd.Br (Kd.Br (Kd.Br ho0 (Zq.lt HO53.out)) (Zq.lt HO57.out)) (Zq.lt HO66.out)) (Ay (Zs.auHB)));have n4_:=Zq.st hb;clear HO53;clear HO57;clear HO66;clear HB;have HO53:=n0_;have HO57:=n1_;have HO66:=n2_;have HO69:=n3_;have HB:=n4_;clear n0_ n1_ n2_ n3_ n4_;(try clear hb);(try clear hb2);(try clear hk);(try clear hi);(try clear ho0);refine hK.out _ _ ⟨HS0_,HS1_,HS2_,HS3_⟩ (fun hHeld=>?_);clear hK K;refine Zq.nm (some 93) ?_
            refine Zs.pu 22 (some 2) ?_;refine Zs.pu 23 (some 3) ?_
            refine Zq.dn ?_
            try go_wp2
            go_ret2
            exact ⟨_,Zs.auR,(Zs.mvR (Kd.AB HO69.out (fun _ hk=>trivial))),Zs.auHB⟩
         ·replace H:=Zq.th H;have H':=Aa.mk H;clear H;go_wp2
          go_roundg kj8
          case measure=>have:=HK1.out;have:=HK2.out;have:=HJ8.out;omega
          case rel=>exact ⟨(wrap64 (x9_2+1)),Zs.auS,H',⟨by have:=HK1.out;have:=HK2.out;have:=HJ8.out;omega⟩,⟨Zs.auHB⟩⟩
      ·have H':=Aa.mk H;clear H;go_wp2
       go_roundg k2
       case measure=>have:=HK1.out;have:=HK2.out;omega
       case rel=>exact ⟨(wrap64 (x8_1+1)),Zs.auS,H',⟨by have:=HK1.out;have:=HK2.out;omega⟩,⟨Zs.auHB⟩⟩
   ·obtain ⟨rfl,rfl⟩:=Zq.pi H;go_wp2;go_ret2
    exact ⟨_,Zs.auR,Zq.nl,Zs.auHB⟩
end
section
open Locg
def BI.f (k:Nat) (l0:List Int):Option (List Int×Bool):=AN.f (Ai.f) k l0
theorem BI.calls (k:Nat) (A0:Option Addr) (c0:Nat) (l0 r1:List Int) (r2:Bool) (w:World) (hr0:Kd.C (Kd.int .i64) w A0 l0.length l0) (hc0:l0.length≤c0) (h:BI.f k l0=some (r1,r2)) :
  Calls Tryz.prog 37 #[.slice A0 l0.length c0] w fun e w' => ∃v0_:Value,e = .returned (.tuple #[v0_,.bool r2])∧Kd.R (Kd.int .i64) 3 w' w.heap.size (fun _=>True) v0_ r1∧Below w.heap.size w w':=AN.calls (Ai.f) (Ai.calls) k A0 c0 l0 r1 r2 w hr0 hc0 h
end
def DG.f (a0:Int):Option (Bool):=if a0=0 then some false else if a0≥(-30) then some (decide (a0≤30)) else some false
theorem DG.calls (a0:Int) (r:Bool) (w:World) (h:DG.f a0=some r) :
  Calls Tryz.prog 86 #[.int .i64 a0] w fun e w'=>e = .returned (.bool r)∧Bo w w':=by
 unfold DG.f at h;have H:=h;clear h
 rcases Zq.ii H with ⟨c2,H⟩|⟨c2,H⟩
 ·have c2b1:=bne_eq_false_iff_eq.mpr c2;clear c2;obtain rfl:=Option.some.inj H
  go_enter Tryz.func86,Tryz.ntmps86
  go_wp2;go_ret
  exact ⟨Zs.auS,Zq.dr⟩
 ·have c2b1:=bne_iff_ne.mpr c2
  rcases Zq.jh H with ⟨c3b0,H⟩|⟨c3b0,H⟩
  ·obtain rfl:=Option.some.inj H
   go_enter Tryz.func86,Tryz.ntmps86
   go_wp2;go_ret
   exact ⟨Zs.auS,Zq.dr⟩
  ·obtain rfl:=Option.some.inj H
   go_enter Tryz.func86,Tryz.ntmps86
   go_wp2;go_ret
   exact ⟨Zs.auS,Zq.dr⟩
mutual
def Ad.j0:Nat→List Int→Int→Bool→Option (List Int×Int×Bool)
 | 0,_,_,_=>none
 | k+1,x0,x1,x33=>if x33=true then some (([]:List Int),0,false) else (BI.f k x0).bind fun bt4=>(if bt4.2=true then Ad.l0 k x0 x1 (([]:List Int)) bt4.1 0 else (Bn.f x0).bind fun t5=>(if t5.length<17592186044416 then (BI.f k (t5++[wrap64 (-x1)])).bind fun bt6=>(if bt6.2=true then (if 0≤(x0.length:Int) then (if (x0.length:Int)≤(bt6.1.length:Int) then (if (x0.length:Int)<(bt6.1.length:Int) then (Ad.j3 k (bt6.1.take ((x0.length:Int):Int).toNat) (rd bt6.1 (x0.length:Int))) else none) else none) else none) else some (([]:List Int),0,false)) else none))
def Ad.j3:Nat→List Int→Int→Option (List Int×Int×Bool)
 | 0,_,_=>none
 | k+1,x7,x8=>(Bn.f x7).bind fun t5=>(if t5.length<17592186044416 then (Cj.f k (t5++[x8])).bind fun t6=>(if x8<0 then Ad.j4 k x7 x8 (wrap64 (-t6)) else Ad.j4 k x7 x8 t6) else none)
def Ad.j4:Nat→List Int→Int→Int→Option (List Int×Int×Bool)
 | 0,_,_,_=>none
 | k+1,x7,x8,x17=>Ad.l2 k x8 x17 (([]:List Int)) x7 (x7.length:Int) 0
def Ad.l2:Nat→Int→Int→List Int→List Int→Int→Int→Option (List Int×Int×Bool)
 | 0,_,_,_,_,_,_=>none
 | k+1,x8,x17,x18,x3,x4,x5=>if x5<x4 then if 0≤x5 then if x5<(x3.length:Int) then if x17=0 then none else if x18.length<17592186044416 then Ad.l2 k x8 x17 (x18++[wrap64 (Int.tdiv (rd x3 x5) x17)]) x3 x4 (wrap64 (x5+1)) else none else none else none else if x17=0 then none else some (x18,wrap64 (Int.tdiv x8 x17),true)
def Ad.l0:Nat→List Int→Int→List Int→List Int→Int→Option (List Int×Int×Bool)
 | 0,_,_,_,_,_=>none
 | k+1,x0,x1,x7,x9,x11=>if 0≤x11 then if x11<(x9.length:Int) then if (rd x9 x11)=0 then Ad.l0 k x0 x1 x7 x9 (wrap64 (x11+1)) else if x11<(x0.length:Int) then Ad.l1 k x1 x7 (wrap64 ((wrap64 (2*(rd x0 x11)))*(rd x9 x11))) x11 (rd x0 x11) x9 (x9.length:Int) 0 else none else none else none
def Ad.l1:Nat→Int→List Int→Int→Int→Int→List Int→Int→Int→Option (List Int×Int×Bool)
 | 0,_,_,_,_,_,_,_,_=>none
 | k+1,x1,x7,x8,x11,x12,x59,x60,x61=>if x61<x60 then if 0≤x61 then if x61<(x59.length:Int) then if x7.length<17592186044416 then Ad.l1 k x1 (x7++[wrap64 ((rd x59 x61)*(wrap64 (x1-x12)))]) x8 x11 x12 x59 x60 (wrap64 (x61+1)) else none else none else none else if 0≤x11 then if x11<(x7.length:Int) then Ad.j3 k (x7.set (x11:Int).toNat (wrap64 ((rd x7 x11)+x8))) x8 else none else none
end
def Ad.f (k:Nat) (l0:List Int) (a1:Int):Option (List Int×Int×Bool):=(Am.f k l0).bind fun t3=>(if t3=true then if (l0.length:Int)>3 then Ad.j0 k l0 a1 true else (DG.f a1).bind fun t4=>(Ad.j0 k l0 a1 (!t4)) else Ad.j0 k l0 a1 true)
theorem Ad.calls (k:Nat) (A0:Option Addr) (c0:Nat) (l0:List Int) (a1:Int) (r1:List Int) (r2:Int) (r3:Bool) (w:World) (hr0:Kd.C (Kd.int .i64) w A0 l0.length l0) (hc0:l0.length≤c0) (h:Ad.f k l0 a1=some (r1,r2,r3)) :
  Calls Tryz.prog 40 #[.slice A0 l0.length c0,.int .i64 a1] w fun e w' => ∃v0_:Value,e = .returned (.tuple #[v0_,.int .i64 r2,.bool r3])∧Kd.R (Kd.int .i64) 3 w' w.heap.size (fun _=>True) v0_ r1∧Below w.heap.size w w':=by
 have HR0:=Aa.mk hr0;have HC0:=Aa.mk hc0;clear hr0 hc0;have HB:=Aa.mk (Below.refl w.heap.size w);unfold Ad.f at h;have H:=h;clear h;have HC3:=Aa.mk H;clear H
 go_enter Tryz.func40,Tryz.ntmps40
 go_upto_region 1 with (fail)
 go_cut [33] (fun v33 wc => ∃(kq:Nat) (x33_2:Bool),v33 = .bool x33_2∧Aa (Ad.j0 kq l0 a1 x33_2=some (r1,r2,r3))∧Aa (kq≤k)∧Aa (Below w.heap.size w wc))
 case first =>
  have H:=HC3.out;clear HC3;obtain ⟨t73,A4,H⟩:=Zs.be H
  cases t73
  ·replace H:=Zq.fh H;have H':=Aa.mk H;clear H
   go_wp2_with ((go_at_call 59;(with_reducible refine (Am.calls k _ _ l0 false _ ?side1 ?side2 A4.out).mono ?_);(case side1=>exact Zs.mvC ((Kd.BF HR0.out HB.out)));(case side2=>exact HC0.out);rintro e w10 ⟨rfl,hb⟩;replace HB:=Zq.st hb;(try clear hb)))
   go_meet
   case rel=>exact ⟨_,(true),Zs.auS,H',⟨Zs.auN⟩,⟨Zs.auHB⟩⟩
  ·replace H:=Zq.th H
   rcases Zq.jg H with ⟨c6b0,H⟩|⟨c6b0,H⟩
   ·have H':=Aa.mk H;clear H
    go_wp2_with ((go_at_call 59;(with_reducible refine (Am.calls k _ _ l0 true _ ?side1 ?side2 A4.out).mono ?_);(case side1=>exact Zs.mvC ((Kd.BF HR0.out HB.out)));(case side2=>exact HC0.out);rintro e w7 ⟨rfl,hb⟩;replace HB:=Zq.st hb;(try clear hb)))
    go_meet
    case rel=>exact ⟨_,(true),Zs.auS,H',⟨Zs.auN⟩,⟨Zs.auHB⟩⟩
   ·obtain ⟨t74,A8,H⟩:=Zs.be H;have H':=Aa.mk H;clear H
    go_wp2_with (first|(go_at_call 59;(with_reducible refine (Am.calls k _ _ l0 true _ ?side1 ?side2 A4.out).mono ?_);(case side1=>exact Zs.mvC ((Kd.BF HR0.out HB.out)));(case side2=>exact HC0.out);rintro e w9 ⟨rfl,hb⟩;replace HB:=Zq.st hb;(try clear hb))|(go_at_call 86;(with_reducible refine (DG.calls a1 t74 _ A8.out).mono ?_);rintro e w' ⟨rfl,⟨nd,rfl⟩⟩;(try exact Zq.dd)))
    go_meet
    case rel=>exact ⟨_,(!t74),Zs.auS,H',⟨Zs.auN⟩,⟨Zs.auHB⟩⟩
 case rest =>
  clear HC3
  obtain ⟨kq,x33_2,rfl,HA,HJ2,HB⟩:=hcut;cases kq with
  | zero=>exact absurd HA.out (by simp [Ad.j0])
  | succ kj2 =>
   have H:=HA.out;clear HA;simp only [Ad.j0] at H
   cases x33_2
   ·replace H:=Zq.fh H;obtain ⟨y75,hyy⟩ : ∃y_:List Int,y_=(([]:List Int)):=⟨_,rfl⟩
    replace H:((BI.f kj2 l0).bind fun bt78=>(if bt78.2=true then Ad.l0 kj2 l0 a1 y75 bt78.1 0 else (Bn.f l0).bind fun t91=>(if t91.length<17592186044416 then (BI.f kj2 (t91++[wrap64 (-a1)])).bind fun bt97=>(if bt97.2=true then (if 0≤(l0.length:Int) then (if (l0.length:Int)≤(bt97.1.length:Int) then (if (l0.length:Int)<(bt97.1.length:Int) then (Ad.j3 kj2 (bt97.1.take ((l0.length:Int):Int).toNat) (rd bt97.1 (l0.length:Int))) else none) else none) else none) else some (([]:List Int),0,false)) else none)))=some (r1,r2,r3):=Zs.auY
    have Ny75:=Aa.mk hyy;clear hyy;obtain ⟨t78,t79,A12,H⟩:=Zq.bp H;try dsimp only at H;have HC13:=Aa.mk H;clear H
    go_upto_if 40 with (first|((with_reducible refine Bb (N:=34) rfl ?_);(try (refine Dr (by rfl) ?_;dsimp only));refine Zq.li ([]:List Int) ?_;intro v76 w14 ho15 hb;(first|rw [← Ny75.out] at ho15|(simp only [Int.reduceToNat] at ho15;rw [← Ny75.out] at ho15));have HO77:=Zq.lw ho15;replace HB:=Zq.st hb;clear hb ho15)|(go_at_call 37;(with_reducible refine (BI.calls kj2 _ _ l0 t78 t79 _ ?side1 ?side2 A12.out).mono ?_);(case side1=>exact Zs.mvC ((Kd.BF HR0.out HB.out)));(case side2=>exact HC0.out);rintro e w16 ⟨v80,rfl,ho0,hb⟩;have HO81:=Aa.mk (Kd.Bp (Kd.Br ho0 (Zq.lt HO77.out)) (Ay (Zs.auHB)));replace HO77:=Zq.el HO77.out ho0 hb;replace HB:=Zq.st hb;(try clear hb);(try clear ho0)))
    (try simp only [Act.put,List.setIfInBounds_toArray,List.set_cons_zero,List.set_cons_succ])
    go_cut [7,8] (fun v7 v8 wc => ∃(kq:Nat) (x7_12:List Int) (x8_12:Int),v8 = .int .i64 x8_12∧Aa (Ad.j3 kq x7_12 x8_12=some (r1,r2,r3))∧Aa (kq≤kj2)∧Aa (Kd.R (Kd.int .i64) 3 wc w.heap.size (fun _=>True) v7 x7_12)∧Aa (Below w.heap.size w wc))
    case first =>
     have H:=HC13.out;clear HC13
     cases t79
     ·replace H:=Zq.fh H;obtain ⟨t91,A35,H⟩:=Zs.be H
      obtain ⟨c36,H⟩:=Zq.ip H;have LMc36:=Aa.mk c36;clear c36;generalize hyy:(t91++[wrap64 (-a1)]:List Int)=y94 at H;have Ny94:=Aa.mk hyy.symm;clear hyy;obtain ⟨t97,t98,A37,H⟩:=Zq.bp H;try dsimp only at H
      cases t98
      ·replace H:=Zq.fh H;simp only [Option.some.injEq,Prod.mk.injEq] at H;obtain ⟨rfl,rfl,rfl⟩:=H
       go_wp2_with (first|(go_at_call 87;(with_reducible refine (Bn.calls _ _ l0 t91 _ ?side1 ?side2 A35.out).mono ?_);(case side1=>exact Zs.mvC ((Kd.BF HR0.out HB.out)));(case side2=>exact HC0.out);rintro e w49 ⟨v92,rfl,ho0,hb⟩;have HO93:=Aa.mk (Kd.Bp (Kd.Br (Kd.Br ho0 (Zq.lt HO77.out)) (Zq.lt HO81.out)) (Ay (Zs.auHB)));replace HO77:=Zq.el HO77.out ho0 hb;replace HO81:=Zq.el HO81.out ho0 hb;replace HB:=Zq.st hb;(try clear hb);(try clear ho0))|((with_reducible refine AY (b := .append) (xs:=#[.tmp 83,.tmp 86]) rfl ?_);(try (refine Dr (by rfl) ?_;dsimp only));at_builtin;refine Zq.ap (.tmp 83) (.tmp 86) 27 Tryz.underlying27 DS v92 t91 (wrap64 (-a1)) (fun k_=>some k_≠(v76:Value).ownBlock∧some k_≠(v80:Value).ownBlock) (fun k_ hk=>⟨Kd.DF (Zq.lt HO77.out) k_ hk,Kd.DF (Zq.lt HO81.out) k_ hk⟩) ((Zs.mvR (Kd.AB HO93.out (fun _ hk=>⟨hk.1.2,hk.2⟩)))) LMc36.out ?_;intro v95 w50 ho hb hg hat;rw [← Ny94.out] at ho;replace HO77:=Aa.mk (Kd.BW (ok:=(fun k_=>some k_≠(v80:Value).ownBlock)) ((Zs.mvR (Kd.AB HO77.out (fun _ hk=>⟨hk.1.2,hk.2⟩)))) hg hat);replace HO81:=Aa.mk (Kd.BW (ok:=(fun k_=>some k_≠(v76:Value).ownBlock)) ((Zs.mvR (Kd.AB HO81.out (fun _ hk=>⟨hk.1.2,hk.2⟩)))) hg hat);replace HB:=Aa.mk (hb);have HO96:=Aa.mk (ho);clear HO93;clear ho hb hg hat;obtain ⟨Ao51,co51,eo51⟩:=Kd.Az HO96.out;subst eo51)|(go_at_call 37;(with_reducible refine (BI.calls kj2 _ _ y94 t97 false _ ?side1 ?side2 A37.out).mono ?_);(case side1=>exact Zs.mvC ((Kd.Ac HO96.out).2.2));(case side2=>exact (Kd.Ac HO96.out).2.1);rintro e w52 ⟨v99,rfl,ho0,hb⟩;have HO318:=Aa.mk (Kd.Bp (Kd.Br (Kd.Br (Kd.Br ho0 (Zq.lt HO77.out)) (Zq.lt HO81.out)) (Zq.lt HO96.out)) (Ay (Zs.auHB)));replace HO77:=Zq.el HO77.out ho0 hb;replace HO81:=Zq.el HO81.out ho0 hb;replace HO96:=Zq.el HO96.out ho0 hb;replace HB:=Zq.st hb;(try clear hb);(try clear ho0)))
       go_ret3
       exact ⟨_,Zs.auR,Zq.nl,Zs.auHB⟩
      ·replace H:=Zq.th H
       obtain ⟨c39,H⟩:=Zq.ip H;have c39b0:=eq_true c39;have c39b1:=decide_eq_true c39;clear c39
       obtain ⟨c40,H⟩:=Zq.ip H;have c40b1:=decide_eq_true c40;clear c40;generalize hyy:(t97.take ((l0.length:Int):Int).toNat:List Int)=y319 at H;have Ny319:=Aa.mk hyy.symm;clear hyy
       obtain ⟨c41b0,H⟩:=Zq.pd H;have H':=Aa.mk H;clear H
       go_wp2_with (first|(go_at_call 87;(with_reducible refine (Bn.calls _ _ l0 t91 _ ?side1 ?side2 A35.out).mono ?_);(case side1=>exact Zs.mvC ((Kd.BF HR0.out HB.out)));(case side2=>exact HC0.out);rintro e w42 ⟨v92,rfl,ho0,hb⟩;have HO93:=Aa.mk (Kd.Bp (Kd.Br (Kd.Br ho0 (Zq.lt HO77.out)) (Zq.lt HO81.out)) (Ay (Zs.auHB)));replace HO77:=Zq.el HO77.out ho0 hb;replace HO81:=Zq.el HO81.out ho0 hb;replace HB:=Zq.st hb;(try clear hb);(try clear ho0))|((with_reducible refine AY (b := .append) (xs:=#[.tmp 83,.tmp 86]) rfl ?_);(try (refine Dr (by rfl) ?_;dsimp only));at_builtin;refine Zq.ap (.tmp 83) (.tmp 86) 27 Tryz.underlying27 DS v92 t91 (wrap64 (-a1)) (fun k_=>some k_≠(v76:Value).ownBlock∧some k_≠(v80:Value).ownBlock) (fun k_ hk=>⟨Kd.DF (Zq.lt HO77.out) k_ hk,Kd.DF (Zq.lt HO81.out) k_ hk⟩) ((Zs.mvR (Kd.AB HO93.out (fun _ hk=>⟨hk.1.2,hk.2⟩)))) LMc36.out ?_;intro v95 w43 ho hb hg hat;rw [← Ny94.out] at ho;replace HO77:=Aa.mk (Kd.BW (ok:=(fun k_=>some k_≠(v80:Value).ownBlock)) ((Zs.mvR (Kd.AB HO77.out (fun _ hk=>⟨hk.1.2,hk.2⟩)))) hg hat);replace HO81:=Aa.mk (Kd.BW (ok:=(fun k_=>some k_≠(v76:Value).ownBlock)) ((Zs.mvR (Kd.AB HO81.out (fun _ hk=>⟨hk.1.2,hk.2⟩)))) hg hat);replace HB:=Aa.mk (hb);have HO96:=Aa.mk (ho);clear HO93;clear ho hb hg hat;obtain ⟨Ao44,co44,eo44⟩:=Kd.Az HO96.out;subst eo44)|(go_at_call 37;(with_reducible refine (BI.calls kj2 _ _ y94 t97 true _ ?side1 ?side2 A37.out).mono ?_);(case side1=>exact Zs.mvC ((Kd.Ac HO96.out).2.2));(case side2=>exact (Kd.Ac HO96.out).2.1);rintro e w45 ⟨v99,rfl,ho0,hb⟩;have HO318:=Aa.mk (Kd.Bp (Kd.Br (Kd.Br (Kd.Br ho0 (Zq.lt HO77.out)) (Zq.lt HO81.out)) (Zq.lt HO96.out)) (Ay (Zs.auHB)));replace HO77:=Zq.el HO77.out ho0 hb;replace HO81:=Zq.el HO81.out ho0 hb;replace HO96:=Zq.el HO96.out ho0 hb;replace HB:=Zq.st hb;(try clear hb);(try clear ho0);obtain ⟨Ao47,co47,eo47⟩:=Kd.Az HO318.out;subst eo47;have q46:((l0.length:Int):Int)≤((t97.length:Int):Int):=Zs.od;obtain ⟨i046,hi5,_,hsz46,_⟩:=info_parts DS;have hroom46:t97.length≤co47:=(Kd.Ac HO318.out).2.1;have hC46:Kd.C (Kd.int .i64) _ Ao47 t97.length t97:=(Kd.Ac HO318.out).2.2;have hcut46:=Mi (P:=Tryz.prog) 27 3 .i64 Tryz.underlying27 hi5 Ao47 t97.length co47 (l0.length:Int) (Zs.od) q46 hroom46;have hr46:=Kd.NO (m:=((l0.length:Int):Int).toNat) hC46 (by omega);have hy46:y319.length=((l0.length:Int):Int).toNat:=(by rw [Ny319.out,List.length_take];omega);rw [← Ny319.out] at hr46;rw [← hy46] at hcut46;have HR322:=Aa.mk hr46;have HC322:=Aa.mk (show y319.length≤co47 from by omega);clear hr46 hC46 hroom46 hi5 hsz46;have KY46:=Aa.mk hy46;clear hy46;have KL46:=Aa.mk (show ((l0.length:Int):Int).toNat≤t97.length from by omega);replace q46:=eq_true q46;obtain ⟨ad323,e323,hx323_0,p323,q323⟩:=Zq.at_ (Kd.Ac HO318.out).2.2 (l0.length:Int);cases e323;(try simp only [Go.IntWalk.toNatUp] at hx323_0)))
       repeat (go_quiet (fail);try go_wp2_with (first|(go_at_call 87;(with_reducible refine (Bn.calls _ _ l0 t91 _ ?side1 ?side2 A35.out).mono ?_);(case side1=>exact Zs.mvC ((Kd.BF HR0.out HB.out)));(case side2=>exact HC0.out);rintro e w42 ⟨v92,rfl,ho0,hb⟩;have HO93:=Aa.mk (Kd.Bp (Kd.Br (Kd.Br ho0 (Zq.lt HO77.out)) (Zq.lt HO81.out)) (Ay (Zs.auHB)));replace HO77:=Zq.el HO77.out ho0 hb;replace HO81:=Zq.el HO81.out ho0 hb;replace HB:=Zq.st hb;(try clear hb);(try clear ho0))|((with_reducible refine AY (b := .append) (xs:=#[.tmp 83,.tmp 86]) rfl ?_);(try (refine Dr (by rfl) ?_;dsimp only));at_builtin;refine Zq.ap (.tmp 83) (.tmp 86) 27 Tryz.underlying27 DS v92 t91 (wrap64 (-a1)) (fun k_=>some k_≠(v76:Value).ownBlock∧some k_≠(v80:Value).ownBlock) (fun k_ hk=>⟨Kd.DF (Zq.lt HO77.out) k_ hk,Kd.DF (Zq.lt HO81.out) k_ hk⟩) ((Zs.mvR (Kd.AB HO93.out (fun _ hk=>⟨hk.1.2,hk.2⟩)))) LMc36.out ?_;intro v95 w43 ho hb hg hat;rw [← Ny94.out] at ho;replace HO77:=Aa.mk (Kd.BW (ok:=(fun k_=>some k_≠(v80:Value).ownBlock)) ((Zs.mvR (Kd.AB HO77.out (fun _ hk=>⟨hk.1.2,hk.2⟩)))) hg hat);replace HO81:=Aa.mk (Kd.BW (ok:=(fun k_=>some k_≠(v76:Value).ownBlock)) ((Zs.mvR (Kd.AB HO81.out (fun _ hk=>⟨hk.1.2,hk.2⟩)))) hg hat);replace HB:=Aa.mk (hb);have HO96:=Aa.mk (ho);clear HO93;clear ho hb hg hat;obtain ⟨Ao44,co44,eo44⟩:=Kd.Az HO96.out;subst eo44)|(go_at_call 37;(with_reducible refine (BI.calls kj2 _ _ y94 t97 true _ ?side1 ?side2 A37.out).mono ?_);(case side1=>exact Zs.mvC ((Kd.Ac HO96.out).2.2));(case side2=>exact (Kd.Ac HO96.out).2.1);rintro e w45 ⟨v99,rfl,ho0,hb⟩;have HO318:=Aa.mk (Kd.Bp (Kd.Br (Kd.Br (Kd.Br ho0 (Zq.lt HO77.out)) (Zq.lt HO81.out)) (Zq.lt HO96.out)) (Ay (Zs.auHB)));replace HO77:=Zq.el HO77.out ho0 hb;replace HO81:=Zq.el HO81.out ho0 hb;replace HO96:=Zq.el HO96.out ho0 hb;replace HB:=Zq.st hb;(try clear hb);(try clear ho0);obtain ⟨Ao47,co47,eo47⟩:=Kd.Az HO318.out;subst eo47;have q46:((l0.length:Int):Int)≤((t97.length:Int):Int):=Zs.od;obtain ⟨i046,hi5,_,hsz46,_⟩:=info_parts DS;have hroom46:t97.length≤co47:=(Kd.Ac HO318.out).2.1;have hC46:Kd.C (Kd.int .i64) _ Ao47 t97.length t97:=(Kd.Ac HO318.out).2.2;have hcut46:=Mi (P:=Tryz.prog) 27 3 .i64 Tryz.underlying27 hi5 Ao47 t97.length co47 (l0.length:Int) (Zs.od) q46 hroom46;have hr46:=Kd.NO (m:=((l0.length:Int):Int).toNat) hC46 (by omega);have hy46:y319.length=((l0.length:Int):Int).toNat:=(by rw [Ny319.out,List.length_take];omega);rw [← Ny319.out] at hr46;rw [← hy46] at hcut46;have HR322:=Aa.mk hr46;have HC322:=Aa.mk (show y319.length≤co47 from by omega);clear hr46 hC46 hroom46 hi5 hsz46;have KY46:=Aa.mk hy46;clear hy46;have KL46:=Aa.mk (show ((l0.length:Int):Int).toNat≤t97.length from by omega);replace q46:=eq_true q46;obtain ⟨ad323,e323,hx323_0,p323,q323⟩:=Zq.at_ (Kd.Ac HO318.out).2.2 (l0.length:Int);cases e323;(try simp only [Go.IntWalk.toNatUp] at hx323_0))))
       have HOcv48:=Aa.mk (sh_pre HO318.out Ny319.out)
       go_meet
       case rel=>exact ⟨_,(y319),(rd t97 (l0.length:Int)),Zs.auS,H',⟨by have:=HJ2.out;first|omega|exact Nat.le_refl _⟩,⟨(Zs.mvR (Kd.AB HOcv48.out (fun _ hk=>trivial)))⟩,⟨Zs.auHB⟩⟩
     ·replace H:=Zq.th H;have H':=Aa.mk H;clear H;go_wp2
      go_loopg [11] kj2 (fun kq v11 w' => ∃x11_2:Int,v11 = .int .i64 x11_2∧Aa (Ad.l0 kq l0 a1 y75 t78 x11_2=some (r1,r2,r3))∧Aa (kq≤kj2)∧Aa (Kd.R (Kd.int .i64) 3 w' w.heap.size (fun k_=>some k_≠(v80:Value).ownBlock) v76 y75)∧Aa (Kd.R (Kd.int .i64) 3 w' w.heap.size (fun k_=>some k_≠(v76:Value).ownBlock) v80 t78)∧Aa (Below w.heap.size w w'))
      case atStart=>exact ⟨(0),Zs.auS,H',⟨Nat.le_refl _⟩,⟨(Zs.mvR (Kd.AB HO77.out Zq.tk))⟩,⟨(Zs.mvR (Kd.AB HO81.out Zq.tk))⟩,⟨Zs.auHB⟩⟩
      case round =>
       clear H'
       obtain ⟨x11_2,rfl,HA,HK2,HO_7,HO_9,HB⟩:=hrel;cases gk with
       | zero=>exact absurd HA.out (by simp [Ad.l0])
       | succ k2 =>
        have H:=HA.out;clear HA;simp only [Ad.l0] at H
        obtain ⟨c18b0,H⟩:=Zq.pd H
        obtain ⟨c19b0,H⟩:=Zq.pd H
        rcases Zq.jn H with ⟨c20b0,H⟩|⟨c20,c20b0,H⟩
        ·have H':=Aa.mk H;clear H;obtain ⟨Ao21,co21,eo21⟩:=Kd.Az HO_9.out;subst eo21;obtain ⟨ad82,e82,hx82_0,p82,q82⟩:=Zq.at_ (Kd.Ac HO_9.out).2.2 x11_2;cases e82;go_wp2
         go_roundg k2
         case measure=>have:=HJ2.out;have:=HK2.out;omega
         case rel=>exact ⟨(wrap64 (x11_2+1)),Zs.auS,H',⟨by have:=HJ2.out;have:=HK2.out;omega⟩,⟨(Zs.mvR HO_7.out)⟩,⟨(Zs.mvR HO_9.out)⟩,⟨Zs.auHB⟩⟩
        ·obtain ⟨c22b0,H⟩:=Zq.pd H;have H':=Aa.mk H;clear H;obtain ⟨Ao23,co23,eo23⟩:=Kd.Az HO_9.out;subst eo23;obtain ⟨ad82,e82,hx82_0,p82,q82⟩:=Zq.at_ (Kd.Ac HO_9.out).2.2 x11_2;cases e82;obtain ⟨ad83,e83,hx83_0,p83,q83⟩:=Zq.at_ HR0.out x11_2;cases e83;replace hx83_0:=Zq.ce HB.out hx83_0;obtain ⟨ad84,e84,hx84_0,p84,q84⟩:=Zq.at_ (Kd.Ac HO_9.out).2.2 x11_2;obtain rfl:ad82=ad84:=(by injection e84);go_wp2
         go_loopg [7,61] k2 (fun kq v7 v61 w' => ∃(x7_3:List Int) (x61_3:Int),v61 = .int .i64 x61_3∧Aa (Ad.l1 kq a1 x7_3 (wrap64 ((wrap64 (2*(rd l0 x11_2)))*(rd t78 x11_2))) x11_2 (rd l0 x11_2) t78 (t78.length:Int) x61_3=some (r1,r2,r3))∧Aa (kq≤k2)∧Aa (Kd.R (Kd.int .i64) 3 w' w.heap.size (fun k_=>some k_≠((.slice (some ad82) t78.length co23):Value).ownBlock) v7 x7_3)∧Aa (Kd.R (Kd.int .i64) 3 w' w.heap.size (fun k_=>some k_≠(v7:Value).ownBlock) (.slice (some ad82) t78.length co23) t78)∧Aa (Below w.heap.size w w'))
         case atStart=>exact ⟨(y75),(0),Zs.auS,H',⟨Nat.le_refl _⟩,⟨(Zs.mvR HO_7.out)⟩,⟨(Zs.mvR HO_9.out)⟩,⟨Zs.auHB⟩⟩
         case round =>
          clear H'
          obtain ⟨x7_3,x61_3,rfl,HA,HK3,HO_7,HO_59,HB⟩:=hrel;cases gk with
          | zero=>exact absurd HA.out (by simp [Ad.l1])
          | succ k3 =>
           have H:=HA.out;clear HA;simp only [Ad.l1] at H
           rcases Zq.jd H with ⟨c24b0,H⟩|⟨c24b0,H⟩
           ·obtain ⟨c25b0,H⟩:=Zq.pd H
            obtain ⟨c26b0,H⟩:=Zq.pd H
            obtain ⟨c27,H⟩:=Zq.ip H;have LMc27:=Aa.mk c27;clear c27;generalize hyy:(x7_3++[wrap64 ((rd t78 x61_3)*(wrap64 (a1-(rd l0 x11_2))))]:List Int)=y86 at H;have Ny86:=Aa.mk hyy.symm;clear hyy;have H':=Aa.mk H;clear H;obtain ⟨ad85,e85,hx85_0,p85,q85⟩:=Zq.at_ (Kd.Ac HO_59.out).2.2 x61_3;obtain rfl:ad82=ad85:=(by injection e85)
            go_wp2_with (((with_reducible refine AY (b := .append) (xs:=#[.tmp 65,.tmp 71]) rfl ?_);(try (refine Dr (by rfl) ?_;dsimp only));at_builtin;refine Zq.ap (.tmp 65) (.tmp 71) 27 Tryz.underlying27 DS u7 x7_3 (wrap64 ((rd t78 x61_3)*(wrap64 (a1-(rd l0 x11_2))))) (fun k_=>some k_≠(.slice (some ad82) t78.length co23:Value).ownBlock) (fun k_ hk=>Kd.DF (Zq.lt HO_59.out) k_ hk) ((Zs.mvR HO_7.out)) LMc27.out ?_;intro v87 w28 ho hb hg hat;rw [← Ny86.out] at ho;replace HO_59:=Aa.mk (Kd.BW (ok:=(fun _=>True)) ((Zs.mvR (Kd.AB HO_59.out (fun _ hk=>⟨trivial,hk⟩)))) hg hat);replace HB:=Aa.mk (hb);have HO88:=Aa.mk (ho);clear HO_7;clear ho hb hg hat))
            go_roundg k3
            case measure=>have:=HJ2.out;have:=HK2.out;have:=HK3.out;omega
            case rel=>exact ⟨(y86),(wrap64 (x61_3+1)),Zs.auS,H',⟨by have:=HJ2.out;have:=HK2.out;have:=HK3.out;omega⟩,⟨(Zs.mvR HO88.out)⟩,⟨(Zs.mvR (Kd.AB HO_59.out Zq.tk))⟩,⟨Zs.auHB⟩⟩
           ·obtain ⟨c29b0,H⟩:=Zq.pd H
            obtain ⟨c30b0,H⟩:=Zq.pd H;generalize hyy:(x7_3.set (x11_2:Int).toNat (wrap64 ((rd x7_3 x11_2)+(wrap64 ((wrap64 (2*(rd l0 x11_2)))*(rd t78 x11_2))))):List Int)=y90 at H;have Ny90:=Aa.mk hyy.symm;clear hyy;have H':=Aa.mk H;clear H;obtain ⟨Ao32,co32,eo32⟩:=Kd.Az HO_7.out;subst eo32;obtain ⟨ad89,e89,hx89_0,p89,q89⟩:=Zq.at_ (Kd.Ac HO_7.out).2.2 x11_2;cases e89;have p31:0≤(x11_2:Int):=Zs.od;have q31:(x11_2:Int)<((x7_3.length:Int):Int):=Zs.od;obtain ⟨go31,co31,eo31,gb31,gl31,cl31,HG31⟩:=Kd.E7 HO_7.out (by omega)
            (first|cases eo31|(injection eo31 with ea_ en_ ec_;(first|subst ea_|(injection ea_ with ea_;subst ea_));subst ec_;clear en_))
            have GB31:=Aa.mk gb31;have GG31:=Aa.mk HG31;clear gb31 gl31 HG31
            (first|simp only [add_plain] at hx89_0|skip)
            obtain ⟨hx31_0,hf31_0⟩:=Kd.Co 0 HO_7.out (x11_2:Int) p31 q31;replace p31:=eq_true p31;replace q31:=eq_true q31;have HP33:=Kd.DV HO_7.out (x11_2:Int) (wrap64 ((rd x7_3 x11_2)+(wrap64 ((wrap64 (2*(rd l0 x11_2)))*(rd t78 x11_2)))))
            go_wp2_with (((with_reducible refine CA (t:=3) (p:=80) rfl ?_);(try (rw [G9 wr];generalize hq_:World.drewN wr _=wr;replace HO_7:=Aa.mk (Kd.R_at hq_ HO_7.out);replace HO_59:=Aa.mk (Kd.R_at hq_ HO_59.out);replace HB:=Aa.mk (below_at hq_ HB.out);clear hq_;(try (have HP33:=Kd.DV HO_7.out (x11_2:Int) (wrap64 ((rd x7_3 x11_2)+(wrap64 ((wrap64 (2*(rd l0 x11_2)))*(rd t78 x11_2)))))))));refine Cb (t:=3) (p:=80) (v:=?vo_w34) (w1:=(wr.setCell ⟨go31,(x11_2:Int).toNat,none⟩ (.int .i64 (wrap64 ((rd x7_3 x11_2)+(wrap64 ((wrap64 (2*(rd l0 x11_2)))*(rd t78 x11_2)))))))) ?hg ?ho ?hn ?hr ?_;(case ho=>rfl);(case hg=>rfl);(case hn=>rfl);(case hr=>first|(go_simp;done)|(go_simp;rfl));intro w34 hw;have hg:wr.grownBy w34 (some go31):=(by rw [hw];exact HP33.2);have hp_:Kd.R (Kd.int .i64) 3 w34 w.heap.size (fun k_=>some k_≠(.slice (some ad82) t78.length co23:Value).ownBlock) (.slice (some ⟨go31,0,none⟩) x7_3.length co32) y90:=(by rw [hw,Ny90.out];exact HP33.1);clear HP33;replace HO_7:=Aa.mk (hp_);replace HO_59:=Aa.mk (Kd.BW (v:=(.slice (some ⟨go31,0,none⟩) x7_3.length co32)) (v1:=(.slice (some ⟨go31,0,none⟩) x7_3.length co32)) (ok:=(fun _=>True)) ((Zs.mvR (Kd.AB HO_59.out (fun _ hk=>⟨trivial,hk⟩)))) hg (.inl rfl));replace HB:=Aa.mk ((by rw [hw];exact AE (HB.out) GB31.out:Below w.heap.size w w34));clear hg hw hp_))
            go_meet
            case rel=>exact ⟨_,(y90),((wrap64 ((wrap64 (2*(rd l0 x11_2)))*(rd t78 x11_2)))),Zs.auS,H',⟨by have:=HJ2.out;have:=HK2.out;have:=HK3.out;first|omega|exact Nat.le_refl _⟩,⟨(Zs.mvR (Kd.AB HO_7.out (fun _ hk=>trivial)))⟩,⟨Zs.auHB⟩⟩
    case rest =>
     clear HC13
     obtain ⟨kq,x7_12,x8_12,rfl,HA,HJ12,HO_7,HB⟩:=hcut;cases kq with
     | zero=>exact absurd HA.out (by simp [Ad.j3])
     | succ kj12 =>
      have H:=HA.out;clear HA;simp only [Ad.j3] at H;obtain ⟨t324,A53,H⟩:=Zs.be H
      obtain ⟨c54,H⟩:=Zq.ip H;have LMc54:=Aa.mk c54;clear c54;generalize hyy:(t324++[x8_12]:List Int)=y327 at H;have Ny327:=Aa.mk hyy.symm;clear hyy;obtain ⟨t330,A55,H⟩:=Zs.be H;have HC56:=Aa.mk H;clear H;obtain ⟨Ao57,co57,eo57⟩:=Kd.Az HO_7.out;subst eo57
      go_upto_if 109 with (first|(go_at_call 87;(with_reducible refine (Bn.calls _ _ x7_12 t324 _ ?side1 ?side2 A53.out).mono ?_);(case side1=>exact Zs.mvC ((Kd.Ac HO_7.out).2.2));(case side2=>exact (Kd.Ac HO_7.out).2.1);rintro e w58 ⟨v325,rfl,ho0,hb⟩;have HO326:=Aa.mk (Kd.Bp (Kd.Br ho0 (Zq.lt HO_7.out)) (Ay (Zs.auHB)));replace HO_7:=Zq.el HO_7.out ho0 hb;replace HB:=Zq.st hb;(try clear hb);(try clear ho0))|((with_reducible refine AY (b := .append) (xs:=#[.tmp 103,.tmp 105]) rfl ?_);(try (refine Dr (by rfl) ?_;dsimp only));at_builtin;refine Zq.ap (.tmp 103) (.tmp 105) 27 Tryz.underlying27 DS v325 t324 x8_12 (fun k_=>some k_≠(.slice Ao57 x7_12.length co57:Value).ownBlock) (fun k_ hk=>Kd.DF (Zq.lt HO_7.out) k_ hk) ((Zs.mvR (Kd.AB HO326.out Zq.tk))) LMc54.out ?_;intro v328 w59 ho hb hg hat;rw [← Ny327.out] at ho;replace HO_7:=Aa.mk (Kd.BW (ok:=(fun _=>True)) ((Zs.mvR HO_7.out)) hg hat);replace HB:=Aa.mk (hb);have HO329:=Aa.mk (ho);clear HO326;clear ho hb hg hat;obtain ⟨Ao60,co60,eo60⟩:=Kd.Az HO329.out;subst eo60)|(go_at_call 88;(with_reducible refine (Cj.calls kj12 _ _ y327 t330 _ ?side1 ?side2 A55.out).mono ?_);(case side1=>exact Zs.mvC ((Kd.Ac HO329.out).2.2));(case side2=>exact (Kd.Ac HO329.out).2.1);rintro e w61 ⟨rfl,hb⟩;replace HO_7:=Zq.rb HO_7.out hb;replace HO329:=Zq.rb HO329.out hb;replace HB:=Zq.st hb;(try clear hb)))
      (try simp only [Act.put,List.setIfInBounds_toArray,List.set_cons_zero,List.set_cons_succ])
      go_cut [17] (fun v17 wc => ∃(kq:Nat) (x17_55:Int),v17 = .int .i64 x17_55∧Aa (Ad.j4 kq x7_12 x8_12 x17_55=some (r1,r2,r3))∧Aa (kq≤kj12)∧Aa (Kd.R (Kd.int .i64) 3 wc w.heap.size (fun _=>True) (.slice Ao57 x7_12.length co57) x7_12)∧Aa (Below w.heap.size w wc))
      case first =>
       have H:=HC56.out;clear HC56
       rcases Zq.jd H with ⟨c62b0,H⟩|⟨c62b0,H⟩
       ·rw [c62b0]
        have H':=Aa.mk H;clear H;go_wp2
        go_meet
        case rel=>exact ⟨_,(wrap64 (-t330)),Zs.auS,H',⟨by have:=HJ2.out;have:=HJ12.out;first|omega|exact Nat.le_refl _⟩,⟨(Zs.mvR (Kd.AB HO_7.out (fun _ hk=>trivial)))⟩,⟨Zs.auHB⟩⟩
       ·rw [c62b0]
        have H':=Aa.mk H;clear H;go_wp2
        go_meet
        case rel=>exact ⟨_,(t330),Zs.auS,H',⟨by have:=HJ2.out;have:=HJ12.out;first|omega|exact Nat.le_refl _⟩,⟨(Zs.mvR (Kd.AB HO_7.out (fun _ hk=>trivial)))⟩,⟨Zs.auHB⟩⟩
      case rest =>
       clear HC56
       obtain ⟨kq,x17_55,rfl,HA,HJ55,HO_7,HB⟩:=hcut;cases kq with
       | zero=>exact absurd HA.out (by simp [Ad.j4])
       | succ kj55 =>
        have H:=HA.out;clear HA;simp only [Ad.j4] at H;obtain ⟨y331,hyy⟩ : ∃y_:List Int,y_=(([]:List Int)):=⟨_,rfl⟩
        replace H:(Ad.l2 kj55 x8_12 x17_55 y331 x7_12 (x7_12.length:Int) 0)=some (r1,r2,r3):=Zs.auY
        have Ny331:=Aa.mk hyy;clear hyy;have H':=Aa.mk H;clear H
        go_wp2_with (((with_reducible refine Bb (N:=112) rfl ?_);(try (refine Dr (by rfl) ?_;dsimp only));refine Zq.li ([]:List Int) ?_;intro v332 w63 ho64 hb;(first|rw [← Ny331.out] at ho64|(simp only [Int.reduceToNat] at ho64;rw [← Ny331.out] at ho64));have HO333:=Aa.mk (Kd.Bp (Kd.Br ho64 (Zq.lt HO_7.out)) (Ay (Zs.auHB)));replace HO_7:=Zq.el HO_7.out ho64 hb;replace HB:=Zq.st hb;clear hb ho64))
        go_loopg [18,115] kj55 (fun kq v18 v72 w' => ∃(x18_4:List Int) (x72_4:Int),v72 = .int .i64 x72_4∧Aa (Ad.l2 kq x8_12 x17_55 x18_4 x7_12 (x7_12.length:Int) x72_4=some (r1,r2,r3))∧Aa (kq≤kj55)∧Aa (Kd.R (Kd.int .i64) 3 w' w.heap.size (fun k_=>some k_≠((.slice Ao57 x7_12.length co57):Value).ownBlock) v18 x18_4)∧Aa (Kd.R (Kd.int .i64) 3 w' w.heap.size (fun k_=>some k_≠(v18:Value).ownBlock) (.slice Ao57 x7_12.length co57) x7_12)∧Aa (Below w.heap.size w w'))
        case atStart=>exact ⟨(y331),(0),Zs.auS,H',⟨Nat.le_refl _⟩,⟨(Zs.mvR (Kd.AB HO333.out Zq.tk))⟩,⟨(Zs.mvR (Kd.AB HO_7.out Zq.tk))⟩,⟨Zs.auHB⟩⟩
        case round =>
         clear H'
         obtain ⟨x18_4,x72_4,rfl,HA,HK4,HO_18,HO_38,HB⟩:=hrel;cases gk with
         | zero=>exact absurd HA.out (by simp [Ad.l2])
         | succ k4 =>
          have H:=HA.out;clear HA;simp only [Ad.l2] at H
          rcases Zq.jd H with ⟨c65b0,H⟩|⟨c65b0,H⟩
          ·obtain ⟨c66b0,H⟩:=Zq.pd H
           obtain ⟨c67b0,H⟩:=Zq.pd H
           rcases Zq.ii H with ⟨c68,H⟩|⟨c68,H⟩
           ·exact absurd H (by simp)
           ·obtain ⟨c69,H⟩:=Zq.ip H;have LMc69:=Aa.mk c69;clear c69;generalize hyy:(x18_4++[wrap64 (Int.tdiv (rd x7_12 x72_4) x17_55)]:List Int)=y335 at H;have Ny335:=Aa.mk hyy.symm;clear hyy;have H':=Aa.mk H;clear H;obtain ⟨ad334,e334,hx334_0,p334,q334⟩:=Zq.at_ (Kd.Ac HO_38.out).2.2 x72_4;cases e334
            go_wp2_with (((with_reducible refine AY (b := .append) (xs:=#[.tmp 119,.tmp 123]) rfl ?_);(try (refine Dr (by rfl) ?_;dsimp only));at_builtin;refine Zq.ap (.tmp 119) (.tmp 123) 27 Tryz.underlying27 DS u18 x18_4 (wrap64 (Int.tdiv (rd x7_12 x72_4) x17_55)) (fun k_=>some k_≠(.slice (some ad334) x7_12.length co57:Value).ownBlock) (fun k_ hk=>Kd.DF (Zq.lt HO_38.out) k_ hk) ((Zs.mvR HO_18.out)) LMc69.out ?_;intro v336 w70 ho hb hg hat;rw [← Ny335.out] at ho;replace HO_38:=Aa.mk (Kd.BW (ok:=(fun _=>True)) ((Zs.mvR (Kd.AB HO_38.out (fun _ hk=>⟨trivial,hk⟩)))) hg hat);replace HB:=Aa.mk (hb);have HO337:=Aa.mk (ho);clear HO_18;clear ho hb hg hat))
            go_roundg k4
            case measure=>have:=HJ2.out;have:=HJ12.out;have:=HJ55.out;have:=HK4.out;omega
            case rel=>exact ⟨(y335),(wrap64 (x72_4+1)),Zs.auS,H',⟨by have:=HJ2.out;have:=HJ12.out;have:=HJ55.out;have:=HK4.out;omega⟩,⟨(Zs.mvR HO337.out)⟩,⟨(Zs.mvR (Kd.AB HO_38.out Zq.tk))⟩,⟨Zs.auHB⟩⟩
          ·rcases Zq.ii H with ⟨c71,H⟩|⟨c71,H⟩
           ·exact absurd H (by simp)
           ·simp only [Option.some.injEq,Prod.mk.injEq] at H;obtain ⟨rfl,rfl,rfl⟩:=H;go_wp2
            repeat (go_quiet (fail);try go_wp2)
            go_ret3
            exact ⟨_,Zs.auR,(Zs.mvR (Kd.AB HO_18.out (fun _ hk=>trivial))),Zs.auHB⟩
   ·replace H:=Zq.th H;simp only [Option.some.injEq,Prod.mk.injEq] at H;obtain ⟨rfl,rfl,rfl⟩:=H;go_wp2
    go_ret3
    exact ⟨_,Zs.auR,Zq.nl,Zs.auHB⟩
end Go.Proofs.YtacfcoilmdhgnaaGreatDoor.PFnExecuteWhat
