/- A function's Lean twin and its walk, written by a program of this session. -/
import Derived.Test.YtacfcoilmdhgnaaGreatDoorTPFnExactExecutex12
set_option maxHeartbeats 8000000
set_option maxRecDepth 100000
namespace Go.Proofs.YtacfcoilmdhgnaaGreatDoor.PFnExactExecute
open Go.RowKit Go.Proofs.YtacfcoilmdhgnaaGreatDoorW.PrintWords Go.Proofs.YtacfcoilmdhgnaaGreatDoorW.PrintLast Go.Proofs.YtacfcoilmdhgnaaGreatDoorW.PrintMore
attribute [local go_sem] Dy Dx D0 D1 Dc De DA Dz   -- for this text's walks alone
set_option linter.unusedVariables false
set_option linter.unusedSimpArgs false
mutual
def AB.l0:Nat→List Int→List ByteArray→List Int→Int→Option (List Int×ByteArray)
 | 0,_,_,_,_=>none
 | k+1,x0,x1,x6,x7=>if x7<(x1.length:Int) then (if 0≤x7 then ((Am.f k (rdOf ByteArray.empty x1 x7)).bind fun t806=>(if x6.length<17592186044416 then (AB.l0 k x0 x1 (x6++[t806]) (wrap64 (x7+1))) else (none))) else (none)) else (if 0<(x1.length:Int) then (if (rdOf ByteArray.empty x1 0).toList=([102,111,114,109]:List UInt8) then (AB.j1 k x0 x1 x6 (decide ((x6.length:Int)>0))) else (AB.j1 k x0 x1 x6 false)) else (none))
def AB.j1:Nat→List Int→List ByteArray→List Int→Bool→Option (List Int×ByteArray)
 | 0,_,_,_,_=>none
 | k+1,x0,x1,x6,x30=>if x30=true then ((Au.f k x6).bind fun t811=>(if t811=true then (some (x6,(⟨#[111,107,10]⟩:ByteArray))) else (some (x0,(⟨#[110,111,10]⟩:ByteArray))))) else (if 0<(x1.length:Int) then (if (rdOf ByteArray.empty x1 0).toList=([116,105,109,101,115]:List UInt8) then (AB.j2 k x0 x1 x6 ((x6.length:Int)==1)) else (AB.j2 k x0 x1 x6 false)) else (none))
def AB.j2:Nat→List Int→List ByteArray→List Int→Bool→Option (List Int×ByteArray)
 | 0,_,_,_,_=>none
 | k+1,x0,x1,x6,x43=>if x43=true then (if 0<(x6.length:Int) then ((Bz.f k x0 (rd x6 0)).bind fun bt814=>(if bt814.2=true then (some (bt814.1,(⟨#[111,107,10]⟩:ByteArray))) else (some (x0,(⟨#[110,111,10]⟩:ByteArray))))) else (none)) else (if 0<(x1.length:Int) then (if (rdOf ByteArray.empty x1 0).toList=([99,111,114,101,115]:List UInt8) then (AB.j3 k x0 x1 ((x6.length:Int)==0)) else (AB.j3 k x0 x1 false)) else (none))
def AB.j3:Nat→List Int→List ByteArray→Bool→Option (List Int×ByteArray)
 | 0,_,_,_=>none
 | k+1,x0,x1,x61=>if x61=true then ((CP.f k x0).bind fun bt819=>(if bt819.2=true then (some (bt819.1,(⟨#[111,107,10]⟩:ByteArray))) else (some (x0,(⟨#[110,111,10]⟩:ByteArray))))) else ((AL.f k x0 x1).bind fun t823=>(some (x0,t823)))
end
def AB.f (k:Nat) (l0:List Int) (l1:List ByteArray):Option (List Int×ByteArray):=AB.l0 k l0 l1 (([]:List Int)) 1
theorem AB.calls (k:Nat) (P0_:Nat→Prop) (u9000_:Value) (l0:List Int) (A1:Option Addr) (c1:Nat) (l1:List ByteArray) (r1:List Int) (r2:ByteArray) (w0 w:World) (hB:Below w0.heap.size w0 w) (ho0:Kd.R (Kd.int .i64) 3 w w0.heap.size P0_ u9000_ l0) (hr1 : ∀W_,Kept w W_ (fun k_=>P0_ k_)→Kd.C Kd.string W_ A1 l1.length l1) (hc1:l1.length≤c1) (h:AB.f k l0 l1=some (r1,r2)) :
  Calls Tryz.prog 52 #[u9000_,.slice A1 l1.length c1] w fun e w' => ∃v0_:Value,e = .returned (.tuple #[v0_,.string r2])∧Kd.R (Kd.int .i64) 3 w' w0.heap.size (fun k_=>(P0_ k_∨w.heap.size≤k_)) v0_ r1∧Below w0.heap.size w0 w'∧Kept w w' (fun k_=>P0_ k_):=by
 have HO0:=Aa.mk (show Kd.R (Kd.int .i64) 3 w w0.heap.size (fun k_=>(P0_ k_∨w.heap.size≤k_)) u9000_ l0 from Kd.AJ ho0 (fun k_ hk=>(.inl hk)));have HR1:=Aa.mk hr1;have HC1:=Aa.mk hc1;clear hr1 hc1;have HK:=Aa.mk (Kept.refl w (fun k_=>P0_ k_));have HW0:=Aa.mk hB.size;have HB:=Aa.mk hB;clear hB;unfold AB.f at h;have H:=h;clear h;obtain ⟨y802,hyy⟩ : ∃y_:List Int,y_=(([]:List Int)):=⟨_,rfl⟩
 replace H:(AB.l0 k l0 l1 y802 1)=some (r1,r2):=Zs.auY
 have Ny802:=Aa.mk hyy;clear hyy;have H':=Aa.mk H;clear H
 go_enter Tryz.func52,Tryz.ntmps52
 go_wp2_with (((with_reducible refine Bg (N:=10) rfl ?_);(try (refine Dn (by rfl) ?_;dsimp only));refine Zq.li ([]:List Int) ?_;intro v803 w3 ho4 hb;(first|rw [← Ny802.out] at ho4|(simp only [Int.reduceToNat] at ho4;rw [← Ny802.out] at ho4));have HO804:=Aa.mk (Kd.Bp (Kd.Bj (Kd.Ko (M:=fun k_=>(P0_ k_∨w.heap.size≤k_)) ho4 (by first|exact HK.out.1|exact (show Kept w _ (fun k_=>P0_ k_) from by repeat (first|(with_reducible first|exact HK.out|apply Kept.alloc|apply Kept.drewN|apply Kept.drew)|exact HK.out)).1) (fun k_ h_ => .inr h_)) (Zq.lt HO0.out)) (Av (Zs.auHB)));replace HO0:=Zq.el HO0.out ho4 hb;replace HK:=Aa.mk (Kept.below (S:=(fun k_=>P0_ k_)) (by repeat (first|(with_reducible first|exact HK.out|apply Kept.alloc|apply Kept.drewN|apply Kept.drew)|exact HK.out)) hb);replace HB:=Zq.st hb;clear hb ho4))
 go_loopg [6,7] k (fun kq v6 v7 w' => ∃(x6_1:List Int) (x7_1:Int),v7 = .int .i64 x7_1∧Aa (AB.l0 kq l0 l1 x6_1 x7_1=some (r1,r2))∧Aa (kq≤k)∧Aa (Kd.R (Kd.int .i64) 3 w' w0.heap.size (fun k_=>(P0_ k_∨w.heap.size≤k_)∧some k_≠(v6:Value).ownBlock) u9000_ l0)∧Aa (Kd.R (Kd.int .i64) 3 w' w0.heap.size (fun k_=>(P0_ k_∨w.heap.size≤k_)∧some k_≠(u9000_:Value).ownBlock) v6 x6_1)∧Aa (Kept w w' (fun k_=>P0_ k_))∧Aa (Below w0.heap.size w0 w'))
 case atStart=>exact ⟨(y802),(1),Zs.auS,H',⟨Nat.le_refl _⟩,⟨(Zs.mvR HO0.out)⟩,⟨(Zs.mvR (Kd.AJ HO804.out (fun _ hk=>⟨hk.1.1,hk.2⟩)))⟩,⟨by repeat (first|(with_reducible first|exact HK.out|apply Kept.alloc|apply Kept.drewN|apply Kept.drew)|exact HK.out)⟩,⟨Zs.auHB⟩⟩
 case round =>
  clear H'
  obtain ⟨x6_1,x7_1,rfl,HA,HK1,HO_0,HO_6,HK,HB⟩:=hrel;cases gk with
  | zero=>exact absurd HA.out (by simp [AB.l0])
  | succ k1 =>
   have H:=HA.out;clear HA;simp only [AB.l0] at H
   rcases Zq.ii H with ⟨c5,H⟩|⟨c5,H⟩
   ·have c5b0:=decide_eq_true c5;clear c5
    obtain ⟨c6,H⟩:=Zq.ip H;have c6b0:=decide_eq_true c6;clear c6;obtain ⟨t806,A7,H⟩:=Zs.be H
    obtain ⟨c8,H⟩:=Zq.ip H;have LMc8:=Aa.mk c8;clear c8;(try rw [Option.bind_some] at H);generalize hyy:(x6_1++[t806]:List Int)=y807 at H;have Ny807:=Aa.mk hyy.symm;clear hyy;have H':=Aa.mk H;clear H;have p805:0≤(x7_1:Int):=Zs.od;have q805:x7_1<(l1.length:Int):=Zs.od;obtain ⟨ad805,e805,hx805_0⟩:=Kd.Ba (Kd.DW HR1.out HK.out) x7_1 p805 q805;cases e805;replace p805:=eq_true p805;replace q805:=eq_true q805
    go_wp2_with (first|((with_reducible refine Ab (f:=106) rfl ?_);refine Zq.gp Tryz.func106 (Am.calls _ _ _ _ A7.out) ?_;intro nd)|((with_reducible refine AW (b := .append) (xs:=#[.tmp 17,.tmp 23]) rfl ?_);(try (refine Dn (by rfl) ?_;dsimp only));at_builtin;refine Kd.Ei (Kd.int .i64) (w0:=w0) w0.heap.size rfl (.tmp 17) (.tmp 23) 27 3 (.int .i64 0) 8 rfl Tryz.underlying27 DQ rfl (by decide) (by omega) u6 x6_1 t806 [.int .i64 t806] (fun k_=>(P0_ k_∨w.heap.size≤k_)∧some k_≠(u9000_:Value).ownBlock) (fun _=>False) rfl rfl ?aP (fun _ hk=>hk.elim) ?aF ?aO ?aB ?aS ?aL ?_;(case aP=>exact rfl);(case aB=>exact (Zs.auHB));(case aF=>exact (fun k_ hk=>⟨(.inr (Nat.le_trans (by first|exact HK.out.1|exact (show Kept w _ (fun k_=>P0_ k_) from by repeat (first|(with_reducible first|exact HK.out|apply Kept.alloc|apply Kept.drewN|apply Kept.drew)|exact HK.out)).1) hk)),Kd.DE (Zq.lt HO_0.out) k_ hk⟩));(case aO=>exact ((Zs.mvR HO_6.out)));(case aS=>exact (Av (Zs.auHB)));(case aL=>have:=LMc8.out;omega);intro v808 w9 ho hb hg hat;rw [← Ny807.out] at ho;replace HO_0:=Aa.mk (Kd.BV (ok:=(fun k_=>(P0_ k_∨w.heap.size≤k_))) ((Zs.mvR HO_0.out)) hg hat);replace HB:=Aa.mk (hb);replace HK:=Aa.mk (Kept.Jk (S:=(fun k_=>P0_ k_)) hg (by repeat (first|(with_reducible first|exact HK.out|apply Kept.alloc|apply Kept.drewN|apply Kept.drew)|exact HK.out)) (fun k_ e_=>(HO_6.out.1 k_ e_).1));have HO809:=Aa.mk (ho);clear HO_6;clear ho hb hg hat))
    go_roundg k1
    case measure=>have:=HK1.out;omega
    case rel=>exact ⟨(y807),(wrap64 (x7_1+1)),Zs.auS,H',⟨by have:=HK1.out;omega⟩,⟨(Zs.mvR HO_0.out)⟩,⟨(Zs.mvR HO809.out)⟩,⟨by repeat (first|(with_reducible first|exact HK.out|apply Kept.alloc|apply Kept.drewN|apply Kept.drew)|exact HK.out)⟩,⟨Zs.auHB⟩⟩
   ·have c5b0:=decide_eq_false c5;clear c5;have HC10:=Aa.mk H;clear H
    go_upto_region 9 with (fail)
    go_cut [30] (fun v30 wc => ∃(kq:Nat) (x30_9:Bool),v30 = .bool x30_9∧Aa (AB.j1 kq l0 l1 x6_1 x30_9=some (r1,r2))∧Aa (kq≤k1)∧Aa (Kd.R (Kd.int .i64) 3 wc w0.heap.size (fun k_=>(P0_ k_∨w.heap.size≤k_)∧some k_≠(u6:Value).ownBlock) u9000_ l0)∧Aa (Kd.R (Kd.int .i64) 3 wc w0.heap.size (fun k_=>(P0_ k_∨w.heap.size≤k_)∧some k_≠(u9000_:Value).ownBlock) u6 x6_1)∧Aa (Kept w wc (fun k_=>P0_ k_))∧Aa (Below w0.heap.size w0 wc))
    case first =>
     have H:=HC10.out;clear HC10
     obtain ⟨c11,H⟩:=Zq.ip H;have c11b0:=decide_eq_true c11;clear c11
     rcases Zq.ii H with ⟨c12,H⟩|⟨c12,H⟩
     ·have c12b0:=beq_iff_eq.mpr c12;clear c12;have H':=Aa.mk H;clear H;have p810:0≤(0:Int):=(by omega);have q810:0<(l1.length:Int):=Zs.od;obtain ⟨ad810,e810,hx810_0⟩:=Kd.Ba (Kd.DW HR1.out HK.out) 0 p810 q810;cases e810;have qi810:(0<l1.length)=True:=eq_true (by omega);(try rw [show ((0:Int)).toNat=0 from rfl] at hx810_0);(try rw [Addr.add_zero'] at hx810_0);replace p810:=eq_true p810;replace q810:=eq_true q810;obtain ⟨Ao13,co13,eo13⟩:=Kd.AD HO_6.out;subst eo13;go_wp2
      go_meet
      case rel=>exact ⟨_,(decide ((x6_1.length:Int)>0)),Zs.auS,H',⟨by have:=HK1.out;first|omega|exact Nat.le_refl _⟩,⟨(Zs.mvR HO_0.out)⟩,⟨(Zs.mvR HO_6.out)⟩,⟨by repeat (first|(with_reducible first|exact HK.out|apply Kept.alloc|apply Kept.drewN|apply Kept.drew)|exact HK.out)⟩,⟨Zs.auHB⟩⟩
     ·have c12b0:=beq_eq_false_iff_ne.mpr c12;have H':=Aa.mk H;clear H;have p810:0≤(0:Int):=(by omega);have q810:0<(l1.length:Int):=Zs.od;obtain ⟨ad810,e810,hx810_0⟩:=Kd.Ba (Kd.DW HR1.out HK.out) 0 p810 q810;cases e810;have qi810:(0<l1.length)=True:=eq_true (by omega);(try rw [show ((0:Int)).toNat=0 from rfl] at hx810_0);(try rw [Addr.add_zero'] at hx810_0);replace p810:=eq_true p810;replace q810:=eq_true q810;go_wp2
      go_meet
      case rel=>exact ⟨_,(false),Zs.auS,H',⟨by have:=HK1.out;first|omega|exact Nat.le_refl _⟩,⟨(Zs.mvR HO_0.out)⟩,⟨(Zs.mvR HO_6.out)⟩,⟨by repeat (first|(with_reducible first|exact HK.out|apply Kept.alloc|apply Kept.drewN|apply Kept.drew)|exact HK.out)⟩,⟨Zs.auHB⟩⟩
    case rest =>
     clear HC10
     obtain ⟨kq,x30_9,rfl,HA,HJ9,HO_0,HO_6,HK,HB⟩:=hcut;cases kq with
     | zero=>exact absurd HA.out (by simp [AB.j1])
     | succ kj9 =>
      have H:=HA.out;clear HA;simp only [AB.j1] at H
      by_cases c14:x30_9=true
      ·subst c14;rw [if_pos rfl] at H;obtain ⟨t811,A15,H⟩:=Zs.be H
       by_cases c16:t811=true
       ·subst c16;rw [if_pos rfl] at H;simp only [Option.some.injEq,Prod.mk.injEq] at H;obtain ⟨rfl,rfl⟩:=H;obtain ⟨Ao17,co17,eo17⟩:=Kd.AD HO_6.out;subst eo17
        go_wp2_with (((with_reducible refine Ab (f:=62) rfl ?_);refine Zq.gp Tryz.func62 (Au.calls _ _ _ _ _ _ (Zs.mvC ((Kd.Ac HO_6.out).2.2)) ((Kd.Ac HO_6.out).2.1) A15.out) ?_;intro nd))
        go_ret2
        exact ⟨_,Zs.auR,(Zs.mvR (Kd.AJ HO_6.out (fun _ hk=>hk.1))),Zs.auHB,by repeat (first|(with_reducible first|exact HK.out|apply Kept.alloc|apply Kept.drewN|apply Kept.drew)|exact HK.out)⟩
       ·replace c16:=Bool.eq_false_iff.mpr c16;subst c16;rw [if_neg (show ¬(false=true) by decide)] at H;simp only [Option.some.injEq,Prod.mk.injEq] at H;obtain ⟨rfl,rfl⟩:=H;obtain ⟨Ao18,co18,eo18⟩:=Kd.AD HO_6.out;subst eo18
        go_wp2_with (((with_reducible refine Ab (f:=62) rfl ?_);refine Zq.gp Tryz.func62 (Au.calls _ _ _ _ _ _ (Zs.mvC ((Kd.Ac HO_6.out).2.2)) ((Kd.Ac HO_6.out).2.1) A15.out) ?_;intro nd))
        go_ret2
        exact ⟨_,Zs.auR,(Zs.mvR (Kd.AJ HO_0.out (fun _ hk=>hk.1))),Zs.auHB,by repeat (first|(with_reducible first|exact HK.out|apply Kept.alloc|apply Kept.drewN|apply Kept.drew)|exact HK.out)⟩
      ·replace c14:=Bool.eq_false_iff.mpr c14;subst c14;rw [if_neg (show ¬(false=true) by decide)] at H;have HC19:=Aa.mk H;clear H
       go_upto_region 12 with (fail)
       go_cut [43] (fun v43 wc => ∃(kq:Nat) (x43_18:Bool),v43 = .bool x43_18∧Aa (AB.j2 kq l0 l1 x6_1 x43_18=some (r1,r2))∧Aa (kq≤kj9)∧Aa (Kd.R (Kd.int .i64) 3 wc w0.heap.size (fun k_=>(P0_ k_∨w.heap.size≤k_)∧some k_≠(u6:Value).ownBlock) u9000_ l0)∧Aa (Kd.R (Kd.int .i64) 3 wc w0.heap.size (fun k_=>(P0_ k_∨w.heap.size≤k_)∧some k_≠(u9000_:Value).ownBlock) u6 x6_1)∧Aa (Kept w wc (fun k_=>P0_ k_))∧Aa (Below w0.heap.size w0 wc))
       case first =>
        have H:=HC19.out;clear HC19
        obtain ⟨c20,H⟩:=Zq.ip H;have c20b0:=decide_eq_true c20;clear c20
        rcases Zq.ii H with ⟨c21,H⟩|⟨c21,H⟩
        ·have c21b0:=beq_iff_eq.mpr c21;clear c21;have H':=Aa.mk H;clear H;have p812:0≤(0:Int):=(by omega);have q812:0<(l1.length:Int):=Zs.od;obtain ⟨ad812,e812,hx812_0⟩:=Kd.Ba (Kd.DW HR1.out HK.out) 0 p812 q812;cases e812;have qi812:(0<l1.length)=True:=eq_true (by omega);(try rw [show ((0:Int)).toNat=0 from rfl] at hx812_0);(try rw [Addr.add_zero'] at hx812_0);replace p812:=eq_true p812;replace q812:=eq_true q812;obtain ⟨Ao22,co22,eo22⟩:=Kd.AD HO_6.out;subst eo22;go_wp2
         go_meet
         case rel=>exact ⟨_,(((x6_1.length:Int)==1)),Zs.auS,H',⟨by have:=HK1.out;have:=HJ9.out;first|omega|exact Nat.le_refl _⟩,⟨(Zs.mvR HO_0.out)⟩,⟨(Zs.mvR HO_6.out)⟩,⟨by repeat (first|(with_reducible first|exact HK.out|apply Kept.alloc|apply Kept.drewN|apply Kept.drew)|exact HK.out)⟩,⟨Zs.auHB⟩⟩
        ·have c21b0:=beq_eq_false_iff_ne.mpr c21;have H':=Aa.mk H;clear H;have p812:0≤(0:Int):=(by omega);have q812:0<(l1.length:Int):=Zs.od;obtain ⟨ad812,e812,hx812_0⟩:=Kd.Ba (Kd.DW HR1.out HK.out) 0 p812 q812;cases e812;have qi812:(0<l1.length)=True:=eq_true (by omega);(try rw [show ((0:Int)).toNat=0 from rfl] at hx812_0);(try rw [Addr.add_zero'] at hx812_0);replace p812:=eq_true p812;replace q812:=eq_true q812;go_wp2
         go_meet
         case rel=>exact ⟨_,(false),Zs.auS,H',⟨by have:=HK1.out;have:=HJ9.out;first|omega|exact Nat.le_refl _⟩,⟨(Zs.mvR HO_0.out)⟩,⟨(Zs.mvR HO_6.out)⟩,⟨by repeat (first|(with_reducible first|exact HK.out|apply Kept.alloc|apply Kept.drewN|apply Kept.drew)|exact HK.out)⟩,⟨Zs.auHB⟩⟩
       case rest =>
        clear HC19
        obtain ⟨kq,x43_18,rfl,HA,HJ18,HO_0,HO_6,HK,HB⟩:=hcut;cases kq with
        | zero=>exact absurd HA.out (by simp [AB.j2])
        | succ kj18 =>
         have H:=HA.out;clear HA;simp only [AB.j2] at H
         by_cases c23:x43_18=true
         ·subst c23;rw [if_pos rfl] at H
          obtain ⟨c24,H⟩:=Zq.ip H;have c24b0:=decide_eq_true c24;clear c24;replace H:=Option.bind_eq_some_iff.mp H;obtain ⟨⟨t814,t815⟩,A250,H⟩:=H;try dsimp only at H;have A25:=Aa.mk A250;clear A250
          by_cases c26:t815=true
          ·subst c26;rw [if_pos rfl] at H;simp only [Option.some.injEq,Prod.mk.injEq] at H;obtain ⟨rfl,rfl⟩:=H;obtain ⟨Ao27,co27,eo27⟩:=Kd.AD HO_6.out;subst eo27;obtain ⟨ad813,e813,hx813_0,p813,q813⟩:=Zq.at_ (Kd.Ac HO_6.out).2.2 0;cases e813;have qi813:(0<x6_1.length)=True:=eq_true (by have:=of_eq_true q813;omega);(try rw [show ((0:Int)).toNat=0 from rfl] at hx813_0);(try rw [Addr.add_zero'] at hx813_0);obtain ⟨Ao28,co28,eo28⟩:=Kd.AD HO_0.out;subst eo28
           go_wp2_with (((with_reducible refine Ab (f:=28) rfl ?_);refine Zq.gc (some 58) Tryz.func28 (Bz.calls _ _ _ _ _ _ _ _ (Zs.mvC ((Kd.Ac HO_0.out).2.2)) ((Kd.Ac HO_0.out).2.1) A25.out) ?_;rintro e w29 ⟨v816,rfl,ho0,hb⟩;refine ⟨_,rfl,?_⟩;have HO817:=Aa.mk (Kd.Bp (Kd.Bj (Kd.Bj (Kd.Ko (M:=fun k_=>(P0_ k_∨w.heap.size≤k_)) ho0 (by first|exact HK.out.1|exact (show Kept w _ (fun k_=>P0_ k_) from by repeat (first|(with_reducible first|exact HK.out|apply Kept.alloc|apply Kept.drewN|apply Kept.drew)|exact HK.out)).1) (fun k_ h_ => .inr h_)) (Zq.lt HO_0.out)) (Zq.lt HO_6.out)) (Av (Zs.auHB)));replace HO_0:=Zq.el HO_0.out ho0 hb;replace HO_6:=Zq.el HO_6.out ho0 hb;replace HK:=Aa.mk (Kept.below (S:=(fun k_=>P0_ k_)) (by repeat (first|(with_reducible first|exact HK.out|apply Kept.alloc|apply Kept.drewN|apply Kept.drew)|exact HK.out)) hb);replace HB:=Zq.st hb;(try clear hb);(try clear ho0)))
           go_ret2
           exact ⟨_,Zs.auR,(Zs.mvR (Kd.AJ HO817.out (fun _ hk=>hk.1.1.1))),Zs.auHB,by repeat (first|(with_reducible first|exact HK.out|apply Kept.alloc|apply Kept.drewN|apply Kept.drew)|exact HK.out)⟩
          ·replace c26:=Bool.eq_false_iff.mpr c26;subst c26;rw [if_neg (show ¬(false=true) by decide)] at H;simp only [Option.some.injEq,Prod.mk.injEq] at H;obtain ⟨rfl,rfl⟩:=H;obtain ⟨Ao30,co30,eo30⟩:=Kd.AD HO_6.out;subst eo30;obtain ⟨ad813,e813,hx813_0,p813,q813⟩:=Zq.at_ (Kd.Ac HO_6.out).2.2 0;cases e813;have qi813:(0<x6_1.length)=True:=eq_true (by have:=of_eq_true q813;omega);(try rw [show ((0:Int)).toNat=0 from rfl] at hx813_0);(try rw [Addr.add_zero'] at hx813_0);obtain ⟨Ao31,co31,eo31⟩:=Kd.AD HO_0.out;subst eo31
           go_wp2_with (((with_reducible refine Ab (f:=28) rfl ?_);refine Zq.gc (some 58) Tryz.func28 (Bz.calls _ _ _ _ _ _ _ _ (Zs.mvC ((Kd.Ac HO_0.out).2.2)) ((Kd.Ac HO_0.out).2.1) A25.out) ?_;rintro e w32 ⟨v816,rfl,ho0,hb⟩;refine ⟨_,rfl,?_⟩;have HO817:=Aa.mk (Kd.Bp (Kd.Bj (Kd.Bj (Kd.Ko (M:=fun k_=>(P0_ k_∨w.heap.size≤k_)) ho0 (by first|exact HK.out.1|exact (show Kept w _ (fun k_=>P0_ k_) from by repeat (first|(with_reducible first|exact HK.out|apply Kept.alloc|apply Kept.drewN|apply Kept.drew)|exact HK.out)).1) (fun k_ h_ => .inr h_)) (Zq.lt HO_0.out)) (Zq.lt HO_6.out)) (Av (Zs.auHB)));replace HO_0:=Zq.el HO_0.out ho0 hb;replace HO_6:=Zq.el HO_6.out ho0 hb;replace HK:=Aa.mk (Kept.below (S:=(fun k_=>P0_ k_)) (by repeat (first|(with_reducible first|exact HK.out|apply Kept.alloc|apply Kept.drewN|apply Kept.drew)|exact HK.out)) hb);replace HB:=Zq.st hb;(try clear hb);(try clear ho0)))
           go_ret2
           exact ⟨_,Zs.auR,(Zs.mvR (Kd.AJ HO_0.out (fun _ hk=>hk.1.1))),Zs.auHB,by repeat (first|(with_reducible first|exact HK.out|apply Kept.alloc|apply Kept.drewN|apply Kept.drew)|exact HK.out)⟩
         ·replace c23:=Bool.eq_false_iff.mpr c23;subst c23;rw [if_neg (show ¬(false=true) by decide)] at H;have HC33:=Aa.mk H;clear H
          go_upto_region 14 with (fail)
          go_cut [61] (fun v61 wc => ∃(kq:Nat) (x61_32:Bool),v61 = .bool x61_32∧Aa (AB.j3 kq l0 l1 x61_32=some (r1,r2))∧Aa (kq≤kj18)∧Aa (Kd.R (Kd.int .i64) 3 wc w0.heap.size (fun k_=>(P0_ k_∨w.heap.size≤k_)) u9000_ l0)∧Aa (Kept w wc (fun k_=>P0_ k_))∧Aa (Below w0.heap.size w0 wc))
          case first =>
           have H:=HC33.out;clear HC33
           obtain ⟨c34,H⟩:=Zq.ip H;have c34b0:=decide_eq_true c34;clear c34
           rcases Zq.ii H with ⟨c35,H⟩|⟨c35,H⟩
           ·have c35b0:=beq_iff_eq.mpr c35;clear c35;have H':=Aa.mk H;clear H;have p818:0≤(0:Int):=(by omega);have q818:0<(l1.length:Int):=Zs.od;obtain ⟨ad818,e818,hx818_0⟩:=Kd.Ba (Kd.DW HR1.out HK.out) 0 p818 q818;cases e818;have qi818:(0<l1.length)=True:=eq_true (by omega);(try rw [show ((0:Int)).toNat=0 from rfl] at hx818_0);(try rw [Addr.add_zero'] at hx818_0);replace p818:=eq_true p818;replace q818:=eq_true q818;obtain ⟨Ao36,co36,eo36⟩:=Kd.AD HO_6.out;subst eo36;go_wp2
            go_meet
            case rel=>exact ⟨_,(((x6_1.length:Int)==0)),Zs.auS,H',⟨by have:=HK1.out;have:=HJ9.out;have:=HJ18.out;first|omega|exact Nat.le_refl _⟩,⟨(Zs.mvR (Kd.AJ HO_0.out (fun _ hk=>hk.1)))⟩,⟨by repeat (first|(with_reducible first|exact HK.out|apply Kept.alloc|apply Kept.drewN|apply Kept.drew)|exact HK.out)⟩,⟨Zs.auHB⟩⟩
           ·have c35b0:=beq_eq_false_iff_ne.mpr c35;have H':=Aa.mk H;clear H;have p818:0≤(0:Int):=(by omega);have q818:0<(l1.length:Int):=Zs.od;obtain ⟨ad818,e818,hx818_0⟩:=Kd.Ba (Kd.DW HR1.out HK.out) 0 p818 q818;cases e818;have qi818:(0<l1.length)=True:=eq_true (by omega);(try rw [show ((0:Int)).toNat=0 from rfl] at hx818_0);(try rw [Addr.add_zero'] at hx818_0);replace p818:=eq_true p818;replace q818:=eq_true q818;go_wp2
            go_meet
            case rel=>exact ⟨_,(false),Zs.auS,H',⟨by have:=HK1.out;have:=HJ9.out;have:=HJ18.out;first|omega|exact Nat.le_refl _⟩,⟨(Zs.mvR (Kd.AJ HO_0.out (fun _ hk=>hk.1)))⟩,⟨by repeat (first|(with_reducible first|exact HK.out|apply Kept.alloc|apply Kept.drewN|apply Kept.drew)|exact HK.out)⟩,⟨Zs.auHB⟩⟩
          case rest =>
           clear HC33
           obtain ⟨kq,x61_32,rfl,HA,HJ32,HO_0,HK,HB⟩:=hcut;cases kq with
           | zero=>exact absurd HA.out (by simp [AB.j3])
           | succ kj32 =>
            have H:=HA.out;clear HA;simp only [AB.j3] at H
            by_cases c37:x61_32=true
            ·subst c37;rw [if_pos rfl] at H;replace H:=Option.bind_eq_some_iff.mp H;obtain ⟨⟨t819,t820⟩,A380,H⟩:=H;try dsimp only at H;have A38:=Aa.mk A380;clear A380
             by_cases c39:t820=true
             ·subst c39;rw [if_pos rfl] at H;simp only [Option.some.injEq,Prod.mk.injEq] at H;obtain ⟨rfl,rfl⟩:=H;obtain ⟨Ao40,co40,eo40⟩:=Kd.AD HO_0.out;subst eo40
              go_wp2_with (((with_reducible refine Ab (f:=107) rfl ?_);refine Zq.gc (some 73) Tryz.func107 (CP.calls _ _ _ _ _ _ _ (Zs.mvC ((Kd.Ac HO_0.out).2.2)) ((Kd.Ac HO_0.out).2.1) A38.out) ?_;rintro e w41 ⟨v821,rfl,ho0,hb⟩;refine ⟨_,rfl,?_⟩;have HO822:=Aa.mk (Kd.Bp (Kd.Bj (Kd.Ko (M:=fun k_=>(P0_ k_∨w.heap.size≤k_)) ho0 (by first|exact HK.out.1|exact (show Kept w _ (fun k_=>P0_ k_) from by repeat (first|(with_reducible first|exact HK.out|apply Kept.alloc|apply Kept.drewN|apply Kept.drew)|exact HK.out)).1) (fun k_ h_ => .inr h_)) (Zq.lt HO_0.out)) (Av (Zs.auHB)));replace HO_0:=Zq.el HO_0.out ho0 hb;replace HK:=Aa.mk (Kept.below (S:=(fun k_=>P0_ k_)) (by repeat (first|(with_reducible first|exact HK.out|apply Kept.alloc|apply Kept.drewN|apply Kept.drew)|exact HK.out)) hb);replace HB:=Zq.st hb;(try clear hb);(try clear ho0)))
              go_ret2
              exact ⟨_,Zs.auR,(Zs.mvR (Kd.AJ HO822.out (fun _ hk=>hk.1.1))),Zs.auHB,by repeat (first|(with_reducible first|exact HK.out|apply Kept.alloc|apply Kept.drewN|apply Kept.drew)|exact HK.out)⟩
             ·replace c39:=Bool.eq_false_iff.mpr c39;subst c39;rw [if_neg (show ¬(false=true) by decide)] at H;simp only [Option.some.injEq,Prod.mk.injEq] at H;obtain ⟨rfl,rfl⟩:=H;obtain ⟨Ao42,co42,eo42⟩:=Kd.AD HO_0.out;subst eo42
              go_wp2_with (((with_reducible refine Ab (f:=107) rfl ?_);refine Zq.gc (some 73) Tryz.func107 (CP.calls _ _ _ _ _ _ _ (Zs.mvC ((Kd.Ac HO_0.out).2.2)) ((Kd.Ac HO_0.out).2.1) A38.out) ?_;rintro e w43 ⟨v821,rfl,ho0,hb⟩;refine ⟨_,rfl,?_⟩;have HO822:=Aa.mk (Kd.Bp (Kd.Bj (Kd.Ko (M:=fun k_=>(P0_ k_∨w.heap.size≤k_)) ho0 (by first|exact HK.out.1|exact (show Kept w _ (fun k_=>P0_ k_) from by repeat (first|(with_reducible first|exact HK.out|apply Kept.alloc|apply Kept.drewN|apply Kept.drew)|exact HK.out)).1) (fun k_ h_ => .inr h_)) (Zq.lt HO_0.out)) (Av (Zs.auHB)));replace HO_0:=Zq.el HO_0.out ho0 hb;replace HK:=Aa.mk (Kept.below (S:=(fun k_=>P0_ k_)) (by repeat (first|(with_reducible first|exact HK.out|apply Kept.alloc|apply Kept.drewN|apply Kept.drew)|exact HK.out)) hb);replace HB:=Zq.st hb;(try clear hb);(try clear ho0)))
              go_ret2
              exact ⟨_,Zs.auR,(Zs.mvR (Kd.AJ HO_0.out (fun _ hk=>hk.1))),Zs.auHB,by repeat (first|(with_reducible first|exact HK.out|apply Kept.alloc|apply Kept.drewN|apply Kept.drew)|exact HK.out)⟩
            ·replace c37:=Bool.eq_false_iff.mpr c37;subst c37;rw [if_neg (show ¬(false=true) by decide)] at H;obtain ⟨t823,A44,H⟩:=Zs.be H;simp only [Option.some.injEq,Prod.mk.injEq] at H;obtain ⟨rfl,rfl⟩:=H;obtain ⟨Ao45,co45,eo45⟩:=Kd.AD HO_0.out;subst eo45
             go_wp2_with (((with_reducible refine Ab (f:=108) rfl ?_);refine Zq.gb Tryz.func108 (AL.calls _ _ _ _ _ _ _ _ _ (Zs.mvC ((Kd.Ac HO_0.out).2.2)) ((Kd.Ac HO_0.out).2.1) (Kd.DW HR1.out (by repeat (first|(with_reducible first|exact HK.out|apply Kept.alloc|apply Kept.drewN|apply Kept.drew)|exact HK.out))) HC1.out A44.out) ?_;intro w46 hb;replace HO_0:=Zq.rb HO_0.out hb;replace HK:=Aa.mk (Kept.below (S:=(fun k_=>P0_ k_)) (by repeat (first|(with_reducible first|exact HK.out|apply Kept.alloc|apply Kept.drewN|apply Kept.drew)|exact HK.out)) hb);replace HB:=Zq.st hb;(try clear hb)))
             go_ret2
             exact ⟨_,Zs.auR,(Zs.mvR HO_0.out),Zs.auHB,by repeat (first|(with_reducible first|exact HK.out|apply Kept.alloc|apply Kept.drewN|apply Kept.drew)|exact HK.out)⟩
def Ce.l0:Nat→List Int→ByteArray→List ByteArray→Int→Option (ByteArray)
 | 0,_,_,_,_=>none
 | k+1,x3,x4,x5,x6=>if (wrap64 (x6+1))<(x5.length:Int) then (if 0≤x6 then (if x6<(x5.length:Int) then ((Ca.f k (rdOf ByteArray.empty x5 x6) 32).bind fun t831=>((AB.f k x3 t831).bind fun bt834=>(if x4.size+bt834.2.size≤9223372036854775807 then (Ce.l0 k bt834.1 (x4++bt834.2) x5 (wrap64 (x6+1))) else (none)))) else (none)) else (none)) else (if x4.size+6≤9223372036854775807 then ((AX.f k (x3.length:Int)).bind fun t838=>(if (x4++(⟨#[116,101,114,109,115,32]⟩:ByteArray)).size+t838.size≤9223372036854775807 then (if ((x4++(⟨#[116,101,114,109,115,32]⟩:ByteArray))++t838).size+1≤9223372036854775807 then (some (((x4++(⟨#[116,101,114,109,115,32]⟩:ByteArray))++t838)++(⟨#[10]⟩:ByteArray))) else (none)) else (none))) else (none))
def Ce.f (k:Nat) (a0:ByteArray):Option (ByteArray):=if (a0.size:Int)>500 then (some (⟨#[116,111,111,32,108,111,110,103,10]⟩:ByteArray)) else ((Ca.f k a0 10).bind fun t827=>(Ce.l0 k (([1]:List Int)) (⟨#[]⟩:ByteArray) t827 0))
theorem Ce.calls (k:Nat) (a0:ByteArray) (r:ByteArray) (w:World) (h:Ce.f k a0=some r) :
  Calls Tryz.prog 15 #[.string a0] w fun e w'=>e = .returned (.string r)∧Below w.heap.size w w':=by
 have HB:=Aa.mk (Below.refl w.heap.size w);unfold Ce.f at h;have H:=h;clear h
 rcases Zq.ii H with ⟨c2,H⟩|⟨c2,H⟩
 ·have c2b0:decide (500<(a0.size:Int))=true:=decide_eq_true c2;clear c2;obtain rfl:=Option.some.inj H
  go_enter Tryz.func15,Tryz.ntmps15
  go_wp2;go_ret
  exact ⟨Zs.auR,Zs.auHB⟩
 ·have c2b0:decide (500<(a0.size:Int))=false:=decide_eq_false c2;clear c2;(try rw [Option.bind_some] at H);generalize hyy:([1]:List Int)=y824 at H;have Ny824:=Aa.mk hyy.symm;clear hyy;obtain ⟨t827,A3,H⟩:=Zs.be H;have H':=Aa.mk H;clear H
  go_enter Tryz.func15,Tryz.ntmps15
  go_wp2_with (first|((with_reducible refine Bg (N:=12) rfl ?_);refine Zq.li ([1]:List Int) ?_;intro v825 w4 ho5 hb;(first|rw [← Ny824.out] at ho5|(simp only [Int.reduceToNat] at ho5;rw [← Ny824.out] at ho5));have HO826:=Zq.lw ho5;replace HB:=Zq.st hb;clear hb ho5)|((with_reducible refine Ab (f:=51) rfl ?_);refine Zq.gc (some 14) Tryz.func51 (Ca.calls _ _ _ _ _ A3.out) ?_;rintro e w6 ⟨v828,rfl,ho0,hb⟩;refine ⟨_,rfl,?_⟩;replace HO826:=Zq.rb HO826.out hb;have HO829:=Zq.lw ho0;replace HB:=Zq.st hb;(try clear hb);(try clear ho0)))
  go_loopg [3,4,6] k (fun kq v3 v4 v6 w' => ∃(x3_1:List Int) (x4_1:ByteArray) (x6_1:Int),v4 = .string x4_1∧v6 = .int .i64 x6_1∧Aa (Ce.l0 kq x3_1 x4_1 t827 x6_1=some r)∧Aa (kq≤k)∧Aa (Kd.R (Kd.int .i64) 3 w' w.heap.size (fun _=>True) v3 x3_1)∧Aa (Kd.R Kd.string 9 w' w.heap.size (fun _=>True) v828 t827)∧Aa (Below w.heap.size w w'))
  case atStart=>exact ⟨(y824),((⟨#[]⟩:ByteArray)),(0),Zs.auS,Zs.auS,H',⟨Nat.le_refl _⟩,⟨(Zs.mvR HO826.out)⟩,⟨(Zs.mvR HO829.out)⟩,⟨Zs.auHB⟩⟩
  case round =>
   clear H'
   obtain ⟨x3_1,x4_1,x6_1,rfl,rfl,HA,HK1,HO_3,HO_5,HB⟩:=hrel;cases gk with
   | zero=>exact absurd HA.out (by simp [Ce.l0])
   | succ k1 =>
    have H:=HA.out;clear HA;simp only [Ce.l0] at H
    rcases Zq.ii H with ⟨c7,H⟩|⟨c7,H⟩
    ·have c7b0:=decide_eq_true c7;clear c7
     obtain ⟨c8,H⟩:=Zq.ip H;have c8b0:=decide_eq_true c8;clear c8
     obtain ⟨c9,H⟩:=Zq.ip H;have c9b0:=decide_eq_true c9;clear c9;obtain ⟨t831,A10,H⟩:=Zs.be H;replace H:=Option.bind_eq_some_iff.mp H;obtain ⟨⟨t834,t837⟩,A110,H⟩:=H;try dsimp only at H;have A11:=Aa.mk A110;clear A110
     obtain ⟨c12,H⟩:=Zq.ip H
     try have c12b2:(9223372036854775807<x4_1.size+t837.size)=False:=eq_false (Nat.not_lt.2 c12)
     have H':=Aa.mk H;clear H;obtain ⟨Ao13,co13,eo13⟩:=Kd.AD HO_5.out;subst eo13;have p830:0≤(x6_1:Int):=Zs.od;have q830:x6_1<(t827.length:Int):=Zs.od;obtain ⟨ad830,e830,hx830_0⟩:=Kd.Ba (Kd.Ac HO_5.out).2.2 x6_1 p830 q830;cases e830;replace p830:=eq_true p830;replace q830:=eq_true q830
     go_wp2_with (first|((with_reducible refine Ab (f:=51) rfl ?_);refine Zq.gc (some 28) Tryz.func51 (Ca.calls _ _ _ _ _ A10.out) ?_;rintro e w14 ⟨v832,rfl,ho0,hb⟩;refine ⟨_,rfl,?_⟩;replace HO_3:=Zq.rb HO_3.out hb;have HO833:=Aa.mk (Kd.Bp (Kd.Bj ho0 (Zq.lt HO_5.out)) (Av (Zs.auHB)));replace HO_5:=Zq.el HO_5.out ho0 hb;replace HB:=Zq.st hb;(try clear hb);(try clear ho0);obtain ⟨Ao15,co15,eo15⟩:=Kd.AD HO_3.out;subst eo15;obtain ⟨Ao16,co16,eo16⟩:=Kd.AD HO833.out;subst eo16)|((with_reducible refine Ab (f:=52) rfl ?_);refine Zq.gc (some 29) Tryz.func52 (AB.calls _ _ _ _ _ _ _ _ _ _ _ (by repeat (first|(with_reducible first|exact HB.out|apply Al|apply As|apply Ax)|exact HB.out)) (Kd.Jt rfl HO_3.out) (Kd.Mq ((Kd.Gn HO833.out (Kd.IX HO_3.out) (by decide))) (fun k_ hk_ hs_=>(hk_.2) hs_)) ((Kd.Ac HO833.out).2.1) A11.out) ?_;rintro e w17 ⟨v835,rfl,ho0,hb,hkp⟩;refine ⟨_,rfl,?_⟩;replace HO_5:=Aa.mk (Kd.AJ (ok':=fun k_=>some k_≠(.slice Ao16 t831.length co16:Value).ownBlock) (Kd.NJ ((Kd.Gn HO_5.out (Kd.IX HO_3.out) (by decide))) hkp (fun k_ hk_ hs_=>(hk_.2) hs_)) (fun k_ hk_=>hk_.1.1.2));replace HO833:=Aa.mk (Kd.AJ (ok':=fun k_=>some k_≠(.slice (some ad830) t827.length co13:Value).ownBlock) (Kd.NJ ((Kd.Gn HO833.out (Kd.IX HO_3.out) (by decide))) hkp (fun k_ hk_ hs_=>(hk_.2) hs_)) (fun k_ hk_=>hk_.1.1.2));have HO836:=Aa.mk (Kd.AJ (ok':=fun k_=>True) ho0 (fun k_ hk_=>trivial));replace HB:=Aa.mk (hb);clear HO_3;(try clear hb);(try clear hkp);(try clear ho0)))
     go_roundg k1
     case measure=>have:=HK1.out;omega
     case rel=>exact ⟨(t834),(x4_1++t837),(wrap64 (x6_1+1)),Zs.auS,Zs.auS,H',⟨by have:=HK1.out;omega⟩,⟨(Zs.mvR HO836.out)⟩,⟨(Zs.mvR (Kd.AJ HO_5.out (fun _ hk=>trivial)))⟩,⟨Zs.auHB⟩⟩
    ·have c7b0:=decide_eq_false c7;clear c7
     obtain ⟨c18,H⟩:=Zq.ip H
     try have c18b2:(9223372036854775807<x4_1.size+6)=False:=eq_false (Nat.not_lt.2 c18)
     obtain ⟨t838,A19,H⟩:=Zs.be H
     obtain ⟨c20,H⟩:=Zq.ip H
     try skip
     have c20b4:=eq_false (Nat.not_lt.2 c20);simp only [ByteArray.size_append,show (⟨#[116,101,114,109,115,32]⟩:ByteArray).size=6 from rfl] at c20b4
     obtain ⟨c21,H⟩:=Zq.ip H
     try skip
     have c21b4:=eq_false (Nat.not_lt.2 c21);simp only [ByteArray.size_append,show (⟨#[116,101,114,109,115,32]⟩:ByteArray).size=6 from rfl] at c21b4;obtain rfl:=Option.some.inj H;obtain ⟨Ao22,co22,eo22⟩:=Kd.AD HO_5.out;subst eo22;obtain ⟨Ao23,co23,eo23⟩:=Kd.AD HO_3.out;subst eo23
     go_wp2_with (((with_reducible refine Ab (f:=53) rfl ?_);refine Zq.gb Tryz.func53 (AX.calls _ _ _ _ A19.out) ?_;intro w24 hb;replace HO_3:=Zq.rb HO_3.out hb;replace HO_5:=Zq.rb HO_5.out hb;replace HB:=Zq.st hb;(try clear hb)))
     go_ret
     exact ⟨Zs.auR,Zs.auHB⟩
def laws_FnExactExecute.f (k:Nat) (a0:ByteArray):Option (Bool):=if (a0.size:Int)>1048576 then (some true) else ((Ce.f k a0).bind fun t839=>((C5.f k a0).bind fun t840=>(if t840.toList=t839.toList then (some true) else (some false))))
theorem laws_FnExactExecute.calls (k:Nat) (a0:ByteArray) (r:Bool) (w:World) (hG:GW w) (h:laws_FnExactExecute.f k a0=some r) :
  Calls Tryz.prog 12 #[.string a0] w fun e w'=>e = .returned (.bool r)∧Below w.heap.size w w':=by
 have HG:=Aa.mk hG;clear hG;have HB:=Aa.mk (Below.refl w.heap.size w);unfold laws_FnExactExecute.f at h;have H:=h;clear h
 rcases Zq.ii H with ⟨c2,H⟩|⟨c2,H⟩
 ·have c2b0:decide (1048576<(a0.size:Int))=true:=decide_eq_true c2;clear c2;obtain rfl:=Option.some.inj H
  go_enter Tryz.func12,Tryz.ntmps12
  go_wp2;go_ret
  exact ⟨Zs.auR,Zs.auHB⟩
 ·have c2b0:decide (1048576<(a0.size:Int))=false:=decide_eq_false c2;clear c2;obtain ⟨t839,A3,H⟩:=Zs.be H;obtain ⟨t840,A4,H⟩:=Zs.be H
  rcases Zq.ii H with ⟨c5,H⟩|⟨c5,H⟩
  ·have c5b0:=beq_iff_eq.mpr c5;clear c5;obtain rfl:=Option.some.inj H
   go_enter Tryz.func12,Tryz.ntmps12
   go_wp2_with (first|((with_reducible refine Ab (f:=15) rfl ?_);refine Zq.gb Tryz.func15 (Ce.calls _ _ _ _ A3.out) ?_;intro w6 hb;replace HB:=Zq.st hb;(try clear hb))|((with_reducible refine Ab (f:=14) rfl ?_);refine Zq.gb Tryz.func14 (C5.calls _ _ _ _ (GW.below HG.out (by repeat (first|(with_reducible first|exact HB.out|apply Al|apply As|apply Ax)|exact HB.out))) A4.out) ?_;intro w7 hb;replace HB:=Zq.st hb;(try clear hb)))
   go_ret
   exact ⟨Zs.auR,Zs.auHB⟩
  ·have c5b0:=beq_eq_false_iff_ne.mpr c5;obtain rfl:=Option.some.inj H
   go_enter Tryz.func12,Tryz.ntmps12
   go_wp2_with (first|((with_reducible refine Ab (f:=15) rfl ?_);refine Zq.gb Tryz.func15 (Ce.calls _ _ _ _ A3.out) ?_;intro w8 hb;replace HB:=Zq.st hb;(try clear hb))|((with_reducible refine Ab (f:=14) rfl ?_);refine Zq.gb Tryz.func14 (C5.calls _ _ _ _ (GW.below HG.out (by repeat (first|(with_reducible first|exact HB.out|apply Al|apply As|apply Ax)|exact HB.out))) A4.out) ?_;intro w9 hb;replace HB:=Zq.st hb;(try clear hb)))
   go_ret
   exact ⟨Zs.auR,Zs.auHB⟩
def laws_FnExactExecute.Pure:Prop := ∀(a0:ByteArray),a0.size≤140737488351232→∃k,laws_FnExactExecute.f k a0=some true
theorem laws_FnExactExecute.walk (P:laws_FnExactExecute.Pure) (a0:ByteArray) (w:World) (w0:a0.size≤140737488351232) (hG:GW w) :
  Calls Tryz.prog 12 #[.string a0] w fun e w'=>e = .returned (.bool true)∧Below w.heap.size w w':=by
 obtain ⟨k,h⟩:=P a0 w0;refine (laws_FnExactExecute.calls k a0 true w hG h).mono ?_;rintro e w' ⟨rfl,hd⟩;exact ⟨rfl,hd⟩
end Go.Proofs.YtacfcoilmdhgnaaGreatDoor.PFnExactExecute
