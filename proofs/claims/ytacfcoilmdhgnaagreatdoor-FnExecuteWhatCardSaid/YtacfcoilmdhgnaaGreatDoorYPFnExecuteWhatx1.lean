/- A function's Lean twin and its walk, written by a program of this session. -/
import Derived.Test.YtacfcoilmdhgnaaGreatDoorYPFnExecuteWhatx0
set_option maxHeartbeats 8000000
set_option maxRecDepth 100000
namespace Go.Proofs.YtacfcoilmdhgnaaGreatDoor.PFnExecuteWhat
open Go.RowKit Go.Proofs.YtacfcoilmdhgnaaGreatDoorW.PrintWords Go.Proofs.YtacfcoilmdhgnaaGreatDoorW.PrintLast Go.Proofs.YtacfcoilmdhgnaaGreatDoorW.PrintMore
attribute [local go_sem] DN DO El En Du Dt DP DK   -- for this text's walks alone
set_option linter.unusedVariables false
set_option linter.unusedSimpArgs false
mutual
def Av.j1:Nat→List Int→List Int→Int→Option (List Int×Int)
 | 0,_,_,_=>none
 | k+1,x5,x6,x7=>if (x5.length:Int)=3 then (Aj.f k x6 x7 2).bind fun bt3=>(if bt3.1=0 then (As.f k x5).bind fun t4=>(Av.j2 k x5 t4 x6 bt3.2) else Av.j2 k x5 false x6 bt3.2) else Av.j2 k x5 false x6 x7
def Av.j2:Nat→List Int→Bool→List Int→Int→Option (List Int×Int)
 | 0,_,_,_,_=>none
 | k+1,x5,x33,x6,x7=>if x33=true then if 0<(x5.length:Int) then (Aj.f k x6 x7 2).bind fun bt3=>(if 1<(x5.length:Int) then if (wrap64 ((wrap64 (-(wrap64 ((rd x5 0)*(wrap64 (1+bt3.1))))))-(rd x5 1)))=0 then some (x5,bt3.2) else (Bc.f (wrap64 ((wrap64 (-(wrap64 ((rd x5 0)*(wrap64 (1+bt3.1))))))-(rd x5 1)))).bind fun t4=>(if t4≤30 then if 2<(x5.length:Int) then some ((x5.set (2:Int).toNat (wrap64 ((wrap64 (-(wrap64 ((rd x5 0)*(wrap64 (1+bt3.1))))))-(rd x5 1)))),bt3.2) else none else some (x5,bt3.2)) else none) else none else some (x5,x7)
def Av.l0:Nat→Int→List Int→List Int→Int→Option (List Int×Int)
 | 0,_,_,_,_=>none
 | k+1,x1,x5,x4,x6=>if (x5.length:Int)<x1 then if (x5.length:Int)>0 then (Bz.f k x4 x6 1).bind fun bt3=>(if x5.length+bt3.1.length<17592186044416 then Av.l0 k x1 (x5++bt3.1) x4 bt3.2 else none) else Av.j1 k x5 x4 x6 else Av.j1 k x5 x4 x6
end
def Av.f (k:Nat) (s0_0:List Int) (s0_1 a1:Int):Option (List Int×Int):=(Bz.f k s0_0 s0_1 1).bind fun bt3=>(Av.l0 k a1 bt3.1 s0_0 bt3.2)
def Av.T5:Bool×List (List Nat×List Nat):=(true,[([],[]),([0],[0]),([1],[1]),([],[]),([3],[3]),([4],[4]),([2,5],[2,5]),([6],[6]),([],[]),([8],[8]),([9],[9]),([7,10],[7,10]),([11,4,0,1,2,3,4,5,6,7,8,9,10,11],[11])])
def Av.B5:List Nat:=[0,1,3,0,8,24,63,127,0,256,768,2047,4095]
theorem Av.tab5:rtab .any (opsOf Tryz.f76 5)=Av.T5:=by kernel_rfl
theorem Av.O7:DJ Av.T5.2 Av.B5=true:=by kernel_rfl
theorem Av.calls (k g:Nat) (s0_0:List Int) (s0_1 a1:Int) (r1:List Int) (r2:Int) (w0 w:World) (hI:AH w0 w g s0_0 s0_1) (hB:Below w0.heap.size w0 w) (h:Av.f k s0_0 s0_1 a1=some (r1,r2)) :
  Calls Tryz.prog 76 #[.pointer (some ⟨g,0,none⟩),.int .i64 a1] w fun e w' => ∃v0_:Value,e = .returned (v0_)∧Kd.R (Kd.int .i64) 3 w' w.heap.size (fun _=>True) v0_ r1∧AH w0 w' g s0_0 r2∧Below w0.heap.size w0 w'∧AA w w' g none:=by
 have HI0:=Aa.mk hI;have HK:=Aa.mk (AA.refl w g none);have HL:=Aa.mk hB.size;clear hI;have HW0:=Aa.mk hB.size;have HB:=Aa.mk hB;clear hB;unfold Av.f at h;have H:=h;clear h;obtain ⟨t26,t50,A3,H⟩:=Zq.bp H;try dsimp only at H;have HC4:=Aa.mk H;clear H
 go_enter Tryz.func76,Tryz.ntmps76
 go_upto_block 0 with (((with_reducible refine Ab (f:=58) rfl ?_);refine Zq.gc (some 8) Tryz.func58 (Bz.calls _ _ _ _ _ _ _ _ _ Zq.iI Zq.iB A3.out) ?_;rintro e w5 ⟨v48,rfl,ho0,hi,hb,hk⟩;refine ⟨_,rfl,?_⟩;have HO49:=Aa.mk (Kd.Bp ho0 (Dm (w:=w) (g:=g) (row:=none) Zq.iK));replace HK:=Aa.mk (AA.trans Zq.iK hk (.inl rfl));replace HB:=Aa.mk (hb);replace HI0:=Aa.mk (hi);(try clear hb);(try clear hk);(try clear hi);(try clear ho0)))
 (try simp only [Act.put,List.setIfInBounds_toArray,List.set_cons_zero,List.set_cons_succ])
 go_cut [5] (fun v5 wc => ∃(kq:Nat) (x5_3:List Int) (x69_3:Int),Aa (Av.j1 kq x5_3 s0_0 x69_3=some (r1,r2))∧Aa (kq≤k)∧Aa (Kd.R (Kd.int .i64) 3 wc w.heap.size (fun _=>True) v5 x5_3)∧Aa (AH w0 wc g s0_0 x69_3)∧Aa (AA w wc g none)∧Aa (Below w0.heap.size w0 wc))
 case first =>
  have H:=HC4.out;clear HC4;have H':=Aa.mk H;clear H;go_wp2
  go_loopg [5] k (fun kq v5 w' => ∃(x5_1:List Int) (x69_1:Int),Aa (Av.l0 kq a1 x5_1 s0_0 x69_1=some (r1,r2))∧Aa (kq≤k)∧Aa (Kd.R (Kd.int .i64) 3 w' w.heap.size (fun _=>True) v5 x5_1)∧Aa (AH w0 w' g s0_0 x69_1)∧Aa (AA w w' g none)∧Aa (Below w0.heap.size w0 w'))
  case atStart=>exact ⟨(t26),(t50),H',⟨Nat.le_refl _⟩,⟨(Zs.mvR HO49.out)⟩,⟨Zq.iI⟩,⟨Zq.iK⟩,⟨Zq.iB⟩⟩
  case round =>
   clear H'
   obtain ⟨x5_1,x69_1,HA,HK1,HO_5,HI0,HK,HB⟩:=hrel;cases gk with
   | zero=>exact absurd HA.out (by simp [Av.l0])
   | succ k1 =>
    have H:=HA.out;clear HA;simp only [Av.l0] at H
    rcases Zq.jd H with ⟨c6b0,H⟩|⟨c6b0,H⟩
    ·rcases Zq.ii H with ⟨c7,H⟩|⟨c7,H⟩
     ·have c7b1:decide (0<x5_1.length)=true:=decide_eq_true (by omega);clear c7;obtain ⟨t51,t54,A8,H⟩:=Zq.bp H;try dsimp only at H
      obtain ⟨c9,H⟩:=Zq.ip H;have LMc9:=Aa.mk c9;clear c9;generalize hyy:(x5_1++t51:List Int)=y55 at H;have Ny55:=Aa.mk hyy.symm;clear hyy;have H':=Aa.mk H;clear H;obtain ⟨Ao10,co10,eo10⟩:=Kd.Az HO_5.out;subst eo10
      go_wp2_with (first|((with_reducible refine Ab (f:=58) rfl ?_);refine Zq.gc (some 20) Tryz.func58 (Bz.calls _ _ _ _ _ _ _ _ _ Zq.iI Zq.iB A8.out) ?_;rintro e w11 ⟨v52,rfl,ho0,hi,hb,hk⟩;refine ⟨_,rfl,?_⟩;have HO53:=Aa.mk (Kd.Bp (Kd.Br ho0 (Zq.lt HO_5.out)) (Dm (w:=w) (g:=g) (row:=none) Zq.iK));replace HO_5:=Aa.mk (Kd.AB (Kd.R_told (Kd.R_oldK (AH.apart (show AH w0 _ g s0_0 x69_1 from Zq.iI) ((Zs.mvR HO_5.out)) (by decide)) hk) (Kd.Mv ho0)) (fun _ h_=>h_.1));replace HK:=Aa.mk (AA.trans Zq.iK hk (.inl rfl));replace HB:=Aa.mk (hb);replace HI0:=Aa.mk (hi);(try clear hb);(try clear hk);(try clear hi);(try clear ho0);obtain ⟨Ao13,co13,eo13⟩:=Kd.Az HO53.out;subst eo13)|((with_reducible refine AY (b := .append) (xs:=#[.tmp 18,.tmp 20]) rfl ?_);(try (refine Dr (by rfl) ?_;dsimp only));at_builtin;refine Kd.FF (Kd.int .i64) w.heap.size rfl (.tmp 18) (.tmp 20) 27 3 (.int .i64 0) 8 rfl Tryz.underlying27 DS rfl (by decide) (by omega) (.slice Ao10 x5_1.length co10) x5_1 t51 _ _ _ (fun k_=>some k_≠(.slice Ao13 t51.length co13:Value).ownBlock) (fun _=>False) rfl rfl ?aO ?aR (fun _ _ h=>h) (fun _ h=>h.elim) ?aF (Below.refl _ _) ?aS ?aL ?_;(case aR=>exact Zs.mvC ((Kd.Ac HO53.out).2.2));(case aF=>exact (fun k_ hk=>Kd.DF (Zq.lt HO53.out) k_ hk));(case aO=>exact ((Zs.mvR (Kd.AB HO_5.out Zq.tk))));(case aS=>exact (Dm (w:=w) (g:=g) (row:=none) Zq.iK));(case aL=>have:=LMc9.out;omega);intro v56 w12 ho hb hg hat;rw [← Ny55.out] at ho;replace HO53:=Aa.mk (Kd.BW (ok:=(fun _=>True)) ((Zs.mvR HO53.out)) hg hat);replace HB:=Aa.mk (FP Zq.iB HL.out hb);replace HI0:=Aa.mk (AH.grown Zq.iI hg (AH.C0 HI0.out HO_5.out (by decide)));replace HK:=Aa.mk (AA.trans Zq.iK (AA.ET hg g) (Kd.Ie HO_5.out));have HO57:=Aa.mk (ho);clear HO_5;clear ho hb hg hat))
      go_roundg k1
      case measure=>have:=HK1.out;omega
      case rel=>exact ⟨(y55),(t54),H',⟨by have:=HK1.out;omega⟩,⟨(Zs.mvR (Kd.AB HO57.out (fun _ hk=>trivial)))⟩,⟨Zq.iI⟩,⟨Zq.iK⟩,⟨Zq.iB⟩⟩
     ·have c7b1:decide (0<x5_1.length)=false:=decide_eq_false (by omega);clear c7;have H':=Aa.mk H;clear H;obtain ⟨Ao14,co14,eo14⟩:=Kd.Az HO_5.out;subst eo14;go_wp2
      go_meet
      case rel=>exact ⟨_,(x5_1),(x69_1),H',⟨by have:=HK1.out;first|omega|exact Nat.le_refl _⟩,⟨(Zs.mvR HO_5.out)⟩,⟨Zq.iI⟩,⟨Zq.iK⟩,⟨Zq.iB⟩⟩
    ·have H':=Aa.mk H;clear H;obtain ⟨Ao15,co15,eo15⟩:=Kd.Az HO_5.out;subst eo15;go_wp2
     go_meet
     case rel=>exact ⟨_,(x5_1),(x69_1),H',⟨by have:=HK1.out;first|omega|exact Nat.le_refl _⟩,⟨(Zs.mvR HO_5.out)⟩,⟨Zq.iI⟩,⟨Zq.iK⟩,⟨Zq.iB⟩⟩
 case rest =>
  clear HC4
  obtain ⟨kq,x5_3,x69_3,HA,HJ3,HO_5,HI0,HK,HB⟩:=hcut;cases kq with
  | zero=>exact absurd HA.out (by simp [Av.j1])
  | succ kj3 =>
   have H:=HA.out;clear HA;simp only [Av.j1] at H;have HC16:=Aa.mk H;clear H
   go_upto_region 4 with (fail)
   go_cut [33] (fun v33 wc => ∃(kq:Nat) (x33_15:Bool) (x69_15:Int),v33 = .bool x33_15∧Aa (Av.j2 kq x5_3 x33_15 s0_0 x69_15=some (r1,r2))∧Aa (kq≤kj3)∧Aa (Kd.R (Kd.int .i64) 3 wc w.heap.size (fun _=>True) u5 x5_3)∧Aa (AH w0 wc g s0_0 x69_15)∧Aa (AA w wc g none)∧Aa (Below w0.heap.size w0 wc))
   case first =>
    have H:=HC16.out;clear HC16
    rcases Zq.jn H with ⟨c17b0,H⟩|⟨c17,c17b0,H⟩
    ·obtain ⟨t59,t60,A18,H⟩:=Zq.bp H;try dsimp only at H
     rcases Zq.jn H with ⟨c19b0,H⟩|⟨c19,c19b0,H⟩
     ·obtain ⟨t61,A20,H⟩:=Zs.be H;have H':=Aa.mk H;clear H;obtain ⟨Ao21,co21,eo21⟩:=Kd.Az HO_5.out;subst eo21
      go_wp2_with (first|(go_at_call 43;(with_reducible refine (Aj.calls kj3 g s0_0 x69_3 2 t59 t60 w0 _ ?side1 ?side2 A18.out).mono ?_);(case side1=>repeat (first|(with_reducible first|exact HI0.out|apply AH.alloc|apply AH.drewN|apply AH.drew|apply AH.GZ)|exact HI0.out));(case side2=>repeat (first|(with_reducible first|exact HB.out|apply Ah|apply Ag|apply Al|refine AE ?_ (AH.ge HI0.out))|exact HB.out));rintro e w22 ⟨rfl,hi,hb,hk⟩;replace HO_5:=Aa.mk (Kd.AB (Kd.DL (AH.apart (show AH w0 _ g s0_0 x69_3 from Zq.iI) ((Zs.mvR HO_5.out)) (by decide)) hk (fun _ h=>h.2)) (fun _ h=>h.1));replace HK:=Aa.mk (AA.trans Zq.iK hk (.inl rfl));replace HB:=Aa.mk (hb);replace HI0:=Aa.mk (hi);(try clear hb);(try clear hk);(try clear hi))|(go_at_call 62;(with_reducible refine (As.calls kj3 _ _ x5_3 t61 _ ?side1 ?side2 A20.out).mono ?_);(case side1=>exact Zs.mvC ((Kd.Ac HO_5.out).2.2));(case side2=>exact (Kd.Ac HO_5.out).2.1);rintro e w' ⟨rfl,⟨nd,rfl⟩⟩))
      go_meet
      case rel=>exact ⟨_,(t61),(t60),Zs.auS,H',⟨by have:=HJ3.out;first|omega|exact Nat.le_refl _⟩,⟨(Zs.mvR HO_5.out)⟩,⟨Zq.iI⟩,⟨Zq.iK⟩,⟨Zq.iB⟩⟩
     ·have H':=Aa.mk H;clear H;obtain ⟨Ao23,co23,eo23⟩:=Kd.Az HO_5.out;subst eo23
      go_wp2_with ((go_at_call 43;(with_reducible refine (Aj.calls kj3 g s0_0 x69_3 2 t59 t60 w0 _ ?side1 ?side2 A18.out).mono ?_);(case side1=>repeat (first|(with_reducible first|exact HI0.out|apply AH.alloc|apply AH.drewN|apply AH.drew|apply AH.GZ)|exact HI0.out));(case side2=>repeat (first|(with_reducible first|exact HB.out|apply Ah|apply Ag|apply Al|refine AE ?_ (AH.ge HI0.out))|exact HB.out));rintro e w24 ⟨rfl,hi,hb,hk⟩;replace HO_5:=Aa.mk (Kd.AB (Kd.DL (AH.apart (show AH w0 _ g s0_0 x69_3 from Zq.iI) ((Zs.mvR HO_5.out)) (by decide)) hk (fun _ h=>h.2)) (fun _ h=>h.1));replace HK:=Aa.mk (AA.trans Zq.iK hk (.inl rfl));replace HB:=Aa.mk (hb);replace HI0:=Aa.mk (hi);(try clear hb);(try clear hk);(try clear hi)))
      go_meet
      case rel=>exact ⟨_,(false),(t60),Zs.auS,H',⟨by have:=HJ3.out;first|omega|exact Nat.le_refl _⟩,⟨(Zs.mvR HO_5.out)⟩,⟨Zq.iI⟩,⟨Zq.iK⟩,⟨Zq.iB⟩⟩
    ·have H':=Aa.mk H;clear H;obtain ⟨Ao25,co25,eo25⟩:=Kd.Az HO_5.out;subst eo25;go_wp2
     go_meet
     case rel=>exact ⟨_,(false),(x69_3),Zs.auS,H',⟨by have:=HJ3.out;first|omega|exact Nat.le_refl _⟩,⟨(Zs.mvR HO_5.out)⟩,⟨Zq.iI⟩,⟨Zq.iK⟩,⟨Zq.iB⟩⟩
   case rest =>
    clear HC16
    obtain ⟨kq,x33_15,x69_15,rfl,HA,HJ15,HO_5,HI0,HK,HB⟩:=hcut;cases kq with
    | zero=>exact absurd HA.out (by simp [Av.j2])
    | succ kj15 =>
     have H:=HA.out;clear HA;simp only [Av.j2] at H
     cases x33_15
     ·replace H:=Zq.fh H;obtain ⟨rfl,rfl⟩:=Zq.pi H;go_wp2;go_ret
      exact ⟨_,Zs.auR,(Zs.mvR HO_5.out),Zq.iI,Zq.iB,Zq.iK⟩
     ·replace H:=Zq.th H
      obtain ⟨c27b0,H⟩:=Zq.pd H;obtain ⟨t63,t65,A28,H⟩:=Zq.bp H;try dsimp only at H
      obtain ⟨c29b0,H⟩:=Zq.pd H
      rcases Zq.ii H with ⟨c30,H⟩|⟨c30,H⟩
      ·have c30b1:=bne_eq_false_iff_eq.mpr c30;clear c30;obtain ⟨rfl,rfl⟩:=Zq.pi H
       try go_wp2
       have n0_:=Aa.mk (Kd.DE HO_5.out);have n1_:=Aa.mk (AH.drew HI0.out);have n2_:=Aa.mk (GD HK.out);have n3_:=Aa.mk (Al HB.out);clear HO_5;clear HI0;clear HK;clear HB;have HO_5:=n0_;have HI0:=n1_;have HK:=n2_;have HB:=n3_;clear n0_ n1_ n2_ n3_;obtain ⟨Ao32,co32,eo32⟩:=Kd.Az HO_5.out
       (first|subst eo32|(injection eo32 with f1_ f2_ f3_;have f4_:=f1_.symm;have f5_:=f3_.symm;clear f1_ f2_ f3_;subst f4_;subst f5_))
       obtain ⟨ad62,e62,hx62_0,p62,q62,qi62⟩:=Zq.a0 (Kd.Ac HO_5.out).2.2;cases e62;obtain ⟨ad66,e66,hx66_0,p66,q66⟩:=Zq.an (Kd.Ac HO_5.out).2.2 1 1;obtain rfl:ad62=ad66:=(by injection e66);refine D6 (n:=13) (S:=fun w'=>w'.cell? ad62=some (.int .i64 (rd x5_3 0))∧w'.cell? ⟨ad62.block,ad62.off+1,none⟩=some (.int .i64 (rd x5_3 1))) (ds:=[]) #[false,false,false,false,false,false,false,false,false,false,false,false,false] (by kernel_rfl) rfl rfl ⟨hx62_0,hx66_0⟩ (fun hHeld=>?_);refine CP Av.tab5 Av.O7 (fun HT_ HW_=>?_);generalize wc.drew=w31 at HO_5 HI0 HK HB hx62_0 hx66_0 hHeld ⊢;refine Zs.pu 0 (some 34) ?_;refine Zs.pu 1 (some 35) ?_;refine Zs.pu 3 (some 37) ?_;refine Zs.pu 8 (some 42) ?_;refine Zs.pu 9 (some 43) ?_;refine Zs.ta2 2 (some 36) ?_;refine Zs.ta2 10 (some 44) ?_
       refine Zq.o1 4 (some 38) (fun K hK=>?_);refine FN Tryz.func43 (by kernel_rfl) rfl #[.pointer (some ⟨g,0,none⟩),.int .i64 2] (by rfl) rfl rfl Zs.auM ?_
       with_reducible refine (Aj.calls kj15 g s0_0 x69_15 2 t63 t65 w0 _ ?side1 ?side2 A28.out).mono ?_
       (case side1=>repeat (first|(with_reducible first|exact HI0.out|apply AH.alloc|apply AH.drewN|apply AH.drew|apply AH.GZ)|exact HI0.out))
       (case side2=>repeat (first|(with_reducible first|exact HB.out|apply Ah|apply Ag|apply Al|refine AE ?_ (AH.ge HI0.out))|exact HB.out))
       rintro e w33 ⟨rfl,hi,hb,hk⟩;have HS0_:=Ej hk (hHeld.1) (by first|(rw [Dl];exact Kd.DH (AH.C0 HI0.out HO_5.out (by decide)))|(show (Addr.add _ _).block≠_;rw [Dl];exact Kd.DH (AH.C0 HI0.out HO_5.out (by decide)))|exact Kd.DH (AH.C0 HI0.out HO_5.out (by decide))|exact fun e_=>(AH.C0 HI0.out HO_5.out (by decide)) (by rw [← e_];rfl));have HS1_:=Ej hk (hHeld.2) (by first|(rw [Dl];exact Kd.DH (AH.C0 HI0.out HO_5.out (by decide)))|(show (Addr.add _ _).block≠_;rw [Dl];exact Kd.DH (AH.C0 HI0.out HO_5.out (by decide)))|exact Kd.DH (AH.C0 HI0.out HO_5.out (by decide))|exact fun e_=>(AH.C0 HI0.out HO_5.out (by decide)) (by rw [← e_];rfl));refine ⟨_,rfl,?_⟩;have n0_:=Aa.mk (Kd.AB (Kd.DL (AH.apart (show AH w0 _ g s0_0 x69_15 from Zq.iI) ((Zs.mvR HO_5.out)) (by decide)) hk (fun _ h=>h.2)) (fun _ h=>h.1));have n1_:=Aa.mk (AA.trans Zq.iK hk (.inl rfl));have n2_:=Aa.mk (hb);have n3_:=Aa.mk (hi);clear HO_5;clear HK;clear HB;clear HI0;have HO_5:=n0_;have HK:=n1_;have HB:=n2_;have HI0:=n3_;clear n0_ n1_ n2_ n3_;(try clear hb);(try clear hb2);(try clear hk);(try clear hi);refine hK.out _ _ ⟨HS0_,HS1_⟩ (fun hHeld=>?_);clear hK K;refine Zq.nm (some 38) ?_
       refine Zs.pu 5 (some 39) ?_;refine Zs.pu 6 (some 40) ?_;refine Zs.pu 7 (some 41) ?_;refine Zs.pu 11 (some 45) ?_;refine Zs.pu 12 (some 6) ?_
       refine Zq.dn ?_
       try go_wp2
       go_ret
       exact ⟨_,Zs.auR,(Zs.mvR HO_5.out),Zq.iI,Zq.iB,Zq.iK⟩
      ·have c30b1:=bne_iff_ne.mpr c30;obtain ⟨t67,A34,H⟩:=Zs.be H
       rcases Zq.jd H with ⟨c35b0,H⟩|⟨c35b0,H⟩
       ·obtain ⟨c36b0,H⟩:=Zq.pd H;generalize hyy:(x5_3.set (2:Int).toNat (wrap64 ((wrap64 (-(wrap64 ((rd x5_3 0)*(wrap64 (1+t63))))))-(rd x5_3 1))):List Int)=y68 at H;have Ny68:=Aa.mk hyy.symm;clear hyy;obtain ⟨rfl,rfl⟩:=Zq.pi H
        try go_wp2
        have n0_:=Aa.mk (Kd.DE HO_5.out);have n1_:=Aa.mk (AH.drew HI0.out);have n2_:=Aa.mk (GD HK.out);have n3_:=Aa.mk (Al HB.out);clear HO_5;clear HI0;clear HK;clear HB;have HO_5:=n0_;have HI0:=n1_;have HK:=n2_;have HB:=n3_;clear n0_ n1_ n2_ n3_;obtain ⟨Ao39,co39,eo39⟩:=Kd.Az HO_5.out
        (first|subst eo39|(injection eo39 with f1_ f2_ f3_;have f4_:=f1_.symm;have f5_:=f3_.symm;clear f1_ f2_ f3_;subst f4_;subst f5_))
        obtain ⟨ad62,e62,hx62_0,p62,q62,qi62⟩:=Zq.a0 (Kd.Ac HO_5.out).2.2;cases e62;obtain ⟨ad66,e66,hx66_0,p66,q66⟩:=Zq.an (Kd.Ac HO_5.out).2.2 1 1;obtain rfl:ad62=ad66:=(by injection e66);refine D6 (n:=13) (S:=fun w'=>w'.cell? ad62=some (.int .i64 (rd x5_3 0))∧w'.cell? ⟨ad62.block,ad62.off+1,none⟩=some (.int .i64 (rd x5_3 1))) (ds:=[]) #[false,false,false,false,false,false,false,false,false,false,false,false,false] (by kernel_rfl) rfl rfl ⟨hx62_0,hx66_0⟩ (fun hHeld=>?_);refine CP Av.tab5 Av.O7 (fun HT_ HW_=>?_);generalize wc.drew=w38 at HO_5 HI0 HK HB hx62_0 hx66_0 hHeld ⊢;refine Zs.pu 0 (some 34) ?_;refine Zs.pu 1 (some 35) ?_;refine Zs.pu 3 (some 37) ?_;refine Zs.pu 8 (some 42) ?_;refine Zs.pu 9 (some 43) ?_;refine Zs.ta2 2 (some 36) ?_;refine Zs.ta2 10 (some 44) ?_
        refine Zq.o1 4 (some 38) (fun K hK=>?_);refine FN Tryz.func43 (by kernel_rfl) rfl #[.pointer (some ⟨g,0,none⟩),.int .i64 2] (by rfl) rfl rfl Zs.auM ?_
        with_reducible refine (Aj.calls kj15 g s0_0 x69_15 2 t63 t65 w0 _ ?side1 ?side2 A28.out).mono ?_
        (case side1=>repeat (first|(with_reducible first|exact HI0.out|apply AH.alloc|apply AH.drewN|apply AH.drew|apply AH.GZ)|exact HI0.out))
        (case side2=>repeat (first|(with_reducible first|exact HB.out|apply Ah|apply Ag|apply Al|refine AE ?_ (AH.ge HI0.out))|exact HB.out))
        rintro e w40 ⟨rfl,hi,hb,hk⟩;have HS0_:=Ej hk (hHeld.1) (by first|(rw [Dl];exact Kd.DH (AH.C0 HI0.out HO_5.out (by decide)))|(show (Addr.add _ _).block≠_;rw [Dl];exact Kd.DH (AH.C0 HI0.out HO_5.out (by decide)))|exact Kd.DH (AH.C0 HI0.out HO_5.out (by decide))|exact fun e_=>(AH.C0 HI0.out HO_5.out (by decide)) (by rw [← e_];rfl));have HS1_:=Ej hk (hHeld.2) (by first|(rw [Dl];exact Kd.DH (AH.C0 HI0.out HO_5.out (by decide)))|(show (Addr.add _ _).block≠_;rw [Dl];exact Kd.DH (AH.C0 HI0.out HO_5.out (by decide)))|exact Kd.DH (AH.C0 HI0.out HO_5.out (by decide))|exact fun e_=>(AH.C0 HI0.out HO_5.out (by decide)) (by rw [← e_];rfl));refine ⟨_,rfl,?_⟩;have n0_:=Aa.mk (Kd.AB (Kd.DL (AH.apart (show AH w0 _ g s0_0 x69_15 from Zq.iI) ((Zs.mvR HO_5.out)) (by decide)) hk (fun _ h=>h.2)) (fun _ h=>h.1));have n1_:=Aa.mk (AA.trans Zq.iK hk (.inl rfl));have n2_:=Aa.mk (hb);have n3_:=Aa.mk (hi);clear HO_5;clear HK;clear HB;clear HI0;have HO_5:=n0_;have HK:=n1_;have HB:=n2_;have HI0:=n3_;clear n0_ n1_ n2_ n3_;(try clear hb);(try clear hb2);(try clear hk);(try clear hi);refine hK.out _ _ ⟨HS0_,HS1_⟩ (fun hHeld=>?_);clear hK K;refine Zq.nm (some 38) ?_
        refine Zs.pu 5 (some 39) ?_;refine Zs.pu 6 (some 40) ?_;refine Zs.pu 7 (some 41) ?_;refine Zs.pu 11 (some 45) ?_;refine Zs.pu 12 (some 6) ?_
        refine Zq.dn ?_
        try go_wp2_with (first|(go_at_call 134;(with_reducible refine (Bc.calls (wrap64 ((wrap64 (-(wrap64 ((rd x5_3 0)*(wrap64 (1+t63))))))-(rd x5_3 1))) t67 _ A34.out).mono ?_);rintro e w41 ⟨rfl,hb⟩;replace HO_5:=Zq.rb HO_5.out hb;replace HK:=Aa.mk (AA.trans Zq.iK (AA.CV hb g none) (.inl rfl));replace HB:=Aa.mk (Bj Zq.iB hb);replace HI0:=Aa.mk (AH.below Zq.iI hb);(try clear hb);have p37:0≤(2:Int):=(by omega);have q37:(2:Int)<((x5_3.length:Int):Int):=Zs.od;obtain ⟨go37,co37,eo37,gb37,gl37,cl37,HG37⟩:=Kd.E7 HO_5.out (by omega);(first|cases eo37|(injection eo37 with ea_ en_ ec_;(first|subst ea_|(injection ea_ with ea_;subst ea_));subst ec_;clear en_));have GB37:=Aa.mk gb37;have GG37:=Aa.mk HG37;clear gb37 gl37 HG37;(first|simp only [add_plain] at hx62_0|skip);(first|simp only [add_plain] at hx66_0|skip);obtain ⟨hx37_0,hf37_0⟩:=Kd.Co 0 HO_5.out (2:Int) p37 q37;(try rw [show ((2:Int)).toNat=2 from rfl] at hx37_0);(try simp only [Nat.reduceMul,Nat.zero_mul,Nat.zero_add,Nat.reduceAdd] at hx37_0);(try rw [show ((2:Int)).toNat=2 from rfl] at hf37_0);(try simp only [Nat.reduceMul,Nat.zero_mul,Nat.zero_add,Nat.reduceAdd] at hf37_0);replace p37:=eq_true p37;replace q37:=eq_true q37;obtain ⟨hy42_,hz42_⟩:=Kd.Co 0 HO_5.out (2:Int) (by omega) (Zs.od);(try simp only [Int.reduceToNat,Int.toNat_zero,Int.toNat_ofNat,Nat.reduceMul,Nat.zero_mul,Nat.zero_add] at hy42_ hz42_);(try rw [show ((2:Int)).toNat=2 from rfl] at hy42_);(try rw [show ((2:Int)).toNat=2 from rfl] at hz42_);have HP42:=Kd.DV HO_5.out (2:Int) (wrap64 ((wrap64 (-(wrap64 ((rd x5_3 0)*(wrap64 (1+t63))))))-(rd x5_3 1))))|((with_reducible refine CA (t:=3) (p:=55) rfl ?_);refine Cb (t:=3) (p:=55) (v:=?vo_w43) (w1:=(w41.setCell ⟨go37,(2:Int).toNat,none⟩ (.int .i64 (wrap64 ((wrap64 (-(wrap64 ((rd x5_3 0)*(wrap64 (1+t63))))))-(rd x5_3 1)))))) ?hg ?ho ?hn ?hr ?_;(case ho=>rfl);(case hg=>rfl);(case hn=>rfl);(case hr=>first|(go_simp;done)|(go_simp;rfl));intro w43 hw;have hg:w41.grownBy w43 (some go37):=(by rw [hw];exact HP42.2);have hp_:Kd.R (Kd.int .i64) 3 w43 w.heap.size (fun _=>True) (.slice (some ⟨go37,0,none⟩) x5_3.length co39) y68:=(by rw [hw,Ny68.out];exact HP42.1);clear HP42;replace HI0:=Aa.mk (AH.grown Zq.iI hg (AH.C0 HI0.out HO_5.out (by decide)));replace HB:=Aa.mk ((by rw [hw];exact AE (HB.out) (Nat.le_trans HL.out GB37.out):Below w0.heap.size w0 w43));replace HK:=Aa.mk (AA.trans Zq.iK (AA.ET hg g) (Kd.Ie HO_5.out));replace HO_5:=Aa.mk (hp_);clear hg hw hp_))
        go_ret
        exact ⟨_,Zs.auR,(Zs.mvR HO_5.out),Zq.iI,Zq.iB,Zq.iK⟩
       ·obtain ⟨rfl,rfl⟩:=Zq.pi H
        try go_wp2
        have n0_:=Aa.mk (Kd.DE HO_5.out);have n1_:=Aa.mk (AH.drew HI0.out);have n2_:=Aa.mk (GD HK.out);have n3_:=Aa.mk (Al HB.out);clear HO_5;clear HI0;clear HK;clear HB;have HO_5:=n0_;have HI0:=n1_;have HK:=n2_;have HB:=n3_;clear n0_ n1_ n2_ n3_;obtain ⟨Ao45,co45,eo45⟩:=Kd.Az HO_5.out
        (first|subst eo45|(injection eo45 with f1_ f2_ f3_;have f4_:=f1_.symm;have f5_:=f3_.symm;clear f1_ f2_ f3_;subst f4_;subst f5_))
        obtain ⟨ad62,e62,hx62_0,p62,q62,qi62⟩:=Zq.a0 (Kd.Ac HO_5.out).2.2;cases e62;obtain ⟨ad66,e66,hx66_0,p66,q66⟩:=Zq.an (Kd.Ac HO_5.out).2.2 1 1;obtain rfl:ad62=ad66:=(by injection e66);refine D6 (n:=13) (S:=fun w'=>w'.cell? ad62=some (.int .i64 (rd x5_3 0))∧w'.cell? ⟨ad62.block,ad62.off+1,none⟩=some (.int .i64 (rd x5_3 1))) (ds:=[]) #[false,false,false,false,false,false,false,false,false,false,false,false,false] (by kernel_rfl) rfl rfl ⟨hx62_0,hx66_0⟩ (fun hHeld=>?_);refine CP Av.tab5 Av.O7 (fun HT_ HW_=>?_);generalize wc.drew=w44 at HO_5 HI0 HK HB hx62_0 hx66_0 hHeld ⊢;refine Zs.pu 0 (some 34) ?_;refine Zs.pu 1 (some 35) ?_;refine Zs.pu 3 (some 37) ?_;refine Zs.pu 8 (some 42) ?_;refine Zs.pu 9 (some 43) ?_;refine Zs.ta2 2 (some 36) ?_;refine Zs.ta2 10 (some 44) ?_
        refine Zq.o1 4 (some 38) (fun K hK=>?_);refine FN Tryz.func43 (by kernel_rfl) rfl #[.pointer (some ⟨g,0,none⟩),.int .i64 2] (by rfl) rfl rfl Zs.auM ?_
        with_reducible refine (Aj.calls kj15 g s0_0 x69_15 2 t63 t65 w0 _ ?side1 ?side2 A28.out).mono ?_
        (case side1=>repeat (first|(with_reducible first|exact HI0.out|apply AH.alloc|apply AH.drewN|apply AH.drew|apply AH.GZ)|exact HI0.out))
        (case side2=>repeat (first|(with_reducible first|exact HB.out|apply Ah|apply Ag|apply Al|refine AE ?_ (AH.ge HI0.out))|exact HB.out))
        rintro e w46 ⟨rfl,hi,hb,hk⟩;have HS0_:=Ej hk (hHeld.1) (by first|(rw [Dl];exact Kd.DH (AH.C0 HI0.out HO_5.out (by decide)))|(show (Addr.add _ _).block≠_;rw [Dl];exact Kd.DH (AH.C0 HI0.out HO_5.out (by decide)))|exact Kd.DH (AH.C0 HI0.out HO_5.out (by decide))|exact fun e_=>(AH.C0 HI0.out HO_5.out (by decide)) (by rw [← e_];rfl));have HS1_:=Ej hk (hHeld.2) (by first|(rw [Dl];exact Kd.DH (AH.C0 HI0.out HO_5.out (by decide)))|(show (Addr.add _ _).block≠_;rw [Dl];exact Kd.DH (AH.C0 HI0.out HO_5.out (by decide)))|exact Kd.DH (AH.C0 HI0.out HO_5.out (by decide))|exact fun e_=>(AH.C0 HI0.out HO_5.out (by decide)) (by rw [← e_];rfl));refine ⟨_,rfl,?_⟩;have n0_:=Aa.mk (Kd.AB (Kd.DL (AH.apart (show AH w0 _ g s0_0 x69_15 from Zq.iI) ((Zs.mvR HO_5.out)) (by decide)) hk (fun _ h=>h.2)) (fun _ h=>h.1));have n1_:=Aa.mk (AA.trans Zq.iK hk (.inl rfl));have n2_:=Aa.mk (hb);have n3_:=Aa.mk (hi);clear HO_5;clear HK;clear HB;clear HI0;have HO_5:=n0_;have HK:=n1_;have HB:=n2_;have HI0:=n3_;clear n0_ n1_ n2_ n3_;(try clear hb);(try clear hb2);(try clear hk);(try clear hi);refine hK.out _ _ ⟨HS0_,HS1_⟩ (fun hHeld=>?_);clear hK K;refine Zq.nm (some 38) ?_
        refine Zs.pu 5 (some 39) ?_;refine Zs.pu 6 (some 40) ?_;refine Zs.pu 7 (some 41) ?_;refine Zs.pu 11 (some 45) ?_;refine Zs.pu 12 (some 6) ?_
        refine Zq.dn ?_
        try go_wp2_with ((go_at_call 134;(with_reducible refine (Bc.calls (wrap64 ((wrap64 (-(wrap64 ((rd x5_3 0)*(wrap64 (1+t63))))))-(rd x5_3 1))) t67 _ A34.out).mono ?_);rintro e w47 ⟨rfl,hb⟩;replace HO_5:=Zq.rb HO_5.out hb;replace HK:=Aa.mk (AA.trans Zq.iK (AA.CV hb g none) (.inl rfl));replace HB:=Aa.mk (Bj Zq.iB hb);replace HI0:=Aa.mk (AH.below Zq.iI hb);(try clear hb)))
        go_ret
        exact ⟨_,Zs.auR,(Zs.mvR HO_5.out),Zq.iI,Zq.iB,Zq.iK⟩
def CR.f (k:Nat) (s0_0:List Int) (s0_1:Int) (l1:List ByteArray):Option (ByteArray×Int):=(Aj.f k s0_0 s0_1 (l1.length:Int)).bind fun bt3=>(if 0≤bt3.1 then if bt3.1<(l1.length:Int) then some (rdOf ByteArray.empty l1 bt3.1,bt3.2) else none else none)
theorem CR.calls (k g:Nat) (s0_0:List Int) (s0_1:Int) (A1:Option Addr) (c1:Nat) (l1:List ByteArray) (r1:ByteArray) (r2:Int) (w0 w:World) (hI:AH w0 w g s0_0 s0_1) (hB:Below w0.heap.size w0 w) (hr1:Kd.C Kd.string w A1 l1.length l1) (hc1:l1.length≤c1) (hf1 : ∀ad,A1=some ad→0<l1.length→ad.block≠g) (h:CR.f k s0_0 s0_1 l1=some (r1,r2)) :
  Calls Tryz.prog 93 #[.pointer (some ⟨g,0,none⟩),.slice A1 l1.length c1] w fun e w'=>e = .returned (.string r1)∧AH w0 w' g s0_0 r2∧Below w0.heap.size w0 w'∧AA w w' g none:=by
 have HR1:=Aa.mk hr1;have HC1:=Aa.mk hc1;clear hr1 hc1;have HI0:=Aa.mk hI;have HK:=Aa.mk (AA.refl w g none);have HL:=Aa.mk hB.size;clear hI;have HW0:=Aa.mk hB.size;have HB:=Aa.mk hB;clear hB;unfold CR.f at h;have H:=h;clear h;obtain ⟨t7,t8,A3,H⟩:=Zq.bp H;try dsimp only at H
 obtain ⟨c4b0,H⟩:=Zq.pd H
 obtain ⟨c5b0,H⟩:=Zq.pd H;obtain ⟨rfl,rfl⟩:=Zq.pi H
 go_enter Tryz.func93,Tryz.ntmps93
 go_wp2_with (((with_reducible refine Ab (f:=43) rfl ?_);refine Zq.gc (some 9) Tryz.func43 (Aj.calls _ _ _ _ _ _ _ _ _ Zq.iI Zq.iB A3.out) ?_;rintro e w6 ⟨rfl,hi,hb,hk⟩;refine ⟨_,rfl,?_⟩;replace HK:=Aa.mk (AA.trans Zq.iK hk (.inl rfl));replace HB:=Aa.mk (hb);replace HI0:=Aa.mk (hi);(try clear hb);(try clear hk);(try clear hi);have p9:0≤(t7:Int):=Zs.od;have q9:t7<(l1.length:Int):=Zs.od;obtain ⟨ad9,e9,hx9_0⟩:=Kd.Cr HR1.out t7 p9 q9;cases e9;replace hx9_0:=Ej HK.out hx9_0 (by first|(rw [Dl];exact hf1 _ rfl (by omega))|exact hf1 _ rfl (by omega)|exact hf1 ad9 rfl (by omega));replace p9:=eq_true p9;replace q9:=eq_true q9))
 go_ret
 exact ⟨Zs.auR,Zq.iI,Zq.iB,Zq.iK⟩
mutual
def AZ.j0:Nat→Int→Bool→List Int→Int→Option (ByteArray×Int)
 | 0,_,_,_,_=>none
 | k+1,x7,x8,x21,x22=>if x8=true then (Aj.f k x21 x22 4).bind fun bt3=>((Av.f k x21 bt3.2 (wrap64 (1+bt3.1))).bind fun bt4=>(AZ.l0 k (⟨#[102,111,114,109]⟩:ByteArray) bt4.1 0 x21 bt4.2)) else if x7=3 then (Aj.f k x21 x22 7).bind fun bt5=>((AP.f k (wrap64 (bt5.1-3))).bind fun t6=>(if 6+t6.size≤9223372036854775807 then some ((⟨#[116,105,109,101,115,32]⟩:ByteArray)++t6,bt5.2) else none)) else if x7=4 then (Aj.f k x21 x22 21).bind fun bt9=>((AP.f k (wrap64 (bt9.1-10))).bind fun t10=>(if 7+t10.size≤9223372036854775807 then if ((⟨#[115,121,109,98,111,108,32]⟩:ByteArray)++t10).size+1≤9223372036854775807 then (Aj.f k x21 bt9.2 9).bind fun bt11=>((AP.f k (wrap64 (1+bt11.1))).bind fun t12=>(if (((⟨#[115,121,109,98,111,108,32]⟩:ByteArray)++t10)++(⟨#[32]⟩:ByteArray)).size+t12.size≤9223372036854775807 then if ((((⟨#[115,121,109,98,111,108,32]⟩:ByteArray)++t10)++(⟨#[32]⟩:ByteArray))++t12).size+1≤9223372036854775807 then (CR.f k x21 bt11.2 (([(⟨#[114]⟩:ByteArray),(⟨#[50]⟩:ByteArray),(⟨#[51]⟩:ByteArray),(⟨#[53]⟩:ByteArray),(⟨#[48]⟩:ByteArray),(⟨#[52]⟩:ByteArray)]:List ByteArray))).bind fun bt13=>(if (((((⟨#[115,121,109,98,111,108,32]⟩:ByteArray)++t10)++(⟨#[32]⟩:ByteArray))++t12)++(⟨#[32]⟩:ByteArray)).size+bt13.1.size≤9223372036854775807 then some ((((((⟨#[115,121,109,98,111,108,32]⟩:ByteArray)++t10)++(⟨#[32]⟩:ByteArray))++t12)++(⟨#[32]⟩:ByteArray))++bt13.1,bt13.2) else none) else none else none)) else none else none)) else if x7=5 then (CR.f k x21 x22 (([(⟨#[114]⟩:ByteArray),(⟨#[50]⟩:ByteArray),(⟨#[51]⟩:ByteArray),(⟨#[53]⟩:ByteArray),(⟨#[120]⟩:ByteArray)]:List ByteArray))).bind fun bt14=>(if 3+bt14.1.size≤9223372036854775807 then some ((⟨#[97,116,32]⟩:ByteArray)++bt14.1,bt14.2) else none) else if x7=6 then (Aj.f k x21 x22 12).bind fun bt15=>((AP.f k (wrap64 (bt15.1-2))).bind fun t16=>(if 6+t16.size≤9223372036854775807 then some ((⟨#[118,97,108,117,101,32]⟩:ByteArray)++t16,bt15.2) else none)) else if x7=7 then (Aj.f k x21 x22 100).bind fun bt17=>((AP.f k bt17.1).bind fun t18=>(if 8+t18.size≤9223372036854775807 then some ((⟨#[115,113,117,97,114,101,115,32]⟩:ByteArray)++t18,bt17.2) else none)) else if x7=8 then (CR.f k x21 x22 (([(⟨#[]⟩:ByteArray),(⟨#[122,122,122]⟩:ByteArray),(⟨#[102,111,114,109]⟩:ByteArray),(⟨#[102,111,114,109,32,120]⟩:ByteArray),(⟨#[116,105,109,101,115]⟩:ByteArray),(⟨#[97,116]⟩:ByteArray),(⟨#[115,121,109,98,111,108,32,49,32,50]⟩:ByteArray),(⟨#[115,104,111,119,32,49]⟩:ByteArray)]:List ByteArray))).bind fun bt19=>(some (bt19.1,bt19.2)) else (CR.f k x21 x22 (([(⟨#[115,104,111,119]⟩:ByteArray),(⟨#[100,105,115,99]⟩:ByteArray),(⟨#[98,97,100]⟩:ByteArray),(⟨#[122,101,114,111]⟩:ByteArray),(⟨#[112,108,97,110,101,115]⟩:ByteArray),(⟨#[99,111,114,101,115]⟩:ByteArray)]:List ByteArray))).bind fun bt20=>(some (bt20.1,bt20.2))
def AZ.l0:Nat→ByteArray→List Int→Int→List Int→Int→Option (ByteArray×Int)
 | 0,_,_,_,_,_=>none
 | k+1,x3,x4,x5,x7,x8=>if x5<(x4.length:Int) then if x3.size+1≤9223372036854775807 then if 0≤x5 then (AP.f k (rd x4 x5)).bind fun t6=>(if (x3++(⟨#[32]⟩:ByteArray)).size+t6.size≤9223372036854775807 then AZ.l0 k ((x3++(⟨#[32]⟩:ByteArray))++t6) x4 (wrap64 (x5+1)) x7 x8 else none) else none else none else some (x3,x8)
end
def AZ.f (k:Nat) (s0_0:List Int) (s0_1:Int):Option (ByteArray×Int):=(Aj.f k s0_0 s0_1 11).bind fun bt3=>(if bt3.1=0 then AZ.j0 k bt3.1 (bt3.1==0) s0_0 bt3.2 else if bt3.1=1 then AZ.j0 k bt3.1 (bt3.1==1) s0_0 bt3.2 else AZ.j0 k bt3.1 (bt3.1==2) s0_0 bt3.2)
theorem AZ.calls (k g:Nat) (s0_0:List Int) (s0_1:Int) (r1:ByteArray) (r2:Int) (w0 w:World) (hI:AH w0 w g s0_0 s0_1) (hB:Below w0.heap.size w0 w) (h:AZ.f k s0_0 s0_1=some (r1,r2)) :
  Calls Tryz.prog 44 #[.pointer (some ⟨g,0,none⟩)] w fun e w'=>e = .returned (.string r1)∧AH w0 w' g s0_0 r2∧Below w0.heap.size w0 w'∧AA w w' g none:=by
 have HI0:=Aa.mk hI;have HK:=Aa.mk (AA.refl w g none);have HL:=Aa.mk hB.size;clear hI;have HW0:=Aa.mk hB.size;have HB:=Aa.mk hB;clear hB;unfold AZ.f at h;have H:=h;clear h;obtain ⟨t7,t75,A2,H⟩:=Zq.bp H;try dsimp only at H;have HC3:=Aa.mk H;clear H
 go_enter Tryz.func44,Tryz.ntmps44
 go_upto_if 8 with (((with_reducible refine Ab (f:=43) rfl ?_);refine Zq.gc (some 7) Tryz.func43 (Aj.calls _ _ _ _ _ _ _ _ _ Zq.iI Zq.iB A2.out) ?_;rintro e w4 ⟨rfl,hi,hb,hk⟩;refine ⟨_,rfl,?_⟩;replace HK:=Aa.mk (AA.trans Zq.iK hk (.inl rfl));replace HB:=Aa.mk (hb);replace HI0:=Aa.mk (hi);(try clear hb);(try clear hk);(try clear hi)))
 (try simp only [Act.put,List.setIfInBounds_toArray,List.set_cons_zero,List.set_cons_succ])
 go_cut [8] (fun v8 wc => ∃(kq:Nat) (x8_2:Bool),v8 = .bool x8_2∧Aa (AZ.j0 kq t7 x8_2 s0_0 t75=some (r1,r2))∧Aa (kq≤k)∧Aa (AH w0 wc g s0_0 t75)∧Aa (AA w wc g none)∧Aa (Below w0.heap.size w0 wc))
 case first =>
  have H:=HC3.out;clear HC3
  rcases Zq.jn H with ⟨c5b0,H⟩|⟨c5,c5b0,H⟩
  ·rw [c5b0]
   have H':=Aa.mk H;clear H;go_wp2
   go_meet
   case rel=>exact ⟨_,((t7==0)),Zs.auS,H',⟨Zs.auN⟩,⟨Zq.iI⟩,⟨Zq.iK⟩,⟨Zq.iB⟩⟩
  ·rw [c5b0]
   rcases Zq.jn H with ⟨c6b0,H⟩|⟨c6,c6b0,H⟩
   ·have H':=Aa.mk H;clear H;go_wp2
    go_meet
    case rel=>exact ⟨_,((t7==1)),Zs.auS,H',⟨Zs.auN⟩,⟨Zq.iI⟩,⟨Zq.iK⟩,⟨Zq.iB⟩⟩
   ·have H':=Aa.mk H;clear H;go_wp2
    go_meet
    case rel=>exact ⟨_,((t7==2)),Zs.auS,H',⟨Zs.auN⟩,⟨Zq.iI⟩,⟨Zq.iK⟩,⟨Zq.iB⟩⟩
 case rest =>
  clear HC3
  obtain ⟨kq,x8_2,rfl,HA,HJ2,HI0,HK,HB⟩:=hcut;cases kq with
  | zero=>exact absurd HA.out (by simp [AZ.j0])
  | succ kj2 =>
   have H:=HA.out;clear HA;simp only [AZ.j0] at H
   cases x8_2
   ·replace H:=Zq.fh H
    rcases Zq.jn H with ⟨c20b0,H⟩|⟨c20,c20b0,H⟩
    ·obtain ⟨t85,t86,A21,H⟩:=Zq.bp H;try dsimp only at H;obtain ⟨t87,A22,H⟩:=Zs.be H
     obtain ⟨c23,H⟩:=Zq.ip H
     try have c23b2:(9223372036854775807<6+t87.size)=False:=eq_false (Nat.not_lt.2 c23)
     obtain ⟨rfl,rfl⟩:=Zq.pi H
     go_wp2_with (first|((with_reducible refine Ab (f:=43) rfl ?_);refine Zq.gc (some 35) Tryz.func43 (Aj.calls _ _ _ _ _ _ _ _ _ Zq.iI Zq.iB A21.out) ?_;rintro e w24 ⟨rfl,hi,hb,hk⟩;refine ⟨_,rfl,?_⟩;replace HK:=Aa.mk (AA.trans Zq.iK hk (.inl rfl));replace HB:=Aa.mk (hb);replace HI0:=Aa.mk (hi);(try clear hb);(try clear hk);(try clear hi))|((with_reducible refine Ab (f:=53) rfl ?_);refine Zq.gb Tryz.func53 (AP.calls _ _ _ _ A22.out) ?_;intro w25 hb;replace HK:=Aa.mk (AA.trans Zq.iK (AA.CV hb g none) (.inl rfl));replace HB:=Aa.mk (Bj Zq.iB hb);replace HI0:=Aa.mk (AH.below Zq.iI hb);(try clear hb)))
     go_ret
     exact ⟨Zs.auR,Zq.iI,Zq.iB,Zq.iK⟩
    ·rcases Zq.jn H with ⟨c26b0,H⟩|⟨c26,c26b0,H⟩
     ·obtain ⟨t88,t89,A27,H⟩:=Zq.bp H;try dsimp only at H;obtain ⟨t90,A28,H⟩:=Zs.be H
      obtain ⟨c29,H⟩:=Zq.ip H
      try have c29b2:(9223372036854775807<7+t90.size)=False:=eq_false (Nat.not_lt.2 c29)
      obtain ⟨c30,H⟩:=Zq.ip H
      try skip
      have c30b4:=eq_false (Nat.not_lt.2 c30);simp only [ByteArray.size_append,show (⟨#[115,121,109,98,111,108,32]⟩:ByteArray).size=7 from rfl] at c30b4;obtain ⟨t91,t92,A31,H⟩:=Zq.bp H;try dsimp only at H;obtain ⟨t94,A32,H⟩:=Zs.be H
      obtain ⟨c33,H⟩:=Zq.ip H
      try skip
      have c33b4:=eq_false (Nat.not_lt.2 c33);simp only [ByteArray.size_append,show (⟨#[115,121,109,98,111,108,32]⟩:ByteArray).size=7 from rfl,show (⟨#[32]⟩:ByteArray).size=1 from rfl] at c33b4
      obtain ⟨c34,H⟩:=Zq.ip H
      try skip
      have c34b4:=eq_false (Nat.not_lt.2 c34);simp only [ByteArray.size_append,show (⟨#[115,121,109,98,111,108,32]⟩:ByteArray).size=7 from rfl,show (⟨#[32]⟩:ByteArray).size=1 from rfl] at c34b4;(try rw [Option.bind_some] at H);generalize hyy:([(⟨#[114]⟩:ByteArray),(⟨#[50]⟩:ByteArray),(⟨#[51]⟩:ByteArray),(⟨#[53]⟩:ByteArray),(⟨#[48]⟩:ByteArray),(⟨#[52]⟩:ByteArray)]:List ByteArray)=y95 at H;have Ny95:=Aa.mk hyy.symm;clear hyy;obtain ⟨t98,t99,A35,H⟩:=Zq.bp H;try dsimp only at H
      obtain ⟨c36,H⟩:=Zq.ip H
      try skip
      have c36b4:=eq_false (Nat.not_lt.2 c36);simp only [ByteArray.size_append,show (⟨#[115,121,109,98,111,108,32]⟩:ByteArray).size=7 from rfl,show (⟨#[32]⟩:ByteArray).size=1 from rfl] at c36b4;obtain ⟨rfl,rfl⟩:=Zq.pi H
      go_wp2_with (first|((with_reducible refine Ab (f:=43) rfl ?_);refine Zq.gc (some 42) Tryz.func43 (Aj.calls _ _ _ _ _ _ _ _ _ Zq.iI Zq.iB A27.out) ?_;rintro e w37 ⟨rfl,hi,hb,hk⟩;refine ⟨_,rfl,?_⟩;replace HK:=Aa.mk (AA.trans Zq.iK hk (.inl rfl));replace HB:=Aa.mk (hb);replace HI0:=Aa.mk (hi);(try clear hb);(try clear hk);(try clear hi))|((with_reducible refine Ab (f:=53) rfl ?_);refine Zq.gc (some 44) Tryz.func53 (AP.calls _ _ _ _ A28.out) ?_;rintro e w38 ⟨rfl,hb⟩;refine ⟨_,rfl,?_⟩;replace HK:=Aa.mk (AA.trans Zq.iK (AA.CV hb g none) (.inl rfl));replace HB:=Aa.mk (Bj Zq.iB hb);replace HI0:=Aa.mk (AH.below Zq.iI hb);(try clear hb))|((with_reducible refine Ab (f:=43) rfl ?_);refine Zq.gc (some 48) Tryz.func43 (Aj.calls _ _ _ _ _ _ _ _ _ Zq.iI Zq.iB A31.out) ?_;rintro e w39 ⟨rfl,hi,hb,hk⟩;refine ⟨_,rfl,?_⟩;replace HK:=Aa.mk (AA.trans Zq.iK hk (.inl rfl));replace HB:=Aa.mk (hb);replace HI0:=Aa.mk (hi);(try clear hb);(try clear hk);(try clear hi))|((with_reducible refine Ab (f:=53) rfl ?_);refine Zq.gc (some 50) Tryz.func53 (AP.calls _ _ _ _ A32.out) ?_;rintro e w40 ⟨rfl,hb⟩;refine ⟨_,rfl,?_⟩;replace HK:=Aa.mk (AA.trans Zq.iK (AA.CV hb g none) (.inl rfl));replace HB:=Aa.mk (Bj Zq.iB hb);replace HI0:=Aa.mk (AH.below Zq.iI hb);(try clear hb))|((with_reducible refine Bb (N:=54) rfl ?_);refine Kd.I2 Kd.string _ 9 ?hg (N:=54) ?hd (xs:=([(⟨#[114]⟩:ByteArray),(⟨#[50]⟩:ByteArray),(⟨#[51]⟩:ByteArray),(⟨#[53]⟩:ByteArray),(⟨#[48]⟩:ByteArray),(⟨#[52]⟩:ByteArray)]:List ByteArray)) (inner:=[.string (⟨#[114]⟩:ByteArray),.string (⟨#[50]⟩:ByteArray),.string (⟨#[51]⟩:ByteArray),.string (⟨#[53]⟩:ByteArray),.string (⟨#[48]⟩:ByteArray),.string (⟨#[52]⟩:ByteArray)]) (ok:=fun _=>True) (okp:=fun _=>True) ?hr ?hp (fun _ hk=>hk) trivial (Below.refl _ _) (Nat.le_refl _) (by simp) ?_;(case hd=>rfl);(case hg=>rfl);(case hr=>first|(go_simp;done)|(go_simp;rfl));(case hp=>exact (Reps.one (show Kd.M Kd.string _ _ _ (⟨#[114]⟩:ByteArray) [.string (⟨#[114]⟩:ByteArray)] from rfl) (Reps.one (show Kd.M Kd.string _ _ _ (⟨#[50]⟩:ByteArray) [.string (⟨#[50]⟩:ByteArray)] from rfl) (Reps.one (show Kd.M Kd.string _ _ _ (⟨#[51]⟩:ByteArray) [.string (⟨#[51]⟩:ByteArray)] from rfl) (Reps.one (show Kd.M Kd.string _ _ _ (⟨#[53]⟩:ByteArray) [.string (⟨#[53]⟩:ByteArray)] from rfl) (Reps.one (show Kd.M Kd.string _ _ _ (⟨#[48]⟩:ByteArray) [.string (⟨#[48]⟩:ByteArray)] from rfl) (Reps.one (show Kd.M Kd.string _ _ _ (⟨#[52]⟩:ByteArray) [.string (⟨#[52]⟩:ByteArray)] from rfl) (Reps.none _ _))))))));intro v96 w41 ho42 hb hg_ hnew_;clear hg_ hnew_;(first|rw [← Ny95.out] at ho42|(simp only [Int.reduceToNat] at ho42;rw [← Ny95.out] at ho42));have HO97:=Aa.mk (Kd.Bp ho42 (Dm (w:=w) (g:=g) (row:=none) Zq.iK));replace HK:=Aa.mk (AA.trans Zq.iK (AA.CV hb g none) (.inl rfl));replace HB:=Aa.mk (Bj Zq.iB hb);replace HI0:=Aa.mk (AH.below Zq.iI hb);clear hb ho42;obtain ⟨Ao43,co43,eo43⟩:=Kd.Az HO97.out;subst eo43)|((with_reducible refine Ab (f:=93) rfl ?_);refine Zq.gc (some 55) Tryz.func93 (CR.calls _ _ _ _ _ _ _ _ _ _ _ Zq.iI Zq.iB (Zs.mvC ((Kd.Ac HO97.out).2.2)) ((Kd.Ac HO97.out).2.1) (GP (AH.C0 HI0.out HO97.out (by decide))) A35.out) ?_;rintro e w44 ⟨rfl,hi,hb,hk⟩;refine ⟨_,rfl,?_⟩;replace HO97:=Aa.mk (Kd.AB (Kd.DL (AH.apart (show AH w0 _ g s0_0 t92 from Zq.iI) ((Zs.mvR HO97.out)) (by decide)) hk (fun _ h=>h.2)) (fun _ h=>h.1));replace HK:=Aa.mk (AA.trans Zq.iK hk (.inl rfl));replace HB:=Aa.mk (hb);replace HI0:=Aa.mk (hi);(try clear hb);(try clear hk);(try clear hi)))
      go_ret
      exact ⟨Zs.auR,Zq.iI,Zq.iB,Zq.iK⟩
     ·rcases Zq.jn H with ⟨c45b0,H⟩|⟨c45,c45b0,H⟩
      ·(try rw [Option.bind_some] at H);generalize hyy:([(⟨#[114]⟩:ByteArray),(⟨#[50]⟩:ByteArray),(⟨#[51]⟩:ByteArray),(⟨#[53]⟩:ByteArray),(⟨#[120]⟩:ByteArray)]:List ByteArray)=y197 at H;have Ny197:=Aa.mk hyy.symm;clear hyy;obtain ⟨t200,t201,A46,H⟩:=Zq.bp H;try dsimp only at H
       obtain ⟨c47,H⟩:=Zq.ip H
       try have c47b2:(9223372036854775807<3+t200.size)=False:=eq_false (Nat.not_lt.2 c47)
       obtain ⟨rfl,rfl⟩:=Zq.pi H
       go_wp2_with (first|((with_reducible refine Bb (N:=60) rfl ?_);refine Kd.I2 Kd.string _ 9 ?hg (N:=60) ?hd (xs:=([(⟨#[114]⟩:ByteArray),(⟨#[50]⟩:ByteArray),(⟨#[51]⟩:ByteArray),(⟨#[53]⟩:ByteArray),(⟨#[120]⟩:ByteArray)]:List ByteArray)) (inner:=[.string (⟨#[114]⟩:ByteArray),.string (⟨#[50]⟩:ByteArray),.string (⟨#[51]⟩:ByteArray),.string (⟨#[53]⟩:ByteArray),.string (⟨#[120]⟩:ByteArray)]) (ok:=fun _=>True) (okp:=fun _=>True) ?hr ?hp (fun _ hk=>hk) trivial (Below.refl _ _) (Nat.le_refl _) (by simp) ?_;(case hd=>rfl);(case hg=>rfl);(case hr=>first|(go_simp;done)|(go_simp;rfl));(case hp=>exact (Reps.one (show Kd.M Kd.string _ _ _ (⟨#[114]⟩:ByteArray) [.string (⟨#[114]⟩:ByteArray)] from rfl) (Reps.one (show Kd.M Kd.string _ _ _ (⟨#[50]⟩:ByteArray) [.string (⟨#[50]⟩:ByteArray)] from rfl) (Reps.one (show Kd.M Kd.string _ _ _ (⟨#[51]⟩:ByteArray) [.string (⟨#[51]⟩:ByteArray)] from rfl) (Reps.one (show Kd.M Kd.string _ _ _ (⟨#[53]⟩:ByteArray) [.string (⟨#[53]⟩:ByteArray)] from rfl) (Reps.one (show Kd.M Kd.string _ _ _ (⟨#[120]⟩:ByteArray) [.string (⟨#[120]⟩:ByteArray)] from rfl) (Reps.none _ _)))))));intro v198 w48 ho49 hb hg_ hnew_;clear hg_ hnew_;(first|rw [← Ny197.out] at ho49|(simp only [Int.reduceToNat] at ho49;rw [← Ny197.out] at ho49));have HO199:=Aa.mk (Kd.Bp ho49 (Dm (w:=w) (g:=g) (row:=none) Zq.iK));replace HK:=Aa.mk (AA.trans Zq.iK (AA.CV hb g none) (.inl rfl));replace HB:=Aa.mk (Bj Zq.iB hb);replace HI0:=Aa.mk (AH.below Zq.iI hb);clear hb ho49;obtain ⟨Ao50,co50,eo50⟩:=Kd.Az HO199.out;subst eo50)|((with_reducible refine Ab (f:=93) rfl ?_);refine Zq.gc (some 61) Tryz.func93 (CR.calls _ _ _ _ _ _ _ _ _ _ _ Zq.iI Zq.iB (Zs.mvC ((Kd.Ac HO199.out).2.2)) ((Kd.Ac HO199.out).2.1) (GP (AH.C0 HI0.out HO199.out (by decide))) A46.out) ?_;rintro e w51 ⟨rfl,hi,hb,hk⟩;refine ⟨_,rfl,?_⟩;replace HO199:=Aa.mk (Kd.AB (Kd.DL (AH.apart (show AH w0 _ g s0_0 t75 from Zq.iI) ((Zs.mvR HO199.out)) (by decide)) hk (fun _ h=>h.2)) (fun _ h=>h.1));replace HK:=Aa.mk (AA.trans Zq.iK hk (.inl rfl));replace HB:=Aa.mk (hb);replace HI0:=Aa.mk (hi);(try clear hb);(try clear hk);(try clear hi)))
       go_ret
       exact ⟨Zs.auR,Zq.iI,Zq.iB,Zq.iK⟩
      ·rcases Zq.jn H with ⟨c52b0,H⟩|⟨c52,c52b0,H⟩
       ·obtain ⟨t202,t203,A53,H⟩:=Zq.bp H;try dsimp only at H;obtain ⟨t204,A54,H⟩:=Zs.be H
        obtain ⟨c55,H⟩:=Zq.ip H
        try have c55b2:(9223372036854775807<6+t204.size)=False:=eq_false (Nat.not_lt.2 c55)
        obtain ⟨rfl,rfl⟩:=Zq.pi H
        go_wp2_with (first|((with_reducible refine Ab (f:=43) rfl ?_);refine Zq.gc (some 66) Tryz.func43 (Aj.calls _ _ _ _ _ _ _ _ _ Zq.iI Zq.iB A53.out) ?_;rintro e w56 ⟨rfl,hi,hb,hk⟩;refine ⟨_,rfl,?_⟩;replace HK:=Aa.mk (AA.trans Zq.iK hk (.inl rfl));replace HB:=Aa.mk (hb);replace HI0:=Aa.mk (hi);(try clear hb);(try clear hk);(try clear hi))|((with_reducible refine Ab (f:=53) rfl ?_);refine Zq.gb Tryz.func53 (AP.calls _ _ _ _ A54.out) ?_;intro w57 hb;replace HK:=Aa.mk (AA.trans Zq.iK (AA.CV hb g none) (.inl rfl));replace HB:=Aa.mk (Bj Zq.iB hb);replace HI0:=Aa.mk (AH.below Zq.iI hb);(try clear hb)))
        go_ret
        exact ⟨Zs.auR,Zq.iI,Zq.iB,Zq.iK⟩
       ·rcases Zq.jn H with ⟨c58b0,H⟩|⟨c58,c58b0,H⟩
        ·obtain ⟨t205,t206,A59,H⟩:=Zq.bp H;try dsimp only at H;obtain ⟨t207,A60,H⟩:=Zs.be H
         obtain ⟨c61,H⟩:=Zq.ip H
         try have c61b2:(9223372036854775807<8+t207.size)=False:=eq_false (Nat.not_lt.2 c61)
         obtain ⟨rfl,rfl⟩:=Zq.pi H
         go_wp2_with (first|((with_reducible refine Ab (f:=43) rfl ?_);refine Zq.gc (some 73) Tryz.func43 (Aj.calls _ _ _ _ _ _ _ _ _ Zq.iI Zq.iB A59.out) ?_;rintro e w62 ⟨rfl,hi,hb,hk⟩;refine ⟨_,rfl,?_⟩;replace HK:=Aa.mk (AA.trans Zq.iK hk (.inl rfl));replace HB:=Aa.mk (hb);replace HI0:=Aa.mk (hi);(try clear hb);(try clear hk);(try clear hi))|((with_reducible refine Ab (f:=53) rfl ?_);refine Zq.gb Tryz.func53 (AP.calls _ _ _ _ A60.out) ?_;intro w63 hb;replace HK:=Aa.mk (AA.trans Zq.iK (AA.CV hb g none) (.inl rfl));replace HB:=Aa.mk (Bj Zq.iB hb);replace HI0:=Aa.mk (AH.below Zq.iI hb);(try clear hb)))
         go_ret
         exact ⟨Zs.auR,Zq.iI,Zq.iB,Zq.iK⟩
        ·rcases Zq.jn H with ⟨c64b0,H⟩|⟨c64,c64b0,H⟩
         ·(try rw [Option.bind_some] at H);generalize hyy:([(⟨#[]⟩:ByteArray),(⟨#[122,122,122]⟩:ByteArray),(⟨#[102,111,114,109]⟩:ByteArray),(⟨#[102,111,114,109,32,120]⟩:ByteArray),(⟨#[116,105,109,101,115]⟩:ByteArray),(⟨#[97,116]⟩:ByteArray),(⟨#[115,121,109,98,111,108,32,49,32,50]⟩:ByteArray),(⟨#[115,104,111,119,32,49]⟩:ByteArray)]:List ByteArray)=y208 at H;have Ny208:=Aa.mk hyy.symm;clear hyy;obtain ⟨t211,t212,A65,H⟩:=Zq.bp H;try dsimp only at H;obtain ⟨rfl,rfl⟩:=Zq.pi H
          go_wp2_with (first|((with_reducible refine Bb (N:=79) rfl ?_);refine Kd.I2 Kd.string _ 9 ?hg (N:=79) ?hd (xs:=([(⟨#[]⟩:ByteArray),(⟨#[122,122,122]⟩:ByteArray),(⟨#[102,111,114,109]⟩:ByteArray),(⟨#[102,111,114,109,32,120]⟩:ByteArray),(⟨#[116,105,109,101,115]⟩:ByteArray),(⟨#[97,116]⟩:ByteArray),(⟨#[115,121,109,98,111,108,32,49,32,50]⟩:ByteArray),(⟨#[115,104,111,119,32,49]⟩:ByteArray)]:List ByteArray)) (inner:=[.string (⟨#[]⟩:ByteArray),.string (⟨#[122,122,122]⟩:ByteArray),.string (⟨#[102,111,114,109]⟩:ByteArray),.string (⟨#[102,111,114,109,32,120]⟩:ByteArray),.string (⟨#[116,105,109,101,115]⟩:ByteArray),.string (⟨#[97,116]⟩:ByteArray),.string (⟨#[115,121,109,98,111,108,32,49,32,50]⟩:ByteArray),.string (⟨#[115,104,111,119,32,49]⟩:ByteArray)]) (ok:=fun _=>True) (okp:=fun _=>True) ?hr ?hp (fun _ hk=>hk) trivial (Below.refl _ _) (Nat.le_refl _) (by simp) ?_;(case hd=>rfl);(case hg=>rfl);(case hr=>first|(go_simp;done)|(go_simp;rfl));(case hp=>exact (Reps.one (show Kd.M Kd.string _ _ _ (⟨#[]⟩:ByteArray) [.string (⟨#[]⟩:ByteArray)] from rfl) (Reps.one (show Kd.M Kd.string _ _ _ (⟨#[122,122,122]⟩:ByteArray) [.string (⟨#[122,122,122]⟩:ByteArray)] from rfl) (Reps.one (show Kd.M Kd.string _ _ _ (⟨#[102,111,114,109]⟩:ByteArray) [.string (⟨#[102,111,114,109]⟩:ByteArray)] from rfl) (Reps.one (show Kd.M Kd.string _ _ _ (⟨#[102,111,114,109,32,120]⟩:ByteArray) [.string (⟨#[102,111,114,109,32,120]⟩:ByteArray)] from rfl) (Reps.one (show Kd.M Kd.string _ _ _ (⟨#[116,105,109,101,115]⟩:ByteArray) [.string (⟨#[116,105,109,101,115]⟩:ByteArray)] from rfl) (Reps.one (show Kd.M Kd.string _ _ _ (⟨#[97,116]⟩:ByteArray) [.string (⟨#[97,116]⟩:ByteArray)] from rfl) (Reps.one (show Kd.M Kd.string _ _ _ (⟨#[115,121,109,98,111,108,32,49,32,50]⟩:ByteArray) [.string (⟨#[115,121,109,98,111,108,32,49,32,50]⟩:ByteArray)] from rfl) (Reps.one (show Kd.M Kd.string _ _ _ (⟨#[115,104,111,119,32,49]⟩:ByteArray) [.string (⟨#[115,104,111,119,32,49]⟩:ByteArray)] from rfl) (Reps.none _ _))))))))));intro v209 w66 ho67 hb hg_ hnew_;clear hg_ hnew_;(first|rw [← Ny208.out] at ho67|(simp only [Int.reduceToNat] at ho67;rw [← Ny208.out] at ho67));have HO210:=Aa.mk (Kd.Bp ho67 (Dm (w:=w) (g:=g) (row:=none) Zq.iK));replace HK:=Aa.mk (AA.trans Zq.iK (AA.CV hb g none) (.inl rfl));replace HB:=Aa.mk (Bj Zq.iB hb);replace HI0:=Aa.mk (AH.below Zq.iI hb);clear hb ho67;obtain ⟨Ao68,co68,eo68⟩:=Kd.Az HO210.out;subst eo68)|((with_reducible refine Ab (f:=93) rfl ?_);refine Zq.gc (some 80) Tryz.func93 (CR.calls _ _ _ _ _ _ _ _ _ _ _ Zq.iI Zq.iB (Zs.mvC ((Kd.Ac HO210.out).2.2)) ((Kd.Ac HO210.out).2.1) (GP (AH.C0 HI0.out HO210.out (by decide))) A65.out) ?_;rintro e w69 ⟨rfl,hi,hb,hk⟩;refine ⟨_,rfl,?_⟩;replace HO210:=Aa.mk (Kd.AB (Kd.DL (AH.apart (show AH w0 _ g s0_0 t75 from Zq.iI) ((Zs.mvR HO210.out)) (by decide)) hk (fun _ h=>h.2)) (fun _ h=>h.1));replace HK:=Aa.mk (AA.trans Zq.iK hk (.inl rfl));replace HB:=Aa.mk (hb);replace HI0:=Aa.mk (hi);(try clear hb);(try clear hk);(try clear hi)))
          go_ret
          exact ⟨Zs.auR,Zq.iI,Zq.iB,Zq.iK⟩
         ·(try rw [Option.bind_some] at H);generalize hyy:([(⟨#[115,104,111,119]⟩:ByteArray),(⟨#[100,105,115,99]⟩:ByteArray),(⟨#[98,97,100]⟩:ByteArray),(⟨#[122,101,114,111]⟩:ByteArray),(⟨#[112,108,97,110,101,115]⟩:ByteArray),(⟨#[99,111,114,101,115]⟩:ByteArray)]:List ByteArray)=y213 at H;have Ny213:=Aa.mk hyy.symm;clear hyy;obtain ⟨t216,t217,A70,H⟩:=Zq.bp H;try dsimp only at H;obtain ⟨rfl,rfl⟩:=Zq.pi H
          go_wp2_with (first|((with_reducible refine Bb (N:=82) rfl ?_);refine Kd.I2 Kd.string _ 9 ?hg (N:=82) ?hd (xs:=([(⟨#[115,104,111,119]⟩:ByteArray),(⟨#[100,105,115,99]⟩:ByteArray),(⟨#[98,97,100]⟩:ByteArray),(⟨#[122,101,114,111]⟩:ByteArray),(⟨#[112,108,97,110,101,115]⟩:ByteArray),(⟨#[99,111,114,101,115]⟩:ByteArray)]:List ByteArray)) (inner:=[.string (⟨#[115,104,111,119]⟩:ByteArray),.string (⟨#[100,105,115,99]⟩:ByteArray),.string (⟨#[98,97,100]⟩:ByteArray),.string (⟨#[122,101,114,111]⟩:ByteArray),.string (⟨#[112,108,97,110,101,115]⟩:ByteArray),.string (⟨#[99,111,114,101,115]⟩:ByteArray)]) (ok:=fun _=>True) (okp:=fun _=>True) ?hr ?hp (fun _ hk=>hk) trivial (Below.refl _ _) (Nat.le_refl _) (by simp) ?_;(case hd=>rfl);(case hg=>rfl);(case hr=>first|(go_simp;done)|(go_simp;rfl));(case hp=>exact (Reps.one (show Kd.M Kd.string _ _ _ (⟨#[115,104,111,119]⟩:ByteArray) [.string (⟨#[115,104,111,119]⟩:ByteArray)] from rfl) (Reps.one (show Kd.M Kd.string _ _ _ (⟨#[100,105,115,99]⟩:ByteArray) [.string (⟨#[100,105,115,99]⟩:ByteArray)] from rfl) (Reps.one (show Kd.M Kd.string _ _ _ (⟨#[98,97,100]⟩:ByteArray) [.string (⟨#[98,97,100]⟩:ByteArray)] from rfl) (Reps.one (show Kd.M Kd.string _ _ _ (⟨#[122,101,114,111]⟩:ByteArray) [.string (⟨#[122,101,114,111]⟩:ByteArray)] from rfl) (Reps.one (show Kd.M Kd.string _ _ _ (⟨#[112,108,97,110,101,115]⟩:ByteArray) [.string (⟨#[112,108,97,110,101,115]⟩:ByteArray)] from rfl) (Reps.one (show Kd.M Kd.string _ _ _ (⟨#[99,111,114,101,115]⟩:ByteArray) [.string (⟨#[99,111,114,101,115]⟩:ByteArray)] from rfl) (Reps.none _ _))))))));intro v214 w71 ho72 hb hg_ hnew_;clear hg_ hnew_;(first|rw [← Ny213.out] at ho72|(simp only [Int.reduceToNat] at ho72;rw [← Ny213.out] at ho72));have HO215:=Aa.mk (Kd.Bp ho72 (Dm (w:=w) (g:=g) (row:=none) Zq.iK));replace HK:=Aa.mk (AA.trans Zq.iK (AA.CV hb g none) (.inl rfl));replace HB:=Aa.mk (Bj Zq.iB hb);replace HI0:=Aa.mk (AH.below Zq.iI hb);clear hb ho72;obtain ⟨Ao73,co73,eo73⟩:=Kd.Az HO215.out;subst eo73)|((with_reducible refine Ab (f:=93) rfl ?_);refine Zq.gc (some 83) Tryz.func93 (CR.calls _ _ _ _ _ _ _ _ _ _ _ Zq.iI Zq.iB (Zs.mvC ((Kd.Ac HO215.out).2.2)) ((Kd.Ac HO215.out).2.1) (GP (AH.C0 HI0.out HO215.out (by decide))) A70.out) ?_;rintro e w74 ⟨rfl,hi,hb,hk⟩;refine ⟨_,rfl,?_⟩;replace HO215:=Aa.mk (Kd.AB (Kd.DL (AH.apart (show AH w0 _ g s0_0 t75 from Zq.iI) ((Zs.mvR HO215.out)) (by decide)) hk (fun _ h=>h.2)) (fun _ h=>h.1));replace HK:=Aa.mk (AA.trans Zq.iK hk (.inl rfl));replace HB:=Aa.mk (hb);replace HI0:=Aa.mk (hi);(try clear hb);(try clear hk);(try clear hi)))
          go_ret
          exact ⟨Zs.auR,Zq.iI,Zq.iB,Zq.iK⟩
   ·replace H:=Zq.th H;obtain ⟨t77,t78,A8,H⟩:=Zq.bp H;try dsimp only at H;obtain ⟨t79,t82,A9,H⟩:=Zq.bp H;try dsimp only at H;have H':=Aa.mk H;clear H
    go_wp2_with (first|((with_reducible refine Ab (f:=43) rfl ?_);refine Zq.gc (some 14) Tryz.func43 (Aj.calls _ _ _ _ _ _ _ _ _ Zq.iI Zq.iB A8.out) ?_;rintro e w10 ⟨rfl,hi,hb,hk⟩;refine ⟨_,rfl,?_⟩;replace HK:=Aa.mk (AA.trans Zq.iK hk (.inl rfl));replace HB:=Aa.mk (hb);replace HI0:=Aa.mk (hi);(try clear hb);(try clear hk);(try clear hi))|((with_reducible refine Ab (f:=76) rfl ?_);refine Zq.gc (some 16) Tryz.func76 (Av.calls _ _ _ _ _ _ _ _ _ Zq.iI Zq.iB A9.out) ?_;rintro e w11 ⟨v80,rfl,ho0,hi,hb,hk⟩;refine ⟨_,rfl,?_⟩;have HO81:=Aa.mk (Kd.Bp ho0 (Dm (w:=w) (g:=g) (row:=none) Zq.iK));replace HK:=Aa.mk (AA.trans Zq.iK hk (.inl rfl));replace HB:=Aa.mk (hb);replace HI0:=Aa.mk (hi);(try clear hb);(try clear hk);(try clear hi);(try clear ho0)))
    go_loopg [3,5] kj2 (fun kq v3 v5 w' => ∃(x3_2:ByteArray) (x5_2:Int),v3 = .string x3_2∧v5 = .int .i64 x5_2∧Aa (AZ.l0 kq x3_2 t79 x5_2 s0_0 t82=some (r1,r2))∧Aa (kq≤kj2)∧Aa (Kd.R (Kd.int .i64) 3 w' w.heap.size (fun _=>True) v80 t79)∧Aa (AH w0 w' g s0_0 t82)∧Aa (AA w w' g none)∧Aa (Below w0.heap.size w0 w'))
    case atStart=>exact ⟨((⟨#[102,111,114,109]⟩:ByteArray)),(0),Zs.auS,Zs.auS,H',⟨Nat.le_refl _⟩,⟨(Zs.mvR HO81.out)⟩,⟨Zq.iI⟩,⟨Zq.iK⟩,⟨Zq.iB⟩⟩
    case round =>
     clear H'
     obtain ⟨x3_2,x5_2,rfl,rfl,HA,HK2,HO_4,HI0,HK,HB⟩:=hrel;cases gk with
     | zero=>exact absurd HA.out (by simp [AZ.l0])
     | succ k2 =>
      have H:=HA.out;clear HA;simp only [AZ.l0] at H
      rcases Zq.jd H with ⟨c12b0,H⟩|⟨c12b0,H⟩
      ·obtain ⟨c13,H⟩:=Zq.ip H
       try have c13b2:(9223372036854775807<x3_2.size+1)=False:=eq_false (Nat.not_lt.2 c13)
       obtain ⟨c14b0,H⟩:=Zq.pd H;obtain ⟨t84,A15,H⟩:=Zs.be H
       obtain ⟨c16,H⟩:=Zq.ip H
       try skip
       have c16b4:=eq_false (Nat.not_lt.2 c16);simp only [ByteArray.size_append,show (⟨#[32]⟩:ByteArray).size=1 from rfl] at c16b4;have H':=Aa.mk H;clear H;obtain ⟨Ao17,co17,eo17⟩:=Kd.Az HO_4.out;subst eo17;obtain ⟨ad83,e83,hx83_0,p83,q83⟩:=Zq.at_ (Kd.Ac HO_4.out).2.2 x5_2;cases e83
       go_wp2_with (((with_reducible refine Ab (f:=53) rfl ?_);refine Zq.gb Tryz.func53 (AP.calls _ _ _ _ A15.out) ?_;intro w18 hb;replace HO_4:=Zq.rb HO_4.out hb;replace HK:=Aa.mk (AA.trans Zq.iK (AA.CV hb g none) (.inl rfl));replace HB:=Aa.mk (Bj Zq.iB hb);replace HI0:=Aa.mk (AH.below Zq.iI hb);(try clear hb)))
       go_roundg k2
       case measure=>have:=HJ2.out;have:=HK2.out;omega
       case rel=>exact ⟨((x3_2++(⟨#[32]⟩:ByteArray))++t84),(wrap64 (x5_2+1)),Zs.auS,Zs.auS,H',⟨by have:=HJ2.out;have:=HK2.out;omega⟩,⟨(Zs.mvR HO_4.out)⟩,⟨Zq.iI⟩,⟨Zq.iK⟩,⟨Zq.iB⟩⟩
      ·obtain ⟨rfl,rfl⟩:=Zq.pi H;obtain ⟨Ao19,co19,eo19⟩:=Kd.Az HO_4.out;subst eo19;go_wp2;go_ret
       exact ⟨Zs.auR,Zq.iI,Zq.iB,Zq.iK⟩
def Cu.l0:Nat→ByteArray→Int→ByteArray→Option (ByteArray)
 | 0,_,_,_=>none
 | k+1,x0,x1,x5=>if x1>0 then if (Int.tmod x1 2)=1 then if x5.size+x0.size≤9223372036854775807 then if x0.size+x0.size≤9223372036854775807 then Cu.l0 k (x0++x0) (wrap64 (Int.tdiv x1 2)) (x5++x0) else none else none else if x0.size+x0.size≤9223372036854775807 then Cu.l0 k (x0++x0) (wrap64 (Int.tdiv x1 2)) x5 else none else some x5
def Cu.f (k:Nat) (a0:ByteArray) (a1:Int):Option (ByteArray):=Cu.l0 k a0 a1 (⟨#[]⟩:ByteArray)
theorem Cu.calls (k:Nat) (a0:ByteArray) (a1:Int) (r:ByteArray) (w:World) (h:Cu.f k a0 a1=some r) :
  Calls Tryz.prog 45 #[.string a0,.int .i64 a1] w fun e w'=>e = .returned (.string r)∧Bo w w':=by
 unfold Cu.f at h;have H:=h;clear h;have H':=Aa.mk H;clear H
 go_enter Tryz.func45,Tryz.ntmps45
 go_wp2
 go_loopg [0,1,5] k (fun kq v0 v1 v5 w' => ∃(x0_1:ByteArray) (x1_1:Int) (x5_1:ByteArray),v0 = .string x0_1∧v1 = .int .i64 x1_1∧v5 = .string x5_1∧Aa (Cu.l0 kq x0_1 x1_1 x5_1=some r)∧Aa (kq≤k)∧Bo w w')
 case atStart=>exact ⟨(a0),(a1),((⟨#[]⟩:ByteArray)),Zs.auS,Zs.auS,Zs.auS,H',⟨Nat.le_refl _⟩,Zq.dr⟩
 case round =>
  clear H'
  obtain ⟨x0_1,x1_1,x5_1,rfl,rfl,rfl,HA,HK1,⟨m1,rfl⟩⟩:=hrel;cases gk with
  | zero=>exact absurd HA.out (by simp [Cu.l0])
  | succ k1 =>
   have H:=HA.out;clear HA;simp only [Cu.l0] at H
   rcases Zq.jg H with ⟨c3b0,H⟩|⟨c3b0,H⟩
   ·rcases Zq.jn H with ⟨c4b0,H⟩|⟨c4,c4b0,H⟩
    ·obtain ⟨c5,H⟩:=Zq.ip H
     try have c5b2:(9223372036854775807<x5_1.size+x0_1.size)=False:=eq_false (Nat.not_lt.2 c5)
     obtain ⟨c6,H⟩:=Zq.ip H
     try have c6b2:(9223372036854775807<x0_1.size+x0_1.size)=False:=eq_false (Nat.not_lt.2 c6)
     have H':=Aa.mk H;clear H;go_wp2
     go_roundg k1
     case measure=>have:=HK1.out;omega
     case rel=>exact ⟨(x0_1++x0_1),(wrap64 (Int.tdiv x1_1 2)),(x5_1++x0_1),Zs.auS,Zs.auS,Zs.auS,H',⟨by have:=HK1.out;omega⟩,Zq.dr⟩
    ·obtain ⟨c7,H⟩:=Zq.ip H
     try have c7b2:(9223372036854775807<x0_1.size+x0_1.size)=False:=eq_false (Nat.not_lt.2 c7)
     have H':=Aa.mk H;clear H;go_wp2
     go_roundg k1
     case measure=>have:=HK1.out;omega
     case rel=>exact ⟨(x0_1++x0_1),(wrap64 (Int.tdiv x1_1 2)),(x5_1),Zs.auS,Zs.auS,Zs.auS,H',⟨by have:=HK1.out;omega⟩,Zq.dr⟩
   ·obtain rfl:=Option.some.inj H;go_wp2;go_ret
    exact ⟨Zs.auS,Zq.dr⟩
def Bs.l0:Nat→ByteArray→Int→Int→List Int→Int→Option (ByteArray)
 | 0,_,_,_,_,_=>none
 | k+1,x4,x5,x6,x9,x10=>if x6<x5 then (AZ.f k x9 x10).bind fun bt3=>(if x4.size+bt3.1.size≤9223372036854775807 then if (x4++bt3.1).size+1≤9223372036854775807 then Bs.l0 k ((x4++bt3.1)++(⟨#[10]⟩:ByteArray)) x5 (wrap64 (x6+1)) x9 bt3.2 else none else none) else (Aj.f k x9 x10 24).bind fun bt7=>(if bt7.1=0 then if x4.size+4≤9223372036854775807 then some (x4++(⟨#[115,104,111,119]⟩:ByteArray)) else none else if bt7.1=1 then (Cu.f k (⟨#[115,104,111,119,10]⟩:ByteArray) 110).bind fun t8=>(if x4.size+t8.size≤9223372036854775807 then some (x4++t8) else none) else some x4)
def Bs.f (k:Nat) (l0:List Int):Option (ByteArray):=(D0.f l0).bind fun bt3=>((Aj.f k bt3.1 bt3.2 12).bind fun bt4=>(Bs.l0 k (⟨#[]⟩:ByteArray) bt4.1 0 bt3.1 bt4.2))
theorem Bs.calls (k:Nat) (A0:Option Addr) (c0:Nat) (l0:List Int) (r:ByteArray) (w:World) (hr0:Kd.C (Kd.int .u8) w A0 l0.length l0) (hc0:l0.length≤c0) (h:Bs.f k l0=some r) :
  Calls Tryz.prog 13 #[.slice A0 l0.length c0] w fun e w'=>e = .returned (.string r)∧Below w.heap.size w w':=by
 have HR0:=Aa.mk hr0;have HC0:=Aa.mk hc0;clear hr0 hc0;have HB:=Aa.mk (Below.refl w.heap.size w);unfold Bs.f at h;have H:=h;clear h;obtain ⟨t20,t21,A2,H⟩:=Zq.bp H;try dsimp only at H;obtain ⟨t22,t23,A3,H⟩:=Zq.bp H;try dsimp only at H;have H':=Aa.mk H;clear H
 go_enter Tryz.func13,Tryz.ntmps13
 go_wp2_with (first|((with_reducible refine Ab (f:=42) rfl ?_);refine Zq.gc (some 8) Tryz.func42 (D0.calls _ _ _ _ _ _ _ Zs.auHB HR0.out HC0.out A2.out) ?_;rintro e w4 ⟨g220,rfl,hi,hb,hb2⟩;refine ⟨_,rfl,?_⟩;replace HB:=Aa.mk (hb);have HI220:=Aa.mk (hi);(try clear hb);(try clear hb2);(try clear hi))|((with_reducible refine Ab (f:=43) rfl ?_);refine Zq.gc (some 10) Tryz.func43 (Aj.calls _ _ _ _ _ _ _ _ _ (by repeat (first|(with_reducible first|exact HI220.out|apply AH.alloc|apply AH.drewN|apply AH.drew|apply AH.GZ)|exact HI220.out)) (by repeat (first|(with_reducible first|exact HB.out|apply Ah|apply Ag|apply Al|refine AE ?_ (AH.ge HI220.out))|exact HB.out)) A3.out) ?_;rintro e w5 ⟨rfl,hi,hb,hk⟩;refine ⟨_,rfl,?_⟩;replace HB:=Aa.mk (hb);replace HI220:=Aa.mk (hi);(try clear hb);(try clear hk);(try clear hi)))
 go_loopg [4,6] k (fun kq v4 v6 w' => ∃(x4_1:ByteArray) (x6_1 x29_1:Int),v4 = .string x4_1∧v6 = .int .i64 x6_1∧Aa (Bs.l0 kq x4_1 t22 x6_1 t20 x29_1=some r)∧Aa (kq≤k)∧Aa (AH w w' g220 t20 x29_1)∧Aa (Below w.heap.size w w'))
 case atStart=>exact ⟨((⟨#[]⟩:ByteArray)),(0),(t23),Zs.auS,Zs.auS,H',⟨Nat.le_refl _⟩,⟨by repeat (first|(with_reducible first|exact HI220.out|apply AH.alloc|apply AH.drewN|apply AH.drew|apply AH.GZ)|exact HI220.out)⟩,⟨by repeat (first|(with_reducible first|exact HB.out|apply Ah|apply Ag|apply Al|refine AE ?_ (AH.ge HI220.out))|exact HB.out)⟩⟩
 case round =>
  clear H'
  obtain ⟨x4_1,x6_1,x29_1,rfl,rfl,HA,HK1,HI220,HB⟩:=hrel;cases gk with
  | zero=>exact absurd HA.out (by simp [Bs.l0])
  | succ k1 =>
   have H:=HA.out;clear HA;simp only [Bs.l0] at H
   rcases Zq.jd H with ⟨c6b0,H⟩|⟨c6b0,H⟩
   ·obtain ⟨t24,t25,A7,H⟩:=Zq.bp H;try dsimp only at H
    obtain ⟨c8,H⟩:=Zq.ip H
    try have c8b2:(9223372036854775807<x4_1.size+t24.size)=False:=eq_false (Nat.not_lt.2 c8)
    obtain ⟨c9,H⟩:=Zq.ip H
    try skip
    have c9b4:=eq_false (Nat.not_lt.2 c9);simp only [ByteArray.size_append,] at c9b4;have H':=Aa.mk H;clear H
    go_wp2_with (((with_reducible refine Ab (f:=44) rfl ?_);refine Zq.gc (some 18) Tryz.func44 (AZ.calls _ _ _ _ _ _ _ _ (by repeat (first|(with_reducible first|exact HI220.out|apply AH.alloc|apply AH.drewN|apply AH.drew|apply AH.GZ)|exact HI220.out)) (by repeat (first|(with_reducible first|exact HB.out|apply Ah|apply Ag|apply Al|refine AE ?_ (AH.ge HI220.out))|exact HB.out)) A7.out) ?_;rintro e w10 ⟨rfl,hi,hb,hk⟩;refine ⟨_,rfl,?_⟩;replace HB:=Aa.mk (hb);replace HI220:=Aa.mk (hi);(try clear hb);(try clear hk);(try clear hi)))
    go_roundg k1
    case measure=>have:=HK1.out;omega
    case rel=>exact ⟨((x4_1++t24)++(⟨#[10]⟩:ByteArray)),(wrap64 (x6_1+1)),(t25),Zs.auS,Zs.auS,H',⟨by have:=HK1.out;omega⟩,⟨by repeat (first|(with_reducible first|exact HI220.out|apply AH.alloc|apply AH.drewN|apply AH.drew|apply AH.GZ)|exact HI220.out)⟩,⟨by repeat (first|(with_reducible first|exact HB.out|apply Ah|apply Ag|apply Al|refine AE ?_ (AH.ge HI220.out))|exact HB.out)⟩⟩
   ·obtain ⟨t26,t27,A11,H⟩:=Zq.bp H;try dsimp only at H
    rcases Zq.jn H with ⟨c12b0,H⟩|⟨c12,c12b0,H⟩
    ·obtain ⟨c13,H⟩:=Zq.ip H
     try have c13b2:(9223372036854775807<x4_1.size+4)=False:=eq_false (Nat.not_lt.2 c13)
     obtain rfl:=Option.some.inj H
     go_wp2_with (((with_reducible refine Ab (f:=43) rfl ?_);refine Zq.gc (some 22) Tryz.func43 (Aj.calls _ _ _ _ _ _ _ _ _ (by repeat (first|(with_reducible first|exact HI220.out|apply AH.alloc|apply AH.drewN|apply AH.drew|apply AH.GZ)|exact HI220.out)) (by repeat (first|(with_reducible first|exact HB.out|apply Ah|apply Ag|apply Al|refine AE ?_ (AH.ge HI220.out))|exact HB.out)) A11.out) ?_;rintro e w14 ⟨rfl,hi,hb,hk⟩;refine ⟨_,rfl,?_⟩;replace HB:=Aa.mk (hb);replace HI220:=Aa.mk (hi);(try clear hb);(try clear hk);(try clear hi)))
     go_ret
     exact ⟨Zs.auR,by repeat (first|(with_reducible first|exact HB.out|apply Ah|apply Ag|apply Al|refine AE ?_ (AH.ge HI220.out))|exact HB.out)⟩
    ·rcases Zq.jn H with ⟨c15b0,H⟩|⟨c15,c15b0,H⟩
     ·obtain ⟨t28,A16,H⟩:=Zs.be H
      obtain ⟨c17,H⟩:=Zq.ip H
      try have c17b2:(9223372036854775807<x4_1.size+t28.size)=False:=eq_false (Nat.not_lt.2 c17)
      obtain rfl:=Option.some.inj H
      go_wp2_with (first|((with_reducible refine Ab (f:=43) rfl ?_);refine Zq.gc (some 22) Tryz.func43 (Aj.calls _ _ _ _ _ _ _ _ _ (by repeat (first|(with_reducible first|exact HI220.out|apply AH.alloc|apply AH.drewN|apply AH.drew|apply AH.GZ)|exact HI220.out)) (by repeat (first|(with_reducible first|exact HB.out|apply Ah|apply Ag|apply Al|refine AE ?_ (AH.ge HI220.out))|exact HB.out)) A11.out) ?_;rintro e w18 ⟨rfl,hi,hb,hk⟩;refine ⟨_,rfl,?_⟩;replace HB:=Aa.mk (hb);replace HI220:=Aa.mk (hi);(try clear hb);(try clear hk);(try clear hi))|((with_reducible refine Ab (f:=45) rfl ?_);refine Zq.gp Tryz.func45 (Cu.calls _ _ _ _ _ A16.out) ?_;intro nd))
      go_ret
      exact ⟨Zs.auR,by repeat (first|(with_reducible first|exact HB.out|apply Ah|apply Ag|apply Al|refine AE ?_ (AH.ge HI220.out))|exact HB.out)⟩
     ·obtain rfl:=Option.some.inj H
      go_wp2_with (((with_reducible refine Ab (f:=43) rfl ?_);refine Zq.gc (some 22) Tryz.func43 (Aj.calls _ _ _ _ _ _ _ _ _ (by repeat (first|(with_reducible first|exact HI220.out|apply AH.alloc|apply AH.drewN|apply AH.drew|apply AH.GZ)|exact HI220.out)) (by repeat (first|(with_reducible first|exact HB.out|apply Ah|apply Ag|apply Al|refine AE ?_ (AH.ge HI220.out))|exact HB.out)) A11.out) ?_;rintro e w19 ⟨rfl,hi,hb,hk⟩;refine ⟨_,rfl,?_⟩;replace HB:=Aa.mk (hb);replace HI220:=Aa.mk (hi);(try clear hb);(try clear hk);(try clear hi)))
      go_ret
      exact ⟨Zs.auR,by repeat (first|(with_reducible first|exact HB.out|apply Ah|apply Ag|apply Al|refine AE ?_ (AH.ge HI220.out))|exact HB.out)⟩
def Cg.f (a0 a1:ByteArray):Option (Bool):=if (a0.size:Int)≥(a1.size:Int) then (if 0≤(a1.size:Int) then (if (a1.size:Int)≤(a0.size:Int) then (some ((a0.extract 0 ((a1.size:Int):Int).toNat).toList==a1.toList)) else none) else none) else some false
theorem Cg.calls (a0 a1:ByteArray) (r:Bool) (w:World) (h:Cg.f a0 a1=some r) :
  Calls Tryz.prog 181 #[.string a0,.string a1] w fun e w'=>e = .returned (.bool r)∧Bo w w':=by
 unfold Cg.f at h;have H:=h;clear h
 rcases Zq.ii H with ⟨c3,H⟩|⟨c3,H⟩
 ·have c3b1:decide (a1.size≤a0.size)=true:=decide_eq_true (Int.ofNat_le.mp c3);clear c3
  obtain ⟨c4,H⟩:=Zq.ip H;have c4b0:=eq_true c4;clear c4
  obtain ⟨c5,H⟩:=Zq.ip H;have c5b0:=eq_true c5;clear c5;obtain rfl:=Option.some.inj H
  go_enter Tryz.func181,Tryz.ntmps181
  go_wp2;go_ret
  exact ⟨Zs.auS,Zq.dr⟩
 ·have c3b1:decide (a1.size≤a0.size)=false:=decide_eq_false (fun h=>c3 (Int.ofNat_le.mpr h));clear c3;obtain rfl:=Option.some.inj H
  go_enter Tryz.func181,Tryz.ntmps181
  go_wp2;go_ret
  exact ⟨Zs.auS,Zq.dr⟩
def Cy.f (a0 a1:ByteArray):Option (ByteArray×Bool):=(Cg.f a0 a1).bind fun t3=>(if t3=true then (if 0≤(a1.size:Int) then (if (a1.size:Int)≤(a0.size:Int) then (some (a0.extract ((a1.size:Int):Int).toNat a0.size,true)) else none) else none) else some (a0,false))
theorem Cy.calls (a0 a1 r1:ByteArray) (r2:Bool) (w:World) (h:Cy.f a0 a1=some (r1,r2)) :
  Calls Tryz.prog 164 #[.string a0,.string a1] w fun e w'=>e = .returned (.tuple #[.string r1,.bool r2])∧Bo w w':=by
 unfold Cy.f at h;have H:=h;clear h;obtain ⟨t4,A3,H⟩:=Zs.be H
 cases t4
 ·replace H:=Zq.fh H;obtain ⟨rfl,rfl⟩:=Zq.pi H
  go_enter Tryz.func164,Tryz.ntmps164
  go_wp2_with (((with_reducible refine Ab (f:=181) rfl ?_);refine Zq.gp Tryz.func181 (Cg.calls _ _ _ _ A3.out) ?_;intro nd))
  go_ret2
  exact ⟨Zs.auS,Zq.dr⟩
 ·replace H:=Zq.th H
  obtain ⟨c5,H⟩:=Zq.ip H;have c5b0:=eq_true c5;clear c5
  obtain ⟨c6,H⟩:=Zq.ip H;have c6b0:=eq_true c6;clear c6;obtain ⟨rfl,rfl⟩:=Zq.pi H
  go_enter Tryz.func164,Tryz.ntmps164
  go_wp2_with (((with_reducible refine Ab (f:=181) rfl ?_);refine Zq.gp Tryz.func181 (Cg.calls _ _ _ _ A3.out) ?_;intro nd))
  go_ret2
  exact ⟨Zs.auS,Zq.dr⟩
def CF.f (a0 a1:ByteArray):Option (ByteArray×Bool):=(Cy.f a0 a1).bind fun bt3=>(some (bt3.1,bt3.2))
theorem CF.calls (a0 a1 r1:ByteArray) (r2:Bool) (w:World) (h:CF.f a0 a1=some (r1,r2)) :
  Calls Tryz.prog 144 #[.string a0,.string a1] w fun e w'=>e = .returned (.tuple #[.string r1,.bool r2])∧Bo w w':=by
 unfold CF.f at h;have H:=h;clear h;obtain ⟨t4,t5,A3,H⟩:=Zq.bp H;try dsimp only at H;obtain ⟨rfl,rfl⟩:=Zq.pi H
 go_enter Tryz.func144,Tryz.ntmps144
 go_wp2_with (((with_reducible refine Ab (f:=164) rfl ?_);refine Zq.gp Tryz.func164 (Cy.calls _ _ _ _ _ A3.out) ?_;intro nd))
 go_ret2
 exact ⟨Zs.auS,Zq.dr⟩
end Go.Proofs.YtacfcoilmdhgnaaGreatDoor.PFnExecuteWhat
