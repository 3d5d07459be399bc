/- A function's Lean twin and its walk, written by a program of this session. -/
import Derived.Test.YtacfcoilmdhgnaaGreatDoorYPFnExecuteWhatx12
set_option maxHeartbeats 8000000
set_option maxRecDepth 100000
namespace Go.Proofs.YtacfcoilmdhgnaaGreatDoor.PFnExecuteWhat
open Go.RowKit Go.Proofs.YtacfcoilmdhgnaaGreatDoorW.PrintWords Go.Proofs.YtacfcoilmdhgnaaGreatDoorW.PrintLast Go.Proofs.YtacfcoilmdhgnaaGreatDoorW.PrintMore
attribute [local go_sem] DN DO El En Du Dt DP DK   -- for this text's walks alone
set_option linter.unusedVariables false
set_option linter.unusedSimpArgs false
mutual
def AR.j0:Nat→List Int→List ByteArray→Bool→Option (ByteArray)
 | 0,_,_,_=>none
 | k+1,x0,x1,x20=>if x20=true then if 1<(x1.length:Int) then (Au.f k (rdOf ByteArray.empty x1 1)).bind fun t3=>(if 2<(x1.length:Int) then (Au.f k (rdOf ByteArray.empty x1 2)).bind fun t4=>(if 3<(x1.length:Int) then (CU.f k (rdOf ByteArray.empty x1 3)).bind fun t5=>((C6.f k t3 t4 t5).bind fun t7=>((AP.f k t7).bind fun t9=>((Cz.f t9 (t7 != 0)).bind fun t10=>(some t10)))) else none) else none) else none else if 0<(x1.length:Int) then if (rdOf ByteArray.empty x1 0).toList=([97,116]:List UInt8) then AR.j1 k x0 x1 ((x1.length:Int)==2) else AR.j1 k x0 x1 false else none
def AR.j1:Nat→List Int→List ByteArray→Bool→Option (ByteArray)
 | 0,_,_,_=>none
 | k+1,x0,x1,x48=>if x48=true then if 1<(x1.length:Int) then (CU.f k (rdOf ByteArray.empty x1 1)).bind fun t3=>((Ei.f k x0 t3).bind fun t4=>(some t4)) else none else if 0<(x1.length:Int) then if (rdOf ByteArray.empty x1 0).toList=([118,97,108,117,101]:List UInt8) then AR.j2 k x0 x1 ((x1.length:Int)==2) else AR.j2 k x0 x1 false else none
def AR.j2:Nat→List Int→List ByteArray→Bool→Option (ByteArray)
 | 0,_,_,_=>none
 | k+1,x0,x1,x64=>if x64=true then if 1<(x1.length:Int) then (Au.f k (rdOf ByteArray.empty x1 1)).bind fun t4=>((Ak.f k x0 t4).bind fun bt5=>((BE.f k bt5.1).bind fun t6=>(if t6.size+3≤9223372036854775807 then (AP.f k bt5.2.1).bind fun t7=>(if (t6++(⟨#[32,47,32]⟩:ByteArray)).size+t7.size≤9223372036854775807 then (Cz.f ((t6++(⟨#[32,47,32]⟩:ByteArray))++t7) bt5.2.2).bind fun t9=>(some t9) else none) else none))) else none else if 0<(x1.length:Int) then if (rdOf ByteArray.empty x1 0).toList=([115,113,117,97,114,101,115]:List UInt8) then AR.j3 k x1 ((x1.length:Int)==2) else AR.j3 k x1 false else none
def AR.j3:Nat→List ByteArray→Bool→Option (ByteArray)
 | 0,_,_=>none
 | k+1,x1,x92=>if x92=true then if 1<(x1.length:Int) then (Au.f k (rdOf ByteArray.empty x1 1)).bind fun t4=>((Ar.f k t4).bind fun bt5=>((BE.f k bt5.1).bind fun t6=>((Cz.f t6 bt5.2).bind fun t7=>(some t7)))) else none else some (⟨#[119,104,97,116,10]⟩:ByteArray)
end
def AR.f (k:Nat) (l0:List Int) (l1:List ByteArray):Option (ByteArray):=if (l1.length:Int)=1 then if 0<(l1.length:Int) then (DY.f k l0 (rdOf ByteArray.empty l1 0)).bind fun t3=>(some t3) else none else if 0<(l1.length:Int) then if (rdOf ByteArray.empty l1 0).toList=([115,121,109,98,111,108]:List UInt8) then AR.j0 k l0 l1 ((l1.length:Int)==4) else AR.j0 k l0 l1 false else none
theorem AR.calls (k:Nat) (A0:Option Addr) (c0:Nat) (l0:List Int) (A1:Option Addr) (c1:Nat) (l1:List ByteArray) (r:ByteArray) (w:World) (hr0:Kd.C (Kd.int .i64) w A0 l0.length l0) (hc0:l0.length≤c0) (hr1:Kd.C Kd.string w A1 l1.length l1) (hc1:l1.length≤c1) (h:AR.f k l0 l1=some r) :
  Calls Tryz.prog 108 #[.slice A0 l0.length c0,.slice A1 l1.length c1] w fun e w'=>e = .returned (.string r)∧Below w.heap.size w w':=by
 have HR0:=Aa.mk hr0;have HC0:=Aa.mk hc0;clear hr0 hc0;have HR1:=Aa.mk hr1;have HC1:=Aa.mk hc1;clear hr1 hc1;have HB:=Aa.mk (Below.refl w.heap.size w);unfold AR.f at h;have H:=h;clear h
 rcases Zq.jn H with ⟨c3b0,H⟩|⟨c3,c3b0,H⟩
 ·obtain ⟨c4b0,H⟩:=Zq.pd H;obtain ⟨t31,A5,H⟩:=Zs.be H;obtain rfl:=Option.some.inj H;obtain ⟨ad24,e24,hx24_0,p24,q24,qi24⟩:=Zq.s0 HR1.out;cases e24
  go_enter Tryz.func108,Tryz.ntmps108
  go_wp2_with ((go_at_call 150;(with_reducible refine (DY.calls k _ _ l0 (rdOf ByteArray.empty l1 0) t31 _ ?side1 ?side2 A5.out).mono ?_);(case side1=>exact Zs.mvC (HR0.out));(case side2=>exact HC0.out);rintro e w6 ⟨rfl,hb⟩;replace HB:=Zq.st hb;(try clear hb)))
  go_ret
  exact ⟨Zs.auR,Zs.auHB⟩
 ·have HC7:=Aa.mk H;clear H
  go_enter Tryz.func108,Tryz.ntmps108
  go_upto_region 3 with (fail)
  go_cut [20] (fun v20 wc => ∃(kq:Nat) (x20_6:Bool),v20 = .bool x20_6∧Aa (AR.j0 kq l0 l1 x20_6=some r)∧Aa (kq≤k)∧Aa (Below w.heap.size w wc))
  case first =>
   have H:=HC7.out;clear HC7
   obtain ⟨c8b0,H⟩:=Zq.pd H
   rcases Zq.jn H with ⟨c9b0,H⟩|⟨c9,c9b0,H⟩
   ·have H':=Aa.mk H;clear H;obtain ⟨ad47,e47,hx47_0,p47,q47,qi47⟩:=Zq.s0 HR1.out;cases e47;replace hx47_0:=Zq.ce HB.out hx47_0;go_wp2
    go_meet
    case rel=>exact ⟨_,(((l1.length:Int)==4)),Zs.auS,H',⟨Zs.auN⟩,⟨Zs.auHB⟩⟩
   ·have H':=Aa.mk H;clear H;obtain ⟨ad47,e47,hx47_0,p47,q47,qi47⟩:=Zq.s0 HR1.out;cases e47;replace hx47_0:=Zq.ce HB.out hx47_0;go_wp2
    go_meet
    case rel=>exact ⟨_,(false),Zs.auS,H',⟨Zs.auN⟩,⟨Zs.auHB⟩⟩
  case rest =>
   clear HC7
   obtain ⟨kq,x20_6,rfl,HA,HJ6,HB⟩:=hcut;cases kq with
   | zero=>exact absurd HA.out (by simp [AR.j0])
   | succ kj6 =>
    have H:=HA.out;clear HA;simp only [AR.j0] at H
    cases x20_6
    ·replace H:=Zq.fh H;have HC21:=Aa.mk H;clear H
     go_upto_region 6 with (fail)
     go_cut [48] (fun v48 wc => ∃(kq:Nat) (x48_20:Bool),v48 = .bool x48_20∧Aa (AR.j1 kq l0 l1 x48_20=some r)∧Aa (kq≤kj6)∧Aa (Below w.heap.size w wc))
     case first =>
      have H:=HC21.out;clear HC21
      obtain ⟨c22b0,H⟩:=Zq.pd H
      rcases Zq.jn H with ⟨c23b0,H⟩|⟨c23,c23b0,H⟩
      ·have H':=Aa.mk H;clear H;obtain ⟨ad66,e66,hx66_0,p66,q66,qi66⟩:=Zq.s0 HR1.out;cases e66;replace hx66_0:=Zq.ce HB.out hx66_0;go_wp2
       go_meet
       case rel=>exact ⟨_,(((l1.length:Int)==2)),Zs.auS,H',⟨by have:=HJ6.out;first|omega|exact Nat.le_refl _⟩,⟨Zs.auHB⟩⟩
      ·have H':=Aa.mk H;clear H;obtain ⟨ad66,e66,hx66_0,p66,q66,qi66⟩:=Zq.s0 HR1.out;cases e66;replace hx66_0:=Zq.ce HB.out hx66_0;go_wp2
       go_meet
       case rel=>exact ⟨_,(false),Zs.auS,H',⟨by have:=HJ6.out;first|omega|exact Nat.le_refl _⟩,⟨Zs.auHB⟩⟩
     case rest =>
      clear HC21
      obtain ⟨kq,x48_20,rfl,HA,HJ20,HB⟩:=hcut;cases kq with
      | zero=>exact absurd HA.out (by simp [AR.j1])
      | succ kj20 =>
       have H:=HA.out;clear HA;simp only [AR.j1] at H
       cases x48_20
       ·replace H:=Zq.fh H;have HC28:=Aa.mk H;clear H
        go_upto_region 8 with (fail)
        go_cut [64] (fun v64 wc => ∃(kq:Nat) (x64_27:Bool),v64 = .bool x64_27∧Aa (AR.j2 kq l0 l1 x64_27=some r)∧Aa (kq≤kj20)∧Aa (Below w.heap.size w wc))
        case first =>
         have H:=HC28.out;clear HC28
         obtain ⟨c29b0,H⟩:=Zq.pd H
         rcases Zq.jn H with ⟨c30b0,H⟩|⟨c30,c30b0,H⟩
         ·have H':=Aa.mk H;clear H;obtain ⟨ad70,e70,hx70_0,p70,q70,qi70⟩:=Zq.s0 HR1.out;cases e70;replace hx70_0:=Zq.ce HB.out hx70_0;go_wp2
          go_meet
          case rel=>exact ⟨_,(((l1.length:Int)==2)),Zs.auS,H',⟨by have:=HJ6.out;have:=HJ20.out;first|omega|exact Nat.le_refl _⟩,⟨Zs.auHB⟩⟩
         ·have H':=Aa.mk H;clear H;obtain ⟨ad70,e70,hx70_0,p70,q70,qi70⟩:=Zq.s0 HR1.out;cases e70;replace hx70_0:=Zq.ce HB.out hx70_0;go_wp2
          go_meet
          case rel=>exact ⟨_,(false),Zs.auS,H',⟨by have:=HJ6.out;have:=HJ20.out;first|omega|exact Nat.le_refl _⟩,⟨Zs.auHB⟩⟩
        case rest =>
         clear HC28
         obtain ⟨kq,x64_27,rfl,HA,HJ27,HB⟩:=hcut;cases kq with
         | zero=>exact absurd HA.out (by simp [AR.j2])
         | succ kj27 =>
          have H:=HA.out;clear HA;simp only [AR.j2] at H
          cases x64_27
          ·replace H:=Zq.fh H;have HC44:=Aa.mk H;clear H
           go_upto_region 11 with (fail)
           go_cut [92] (fun v92 wc => ∃(kq:Nat) (x92_43:Bool),v92 = .bool x92_43∧Aa (AR.j3 kq l1 x92_43=some r)∧Aa (kq≤kj27)∧Aa (Below w.heap.size w wc))
           case first =>
            have H:=HC44.out;clear HC44
            obtain ⟨c45b0,H⟩:=Zq.pd H
            rcases Zq.jn H with ⟨c46b0,H⟩|⟨c46,c46b0,H⟩
            ·have H':=Aa.mk H;clear H;obtain ⟨ad81,e81,hx81_0,p81,q81,qi81⟩:=Zq.s0 HR1.out;cases e81;replace hx81_0:=Zq.ce HB.out hx81_0;go_wp2
             go_meet
             case rel=>exact ⟨_,(((l1.length:Int)==2)),Zs.auS,H',⟨by have:=HJ6.out;have:=HJ20.out;have:=HJ27.out;first|omega|exact Nat.le_refl _⟩,⟨Zs.auHB⟩⟩
            ·have H':=Aa.mk H;clear H;obtain ⟨ad81,e81,hx81_0,p81,q81,qi81⟩:=Zq.s0 HR1.out;cases e81;replace hx81_0:=Zq.ce HB.out hx81_0;go_wp2
             go_meet
             case rel=>exact ⟨_,(false),Zs.auS,H',⟨by have:=HJ6.out;have:=HJ20.out;have:=HJ27.out;first|omega|exact Nat.le_refl _⟩,⟨Zs.auHB⟩⟩
           case rest =>
            clear HC44
            obtain ⟨kq,x92_43,rfl,HA,HJ43,HB⟩:=hcut;cases kq with
            | zero=>exact absurd HA.out (by simp [AR.j3])
            | succ kj43 =>
             have H:=HA.out;clear HA;simp only [AR.j3] at H
             cases x92_43
             ·replace H:=Zq.fh H;obtain rfl:=Option.some.inj H;go_wp2
              go_ret
              exact ⟨Zs.auR,Zs.auHB⟩
             ·replace H:=Zq.th H
              obtain ⟨c48b0,H⟩:=Zq.pd H;obtain ⟨t83,A49,H⟩:=Zs.be H;obtain ⟨t84,t85,A50,H⟩:=Zq.bp H;try dsimp only at H;obtain ⟨t88,A51,H⟩:=Zs.be H;obtain ⟨t89,A52,H⟩:=Zs.be H;obtain rfl:=Option.some.inj H;obtain ⟨ad82,e82,hx82_0,p82,q82⟩:=Zq.sn HR1.out 1 1;cases e82;replace hx82_0:=Zq.ce HB.out hx82_0
              go_wp2_with (first|(go_at_call 106;(with_reducible refine (Au.calls kj43 (rdOf ByteArray.empty l1 1) t83 _ A49.out).mono ?_);rintro e w' ⟨rfl,⟨nd,rfl⟩⟩;(try exact Zq.dd))|(go_at_call 20;(with_reducible refine (Ar.calls kj43 t83 t84 t85 _ A50.out).mono ?_);rintro e w53 ⟨v86,rfl,ho0,hb⟩;have HO87:=Zq.lw ho0;replace HB:=Zq.st hb;(try clear hb);(try clear ho0);obtain ⟨Ao54,co54,eo54⟩:=Kd.Az HO87.out;subst eo54)|(go_at_call 154;(with_reducible refine (BE.calls kj43 _ _ t84 t88 _ ?side1 ?side2 A51.out).mono ?_);(case side1=>exact Zs.mvC ((Kd.Ac HO87.out).2.2));(case side2=>exact (Kd.Ac HO87.out).2.1);rintro e w55 ⟨rfl,hb⟩;replace HO87:=Zq.rb HO87.out hb;replace HB:=Zq.st hb;(try clear hb))|(go_at_call 152;(with_reducible refine (Cz.calls t88 t85 t89 _ A52.out).mono ?_);rintro e w' ⟨rfl,⟨nd,rfl⟩⟩;(try exact Zq.dd)))
              go_ret
              exact ⟨Zs.auR,Zs.auHB⟩
          ·replace H:=Zq.th H
           obtain ⟨c32b0,H⟩:=Zq.pd H;obtain ⟨t72,A33,H⟩:=Zs.be H;replace H:=Option.bind_eq_some_iff.mp H;obtain ⟨⟨t73,t74,t75⟩,A10,H⟩:=H;try dsimp only at H;have A34:=Aa.mk A10;clear A10;obtain ⟨t78,A35,H⟩:=Zs.be H
           obtain ⟨c36,H⟩:=Zq.ip H
           try have c36b2:(9223372036854775807<t78.size+3)=False:=eq_false (Nat.not_lt.2 c36)
           obtain ⟨t79,A37,H⟩:=Zs.be H
           obtain ⟨c38,H⟩:=Zq.ip H
           try skip
           have c38b4:=eq_false (Nat.not_lt.2 c38);simp only [ByteArray.size_append,show (⟨#[32,47,32]⟩:ByteArray).size=3 from rfl] at c38b4;obtain ⟨t80,A39,H⟩:=Zs.be H;obtain rfl:=Option.some.inj H;obtain ⟨ad71,e71,hx71_0,p71,q71⟩:=Zq.sn HR1.out 1 1;cases e71;replace hx71_0:=Zq.ce HB.out hx71_0
           go_wp2_with (first|(go_at_call 106;(with_reducible refine (Au.calls kj27 (rdOf ByteArray.empty l1 1) t72 _ A33.out).mono ?_);rintro e w' ⟨rfl,⟨nd,rfl⟩⟩;(try exact Zq.dd))|(go_at_call 41;(with_reducible refine (Ak.calls kj27 _ _ l0 t72 t73 t74 t75 _ ?side1 ?side2 A34.out).mono ?_);(case side1=>repeat (first|exact (Kd.BF HR0.out (Zs.auHB))|(with_reducible refine Kd.Gl ?_ _)|(with_reducible refine Kd.G1 ?_ _)|(with_reducible refine Kd.H5 ?_)));(case side2=>exact HC0.out);rintro e w40 ⟨v76,rfl,ho0,hb⟩;have HO77:=Zq.lw ho0;replace HB:=Zq.st hb;(try clear hb);(try clear ho0);obtain ⟨Ao41,co41,eo41⟩:=Kd.Az HO77.out;subst eo41)|(go_at_call 154;(with_reducible refine (BE.calls kj27 _ _ t73 t78 _ ?side1 ?side2 A35.out).mono ?_);(case side1=>exact Zs.mvC ((Kd.Ac HO77.out).2.2));(case side2=>exact (Kd.Ac HO77.out).2.1);rintro e w42 ⟨rfl,hb⟩;replace HO77:=Zq.rb HO77.out hb;replace HB:=Zq.st hb;(try clear hb))|(go_at_call 53;(with_reducible refine (AP.calls kj27 t74 t79 _ A37.out).mono ?_);rintro e w43 ⟨rfl,hb⟩;replace HO77:=Zq.rb HO77.out hb;replace HB:=Zq.st hb;(try clear hb))|(go_at_call 152;(with_reducible refine (Cz.calls ((t78++(⟨#[32,47,32]⟩:ByteArray))++t79) t75 t80 _ A39.out).mono ?_);rintro e w' ⟨rfl,⟨nd,rfl⟩⟩;(try exact Zq.dd)))
           go_ret
           exact ⟨Zs.auR,Zs.auHB⟩
       ·replace H:=Zq.th H
        obtain ⟨c25b0,H⟩:=Zq.pd H;obtain ⟨t68,A26,H⟩:=Zs.be H;obtain ⟨t69,A27,H⟩:=Zs.be H;obtain rfl:=Option.some.inj H;obtain ⟨ad67,e67,hx67_0,p67,q67⟩:=Zq.sn HR1.out 1 1;cases e67;replace hx67_0:=Zq.ce HB.out hx67_0
        go_wp2_with (first|(go_at_call 151;(with_reducible refine (CU.calls kj20 (rdOf ByteArray.empty l1 1) t68 _ A26.out).mono ?_);rintro e w' ⟨rfl,⟨nd,rfl⟩⟩;(try exact Zq.dd))|(go_at_call 153;(with_reducible refine (Ei.calls kj20 _ _ l0 t68 t69 _ ?side1 ?side2 A27.out).mono ?_);(case side1=>repeat (first|exact (Kd.BF HR0.out (Zs.auHB))|(with_reducible refine Kd.Gl ?_ _)|(with_reducible refine Kd.G1 ?_ _)|(with_reducible refine Kd.H5 ?_)));(case side2=>exact HC0.out);rintro e w' ⟨rfl,⟨nd,rfl⟩⟩;(try exact Zq.dd)))
        go_ret
        exact ⟨Zs.auR,Zs.auHB⟩
    ·replace H:=Zq.th H
     obtain ⟨c11b0,H⟩:=Zq.pd H;obtain ⟨t57,A12,H⟩:=Zs.be H
     obtain ⟨c13b0,H⟩:=Zq.pd H;obtain ⟨t59,A14,H⟩:=Zs.be H
     obtain ⟨c15b0,H⟩:=Zq.pd H;obtain ⟨t61,A16,H⟩:=Zs.be H;obtain ⟨t62,A17,H⟩:=Zs.be H;obtain ⟨t63,A18,H⟩:=Zs.be H;obtain ⟨t65,A19,H⟩:=Zs.be H;obtain rfl:=Option.some.inj H;obtain ⟨ad56,e56,hx56_0,p56,q56⟩:=Zq.sn HR1.out 1 1;cases e56;replace hx56_0:=Zq.ce HB.out hx56_0
     go_wp2_with (first|(go_at_call 106;(with_reducible refine (Au.calls kj6 (rdOf ByteArray.empty l1 1) t57 _ A12.out).mono ?_);rintro e w' ⟨rfl,⟨nd,rfl⟩⟩;(try exact Zq.dd);obtain ⟨ad58,e58,hx58_0,p58,q58⟩:=Zq.sn HR1.out 2 2;obtain rfl:ad56=ad58:=(by injection e58);replace hx58_0:=Zq.ce HB.out hx58_0)|(go_at_call 106;(with_reducible refine (Au.calls kj6 (rdOf ByteArray.empty l1 2) t59 _ A14.out).mono ?_);rintro e w' ⟨rfl,⟨nd,rfl⟩⟩;(try exact Zq.dd);obtain ⟨ad60,e60,hx60_0,p60,q60⟩:=Zq.sn HR1.out 3 3;obtain rfl:ad56=ad60:=(by injection e60);replace hx60_0:=Zq.ce HB.out hx60_0)|(go_at_call 151;(with_reducible refine (CU.calls kj6 (rdOf ByteArray.empty l1 3) t61 _ A16.out).mono ?_);rintro e w' ⟨rfl,⟨nd,rfl⟩⟩;(try exact Zq.dd))|(go_at_call 32;(with_reducible refine (C6.calls kj6 t57 t59 t61 t62 _ A17.out).mono ?_);rintro e w' ⟨rfl,⟨nd,rfl⟩⟩;(try exact Zq.dd))|(go_at_call 53;(with_reducible refine (AP.calls kj6 t62 t63 _ A18.out).mono ?_);rintro e w20 ⟨rfl,hb⟩;replace HB:=Zq.st hb;(try clear hb))|(go_at_call 152;(with_reducible refine (Cz.calls t63 (t62 != 0) t65 _ A19.out).mono ?_);rintro e w' ⟨rfl,⟨nd,rfl⟩⟩;(try exact Zq.dd)))
     repeat (go_quiet (first|(go_at_call 106;(with_reducible refine (Au.calls kj6 (rdOf ByteArray.empty l1 1) t57 _ A12.out).mono ?_);rintro e w' ⟨rfl,⟨nd,rfl⟩⟩;(try exact Zq.dd);obtain ⟨ad58,e58,hx58_0,p58,q58⟩:=Zq.sn HR1.out 2 2;obtain rfl:ad56=ad58:=(by injection e58);replace hx58_0:=Zq.ce HB.out hx58_0)|(go_at_call 106;(with_reducible refine (Au.calls kj6 (rdOf ByteArray.empty l1 2) t59 _ A14.out).mono ?_);rintro e w' ⟨rfl,⟨nd,rfl⟩⟩;(try exact Zq.dd);obtain ⟨ad60,e60,hx60_0,p60,q60⟩:=Zq.sn HR1.out 3 3;obtain rfl:ad56=ad60:=(by injection e60);replace hx60_0:=Zq.ce HB.out hx60_0)|(go_at_call 151;(with_reducible refine (CU.calls kj6 (rdOf ByteArray.empty l1 3) t61 _ A16.out).mono ?_);rintro e w' ⟨rfl,⟨nd,rfl⟩⟩;(try exact Zq.dd))|(go_at_call 32;(with_reducible refine (C6.calls kj6 t57 t59 t61 t62 _ A17.out).mono ?_);rintro e w' ⟨rfl,⟨nd,rfl⟩⟩;(try exact Zq.dd))|(go_at_call 53;(with_reducible refine (AP.calls kj6 t62 t63 _ A18.out).mono ?_);rintro e w20 ⟨rfl,hb⟩;replace HB:=Zq.st hb;(try clear hb))|(go_at_call 152;(with_reducible refine (Cz.calls t63 (t62 != 0) t65 _ A19.out).mono ?_);rintro e w' ⟨rfl,⟨nd,rfl⟩⟩;(try exact Zq.dd)));try go_wp2_with (first|(go_at_call 106;(with_reducible refine (Au.calls kj6 (rdOf ByteArray.empty l1 1) t57 _ A12.out).mono ?_);rintro e w' ⟨rfl,⟨nd,rfl⟩⟩;(try exact Zq.dd);obtain ⟨ad58,e58,hx58_0,p58,q58⟩:=Zq.sn HR1.out 2 2;obtain rfl:ad56=ad58:=(by injection e58);replace hx58_0:=Zq.ce HB.out hx58_0)|(go_at_call 106;(with_reducible refine (Au.calls kj6 (rdOf ByteArray.empty l1 2) t59 _ A14.out).mono ?_);rintro e w' ⟨rfl,⟨nd,rfl⟩⟩;(try exact Zq.dd);obtain ⟨ad60,e60,hx60_0,p60,q60⟩:=Zq.sn HR1.out 3 3;obtain rfl:ad56=ad60:=(by injection e60);replace hx60_0:=Zq.ce HB.out hx60_0)|(go_at_call 151;(with_reducible refine (CU.calls kj6 (rdOf ByteArray.empty l1 3) t61 _ A16.out).mono ?_);rintro e w' ⟨rfl,⟨nd,rfl⟩⟩;(try exact Zq.dd))|(go_at_call 32;(with_reducible refine (C6.calls kj6 t57 t59 t61 t62 _ A17.out).mono ?_);rintro e w' ⟨rfl,⟨nd,rfl⟩⟩;(try exact Zq.dd))|(go_at_call 53;(with_reducible refine (AP.calls kj6 t62 t63 _ A18.out).mono ?_);rintro e w20 ⟨rfl,hb⟩;replace HB:=Zq.st hb;(try clear hb))|(go_at_call 152;(with_reducible refine (Cz.calls t63 (t62 != 0) t65 _ A19.out).mono ?_);rintro e w' ⟨rfl,⟨nd,rfl⟩⟩;(try exact Zq.dd))))
     go_ret
     exact ⟨Zs.auR,Zs.auHB⟩
mutual
def AK.l0:Nat→List Int→List ByteArray→List Int→Int→Option (List Int×ByteArray)
 | 0,_,_,_,_=>none
 | k+1,x0,x1,x6,x7=>if x7<(x1.length:Int) then if 0≤x7 then (Au.f k (rdOf ByteArray.empty x1 x7)).bind fun t3=>(if x6.length<17592186044416 then AK.l0 k x0 x1 (x6++[t3]) (wrap64 (x7+1)) else none) else none else if 0<(x1.length:Int) then if (rdOf ByteArray.empty x1 0).toList=([102,111,114,109]:List UInt8) then AK.j1 k x0 x1 x6 (decide ((x6.length:Int)>0)) else AK.j1 k x0 x1 x6 false else none
def AK.j1:Nat→List Int→List ByteArray→List Int→Bool→Option (List Int×ByteArray)
 | 0,_,_,_,_=>none
 | k+1,x0,x1,x6,x30=>if x30=true then (As.f k x6).bind fun t3=>(if t3=true then some (x6,(⟨#[111,107,10]⟩:ByteArray)) else some (x0,(⟨#[110,111,10]⟩:ByteArray))) else if 0<(x1.length:Int) then if (rdOf ByteArray.empty x1 0).toList=([116,105,109,101,115]:List UInt8) then AK.j2 k x0 x1 x6 ((x6.length:Int)==1) else AK.j2 k x0 x1 x6 false else none
def AK.j2:Nat→List Int→List ByteArray→List Int→Bool→Option (List Int×ByteArray)
 | 0,_,_,_,_=>none
 | k+1,x0,x1,x6,x43=>if x43=true then if 0<(x6.length:Int) then (BJ.f k x0 (rd x6 0)).bind fun bt4=>(if bt4.2=true then some (bt4.1,(⟨#[111,107,10]⟩:ByteArray)) else some (x0,(⟨#[110,111,10]⟩:ByteArray))) else none else if 0<(x1.length:Int) then if (rdOf ByteArray.empty x1 0).toList=([99,111,114,101,115]:List UInt8) then AK.j3 k x0 x1 ((x6.length:Int)==0) else AK.j3 k x0 x1 false else none
def AK.j3:Nat→List Int→List ByteArray→Bool→Option (List Int×ByteArray)
 | 0,_,_,_=>none
 | k+1,x0,x1,x61=>if x61=true then (C9.f k x0).bind fun bt4=>(if bt4.2=true then some (bt4.1,(⟨#[111,107,10]⟩:ByteArray)) else some (x0,(⟨#[110,111,10]⟩:ByteArray))) else (AR.f k x0 x1).bind fun t5=>(some (x0,t5))
end
def AK.f (k:Nat) (l0:List Int) (l1:List ByteArray):Option (List Int×ByteArray):=AK.l0 k l0 l1 (([]:List Int)) 1
theorem AK.calls (k:Nat) (P0_:Nat→Prop) (u9000_:Value) (l0:List Int) (A1:Option Addr) (c1:Nat) (l1:List ByteArray) (r1:List Int) (r2:ByteArray) (w0 w:World) (hB:Below w0.heap.size w0 w) (ho0:Kd.R (Kd.int .i64) 3 w w0.heap.size P0_ u9000_ l0) (hr1 : ∀W_,Kept w W_ (fun k_=>P0_ k_)→Kd.C Kd.string W_ A1 l1.length l1) (hc1:l1.length≤c1) (h:AK.f k l0 l1=some (r1,r2)) :
  Calls Tryz.prog 52 #[u9000_,.slice A1 l1.length c1] w fun e w' => ∃v0_:Value,e = .returned (.tuple #[v0_,.string r2])∧Kd.R (Kd.int .i64) 3 w' w0.heap.size (fun k_=>(P0_ k_∨w.heap.size≤k_)) v0_ r1∧Below w0.heap.size w0 w'∧Kept w w' (fun k_=>P0_ k_):=by
 have HO0:=Aa.mk (show Kd.R (Kd.int .i64) 3 w w0.heap.size (fun k_=>(P0_ k_∨w.heap.size≤k_)) u9000_ l0 from Kd.AB ho0 (fun k_ hk=>(.inl hk)));have HR1:=Aa.mk hr1;have HC1:=Aa.mk hc1;clear hr1 hc1;have HK:=Aa.mk (Kept.refl w (fun k_=>P0_ k_));have HW0:=Aa.mk hB.size;have HB:=Aa.mk hB;clear hB;unfold AK.f at h;have H:=h;clear h;obtain ⟨y14,hyy⟩ : ∃y_:List Int,y_=(([]:List Int)):=⟨_,rfl⟩
 replace H:(AK.l0 k l0 l1 y14 1)=some (r1,r2):=Zs.auY
 have Ny14:=Aa.mk hyy;clear hyy;have H':=Aa.mk H;clear H
 go_enter Tryz.func52,Tryz.ntmps52
 go_wp2_with (((with_reducible refine Bb (N:=10) rfl ?_);(try (refine Dr (by rfl) ?_;dsimp only));refine Zq.li ([]:List Int) ?_;intro v16 w3 ho4 hb;(first|rw [← Ny14.out] at ho4|(simp only [Int.reduceToNat] at ho4;rw [← Ny14.out] at ho4));have HO23:=Aa.mk (Kd.Bp (Kd.Br (Kd.KA (M:=fun k_=>(P0_ k_∨w.heap.size≤k_)) ho4 (by first|exact HK.out.1|exact (show Kept w _ (fun k_=>P0_ k_) from Zq.iJ).1) (fun k_ h_ => .inr h_)) (Zq.lt HO0.out)) (Ay (Zs.auHB)));replace HO0:=Zq.el HO0.out ho4 hb;replace HK:=Aa.mk (Kept.below (S:=(fun k_=>P0_ k_)) Zq.iJ hb);replace HB:=Zq.st hb;clear hb ho4))
 go_loopg [6,7] k (fun kq v6 v7 w' => ∃(x6_1:List Int) (x7_1:Int),v7 = .int .i64 x7_1∧Aa (AK.l0 kq l0 l1 x6_1 x7_1=some (r1,r2))∧Aa (kq≤k)∧Aa (Kd.R (Kd.int .i64) 3 w' w0.heap.size (fun k_=>(P0_ k_∨w.heap.size≤k_)∧some k_≠(v6:Value).ownBlock) u9000_ l0)∧Aa (Kd.R (Kd.int .i64) 3 w' w0.heap.size (fun k_=>(P0_ k_∨w.heap.size≤k_)∧some k_≠(u9000_:Value).ownBlock) v6 x6_1)∧Aa (Kept w w' (fun k_=>P0_ k_))∧Aa (Below w0.heap.size w0 w'))
 case atStart=>exact ⟨(y14),(1),Zs.auS,H',⟨Nat.le_refl _⟩,⟨(Zs.mvR HO0.out)⟩,⟨(Zs.mvR (Kd.AB HO23.out (fun _ hk=>⟨hk.1.1,hk.2⟩)))⟩,⟨Zq.iJ⟩,⟨Zs.auHB⟩⟩
 case round =>
  clear H'
  obtain ⟨x6_1,x7_1,rfl,HA,HK1,HO_0,HO_6,HK,HB⟩:=hrel;cases gk with
  | zero=>exact absurd HA.out (by simp [AK.l0])
  | succ k1 =>
   have H:=HA.out;clear HA;simp only [AK.l0] at H
   rcases Zq.jd H with ⟨c5b0,H⟩|⟨c5b0,H⟩
   ·obtain ⟨c6b0,H⟩:=Zq.pd H;obtain ⟨t37,A7,H⟩:=Zs.be H
    obtain ⟨c8,H⟩:=Zq.ip H;have LMc8:=Aa.mk c8;clear c8;generalize hyy:(x6_1++[t37]:List Int)=y39 at H;have Ny39:=Aa.mk hyy.symm;clear hyy;have H':=Aa.mk H;clear H;have p26:0≤(x7_1:Int):=Zs.od;have q26:x7_1<(l1.length:Int):=Zs.od;obtain ⟨ad26,e26,hx26_0⟩:=Kd.Cr (Kd.Eg HR1.out HK.out) x7_1 p26 q26;cases e26;replace p26:=eq_true p26;replace q26:=eq_true q26
    go_wp2_with (first|((with_reducible refine Ab (f:=106) rfl ?_);refine Zq.gp Tryz.func106 (Au.calls _ _ _ _ A7.out) ?_;intro nd)|((with_reducible refine AY (b := .append) (xs:=#[.tmp 17,.tmp 23]) rfl ?_);(try (refine Dr (by rfl) ?_;dsimp only));at_builtin;refine Kd.Ea (Kd.int .i64) (w0:=w0) w0.heap.size rfl (.tmp 17) (.tmp 23) 27 3 (.int .i64 0) 8 rfl Tryz.underlying27 DS rfl (by decide) (by omega) u6 x6_1 t37 [.int .i64 t37] (fun k_=>(P0_ k_∨w.heap.size≤k_)∧some k_≠(u9000_:Value).ownBlock) (fun _=>False) rfl rfl ?aP (fun _ hk=>hk.elim) ?aF ?aO ?aB ?aS ?aL ?_;(case aP=>exact rfl);(case aB=>exact (Zs.auHB));(case aF=>exact (fun k_ hk=>⟨(.inr (Nat.le_trans (by first|exact HK.out.1|exact (show Kept w _ (fun k_=>P0_ k_) from Zq.iJ).1) hk)),Kd.DF (Zq.lt HO_0.out) k_ hk⟩));(case aO=>exact ((Zs.mvR HO_6.out)));(case aS=>exact (Ay (Zs.auHB)));(case aL=>have:=LMc8.out;omega);intro v47 w9 ho hb hg hat;rw [← Ny39.out] at ho;replace HO_0:=Aa.mk (Kd.BW (ok:=(fun k_=>(P0_ k_∨w.heap.size≤k_))) ((Zs.mvR HO_0.out)) hg hat);replace HB:=Aa.mk (hb);replace HK:=Aa.mk (Kept.ET (S:=(fun k_=>P0_ k_)) hg Zq.iJ (fun k_ e_=>(HO_6.out.1 k_ e_).1));have HO48:=Aa.mk (ho);clear HO_6;clear ho hb hg hat))
    go_roundg k1
    case measure=>have:=HK1.out;omega
    case rel=>exact ⟨(y39),(wrap64 (x7_1+1)),Zs.auS,H',⟨by have:=HK1.out;omega⟩,⟨(Zs.mvR HO_0.out)⟩,⟨(Zs.mvR HO48.out)⟩,⟨Zq.iJ⟩,⟨Zs.auHB⟩⟩
   ·have HC10:=Aa.mk H;clear H
    go_upto_region 9 with (fail)
    go_cut [30] (fun v30 wc => ∃(kq:Nat) (x30_9:Bool),v30 = .bool x30_9∧Aa (AK.j1 kq l0 l1 x6_1 x30_9=some (r1,r2))∧Aa (kq≤k1)∧Aa (Kd.R (Kd.int .i64) 3 wc w0.heap.size (fun k_=>(P0_ k_∨w.heap.size≤k_)∧some k_≠(u6:Value).ownBlock) u9000_ l0)∧Aa (Kd.R (Kd.int .i64) 3 wc w0.heap.size (fun k_=>(P0_ k_∨w.heap.size≤k_)∧some k_≠(u9000_:Value).ownBlock) u6 x6_1)∧Aa (Kept w wc (fun k_=>P0_ k_))∧Aa (Below w0.heap.size w0 wc))
    case first =>
     have H:=HC10.out;clear HC10
     obtain ⟨c11b0,H⟩:=Zq.pd H
     rcases Zq.jn H with ⟨c12b0,H⟩|⟨c12,c12b0,H⟩
     ·have H':=Aa.mk H;clear H;obtain ⟨ad49,e49,hx49_0,p49,q49,qi49⟩:=Zq.s0 (Kd.Eg HR1.out HK.out);cases e49;obtain ⟨Ao13,co13,eo13⟩:=Kd.Az HO_6.out;subst eo13;go_wp2
      go_meet
      case rel=>exact ⟨_,(decide ((x6_1.length:Int)>0)),Zs.auS,H',⟨by have:=HK1.out;first|omega|exact Nat.le_refl _⟩,⟨(Zs.mvR HO_0.out)⟩,⟨(Zs.mvR HO_6.out)⟩,⟨Zq.iJ⟩,⟨Zs.auHB⟩⟩
     ·have H':=Aa.mk H;clear H;obtain ⟨ad49,e49,hx49_0,p49,q49,qi49⟩:=Zq.s0 (Kd.Eg HR1.out HK.out);cases e49;go_wp2
      go_meet
      case rel=>exact ⟨_,(false),Zs.auS,H',⟨by have:=HK1.out;first|omega|exact Nat.le_refl _⟩,⟨(Zs.mvR HO_0.out)⟩,⟨(Zs.mvR HO_6.out)⟩,⟨Zq.iJ⟩,⟨Zs.auHB⟩⟩
    case rest =>
     clear HC10
     obtain ⟨kq,x30_9,rfl,HA,HJ9,HO_0,HO_6,HK,HB⟩:=hcut;cases kq with
     | zero=>exact absurd HA.out (by simp [AK.j1])
     | succ kj9 =>
      have H:=HA.out;clear HA;simp only [AK.j1] at H
      cases x30_9
      ·replace H:=Zq.fh H;have HC19:=Aa.mk H;clear H
       go_upto_region 12 with (fail)
       go_cut [43] (fun v43 wc => ∃(kq:Nat) (x43_18:Bool),v43 = .bool x43_18∧Aa (AK.j2 kq l0 l1 x6_1 x43_18=some (r1,r2))∧Aa (kq≤kj9)∧Aa (Kd.R (Kd.int .i64) 3 wc w0.heap.size (fun k_=>(P0_ k_∨w.heap.size≤k_)∧some k_≠(u6:Value).ownBlock) u9000_ l0)∧Aa (Kd.R (Kd.int .i64) 3 wc w0.heap.size (fun k_=>(P0_ k_∨w.heap.size≤k_)∧some k_≠(u9000_:Value).ownBlock) u6 x6_1)∧Aa (Kept w wc (fun k_=>P0_ k_))∧Aa (Below w0.heap.size w0 wc))
       case first =>
        have H:=HC19.out;clear HC19
        obtain ⟨c20b0,H⟩:=Zq.pd H
        rcases Zq.jn H with ⟨c21b0,H⟩|⟨c21,c21b0,H⟩
        ·have H':=Aa.mk H;clear H;obtain ⟨ad51,e51,hx51_0,p51,q51,qi51⟩:=Zq.s0 (Kd.Eg HR1.out HK.out);cases e51;obtain ⟨Ao22,co22,eo22⟩:=Kd.Az HO_6.out;subst eo22;go_wp2
         go_meet
         case rel=>exact ⟨_,(((x6_1.length:Int)==1)),Zs.auS,H',⟨by have:=HK1.out;have:=HJ9.out;first|omega|exact Nat.le_refl _⟩,⟨(Zs.mvR HO_0.out)⟩,⟨(Zs.mvR HO_6.out)⟩,⟨Zq.iJ⟩,⟨Zs.auHB⟩⟩
        ·have H':=Aa.mk H;clear H;obtain ⟨ad51,e51,hx51_0,p51,q51,qi51⟩:=Zq.s0 (Kd.Eg HR1.out HK.out);cases e51;go_wp2
         go_meet
         case rel=>exact ⟨_,(false),Zs.auS,H',⟨by have:=HK1.out;have:=HJ9.out;first|omega|exact Nat.le_refl _⟩,⟨(Zs.mvR HO_0.out)⟩,⟨(Zs.mvR HO_6.out)⟩,⟨Zq.iJ⟩,⟨Zs.auHB⟩⟩
       case rest =>
        clear HC19
        obtain ⟨kq,x43_18,rfl,HA,HJ18,HO_0,HO_6,HK,HB⟩:=hcut;cases kq with
        | zero=>exact absurd HA.out (by simp [AK.j2])
        | succ kj18 =>
         have H:=HA.out;clear HA;simp only [AK.j2] at H
         cases x43_18
         ·replace H:=Zq.fh H;have HC33:=Aa.mk H;clear H
          go_upto_region 14 with (fail)
          go_cut [61] (fun v61 wc => ∃(kq:Nat) (x61_32:Bool),v61 = .bool x61_32∧Aa (AK.j3 kq l0 l1 x61_32=some (r1,r2))∧Aa (kq≤kj18)∧Aa (Kd.R (Kd.int .i64) 3 wc w0.heap.size (fun k_=>(P0_ k_∨w.heap.size≤k_)) u9000_ l0)∧Aa (Kept w wc (fun k_=>P0_ k_))∧Aa (Below w0.heap.size w0 wc))
          case first =>
           have H:=HC33.out;clear HC33
           obtain ⟨c34b0,H⟩:=Zq.pd H
           rcases Zq.jn H with ⟨c35b0,H⟩|⟨c35,c35b0,H⟩
           ·have H':=Aa.mk H;clear H;obtain ⟨ad58,e58,hx58_0,p58,q58,qi58⟩:=Zq.s0 (Kd.Eg HR1.out HK.out);cases e58;obtain ⟨Ao36,co36,eo36⟩:=Kd.Az HO_6.out;subst eo36;go_wp2
            go_meet
            case rel=>exact ⟨_,(((x6_1.length:Int)==0)),Zs.auS,H',⟨by have:=HK1.out;have:=HJ9.out;have:=HJ18.out;first|omega|exact Nat.le_refl _⟩,⟨(Zs.mvR (Kd.AB HO_0.out (fun _ hk=>hk.1)))⟩,⟨Zq.iJ⟩,⟨Zs.auHB⟩⟩
           ·have H':=Aa.mk H;clear H;obtain ⟨ad58,e58,hx58_0,p58,q58,qi58⟩:=Zq.s0 (Kd.Eg HR1.out HK.out);cases e58;go_wp2
            go_meet
            case rel=>exact ⟨_,(false),Zs.auS,H',⟨by have:=HK1.out;have:=HJ9.out;have:=HJ18.out;first|omega|exact Nat.le_refl _⟩,⟨(Zs.mvR (Kd.AB HO_0.out (fun _ hk=>hk.1)))⟩,⟨Zq.iJ⟩,⟨Zs.auHB⟩⟩
          case rest =>
           clear HC33
           obtain ⟨kq,x61_32,rfl,HA,HJ32,HO_0,HK,HB⟩:=hcut;cases kq with
           | zero=>exact absurd HA.out (by simp [AK.j3])
           | succ kj32 =>
            have H:=HA.out;clear HA;simp only [AK.j3] at H
            cases x61_32
            ·replace H:=Zq.fh H;obtain ⟨t66,A44,H⟩:=Zs.be H;obtain ⟨rfl,rfl⟩:=Zq.pi H;obtain ⟨Ao45,co45,eo45⟩:=Kd.Az HO_0.out;subst eo45
             go_wp2_with (((with_reducible refine Ab (f:=108) rfl ?_);refine Zq.gb Tryz.func108 (AR.calls _ _ _ _ _ _ _ _ _ (Zs.mvC ((Kd.Ac HO_0.out).2.2)) ((Kd.Ac HO_0.out).2.1) (Kd.Eg HR1.out Zq.iJ) HC1.out A44.out) ?_;intro w46 hb;replace HO_0:=Zq.rb HO_0.out hb;replace HK:=Aa.mk (Kept.below (S:=(fun k_=>P0_ k_)) Zq.iJ hb);replace HB:=Zq.st hb;(try clear hb)))
             go_ret2
             exact ⟨_,Zs.auR,(Zs.mvR HO_0.out),Zs.auHB,Zq.iJ⟩
            ·replace H:=Zq.th H;obtain ⟨t59,t60,A38,H⟩:=Zq.bp H;try dsimp only at H
             cases t60
             ·replace H:=Zq.fh H;obtain ⟨rfl,rfl⟩:=Zq.pi H;obtain ⟨Ao42,co42,eo42⟩:=Kd.Az HO_0.out;subst eo42
              go_wp2_with (((with_reducible refine Ab (f:=107) rfl ?_);refine Zq.gc (some 73) Tryz.func107 (C9.calls _ _ _ _ _ _ _ (Zs.mvC ((Kd.Ac HO_0.out).2.2)) ((Kd.Ac HO_0.out).2.1) A38.out) ?_;rintro e w43 ⟨v63,rfl,ho0,hb⟩;refine ⟨_,rfl,?_⟩;have HO65:=Aa.mk (Kd.Bp (Kd.Br (Kd.KA (M:=fun k_=>(P0_ k_∨w.heap.size≤k_)) ho0 (by first|exact HK.out.1|exact (show Kept w _ (fun k_=>P0_ k_) from Zq.iJ).1) (fun k_ h_ => .inr h_)) (Zq.lt HO_0.out)) (Ay (Zs.auHB)));replace HO_0:=Zq.el HO_0.out ho0 hb;replace HK:=Aa.mk (Kept.below (S:=(fun k_=>P0_ k_)) Zq.iJ hb);replace HB:=Zq.st hb;(try clear hb);(try clear ho0)))
              go_ret2
              exact ⟨_,Zs.auR,(Zs.mvR (Kd.AB HO_0.out (fun _ hk=>hk.1))),Zs.auHB,Zq.iJ⟩
             ·replace H:=Zq.th H;obtain ⟨rfl,rfl⟩:=Zq.pi H;obtain ⟨Ao40,co40,eo40⟩:=Kd.Az HO_0.out;subst eo40
              go_wp2_with (((with_reducible refine Ab (f:=107) rfl ?_);refine Zq.gc (some 73) Tryz.func107 (C9.calls _ _ _ _ _ _ _ (Zs.mvC ((Kd.Ac HO_0.out).2.2)) ((Kd.Ac HO_0.out).2.1) A38.out) ?_;rintro e w41 ⟨v63,rfl,ho0,hb⟩;refine ⟨_,rfl,?_⟩;have HO65:=Aa.mk (Kd.Bp (Kd.Br (Kd.KA (M:=fun k_=>(P0_ k_∨w.heap.size≤k_)) ho0 (by first|exact HK.out.1|exact (show Kept w _ (fun k_=>P0_ k_) from Zq.iJ).1) (fun k_ h_ => .inr h_)) (Zq.lt HO_0.out)) (Ay (Zs.auHB)));replace HO_0:=Zq.el HO_0.out ho0 hb;replace HK:=Aa.mk (Kept.below (S:=(fun k_=>P0_ k_)) Zq.iJ hb);replace HB:=Zq.st hb;(try clear hb);(try clear ho0)))
              go_ret2
              exact ⟨_,Zs.auR,(Zs.mvR (Kd.AB HO65.out (fun _ hk=>hk.1.1))),Zs.auHB,Zq.iJ⟩
         ·replace H:=Zq.th H
          obtain ⟨c24b0,H⟩:=Zq.pd H;obtain ⟨t54,t55,A25,H⟩:=Zq.bp H;try dsimp only at H
          cases t55
          ·replace H:=Zq.fh H;obtain ⟨rfl,rfl⟩:=Zq.pi H;obtain ⟨Ao30,co30,eo30⟩:=Kd.Az HO_6.out;subst eo30;obtain ⟨ad53,e53,hx53_0,p53,q53,qi53⟩:=Zq.a0 (Kd.Ac HO_6.out).2.2;cases e53;obtain ⟨Ao31,co31,eo31⟩:=Kd.Az HO_0.out;subst eo31
           go_wp2_with (((with_reducible refine Ab (f:=28) rfl ?_);refine Zq.gc (some 58) Tryz.func28 (BJ.calls _ _ _ _ _ _ _ _ (Zs.mvC ((Kd.Ac HO_0.out).2.2)) ((Kd.Ac HO_0.out).2.1) A25.out) ?_;rintro e w32 ⟨v56,rfl,ho0,hb⟩;refine ⟨_,rfl,?_⟩;have HO57:=Aa.mk (Kd.Bp (Kd.Br (Kd.Br (Kd.KA (M:=fun k_=>(P0_ k_∨w.heap.size≤k_)) ho0 (by first|exact HK.out.1|exact (show Kept w _ (fun k_=>P0_ k_) from Zq.iJ).1) (fun k_ h_ => .inr h_)) (Zq.lt HO_0.out)) (Zq.lt HO_6.out)) (Ay (Zs.auHB)));replace HO_0:=Zq.el HO_0.out ho0 hb;replace HO_6:=Zq.el HO_6.out ho0 hb;replace HK:=Aa.mk (Kept.below (S:=(fun k_=>P0_ k_)) Zq.iJ hb);replace HB:=Zq.st hb;(try clear hb);(try clear ho0)))
           go_ret2
           exact ⟨_,Zs.auR,(Zs.mvR (Kd.AB HO_0.out (fun _ hk=>hk.1.1))),Zs.auHB,Zq.iJ⟩
          ·replace H:=Zq.th H;obtain ⟨rfl,rfl⟩:=Zq.pi H;obtain ⟨Ao27,co27,eo27⟩:=Kd.Az HO_6.out;subst eo27;obtain ⟨ad53,e53,hx53_0,p53,q53,qi53⟩:=Zq.a0 (Kd.Ac HO_6.out).2.2;cases e53;obtain ⟨Ao28,co28,eo28⟩:=Kd.Az HO_0.out;subst eo28
           go_wp2_with (((with_reducible refine Ab (f:=28) rfl ?_);refine Zq.gc (some 58) Tryz.func28 (BJ.calls _ _ _ _ _ _ _ _ (Zs.mvC ((Kd.Ac HO_0.out).2.2)) ((Kd.Ac HO_0.out).2.1) A25.out) ?_;rintro e w29 ⟨v56,rfl,ho0,hb⟩;refine ⟨_,rfl,?_⟩;have HO57:=Aa.mk (Kd.Bp (Kd.Br (Kd.Br (Kd.KA (M:=fun k_=>(P0_ k_∨w.heap.size≤k_)) ho0 (by first|exact HK.out.1|exact (show Kept w _ (fun k_=>P0_ k_) from Zq.iJ).1) (fun k_ h_ => .inr h_)) (Zq.lt HO_0.out)) (Zq.lt HO_6.out)) (Ay (Zs.auHB)));replace HO_0:=Zq.el HO_0.out ho0 hb;replace HO_6:=Zq.el HO_6.out ho0 hb;replace HK:=Aa.mk (Kept.below (S:=(fun k_=>P0_ k_)) Zq.iJ hb);replace HB:=Zq.st hb;(try clear hb);(try clear ho0)))
           go_ret2
           exact ⟨_,Zs.auR,(Zs.mvR (Kd.AB HO57.out (fun _ hk=>hk.1.1.1))),Zs.auHB,Zq.iJ⟩
      ·replace H:=Zq.th H;obtain ⟨t50,A15,H⟩:=Zs.be H
       cases t50
       ·replace H:=Zq.fh H;obtain ⟨rfl,rfl⟩:=Zq.pi H;obtain ⟨Ao18,co18,eo18⟩:=Kd.Az HO_6.out;subst eo18
        go_wp2_with (((with_reducible refine Ab (f:=62) rfl ?_);refine Zq.gp Tryz.func62 (As.calls _ _ _ _ _ _ (Zs.mvC ((Kd.Ac HO_6.out).2.2)) ((Kd.Ac HO_6.out).2.1) A15.out) ?_;intro nd))
        go_ret2
        exact ⟨_,Zs.auR,(Zs.mvR (Kd.AB HO_0.out (fun _ hk=>hk.1))),Zs.auHB,Zq.iJ⟩
       ·replace H:=Zq.th H;obtain ⟨rfl,rfl⟩:=Zq.pi H;obtain ⟨Ao17,co17,eo17⟩:=Kd.Az HO_6.out;subst eo17
        go_wp2_with (((with_reducible refine Ab (f:=62) rfl ?_);refine Zq.gp Tryz.func62 (As.calls _ _ _ _ _ _ (Zs.mvC ((Kd.Ac HO_6.out).2.2)) ((Kd.Ac HO_6.out).2.1) A15.out) ?_;intro nd))
        go_ret2
        exact ⟨_,Zs.auR,(Zs.mvR (Kd.AB HO_6.out (fun _ hk=>hk.1))),Zs.auHB,Zq.iJ⟩
def Ci.l0:Nat→List Int→ByteArray→List ByteArray→Int→Option (ByteArray)
 | 0,_,_,_,_=>none
 | k+1,x3,x4,x5,x6=>if (wrap64 (x6+1))<(x5.length:Int) then if 0≤x6 then if x6<(x5.length:Int) then (Cl.f k (rdOf ByteArray.empty x5 x6) 32).bind fun t7=>((AK.f k x3 t7).bind fun bt8=>(if x4.size+bt8.2.size≤9223372036854775807 then Ci.l0 k bt8.1 (x4++bt8.2) x5 (wrap64 (x6+1)) else none)) else none else none else if x4.size+6≤9223372036854775807 then (AP.f k (x3.length:Int)).bind fun t9=>(if (x4++(⟨#[116,101,114,109,115,32]⟩:ByteArray)).size+t9.size≤9223372036854775807 then if ((x4++(⟨#[116,101,114,109,115,32]⟩:ByteArray))++t9).size+1≤9223372036854775807 then some (((x4++(⟨#[116,101,114,109,115,32]⟩:ByteArray))++t9)++(⟨#[10]⟩:ByteArray)) else none else none) else none
def Ci.f (k:Nat) (a0:ByteArray):Option (ByteArray):=if (a0.size:Int)>500 then some (⟨#[116,111,111,32,108,111,110,103,10]⟩:ByteArray) else (Cl.f k a0 10).bind fun t3=>(Ci.l0 k (([1]:List Int)) (⟨#[]⟩:ByteArray) t3 0)
theorem Ci.calls (k:Nat) (a0 r:ByteArray) (w:World) (h:Ci.f k a0=some r) :
  Calls Tryz.prog 15 #[.string a0] w fun e w'=>e = .returned (.string r)∧Below w.heap.size w w':=by
 have HB:=Aa.mk (Below.refl w.heap.size w);unfold Ci.f at h;have H:=h;clear h
 rcases Zq.jg H with ⟨c2b0,H⟩|⟨c2b0,H⟩
 ·obtain rfl:=Option.some.inj H
  go_enter Tryz.func15,Tryz.ntmps15
  go_wp2;go_ret
  exact ⟨Zs.auR,Zs.auHB⟩
 ·generalize hyy:([1]:List Int)=y25 at H;have Ny25:=Aa.mk hyy.symm;clear hyy;obtain ⟨t28,A3,H⟩:=Zs.be H;have H':=Aa.mk H;clear H
  go_enter Tryz.func15,Tryz.ntmps15
  go_wp2_with (first|((with_reducible refine Bb (N:=12) rfl ?_);refine Zq.li ([1]:List Int) ?_;intro v26 w4 ho5 hb;(first|rw [← Ny25.out] at ho5|(simp only [Int.reduceToNat] at ho5;rw [← Ny25.out] at ho5));have HO27:=Zq.lw ho5;replace HB:=Zq.st hb;clear hb ho5)|((with_reducible refine Ab (f:=51) rfl ?_);refine Zq.gc (some 14) Tryz.func51 (Cl.calls _ _ _ _ _ A3.out) ?_;rintro e w6 ⟨v29,rfl,ho0,hb⟩;refine ⟨_,rfl,?_⟩;replace HO27:=Zq.rb HO27.out hb;have HO30:=Zq.lw ho0;replace HB:=Zq.st hb;(try clear hb);(try clear ho0)))
  go_loopg [3,4,6] k (fun kq v3 v4 v6 w' => ∃(x3_1:List Int) (x4_1:ByteArray) (x6_1:Int),v4 = .string x4_1∧v6 = .int .i64 x6_1∧Aa (Ci.l0 kq x3_1 x4_1 t28 x6_1=some r)∧Aa (kq≤k)∧Aa (Kd.R (Kd.int .i64) 3 w' w.heap.size (fun _=>True) v3 x3_1)∧Aa (Kd.R Kd.string 9 w' w.heap.size (fun _=>True) v29 t28)∧Aa (Below w.heap.size w w'))
  case atStart=>exact ⟨(y25),((⟨#[]⟩:ByteArray)),(0),Zs.auS,Zs.auS,H',⟨Nat.le_refl _⟩,⟨(Zs.mvR HO27.out)⟩,⟨(Zs.mvR HO30.out)⟩,⟨Zs.auHB⟩⟩
  case round =>
   clear H'
   obtain ⟨x3_1,x4_1,x6_1,rfl,rfl,HA,HK1,HO_3,HO_5,HB⟩:=hrel;cases gk with
   | zero=>exact absurd HA.out (by simp [Ci.l0])
   | succ k1 =>
    have H:=HA.out;clear HA;simp only [Ci.l0] at H
    rcases Zq.jd H with ⟨c7b0,H⟩|⟨c7b0,H⟩
    ·obtain ⟨c8b0,H⟩:=Zq.pd H
     obtain ⟨c9b0,H⟩:=Zq.pd H;obtain ⟨t32,A10,H⟩:=Zs.be H;obtain ⟨t35,t38,A11,H⟩:=Zq.bp H;try dsimp only at H
     obtain ⟨c12,H⟩:=Zq.ip H
     try have c12b2:(9223372036854775807<x4_1.size+t38.size)=False:=eq_false (Nat.not_lt.2 c12)
     have H':=Aa.mk H;clear H;obtain ⟨Ao13,co13,eo13⟩:=Kd.Az HO_5.out;subst eo13;have p31:0≤(x6_1:Int):=Zs.od;have q31:x6_1<(t28.length:Int):=Zs.od;obtain ⟨ad31,e31,hx31_0⟩:=Kd.Cr (Kd.Ac HO_5.out).2.2 x6_1 p31 q31;cases e31;replace p31:=eq_true p31;replace q31:=eq_true q31
     go_wp2_with (first|((with_reducible refine Ab (f:=51) rfl ?_);refine Zq.gc (some 28) Tryz.func51 (Cl.calls _ _ _ _ _ A10.out) ?_;rintro e w14 ⟨v33,rfl,ho0,hb⟩;refine ⟨_,rfl,?_⟩;replace HO_3:=Zq.rb HO_3.out hb;have HO34:=Aa.mk (Kd.Bp (Kd.Br ho0 (Zq.lt HO_5.out)) (Ay (Zs.auHB)));replace HO_5:=Zq.el HO_5.out ho0 hb;replace HB:=Zq.st hb;(try clear hb);(try clear ho0);obtain ⟨Ao15,co15,eo15⟩:=Kd.Az HO_3.out;subst eo15;obtain ⟨Ao16,co16,eo16⟩:=Kd.Az HO34.out;subst eo16)|((with_reducible refine Ab (f:=52) rfl ?_);refine Zq.gc (some 29) Tryz.func52 (AK.calls _ _ _ _ _ _ _ _ _ _ _ Zs.auHB (Kd.Jt rfl HO_3.out) (Kd.MU ((Kd.Gx HO34.out (Kd.JF HO_3.out) (by decide))) (fun k_ hk_ hs_=>(hk_.2) hs_)) ((Kd.Ac HO34.out).2.1) A11.out) ?_;rintro e w17 ⟨v36,rfl,ho0,hb,hkp⟩;refine ⟨_,rfl,?_⟩;replace HO_5:=Aa.mk (Kd.AB (ok':=fun k_=>some k_≠(.slice Ao16 t32.length co16:Value).ownBlock) (Kd.N9 ((Kd.Gx HO_5.out (Kd.JF HO_3.out) (by decide))) hkp (fun k_ hk_ hs_=>(hk_.2) hs_)) (fun k_ hk_=>hk_.1.1.2));replace HO34:=Aa.mk (Kd.AB (ok':=fun k_=>some k_≠(.slice (some ad31) t28.length co13:Value).ownBlock) (Kd.N9 ((Kd.Gx HO34.out (Kd.JF HO_3.out) (by decide))) hkp (fun k_ hk_ hs_=>(hk_.2) hs_)) (fun k_ hk_=>hk_.1.1.2));have HO37:=Aa.mk (Kd.AB (ok':=fun k_=>True) ho0 (fun k_ hk_=>trivial));replace HB:=Aa.mk (hb);clear HO_3;(try clear hb);(try clear hkp);(try clear ho0)))
     go_roundg k1
     case measure=>have:=HK1.out;omega
     case rel=>exact ⟨(t35),(x4_1++t38),(wrap64 (x6_1+1)),Zs.auS,Zs.auS,H',⟨by have:=HK1.out;omega⟩,⟨(Zs.mvR HO37.out)⟩,⟨(Zs.mvR (Kd.AB HO_5.out (fun _ hk=>trivial)))⟩,⟨Zs.auHB⟩⟩
    ·obtain ⟨c18,H⟩:=Zq.ip H
     try have c18b2:(9223372036854775807<x4_1.size+6)=False:=eq_false (Nat.not_lt.2 c18)
     obtain ⟨t39,A19,H⟩:=Zs.be H
     obtain ⟨c20,H⟩:=Zq.ip H
     try skip
     have c20b4:=eq_false (Nat.not_lt.2 c20);simp only [ByteArray.size_append,show (⟨#[116,101,114,109,115,32]⟩:ByteArray).size=6 from rfl] at c20b4
     obtain ⟨c21,H⟩:=Zq.ip H
     try skip
     have c21b4:=eq_false (Nat.not_lt.2 c21);simp only [ByteArray.size_append,show (⟨#[116,101,114,109,115,32]⟩:ByteArray).size=6 from rfl] at c21b4;obtain rfl:=Option.some.inj H;obtain ⟨Ao22,co22,eo22⟩:=Kd.Az HO_5.out;subst eo22;obtain ⟨Ao23,co23,eo23⟩:=Kd.Az HO_3.out;subst eo23
     go_wp2_with (((with_reducible refine Ab (f:=53) rfl ?_);refine Zq.gb Tryz.func53 (AP.calls _ _ _ _ A19.out) ?_;intro w24 hb;replace HO_3:=Zq.rb HO_3.out hb;replace HO_5:=Zq.rb HO_5.out hb;replace HB:=Zq.st hb;(try clear hb)))
     go_ret
     exact ⟨Zs.auR,Zs.auHB⟩
def laws_complete.l0:Nat→ByteArray→Int→Option (ByteArray)
 | 0,_,_=>none
 | k+1,x0,x3=>if x3>0 then if 0≤(wrap64 (x3-1)) then if (wrap64 (x3-1))<(x0.size:Int) then if (bt x0 (wrap64 (x3-1)))=10 then if 0≤x3 then if x3≤(x0.size:Int) then some (x0.extract 0 (x3:Int).toNat) else none else none else laws_complete.l0 k x0 (wrap64 (x3-1)) else none else none else some (⟨#[]⟩:ByteArray)
def laws_complete.f (k:Nat) (a0:ByteArray):Option (ByteArray):=laws_complete.l0 k a0 (a0.size:Int)
theorem laws_complete.calls (k:Nat) (a0 r:ByteArray) (w:World) (h:laws_complete.f k a0=some r) :
  Calls Tryz.prog 16 #[.string a0] w fun e w'=>e = .returned (.string r)∧Bo w w':=by
 unfold laws_complete.f at h;have H:=h;clear h;have H':=Aa.mk H;clear H
 go_enter Tryz.func16,Tryz.ntmps16
 go_wp2
 go_loopg [3] k (fun kq v3 w' => ∃x3_1:Int,v3 = .int .i64 x3_1∧Aa (laws_complete.l0 kq a0 x3_1=some r)∧Aa (kq≤k)∧Bo w w')
 case atStart=>exact ⟨((a0.size:Int)),Zs.auS,H',⟨Nat.le_refl _⟩,Zq.dr⟩
 case round =>
  clear H'
  obtain ⟨x3_1,rfl,HA,HK1,⟨m1,rfl⟩⟩:=hrel;cases gk with
  | zero=>exact absurd HA.out (by simp [laws_complete.l0])
  | succ k1 =>
   have H:=HA.out;clear HA;simp only [laws_complete.l0] at H
   rcases Zq.jg H with ⟨c2b0,H⟩|⟨c2b0,H⟩
   ·obtain ⟨ji3,hji3⟩ : ∃j_:Int,(wrap64 (x3_1-1))=j_:=⟨_,rfl⟩
    replace H:(if 0≤(ji3) then if (ji3)<(a0.size:Int) then if (bt a0 (ji3))=10 then if 0≤x3_1 then if x3_1≤(a0.size:Int) then some (a0.extract 0 (x3_1:Int).toNat) else none else none else laws_complete.l0 k1 a0 ji3 else none else none)=some r:=by first|(rw [hji3] at H;exact H)|(simp only [hji3] at H ⊢;exact H)
    have hji3w:(IntKind.i64.wrap (x3_1-1))=ji3:=(IG _).trans hji3
    obtain ⟨c4b0,H⟩:=Zq.pd H
    obtain ⟨c5b0,H⟩:=Zq.pd H
    rcases Zq.jn H with ⟨c7b0,H⟩|⟨c7,c7b0,H⟩
    ·obtain ⟨c8,H⟩:=Zq.ip H;have c8b0:=eq_true c8;clear c8
     obtain ⟨c9,H⟩:=Zq.ip H;have c9b0:=eq_true c9;clear c9;obtain rfl:=Option.some.inj H;have p6:0≤((ji3):Int):=Zs.od;have q6:(ji3)<(a0.size:Int):=Zs.od;have hx6:=Fz a0 (ji3);replace p6:=eq_true p6;replace q6:=eq_true q6;go_wp2;go_ret
     exact ⟨by first|rfl|(simp;done)|(simp only [← hji3]<;>(first|rfl|simp))|(simp [*];done),Zq.dr⟩
    ·have H':=Aa.mk H;clear H;have p6:0≤((ji3):Int):=Zs.od;have q6:(ji3)<(a0.size:Int):=Zs.od;have hx6:=Fz a0 (ji3);replace p6:=eq_true p6;replace q6:=eq_true q6;go_wp2
     go_roundg k1
     case measure=>have:=HK1.out;omega
     case rel=>exact ⟨(ji3),(by first|rfl|(simp;done)|(simp only [← hji3]<;>(first|rfl|simp))|(simp [*];done)),H',⟨by have:=HK1.out;omega⟩,Zq.dr⟩
   ·obtain rfl:=Option.some.inj H;go_wp2;go_ret
    exact ⟨Zs.auS,Zq.dr⟩
def laws_lastLine.l0:Nat→ByteArray→Int→Option (ByteArray)
 | 0,_,_=>none
 | k+1,x0,x3=>if x3≥0 then (if 0≤x3 then (if x3<(x0.size:Int) then (if (bt x0 x3)=10 then (if 0≤(wrap64 (x3+1)) then (if (wrap64 (x3+1))≤(x0.size:Int) then (some (x0.extract ((wrap64 (x3+1)):Int).toNat x0.size)) else none) else none) else laws_lastLine.l0 k x0 (wrap64 (x3-1))) else none) else none) else some x0
def laws_lastLine.f (k:Nat) (a0:ByteArray):Option (ByteArray):=laws_lastLine.l0 k a0 (wrap64 ((a0.size:Int)-2))
theorem laws_lastLine.calls (k:Nat) (a0 r:ByteArray) (w:World) (h:laws_lastLine.f k a0=some r) :
  Calls Tryz.prog 17 #[.string a0] w fun e w'=>e = .returned (.string r)∧Bo w w':=by
 unfold laws_lastLine.f at h;have H:=h;clear h;have H':=Aa.mk H;clear H
 go_enter Tryz.func17,Tryz.ntmps17
 go_wp2
 go_loopg [3] k (fun kq v3 w' => ∃x3_1:Int,v3 = .int .i64 x3_1∧Aa (laws_lastLine.l0 kq a0 x3_1=some r)∧Aa (kq≤k)∧Bo w w')
 case atStart=>exact ⟨(wrap64 ((a0.size:Int)-2)),Zs.auS,H',⟨Nat.le_refl _⟩,Zq.dr⟩
 case round =>
  clear H'
  try clear c1
  obtain ⟨x3_1,rfl,HA,HK1,⟨m1,rfl⟩⟩:=hrel;cases gk with
  | zero=>exact absurd HA.out (by simp [laws_lastLine.l0])
  | succ k1 =>
   have H:=HA.out;clear HA;simp only [laws_lastLine.l0] at H
   rcases Zq.jh H with ⟨c2b0,H⟩|⟨c2b0,H⟩
   ·obtain ⟨c3b0,H⟩:=Zq.pd H
    obtain ⟨c4b0,H⟩:=Zq.pd H
    rcases Zq.ii H with ⟨c6,H⟩|⟨c6,H⟩
    ·have c6b0:=beq_iff_eq.mpr c6;have c6b1:=bne_eq_false_iff_eq.mpr c6;clear c6;obtain ⟨ji7,hji7⟩ : ∃j_:Int,(wrap64 (x3_1+1))=j_:=⟨_,rfl⟩
     replace H:(if 0≤(ji7) then (if (ji7)≤(a0.size:Int) then (some (a0.extract ((ji7):Int).toNat a0.size)) else none) else none)=some r:=by first|(rw [hji7] at H;exact H)|(simp only [hji7] at H ⊢;exact H)
     have hji7w:(IntKind.i64.wrap (x3_1+1))=ji7:=(IG _).trans hji7
     obtain ⟨c8,H⟩:=Zq.ip H;have c8b0:=eq_true c8;have c8b1:=decide_eq_true c8;clear c8
     obtain ⟨c9,H⟩:=Zq.ip H;have c9b0:=eq_true c9;have c9b1:=decide_eq_true c9;clear c9;obtain rfl:=Option.some.inj H;have p5:0≤(x3_1:Int):=Zs.od;have q5:x3_1<(a0.size:Int):=Zs.od;have hx5:=Fz a0 x3_1;replace p5:=eq_true p5;replace q5:=eq_true q5;go_wp2;go_ret
     exact ⟨by first|rfl|(simp;done)|(simp only [← hji7]<;>(first|rfl|simp))|(simp [*];done),Zq.dr⟩
    ·have c6b0:=beq_eq_false_iff_ne.mpr c6;have c6b1:=bne_iff_ne.mpr c6;have H':=Aa.mk H;clear H;have p5:0≤(x3_1:Int):=Zs.od;have q5:x3_1<(a0.size:Int):=Zs.od;have hx5:=Fz a0 x3_1;replace p5:=eq_true p5;replace q5:=eq_true q5;go_wp2
     go_roundg k1
     case measure=>have:=HK1.out;omega
     case rel=>exact ⟨(wrap64 (x3_1-1)),Zs.auS,H',⟨by have:=HK1.out;omega⟩,Zq.dr⟩
   ·obtain rfl:=Option.some.inj H;go_wp2;go_ret
    exact ⟨Zs.auS,Zq.dr⟩
def laws_FnExecuteWhat.f (k:Nat) (l0:List Int):Option (Bool):=if (l0.length:Int)>1048576 then some true else (Bs.f k l0).bind fun t3=>((CM.f k t3).bind fun t4=>((Ci.f k t3).bind fun t5=>(if t4.toList=t5.toList then (laws_complete.f k t3).bind fun t6=>(if (t6.size:Int)>488 then some true else (CM.f k t6).bind fun t7=>(if t6.size+11≤9223372036854775807 then (CM.f k (t6++(⟨#[122,122,122,10,102,111,114,109,32,48,10]⟩:ByteArray))).bind fun t8=>((laws_lastLine.f k t7).bind fun t9=>(if 0≤(wrap64 ((t7.size:Int)-(t9.size:Int))) then if (wrap64 ((t7.size:Int)-(t9.size:Int)))≤(t7.size:Int) then if (t7.extract 0 ((wrap64 ((t7.size:Int)-(t9.size:Int))):Int).toNat).size+8≤9223372036854775807 then (laws_lastLine.f k t7).bind fun t10=>(if ((t7.extract 0 ((wrap64 ((t7.size:Int)-(t9.size:Int))):Int).toNat)++(⟨#[119,104,97,116,10,110,111,10]⟩:ByteArray)).size+t10.size≤9223372036854775807 then (some (t8.toList==(((t7.extract 0 ((wrap64 ((t7.size:Int)-(t9.size:Int))):Int).toNat)++(⟨#[119,104,97,116,10,110,111,10]⟩:ByteArray))++t10).toList)) else none) else none else none else none)) else none)) else some false)))
def laws_FnExecuteWhat.T12:Bool×List (List Nat×List Nat):=(true,[([],[]),([0],[0]),([1],[1]),([],[]),([],[]),([4],[4]),([],[]),([6,2],[6]),([7],[7]),([5,8],[5,8]),([3,9],[3,9]),([10],[10]),([],[]),([12,7],[12]),([11,13],[11,13]),([2,14],[2,14]),([15,13,0,1,2,3,4,5,6,7,8,9,10,11,12,13,14,15],[15])])
def laws_FnExecuteWhat.B12:List Nat:=[0,1,3,0,0,16,0,71,199,503,1023,2047,0,4295,16383,32767,65535]
theorem laws_FnExecuteWhat.tab12:rtab .any (opsOf Tryz.f5 12)=laws_FnExecuteWhat.T12:=by kernel_rfl
theorem laws_FnExecuteWhat.bits12:DJ laws_FnExecuteWhat.T12.2 laws_FnExecuteWhat.B12=true:=by kernel_rfl
theorem laws_FnExecuteWhat.calls (k:Nat) (A0:Option Addr) (c0:Nat) (l0:List Int) (r:Bool) (w:World) (hG:GW w) (hr0:Kd.C (Kd.int .u8) w A0 l0.length l0) (hc0:l0.length≤c0) (h:laws_FnExecuteWhat.f k l0=some r) :
  Calls Tryz.prog 5 #[.slice A0 l0.length c0] w fun e w'=>e = .returned (.bool r)∧Below w.heap.size w w':=by
 have HG:=Aa.mk hG;clear hG;have HR0:=Aa.mk hr0;have HC0:=Aa.mk hc0;clear hr0 hc0;have HB:=Aa.mk (Below.refl w.heap.size w);unfold laws_FnExecuteWhat.f at h;have H:=h;clear h
 rcases Zq.ii H with ⟨c2,H⟩|⟨c2,H⟩
 ·have c2b0:decide (1048576<(l0.length:Int))=true:=decide_eq_true c2;have c2b1:decide (1048576<l0.length)=true:=decide_eq_true (by omega);clear c2;obtain rfl:=Option.some.inj H
  go_enter Tryz.func5,Tryz.ntmps5
  go_wp2;go_ret
  exact ⟨Zs.auR,Zs.auHB⟩
 ·have c2b0:decide (1048576<(l0.length:Int))=false:=decide_eq_false c2;have c2b1:decide (1048576<l0.length)=false:=decide_eq_false (by omega);clear c2;obtain ⟨t31,A3,H⟩:=Zs.be H;obtain ⟨t32,A4,H⟩:=Zs.be H;obtain ⟨t33,A5,H⟩:=Zs.be H
  rcases Zq.ii H with ⟨c6,H⟩|⟨c6,H⟩
  ·have c6b0:=beq_iff_eq.mpr c6;have c6b1:=bne_eq_false_iff_eq.mpr c6;clear c6;obtain ⟨t34,A7,H⟩:=Zs.be H
   rcases Zq.ii H with ⟨c8,H⟩|⟨c8,H⟩
   ·have c8b0:decide (488<(t34.size:Int))=true:=decide_eq_true c8;have c8b1:decide (488<t34.size)=true:=decide_eq_true (by omega);clear c8;obtain rfl:=Option.some.inj H
    go_enter Tryz.func5,Tryz.ntmps5
    go_wp2_with (first|((with_reducible refine Ab (f:=13) rfl ?_);refine Zq.gb Tryz.func13 (Bs.calls _ _ _ _ _ _ (Zs.mvC (HR0.out)) HC0.out A3.out) ?_;intro w9 hb;replace HB:=Zq.st hb;(try clear hb))|((with_reducible refine Ab (f:=14) rfl ?_);refine Zq.gb Tryz.func14 (CM.calls _ _ _ _ (GW.below HG.out Zs.auHB) A4.out) ?_;intro w10 hb;replace HB:=Zq.st hb;(try clear hb))|((with_reducible refine Ab (f:=15) rfl ?_);refine Zq.gb Tryz.func15 (Ci.calls _ _ _ _ A5.out) ?_;intro w11 hb;replace HB:=Zq.st hb;(try clear hb))|((with_reducible refine Ab (f:=16) rfl ?_);refine Zq.gp Tryz.func16 (laws_complete.calls _ _ _ _ A7.out) ?_;intro nd))
    go_ret
    exact ⟨Zs.auR,Zs.auHB⟩
   ·have c8b0:decide (488<(t34.size:Int))=false:=decide_eq_false c8;have c8b1:decide (488<t34.size)=false:=decide_eq_false (by omega);clear c8;obtain ⟨t35,A12,H⟩:=Zs.be H
    obtain ⟨c13,H⟩:=Zq.ip H;have c13b0:=eq_true c13;have c13b1:=decide_eq_true c13
    try have c13b2:(9223372036854775807<t34.size+11)=False:=eq_false (Nat.not_lt.2 c13)
    obtain ⟨t36,A14,H⟩:=Zs.be H;obtain ⟨t37,A15,H⟩:=Zs.be H;obtain ⟨ji16,hji16⟩ : ∃j_:Int,(wrap64 ((t35.size:Int)-(t37.size:Int)))=j_:=⟨_,rfl⟩
    replace H:(if 0≤(ji16) then if (ji16)≤(t35.size:Int) then if (t35.extract 0 ((ji16):Int).toNat).size+8≤9223372036854775807 then (laws_lastLine.f k t35).bind fun t38=>(if ((t35.extract 0 ((ji16):Int).toNat)++(⟨#[119,104,97,116,10,110,111,10]⟩:ByteArray)).size+t38.size≤9223372036854775807 then (some (t36.toList==(((t35.extract 0 ((ji16):Int).toNat)++(⟨#[119,104,97,116,10,110,111,10]⟩:ByteArray))++t38).toList)) else none) else none else none else none)=some r:=by first|(rw [hji16] at H;exact H)|(simp only [hji16] at H ⊢;exact H)
    (try rw [hji16] at A3);(try rw [hji16] at A4);(try rw [hji16] at A5);(try rw [hji16] at A7);(try rw [hji16] at A12);(try rw [hji16] at A14);(try rw [hji16] at A15);have hji16w:(IntKind.i64.wrap ((t35.size:Int)-(t37.size:Int)))=ji16:=(IG _).trans hji16
    obtain ⟨c17,H⟩:=Zq.ip H;have c17b0:=eq_true c17;have c17b1:=decide_eq_true c17;clear c17
    obtain ⟨c18,H⟩:=Zq.ip H;have c18b0:=eq_true c18;have c18b1:=decide_eq_true c18;clear c18
    obtain ⟨c19,H⟩:=Zq.ip H;have c19b0:=eq_true c19;have c19b1:=decide_eq_true c19
    try have c19b2:(9223372036854775807<(t35.extract 0 ((ji16):Int).toNat).size+8)=False:=eq_false (Nat.not_lt.2 c19)
    obtain ⟨t38,A20,H⟩:=Zs.be H
    obtain ⟨c21,H⟩:=Zq.ip H;have c21b0:=eq_true c21;have c21b1:=decide_eq_true c21
    try have c21b2:(9223372036854775807<((t35.extract 0 ((ji16):Int).toNat)++(⟨#[119,104,97,116,10,110,111,10]⟩:ByteArray)).size+t38.size)=False:=eq_false (Nat.not_lt.2 c21)
    have c21b3:=c21;have c21b4:=eq_false (Nat.not_lt.2 c21);simp only [ByteArray.size_append,show (⟨#[119,104,97,116,10,110,111,10]⟩:ByteArray).size=8 from rfl] at c21b4
    have z1:=of_eq_true c17b0;have z2:=of_eq_true c18b0;simp only [ByteArray.size_append,ByteArray.size_extract,show (⟨#[119,104,97,116,10,110,111,10]⟩:ByteArray).size=8 from rfl] at c19 c21;have c19b5:(9223372036854775807<ji16.toNat+8)=False:=eq_false (by omega);have c21b5:(9223372036854775807<ji16.toNat+8+t38.size)=False:=eq_false (by omega);clear z1 z2
    obtain rfl:=Option.some.inj H
    go_enter Tryz.func5,Tryz.ntmps5
    try go_wp2_with (first|((with_reducible refine Ab (f:=13) rfl ?_);refine Zq.gb Tryz.func13 (Bs.calls _ _ _ _ _ _ (Zs.mvC (HR0.out)) HC0.out A3.out) ?_;intro w22 hb;replace HB:=Zq.st hb;(try clear hb))|((with_reducible refine Ab (f:=14) rfl ?_);refine Zq.gc (some 14) Tryz.func14 (CM.calls _ _ _ _ (GW.below HG.out Zs.auHB) A4.out) ?_;rintro e w23 ⟨rfl,hb⟩;refine ⟨_,rfl,?_⟩;replace HB:=Zq.st hb;(try clear hb))|((with_reducible refine Ab (f:=15) rfl ?_);refine Zq.gb Tryz.func15 (Ci.calls _ _ _ _ A5.out) ?_;intro w24 hb;replace HB:=Zq.st hb;(try clear hb))|((with_reducible refine Ab (f:=16) rfl ?_);refine Zq.gp Tryz.func16 (laws_complete.calls _ _ _ _ A7.out) ?_;intro nd)|((with_reducible refine Ab (f:=14) rfl ?_);refine Zq.gc (some 26) Tryz.func14 (CM.calls _ _ _ _ (GW.below HG.out Zs.auHB) A12.out) ?_;rintro e w25 ⟨rfl,hb⟩;refine ⟨_,rfl,?_⟩;replace HB:=Zq.st hb;(try clear hb)))
    have n0_:=Aa.mk (Al HB.out);clear HB;have HB:=n0_;clear n0_;refine D6 (n:=17) (S:=fun w'=>True) (ds:=[]) #[false,false,false,false,false,false,false,false,false,false,false,false,false,false,false,false,false] (by kernel_rfl) rfl rfl trivial (fun hHeld=>?_);refine CP laws_FnExecuteWhat.tab12 laws_FnExecuteWhat.bits12 (fun HT_ HW_=>?_);generalize w25.drew=w26 at HB hHeld ⊢;refine Zs.pu 0 (some 27) ?_;refine Zs.pu 1 (some 28) ?_;refine Zs.pu 3 (some 30) ?_;refine Zs.pu 4 (some 31) ?_;refine Zs.pu 5 (some 32) ?_;refine Zs.pu 6 (some 33) ?_;refine Zs.pu 12 (some 39) ?_
    refine Zq.o1 2 (some 29) (fun K hK=>?_);refine FN Tryz.func14 (by kernel_rfl) rfl #[.string (t34++(⟨#[122,122,122,10,102,111,114,109,32,48,10]⟩:ByteArray))] (by rfl) rfl rfl Zs.auM ?_
    with_reducible refine (CM.calls k (t34++(⟨#[122,122,122,10,102,111,114,109,32,48,10]⟩:ByteArray)) t36 _ (GW.below HG.out Zs.auHB) A14.out).mono ?_
    rintro e w27 ⟨rfl,hb⟩;refine ⟨_,rfl,?_⟩;have n0_:=Zq.st hb;clear HB;have HB:=n0_;clear n0_;(try clear hb);(try clear hb2);(try clear hk);(try clear hi);refine hK.out _ _ trivial (fun hHeld=>?_);clear hK K;refine Zq.nm (some 29) ?_
    refine Zq.o1 7 (some 34) (fun K hK=>?_);refine FN Tryz.func17 (by kernel_rfl) rfl #[.string t35] (by rfl) rfl rfl Zs.auM ?_
    with_reducible refine (laws_lastLine.calls k t35 t37 _ A15.out).mono ?_
    rintro e w' ⟨rfl,⟨nd,rfl⟩⟩;refine ⟨_,rfl,?_⟩;refine hK.out _ _ trivial (fun hHeld=>?_);clear hK K;refine Zq.nm (some 34) ?_
    refine Zs.pu 8 (some 35) ?_;refine Zs.pu 9 (some 36) ?_;refine Zs.pu 10 (some 37) ?_;refine Zs.pu 11 (some 38) ?_
    refine Zq.o1 13 (some 40) (fun K hK=>?_);refine FN Tryz.func17 (by kernel_rfl) rfl #[.string t35] (by rfl) rfl rfl Zs.auM ?_
    with_reducible refine (laws_lastLine.calls k t35 t38 _ A20.out).mono ?_
    rintro e w' ⟨rfl,⟨nd,rfl⟩⟩;refine ⟨_,rfl,?_⟩;refine hK.out _ _ trivial (fun hHeld=>?_);clear hK K;refine Zq.nm (some 40) ?_
    refine Zs.pu 14 (some 41) ?_;refine Zs.pu 15 (some 42) ?_;refine Zs.pu 16 (some 2) ?_
    refine Zq.dn ?_
    try go_wp2
    go_ret
    exact ⟨by first|rfl|(simp [Cv,Cw]<;>rfl)|(simp only [← hji16];first|rfl|(simp [Cv,Cw]<;>rfl))|(simp [*,Cv,Cw]<;>rfl),Zs.auHB⟩
  ·have c6b0:=beq_eq_false_iff_ne.mpr c6;have c6b1:=bne_iff_ne.mpr c6;obtain rfl:=Option.some.inj H
   go_enter Tryz.func5,Tryz.ntmps5
   go_wp2_with (first|((with_reducible refine Ab (f:=13) rfl ?_);refine Zq.gb Tryz.func13 (Bs.calls _ _ _ _ _ _ (Zs.mvC (HR0.out)) HC0.out A3.out) ?_;intro w28 hb;replace HB:=Zq.st hb;(try clear hb))|((with_reducible refine Ab (f:=14) rfl ?_);refine Zq.gb Tryz.func14 (CM.calls _ _ _ _ (GW.below HG.out Zs.auHB) A4.out) ?_;intro w29 hb;replace HB:=Zq.st hb;(try clear hb))|((with_reducible refine Ab (f:=15) rfl ?_);refine Zq.gb Tryz.func15 (Ci.calls _ _ _ _ A5.out) ?_;intro w30 hb;replace HB:=Zq.st hb;(try clear hb)))
   go_ret
   exact ⟨Zs.auR,Zs.auHB⟩
def laws_FnExecuteWhat.Pure:Prop := ∀l0:List Int,l0.length≤maxLen→l0.length*1≤140737488351232→(∀x∈l0,(Lit.int .u8 x).wf=true)→∃k,laws_FnExecuteWhat.f k l0=some true
theorem laws_FnExecuteWhat.walk (P:laws_FnExecuteWhat.Pure) (a0:Option Addr) (len0 cap0:Nat) (z0:List Int) (w:World) (w0:(a0=none∧len0=0∧cap0=0∧z0=[])∨∃x,a0=some x∧len0≤cap0∧cap0≤maxLen∧z0.length=cap0∧(∀i,i<z0.length→w.cell? (x.add i)=some (.int .u8 (z0.getD i 0)))∧∀n∈z0,(Lit.int .u8 n).wf=true) (y0:len0*1≤140737488351232) (hG:GW w) :
  Calls Tryz.prog 5 #[.slice a0 len0 cap0] w fun e w'=>e = .returned (.bool true)∧Below w.heap.size w w':=by
 obtain ⟨l0,rfl,hr0,hm0,hw0,hc0⟩:=CT.ofRowC w0;obtain ⟨k,h⟩:=P l0 hm0 y0 hw0;refine (laws_FnExecuteWhat.calls k _ _ l0 true w hG (Kd.G2 (d:=(0:Int)) (h1:=fun _=>rfl) hr0) hc0 h).mono ?_;rintro e w' ⟨rfl,hd⟩;exact ⟨rfl,hd⟩
end Go.Proofs.YtacfcoilmdhgnaaGreatDoor.PFnExecuteWhat
