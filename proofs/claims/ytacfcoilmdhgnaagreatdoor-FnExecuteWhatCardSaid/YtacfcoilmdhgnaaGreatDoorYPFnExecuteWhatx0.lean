/- A function's Lean twin and its walk, written by a program of this session. -/
import Derived.Test.YtacfcoilmdhgnaaGreatDoorProg
import Derived.Below
import Derived.Lib.SliceRun
import Derived.Deep.Draws
import Derived.Deep.AppendLies
import Derived.Maps.AppendAt
import Derived.OwnWalk
import Derived.Laws.BytesArg
import Derived.Laws.MakeOwn
import Derived.Laws.OwnMore
import Derived.Deep.OwnRows
import Derived.Tactics
import Derived.Lib.ConvBytes
import Derived.Laws.Slices
import Derived.WalkKit
import Derived.KernelRfl
import Derived.RowKit3
import Derived.Deep.LoopGhost
import Derived.Deep.QuietTactic
import Derived.BigQuiet
import Derived.WideLaws
import Derived.Deep.DeepCutAuto
import Derived.Deep.CutBlock
import Derived.Deep.RegionHeld3
import Derived.Laws.Rows
import Derived.Lib.AppendStr
import Derived.ArgAppend
import Derived.Laws.IdiomCopy
import Derived.OrdersHeld
import Derived.Laws.BitsLemmas
import Derived.RowKit
import Derived.Test.YtacfcoilmdhgnaaGreatDoorYPlain
import Derived.OneCell
import Derived.Lib.Hide
import Derived.Laws.EntriesVeiled
import Derived.Sort.OwnSortedInts
import Derived.Test.YtacfcoilmdhgnaaGreatDoorYSrt
import Derived.Lib.AppendIntMem
import Derived.Maps.Own
import Derived.Maps.OwnSet
import Derived.Maps.OwnOps
import Derived.Maps.Keyed
import Derived.Deep.RegionWith
import Derived.Test.YtacfcoilmdhgnaaGreatDoorYSqz
import Derived.Test.YtacfcoilmdhgnaaGreatDoorYSqz2
import Derived.Test.YtacfcoilmdhgnaaGreatDoorYWWords
import Derived.Test.YtacfcoilmdhgnaaGreatDoorYWLast
import Derived.Test.YtacfcoilmdhgnaaGreatDoorYWTab
import Derived.Test.YtacfcoilmdhgnaaGreatDoorYWFour
import Derived.Test.YtacfcoilmdhgnaaGreatDoorYWQPut
import Derived.Test.YtacfcoilmdhgnaaGreatDoorYWApart
import Derived.Test.YtacfcoilmdhgnaaGreatDoorYWArr
import Derived.Test.YtacfcoilmdhgnaaGreatDoorYWZeros
import Derived.Test.YtacfcoilmdhgnaaGreatDoorYWFoot
import Derived.Test.YtacfcoilmdhgnaaGreatDoorYWKept
import Derived.Test.YtacfcoilmdhgnaaGreatDoorYWShare
import Derived.Test.YtacfcoilmdhgnaaGreatDoorYWN
import Derived.Test.YtacfcoilmdhgnaaGreatDoorYWFootNe
import Derived.Test.YtacfcoilmdhgnaaGreatDoorYWAt
import Derived.Test.YtacfcoilmdhgnaaGreatDoorYWEqStruct
import Derived.Test.YtacfcoilmdhgnaaGreatDoorYWRepsOne
import Derived.Test.YtacfcoilmdhgnaaGreatDoorYWInv
import Derived.Test.YtacfcoilmdhgnaaGreatDoorYWInvWords
import Derived.Test.YtacfcoilmdhgnaaGreatDoorYWGuard
import Derived.Test.YtacfcoilmdhgnaaGreatDoorYWNEv
import Derived.Test.YtacfcoilmdhgnaaGreatDoorYWMore
set_option maxHeartbeats 8000000
set_option maxRecDepth 100000
namespace Go.Proofs.YtacfcoilmdhgnaaGreatDoor.PFnExecuteWhat
open Go.RowKit Go.Proofs.YtacfcoilmdhgnaaGreatDoorW.PrintWords Go.Proofs.YtacfcoilmdhgnaaGreatDoorW.PrintLast Go.Proofs.YtacfcoilmdhgnaaGreatDoorW.PrintMore
attribute [local go_sem] DN DO El En Du Dt DP DK   -- for this text's walks alone
set_option linter.unusedVariables false
set_option linter.unusedSimpArgs false
def errW:Option Int→Value
 | none => .nilIface
 | some c => .iface 0 (.int .i64 c)
theorem Cv:errW none = .nilIface:=rfl
theorem Cw (c:Int):errW (some c) = .iface 0 (.int .i64 c):=rfl
theorem DS:(Tryz.prog.info? 3).map (fun i=>(i.zero,i.size,i.bytes))=some (some (.int .i64 0),1,8):=by kernel_rfl
theorem info5:(Tryz.prog.info? 5).map (fun i=>(i.zero,i.size,i.bytes))=some (some (.int .u8 0),1,1):=by kernel_rfl
theorem OV:(Tryz.prog.info? 9).map (fun i=>(i.zero,i.size,i.bytes))=some (some (.string ⟨#[]⟩),1,16):=by kernel_rfl
theorem info27:(Tryz.prog.info? 27).map (fun i=>(i.zero,i.size,i.bytes))=some (some (.slice none 0 0),1,24):=by kernel_rfl
-- the values' own types
def G4 (xs:List (List Int)) (i:Int):(List Int):=xs.getD i.toNat ([]:List Int)
theorem Nt {w:World} {A:Option Addr} {n:Nat} {xs:List (List Int)} (h:Kd.C (Kd.slice 3 (Kd.int .i64)) w A n xs) (i:Int) (h0:0≤i) (h1:i<n) : ∃ad A0 c0,A=some ad∧w.cell? (ad.add i.toNat)=some (.slice A0 (G4 xs i).length c0)∧(G4 xs i).length≤c0∧(Kd.int .i64).C w A0 (G4 xs i).length (G4 xs i):=by
 obtain ⟨ad,c,e,_,hK,hc0⟩:=Kd.C_get h ([]:List Int) i h0 h1;have hc : ∀j u,c[j]? = some u→w.cell? (ad.add (i.toNat*1+j))=some u:=hc0
 obtain ⟨A0,c0,rfl,l0,g0⟩:=hK;exact ⟨ad,A0,c0,e,by have hq:=hc 0 _ rfl;rwa [Nat.mul_one,Nat.add_zero] at hq,l0,g0⟩
def AH (w0 W:World) (g:Nat) (f0:List Int) (f1:Int):Prop := ∃A0 c0,W.heap[g]? = some (.cells #[.slice A0 f0.length c0,.int .i64 f1] 83 (0,0))∧w0.heap.size≤g∧Kd.C (Kd.int .u8) w0 A0 f0.length f0
theorem AH.grown {w0 W:World} {g:Nat} {f0:List Int} {f1:Int} {W1:World} {row:Option Nat} (h:AH w0 W g f0 f1) (hw:W.grownBy W1 row) (hne:some g≠row):AH w0 W1 g f0 f1:=by
 obtain ⟨A0,c0,hb,hg,hr0⟩:=h;exact ⟨A0,c0,FU hb hw hne,hg,hr0⟩
theorem AH.kept {w0 W:World} {g:Nat} {f0:List Int} {f1:Int} {W1:World} {S:Nat→Prop} (h:AH w0 W g f0 f1) (hk:Kept W W1 S) (hne : ¬S g):AH w0 W1 g f0 f1:=by
 obtain ⟨A0,c0,hb,hg,hr0⟩:=h;exact ⟨A0,c0,blk_kept hb hk hne,hg,hr0⟩
theorem AH.below {w0 W:World} {g:Nat} {f0:List Int} {f1:Int} {W1:World} (h:AH w0 W g f0 f1) (hw:Below W.heap.size W W1):AH w0 W1 g f0 f1:=h.grown (Ge hw none) (by simp)
theorem AH.alloc {w0 W:World} {g:Nat} {f0:List Int} {f1:Int} (h:AH w0 W g f0 f1) (o:Obj):AH w0 (W.alloc o) g f0 f1:=h.below (Ah (Below.refl _ _) o)
theorem AH.drewN {w0 W:World} {g:Nat} {f0:List Int} {f1:Int} (h:AH w0 W g f0 f1) (m:Nat):AH w0 (W.drewN m) g f0 f1:=h
theorem AH.drew {w0 W:World} {g:Nat} {f0:List Int} {f1:Int} (h:AH w0 W g f0 f1):AH w0 W.drew g f0 f1:=h
theorem AH.at_ {w0 W:World} {g:Nat} {f0:List Int} {f1:Int} {w':World} {m:Nat} (hq:W.drewN m=w') (h:AH w0 W g f0 f1):AH w0 w' g f0 f1:=by subst hq;exact AH.drewN h m
theorem AH.apart {w0 W:World} {g:Nat} {f0:List Int} {f1:Int} {α:Type} {d:Kd α} {e base:Nat} {ok:Nat→Prop} {v:Value} {xs:List α} (h:AH w0 W g f0 f1) (ho:d.R e W base ok v xs) (ht : ∀q,q∈e::d.E→q≠83):d.R e W base (fun k=>ok k∧k≠g) v xs:=by
 obtain ⟨A0,c0,hb,hg,hr0⟩:=h;exact Kd.NY ho hb ht
theorem AH.C0 {w0 W:World} {g:Nat} {f0:List Int} {f1:Int} {α:Type} {d:Kd α} {e base:Nat} {ok:Nat→Prop} {v:Value} {xs:List α} (h:AH w0 W g f0 f1) (ho:d.R e W base ok v xs) (ht:e≠83):some g≠v.ownBlock:=by
 obtain ⟨A0,c0,hb,hg,hr0⟩:=h;exact Kd.R_ne ho hb ht
theorem AH.lt {w0 W:World} {g:Nat} {f0:List Int} {f1:Int} (h:AH w0 W g f0 f1):g<W.heap.size:=by
 obtain ⟨A0,c0,hb,hg,hr0⟩:=h;exact Hi hb
theorem AH.ge {w0 W:World} {g:Nat} {f0:List Int} {f1:Int} (h:AH w0 W g f0 f1):w0.heap.size≤g:=by
 obtain ⟨A0,c0,hb,hg,hr0⟩:=h;exact hg
theorem GA {W:World} {g:Nat} {A0:Option Addr} {c0:Nat} {f0:List Int} {f1:Int} (h:W.heap[g]? = some (.cells #[.slice A0 f0.length c0,.int .i64 f1] 83 (0,0))):W.cell? ⟨g,0,none⟩=some (.slice A0 f0.length c0):=(CW h 0).trans rfl
theorem Gy {W:World} {g:Nat} {A0:Option Addr} {c0:Nat} {f0:List Int} {f1:Int} (h:W.heap[g]? = some (.cells #[.slice A0 f0.length c0,.int .i64 f1] 83 (0,0))):W.cell? ⟨g,1,none⟩=some (.int .i64 f1):=(CW h 1).trans rfl
theorem AH.GZ {w0 W:World} {g:Nat} {f0:List Int} {f1:Int} (h:AH w0 W g f0 f1) (x:Int):AH w0 (W.setCell ⟨g,1,none⟩ (.int .i64 x)) g f0 x:=by
 obtain ⟨A0,c0,hb,hg,hr0⟩:=h;exact ⟨A0,c0,by simpa using LD hb 1 (.int .i64 x),hg,hr0⟩
def D0.f (l0:List Int):Option (List Int×Int):=if (l0.length:Int)>2000 then if 2000≤(l0.length:Int) then some (l0.take 2000,0) else none else some (l0,0)
theorem D0.calls (A0:Option Addr) (c0:Nat) (l0 r1:List Int) (r2:Int) (w0 w:World) (hB:Below w0.heap.size w0 w) (hr0:Kd.C (Kd.int .u8) w0 A0 l0.length l0) (hc0:l0.length≤c0) (h:D0.f l0=some (r1,r2)) :
  Calls Tryz.prog 42 #[.slice A0 l0.length c0] w fun e w' => ∃g_:Nat,e = .returned (.pointer (some ⟨g_,0,none⟩))∧AH w0 w' g_ r1 r2∧Below w0.heap.size w0 w'∧Below w.heap.size w w':=by
 have hu83:=Tryz.underlying83;have HR0:=Aa.mk hr0;have HC0:=Aa.mk hc0;clear hr0 hc0;have HBW:=Aa.mk (Below.refl w.heap.size w);have HW0:=Aa.mk hB.size;have HB:=Aa.mk hB;clear hB;unfold D0.f at h;have H:=h;clear h
 rcases Zq.jg H with ⟨c2b0,H⟩|⟨c2b0,H⟩
 ·obtain ⟨c3,H⟩:=Zq.ip H;have c3b1:=decide_eq_true c3;clear c3;obtain ⟨rfl,rfl⟩:=Zq.pi H;obtain ⟨i04,hi04,_,hsz4,_⟩:=info_parts info5;obtain ⟨hcut4,hA4,hC4⟩:=GL (P:=Tryz.prog) (Value.int .u8) 0 22 5 .i64 Tryz.underlying22 hi04 hsz4 A0 c0 l0 2000 (by omega) (Zs.od) HC0.out;have HR7:=Aa.mk (Kd.G2 (h1:=fun _=>rfl) (hA4 _ (Kd.EV HR0.out)));have HC7:=Aa.mk hC4;clear hA4 hC4 hi04 hsz4
  go_enter Tryz.func42,Tryz.ntmps42
  go_wp2_with (((with_reducible refine Bb (N:=10) rfl ?_);refine GQ ?hg (N:=10) ?hd (cs:=#[.slice A0 (l0.take 2000).length c0,.int .i64 0]) (t:=83) ?hr ?_;(case hd=>rfl);(case hg=>rfl);(case hr=>first|(go_simp;done)|(go_simp;rfl));intro gb9 hg w5 hbox hb;replace HB:=Zq.st hb;have BK9:=Aa.mk (hbox);have GW102:=Aa.mk ((by rw [hg];exact (Ay (by repeat (first|(with_reducible first|exact HBW.out|apply Ah|apply Ag|apply Al)|exact HBW.out))):w.heap.size≤gb9));have GE9:=Aa.mk ((Nat.le_trans HW0.out (by rw [hg];exact (Ay (by repeat (first|(with_reducible first|exact HBW.out|apply Ah|apply Ag|apply Al)|exact HBW.out))):w.heap.size≤gb9):w0.heap.size≤gb9));replace HBW:=Aa.mk (Bj HBW.out hb);clear hb hbox hg))
  go_ret
  exact ⟨_,rfl,(show AH w0 _ gb9 (l0.take 2000) 0 from ⟨_,_,by (with_reducible repeat (first|refine BG ?_ _|refine Ca ?_|refine BH ?_ _));exact BK9.out,GE9.out,HR7.out⟩),by repeat (first|(with_reducible first|exact HB.out|apply Ah|apply Ag|apply Al|refine AE ?_ GE9.out)|exact HB.out),by repeat (first|(with_reducible first|exact HBW.out|apply Ah|apply Ag|apply Al|refine AE ?_ GW102.out)|exact HBW.out)⟩
 ·obtain ⟨rfl,rfl⟩:=Zq.pi H
  go_enter Tryz.func42,Tryz.ntmps42
  go_wp2_with (((with_reducible refine Bb (N:=10) rfl ?_);refine GQ ?hg (N:=10) ?hd (cs:=#[.slice A0 l0.length c0,.int .i64 0]) (t:=83) ?hr ?_;(case hd=>rfl);(case hg=>rfl);(case hr=>first|(go_simp;done)|(go_simp;rfl));intro gb10 hg w6 hbox hb;replace HB:=Zq.st hb;have BK10:=Aa.mk (hbox);have GW103:=Aa.mk ((by rw [hg];exact (Ay (by repeat (first|(with_reducible first|exact HBW.out|apply Ah|apply Ag|apply Al)|exact HBW.out))):w.heap.size≤gb10));have GE10:=Aa.mk ((Nat.le_trans HW0.out (by rw [hg];exact (Ay (by repeat (first|(with_reducible first|exact HBW.out|apply Ah|apply Ag|apply Al)|exact HBW.out))):w.heap.size≤gb10):w0.heap.size≤gb10));replace HBW:=Aa.mk (Bj HBW.out hb);clear hb hbox hg))
  go_ret
  exact ⟨_,rfl,(show AH w0 _ gb10 l0 0 from ⟨_,_,by (with_reducible repeat (first|refine BG ?_ _|refine Ca ?_|refine BH ?_ _));exact BK10.out,GE10.out,HR0.out⟩),by repeat (first|(with_reducible first|exact HB.out|apply Ah|apply Ag|apply Al|refine AE ?_ GE10.out)|exact HB.out),by repeat (first|(with_reducible first|exact HBW.out|apply Ah|apply Ag|apply Al|refine AE ?_ GW103.out)|exact HBW.out)⟩
def Aj.j0:Nat→Int→Bool→List Int→Int→Option (Int×Int)
 | 0,_,_,_,_=>none
 | k+1,x1,x24,x3,x4=>if x24=true then some (0,x4) else if (wrap64 (x4-1))<(x3.length:Int) then if 0≤(wrap64 (x4-1)) then if x1=0 then none else some (Int.tmod (wrap64 (rd x3 (wrap64 (x4-1)))) x1,x4) else none else if (x3.length:Int)=0 then none else if 0≤(Int.tmod (wrap64 (x4-1)) (x3.length:Int)) then if (Int.tmod (wrap64 (x4-1)) (x3.length:Int))<(x3.length:Int) then if 0≤(Int.tmod (wrap64 ((wrap64 ((wrap64 (x4-1))*7))+3)) (x3.length:Int)) then if (Int.tmod (wrap64 ((wrap64 ((wrap64 (x4-1))*7))+3)) (x3.length:Int))<(x3.length:Int) then if x1=0 then none else some (Int.tmod (Go.bits .xor .i64 (wrap64 ((wrap64 ((wrap64 ((wrap64 ((wrap64 (rd x3 (Int.tmod (wrap64 (x4-1)) (x3.length:Int))))*131))+(wrap64 ((wrap64 (rd x3 (Int.tmod (wrap64 ((wrap64 ((wrap64 (x4-1))*7))+3)) (x3.length:Int))))*1117))))+(wrap64 ((wrap64 (x4-1))*29))))+(wrap64 ((wrap64 (Int.tdiv (wrap64 (x4-1)) (x3.length:Int)))*53)))) (wrap64 (Int.tdiv (wrap64 ((wrap64 ((wrap64 ((wrap64 ((wrap64 (rd x3 (Int.tmod (wrap64 (x4-1)) (x3.length:Int))))*131))+(wrap64 ((wrap64 (rd x3 (Int.tmod (wrap64 ((wrap64 ((wrap64 (x4-1))*7))+3)) (x3.length:Int))))*1117))))+(wrap64 ((wrap64 (x4-1))*29))))+(wrap64 ((wrap64 (Int.tdiv (wrap64 (x4-1)) (x3.length:Int)))*53)))) 64))) x1,x4) else none else none else none else none
def Aj.f (k:Nat) (s0_0:List Int) (s0_1 a1:Int):Option (Int×Int):=if a1<1 then Aj.j0 k a1 true s0_0 (wrap64 (s0_1+1)) else Aj.j0 k a1 ((s0_0.length:Int)==0) s0_0 (wrap64 (s0_1+1))
theorem Aj.calls (k g:Nat) (s0_0:List Int) (s0_1 a1 r1 r2:Int) (w0 w:World) (hI:AH w0 w g s0_0 s0_1) (hB:Below w0.heap.size w0 w) (h:Aj.f k s0_0 s0_1 a1=some (r1,r2)) :
  Calls Tryz.prog 43 #[.pointer (some ⟨g,0,none⟩),.int .i64 a1] w fun e w'=>e = .returned (.int .i64 r1)∧AH w0 w' g s0_0 r2∧Below w0.heap.size w0 w'∧AA w w' g none:=by
 have HI0:=Aa.mk hI;have HK:=Aa.mk (AA.refl w g none);have HL:=Aa.mk hB.size;clear hI;have HW0:=Aa.mk hB.size;have HB:=Aa.mk hB;clear hB;unfold Aj.f at h;have H:=h;clear h;have HC3:=Aa.mk H;clear H;obtain ⟨ASz4_0,cSz4_0,HGz4,hgz4,HSz4_0⟩:=HI0.out;have hcz4_0:=GA HGz4;have hcz4_1:=Gy HGz4;have hfz4_1:=C3 HGz4 1;clear HGz4 hgz4
 go_enter Tryz.func43,Tryz.ntmps43
 go_upto_region 2 with (fail)
 go_cut [24] (fun v24 wc => ∃(kq:Nat) (x24_2:Bool),v24 = .bool x24_2∧Aa (Aj.j0 kq a1 x24_2 s0_0 (wrap64 (s0_1+1))=some (r1,r2))∧Aa (kq≤k)∧Aa (AH w0 wc g s0_0 (wrap64 (s0_1+1)))∧Aa (AA w wc g none)∧Aa (Below w0.heap.size w0 wc))
 case first =>
  have H:=HC3.out;clear HC3
  rcases Zq.jd H with ⟨c5b0,H⟩|⟨c5b0,H⟩
  ·have H':=Aa.mk H;clear H;go_wp2
   go_meet
   case rel=>exact ⟨_,(true),Zs.auS,H',⟨Zs.auN⟩,⟨Zq.iI⟩,⟨Zq.iK⟩,⟨Zq.iB⟩⟩
  ·have H':=Aa.mk H;clear H;obtain ⟨ASz6_0,cSz6_0,HGz6,hgz6,HSz6_0⟩:=HI0.out;have hcz6_0:=GA HGz6;have hcz6_1:=Gy HGz6;have hfz6_1:=C3 HGz6 1;clear HGz6 hgz6;go_wp2
   go_meet
   case rel=>exact ⟨_,(((s0_0.length:Int)==0)),Zs.auS,H',⟨Zs.auN⟩,⟨Zq.iI⟩,⟨Zq.iK⟩,⟨Zq.iB⟩⟩
 case rest =>
  clear HC3
  obtain ⟨kq,x24_2,rfl,HA,HJ2,HI0,HK,HB⟩:=hcut;cases kq with
  | zero=>exact absurd HA.out (by simp [Aj.j0])
  | succ kj2 =>
   have H:=HA.out;clear HA;simp only [Aj.j0] at H
   cases x24_2
   ·replace H:=Zq.fh H
    rcases Zq.jd H with ⟨c8b0,H⟩|⟨c8b0,H⟩
    ·obtain ⟨ji9,hji9⟩ : ∃j_:Int,(wrap64 ((wrap64 (s0_1+1))-1))=j_:=⟨_,rfl⟩
     replace H:(if 0≤(ji9) then if a1=0 then none else some (Int.tmod (wrap64 (rd s0_0 (ji9))) a1,(wrap64 (s0_1+1))) else none)=some (r1,r2):=by first|(rw [hji9] at H;exact H)|(simp only [hji9] at H ⊢;exact H)
     (try rw [hji9] at c8b0);have hji9w:(IntKind.i64.wrap ((wrap64 (s0_1+1))-1))=ji9:=(IG _).trans hji9
     obtain ⟨c10b0,H⟩:=Zq.pd H
     rcases Zq.ii H with ⟨c11,H⟩|⟨c11,H⟩
     ·exact absurd H (by simp)
     ·obtain ⟨rfl,rfl⟩:=Zq.pi H;obtain ⟨ASz12_0,cSz12_0,HGz12,hgz12,HSz12_0⟩:=HI0.out;have hcz12_0:=GA HGz12;have hcz12_1:=Gy HGz12;have hfz12_1:=C3 HGz12 1;clear HGz12 hgz12;obtain ⟨ad7,e7,hx7_0,p7,q7⟩:=Zq.at_ HSz12_0 (ji9);cases e7;replace hx7_0:=D1 HB.out hx7_0;go_wp2
      go_ret
      exact ⟨by first|rfl|(simp [Cv,Cw]<;>rfl)|(simp only [← hji9];first|rfl|(simp [Cv,Cw]<;>rfl))|(simp [*,Cv,Cw]<;>rfl),Zq.iI,Zq.iB,Zq.iK⟩
    ·rcases Zq.ii H with ⟨c13,H⟩|⟨c13,H⟩
     ·exact absurd H (by simp)
     ·have c13b2 : ¬(s0_0=[]):=fun h_=>c13 (by rw [h_];rfl)
      obtain ⟨ji14,hji14⟩ : ∃j_:Int,(Int.tmod (wrap64 ((wrap64 (s0_1+1))-1)) (s0_0.length:Int))=j_:=⟨_,rfl⟩
      replace H:(if 0≤(ji14) then if (ji14)<(s0_0.length:Int) then if 0≤(Int.tmod (wrap64 ((wrap64 ((wrap64 ((wrap64 (s0_1+1))-1))*7))+3)) (s0_0.length:Int)) then if (Int.tmod (wrap64 ((wrap64 ((wrap64 ((wrap64 (s0_1+1))-1))*7))+3)) (s0_0.length:Int))<(s0_0.length:Int) then if a1=0 then none else some (Int.tmod (Go.bits .xor .i64 (wrap64 ((wrap64 ((wrap64 ((wrap64 ((wrap64 (rd s0_0 (ji14)))*131))+(wrap64 ((wrap64 (rd s0_0 (Int.tmod (wrap64 ((wrap64 ((wrap64 ((wrap64 (s0_1+1))-1))*7))+3)) (s0_0.length:Int))))*1117))))+(wrap64 ((wrap64 ((wrap64 (s0_1+1))-1))*29))))+(wrap64 ((wrap64 (Int.tdiv (wrap64 ((wrap64 (s0_1+1))-1)) (s0_0.length:Int)))*53)))) (wrap64 (Int.tdiv (wrap64 ((wrap64 ((wrap64 ((wrap64 ((wrap64 (rd s0_0 (ji14)))*131))+(wrap64 ((wrap64 (rd s0_0 (Int.tmod (wrap64 ((wrap64 ((wrap64 ((wrap64 (s0_1+1))-1))*7))+3)) (s0_0.length:Int))))*1117))))+(wrap64 ((wrap64 ((wrap64 (s0_1+1))-1))*29))))+(wrap64 ((wrap64 (Int.tdiv (wrap64 ((wrap64 (s0_1+1))-1)) (s0_0.length:Int)))*53)))) 64))) a1,(wrap64 (s0_1+1))) else none else none else none else none)=some (r1,r2):=by first|(rw [hji14] at H;exact H)|(simp only [hji14] at H ⊢;exact H)
      obtain ⟨c15b0,H⟩:=Zq.pd H
      obtain ⟨c16b0,H⟩:=Zq.pd H;obtain ⟨ji17,hji17⟩ : ∃j_:Int,(Int.tmod (wrap64 ((wrap64 ((wrap64 ((wrap64 (s0_1+1))-1))*7))+3)) (s0_0.length:Int))=j_:=⟨_,rfl⟩
      replace H:(if 0≤(ji17) then if (ji17)<(s0_0.length:Int) then if a1=0 then none else some (Int.tmod (Go.bits .xor .i64 (wrap64 ((wrap64 ((wrap64 ((wrap64 ((wrap64 (rd s0_0 (ji14)))*131))+(wrap64 ((wrap64 (rd s0_0 (ji17)))*1117))))+(wrap64 ((wrap64 ((wrap64 (s0_1+1))-1))*29))))+(wrap64 ((wrap64 (Int.tdiv (wrap64 ((wrap64 (s0_1+1))-1)) (s0_0.length:Int)))*53)))) (wrap64 (Int.tdiv (wrap64 ((wrap64 ((wrap64 ((wrap64 ((wrap64 (rd s0_0 (ji14)))*131))+(wrap64 ((wrap64 (rd s0_0 (ji17)))*1117))))+(wrap64 ((wrap64 ((wrap64 (s0_1+1))-1))*29))))+(wrap64 ((wrap64 (Int.tdiv (wrap64 ((wrap64 (s0_1+1))-1)) (s0_0.length:Int)))*53)))) 64))) a1,(wrap64 (s0_1+1))) else none else none)=some (r1,r2):=by first|(rw [hji17] at H;exact H)|(simp only [hji17] at H ⊢;exact H)
      obtain ⟨c18b0,H⟩:=Zq.pd H
      obtain ⟨c19b0,H⟩:=Zq.pd H
      rcases Zq.ii H with ⟨c20,H⟩|⟨c20,H⟩
      ·exact absurd H (by simp)
      ·obtain ⟨rfl,rfl⟩:=Zq.pi H;obtain ⟨ASz21_0,cSz21_0,HGz21,hgz21,HSz21_0⟩:=HI0.out;have hcz21_0:=GA HGz21;have hcz21_1:=Gy HGz21;have hfz21_1:=C3 HGz21 1;clear HGz21 hgz21;obtain ⟨ad22,e22,hx22_0,p22,q22⟩:=Zq.at_ HSz21_0 (ji14);cases e22;replace hx22_0:=D1 HB.out hx22_0;obtain ⟨ad23,e23,hx23_0,p23,q23⟩:=Zq.at_ HSz21_0 (ji17);obtain rfl:ad22=ad23:=(by injection e23);replace hx23_0:=D1 HB.out hx23_0;go_wp2
       repeat (go_quiet (fail);try go_wp2)
       go_ret
       exact ⟨by first|rfl|(simp [Cv,Cw]<;>rfl)|(simp only [← hji14,← hji17];first|rfl|(simp [Cv,Cw]<;>rfl))|(simp [*,Cv,Cw]<;>rfl),Zq.iI,Zq.iB,Zq.iK⟩
   ·replace H:=Zq.th H;obtain ⟨rfl,rfl⟩:=Zq.pi H;go_wp2
    go_ret
    exact ⟨Zs.auR,Zq.iI,Zq.iB,Zq.iK⟩
def AP.f:Nat→Int→Option (ByteArray)
 | 0,_=>none
 | k+1,a0=>if a0<(-9223372036854775807) then some (⟨#[45,57,50,50,51,51,55,50,48,51,54,56,53,52,55,55,53,56,48,56]⟩:ByteArray) else if a0<0 then (AP.f k (wrap64 (-a0))).bind fun t3=>(if 1+t3.size≤9223372036854775807 then some ((⟨#[45]⟩:ByteArray)++t3) else none) else if a0<10 then (some (strOfNums (([(wrap64 (48+a0))%256]:List Int)))) else (AP.f k (wrap64 (Int.tdiv a0 10))).bind fun t4=>((some (([(wrap64 (48+(Int.tmod a0 10)))%256]:List Int):List Int)).bind fun y5=>(if t4.size+(strOfNums y5).size≤9223372036854775807 then some (t4++(strOfNums y5)) else none))
def AP.T7:Bool×List (List Nat×List Nat):=(true,[([],[]),([0],[0]),([1],[1]),([],[]),([3],[3]),([4],[4]),([5],[5]),([6],[6]),([7],[7]),([2,8],[2,8]),([9,2,0,1,2,3,4,5,6,7,8,9],[9])])
def AP.B7:List Nat:=[0,1,3,0,8,24,56,120,248,511,1023]
theorem AP.tab7:rtab .any (opsOf Tryz.f53 7)=AP.T7:=by kernel_rfl
theorem AP.bits7:DJ AP.T7.2 AP.B7=true:=by kernel_rfl
theorem AP.calls (k:Nat) : ∀(a0:Int) (r:ByteArray) (w:World) (h:AP.f k a0=some r),
  Calls Tryz.prog 53 #[.int .i64 a0] w fun e w'=>e = .returned (.string r)∧Below w.heap.size w w':=by
 induction k using Nat.strongRecOn with
 | _ k ih =>
 intro a0 r w h;cases k with
 | zero=>exact absurd h (by simp [AP.f])
 | succ k =>
 simp only [AP.f] at h;have HB:=Aa.mk (Below.refl w.heap.size w);have H:(if a0<(-9223372036854775807) then some (⟨#[45,57,50,50,51,51,55,50,48,51,54,56,53,52,55,55,53,56,48,56]⟩:ByteArray) else if a0<0 then (AP.f k (wrap64 (-a0))).bind fun t19=>(if 1+t19.size≤9223372036854775807 then some ((⟨#[45]⟩:ByteArray)++t19) else none) else if a0<10 then (some (strOfNums (([(wrap64 (48+a0))%256]:List Int)))) else (AP.f k (wrap64 (Int.tdiv a0 10))).bind fun t24=>((some (([(wrap64 (48+(Int.tmod a0 10)))%256]:List Int):List Int)).bind fun y25=>(if t24.size+(strOfNums y25).size≤9223372036854775807 then some (t24++(strOfNums y25)) else none)))=some r:=h;clear h
 rcases Zq.jd H with ⟨c2b0,H⟩|⟨c2b0,H⟩
 ·obtain rfl:=Option.some.inj H
  go_enter Tryz.func53,Tryz.ntmps53
  go_wp2;go_ret
  exact ⟨Zs.auR,Zs.auHB⟩
 ·rcases Zq.jd H with ⟨c3b0,H⟩|⟨c3b0,H⟩
  ·obtain ⟨t19,A4,H⟩:=Zs.be H
   obtain ⟨c5,H⟩:=Zq.ip H
   try have c5b2:(9223372036854775807<1+t19.size)=False:=eq_false (Nat.not_lt.2 c5)
   obtain rfl:=Option.some.inj H
   go_enter Tryz.func53,Tryz.ntmps53
   go_wp2_with (((with_reducible refine Ab (f:=53) rfl ?_);refine Zq.gb Tryz.func53 (ih k (by omega) (wrap64 (-a0)) t19 _ A4.out) ?_;intro w6 hb;replace HB:=Zq.st hb;(try clear hb)))
   go_ret
   exact ⟨Zs.auR,Zs.auHB⟩
  ·rcases Zq.jd H with ⟨c7b0,H⟩|⟨c7b0,H⟩
   ·generalize hyy:([(wrap64 (48+a0))%256]:List Int)=y20 at H;have Ny20:=Aa.mk hyy.symm;clear hyy;obtain rfl:=Option.some.inj H
    go_enter Tryz.func53,Tryz.ntmps53
    go_wp2_with (((with_reducible refine Bb (N:=16) rfl ?_);refine Kd.I2 (Kd.int .u8) _ 5 ?hg (N:=16) ?hd (xs:=([(wrap64 (48+a0))%256]:List Int)) (inner:=[.int .u8 ((wrap64 (48+a0))%256)]) (ok:=fun _=>True) (okp:=fun _=>True) ?hr ?hp (fun _ hk=>hk) trivial (Below.refl _ _) (Nat.le_refl _) (by simp) ?_;(case hd=>rfl);(case hg=>rfl);(case hr=>first|(go_simp;done)|(go_simp;rfl));(case hp=>exact (Reps.one (show Kd.M (Kd.int .u8) _ _ _ ((wrap64 (48+a0))%256) [.int .u8 ((wrap64 (48+a0))%256)] from rfl) (Reps.none _ _)));intro v21 w8 ho9 hb hg_ hnew_;clear hg_ hnew_;(first|rw [← Ny20.out] at ho9|(simp only [Int.reduceToNat] at ho9;rw [← Ny20.out] at ho9));have HO23:=Zq.lw ho9;replace HB:=Zq.st hb;clear hb ho9;have hcv10:=F0 (P:=Tryz.prog) Tryz.underlying22 Tryz.underlying5 Tryz.underlying9 (Kd.EE HO23.out)))
    go_ret
    exact ⟨Zs.auR,Zs.auHB⟩
   ·obtain ⟨t24,A11,H⟩:=Zs.be H;generalize hyy:([(wrap64 (48+(Int.tmod a0 10)))%256]:List Int)=y25 at H;have Ny25:=Aa.mk hyy.symm;clear hyy
    obtain ⟨c12,H⟩:=Zq.ip H
    try have c12b2:(9223372036854775807<t24.size+(strOfNums y25).size)=False:=eq_false (Nat.not_lt.2 c12)
    obtain rfl:=Option.some.inj H
    go_enter Tryz.func53,Tryz.ntmps53
    try go_wp2
    have n0_:=Aa.mk (Al HB.out);clear HB;have HB:=n0_;clear n0_;refine D6 (n:=11) (S:=fun w'=>True) (ds:=[]) #[false,false,false,false,false,false,false,false,false,false,false] (by kernel_rfl) rfl rfl trivial (fun hHeld=>?_);refine CP AP.tab7 AP.bits7 (fun HT_ HW_=>?_);generalize w.drew=w13 at HB hHeld ⊢;refine Zs.pu 0 (some 18) ?_;refine Zs.pu 1 (some 19) ?_;refine Zs.pu 3 (some 21) ?_;refine Zs.pu 4 (some 22) ?_;refine Zs.pu 5 (some 23) ?_;refine Zs.pu 6 (some 24) ?_
    refine join_ (σ:=Value) 2 #[true,true,true,true,true,true,true,true,true,false,false] (fun s_=>[(20,.string t24),(25,s_),(26,.string (strOfNums y25))]) (fun s_ w'=>(Kd.R (Kd.int .u8) 5 w' w.heap.size (fun _=>True) s_ y25)∧(Below w.heap.size w w')) ?_ ?_;rotate_left
    ·intro hCont;refine two_ (i:=2) (j:=7) (Ni:=some 20) (Nj:=some 25) #[true,true,true,true,true,true,true,false,false,false,false] #[true,true,false,true,true,true,true,true,false,false,false] rfl rfl rfl rfl (two_of HT_.out (by kernel_rfl)) (by decide) (by decide) (fun K hK=>?_) (fun K hK=>?_)
     ·skip
      refine FN Tryz.func53 (by kernel_rfl) rfl #[.int .i64 (wrap64 (Int.tdiv a0 10))] (by rfl) rfl rfl Zs.auM ?_
      with_reducible refine (ih k (by omega) (wrap64 (Int.tdiv a0 10)) t24 _ A11.out).mono ?_
      rintro e w14 ⟨rfl,hb⟩;refine ⟨_,rfl,?_⟩;have n0_:=Zq.st hb;clear HB;have HB:=n0_;clear n0_;(try clear hb);(try clear hb2);(try clear hk);(try clear hi);refine hK.out _ _ trivial (fun hHeld=>?_);clear hK K;refine Zq.nm (some 20) ?_
      refine Zq.o1 7 (some 25) (fun K hK=>?_);refine Kd.EA (Kd.int .u8) _ 5 ?hg (N:=25) ?hd (xs:=([(wrap64 (48+(Int.tmod a0 10)))%256]:List Int)) (inner:=[.int .u8 ((wrap64 (48+(Int.tmod a0 10)))%256)]) (ok:=fun _=>True) (okp:=fun _=>True) ?hr ?hp (fun _ hk=>hk) trivial (Below.refl _ _) (Nat.le_refl _) (by simp) ?_;(case hd=>rfl);(case hg=>rfl);(case hr=>first|(go_simp;done)|(go_simp;rfl));(case hp=>exact (Reps.one (show Kd.M (Kd.int .u8) _ _ _ ((wrap64 (48+(Int.tmod a0 10)))%256) [.int .u8 ((wrap64 (48+(Int.tmod a0 10)))%256)] from rfl) (Reps.none _ _)));intro v26 w15 ho16 hb hg_ hnew_;clear hg_ hnew_
      (first|rw [← Ny25.out] at ho16|(simp only [Int.reduceToNat] at ho16;rw [← Ny25.out] at ho16))
      have n0_:=Zq.lw ho16;have n1_:=Zq.st hb;clear HB;have HO27:=n0_;have HB:=n1_;clear n0_ n1_;clear hb ho16;refine hK.out _ _ trivial (fun hHeld=>?_);clear hK K;refine Zq.nm (some 25) ?_
      refine Zq.o1 8 (some 26) (fun K hK=>?_);have hcv17:=F0 (P:=Tryz.prog) Tryz.underlying22 Tryz.underlying5 Tryz.underlying9 (Kd.EE HO27.out);refine OA (w1:=?_) (v:=?_) (by rfl) rfl ?_ ?_;rotate_left 2
      ·go_simp
       constructor
       ·rfl
       ·rfl
      clear hcv17;refine hK.out _ _ trivial (fun hHeld=>?_);clear hK K;refine Zq.nm (some 26) ?_
      exact NS (by simp only [Ic,Act.put,List.setIfInBounds_toArray,List.set_cons_zero,List.set_cons_succ]) (hCont (v26) _ ⟨((Zs.mvR HO27.out)),(Zs.auHB)⟩)
     ·skip
      refine Kd.EA (Kd.int .u8) _ 5 ?hg (N:=25) ?hd (xs:=([(wrap64 (48+(Int.tmod a0 10)))%256]:List Int)) (inner:=[.int .u8 ((wrap64 (48+(Int.tmod a0 10)))%256)]) (ok:=fun _=>True) (okp:=fun _=>True) ?hr ?hp (fun _ hk=>hk) trivial (Below.refl _ _) (Nat.le_refl _) (by simp) ?_;(case hd=>rfl);(case hg=>rfl);(case hr=>first|(go_simp;done)|(go_simp;rfl));(case hp=>exact (Reps.one (show Kd.M (Kd.int .u8) _ _ _ ((wrap64 (48+(Int.tmod a0 10)))%256) [.int .u8 ((wrap64 (48+(Int.tmod a0 10)))%256)] from rfl) (Reps.none _ _)));intro v26 w14 ho15 hb hg_ hnew_;clear hg_ hnew_
      (first|rw [← Ny25.out] at ho15|(simp only [Int.reduceToNat] at ho15;rw [← Ny25.out] at ho15))
      have n0_:=Zq.lw ho15;have n1_:=Zq.st hb;clear HB;have HO27:=n0_;have HB:=n1_;clear n0_ n1_;clear hb ho15;refine hK.out _ _ trivial (fun hHeld=>?_);clear hK K;refine Zq.nm (some 25) ?_
      refine two_ (i:=2) (j:=8) (Ni:=some 20) (Nj:=some 26) #[true,true,true,true,true,true,true,true,false,false,false] #[true,true,false,true,true,true,true,true,true,false,false] rfl rfl rfl rfl (two_of HT_.out (by kernel_rfl)) (by decide) (by decide) (fun K hK=>?_) (fun K hK=>?_)
      ·skip
       refine FN Tryz.func53 (by kernel_rfl) rfl #[.int .i64 (wrap64 (Int.tdiv a0 10))] (by rfl) rfl rfl Zs.auM ?_
       with_reducible refine (ih k (by omega) (wrap64 (Int.tdiv a0 10)) t24 _ A11.out).mono ?_
       rintro e w16 ⟨rfl,hb⟩;refine ⟨_,rfl,?_⟩;have n0_:=Zq.rb HO27.out hb;have n1_:=Zq.st hb;clear HO27;clear HB;have HO27:=n0_;have HB:=n1_;clear n0_ n1_;(try clear hb);(try clear hb2);(try clear hk);(try clear hi);refine hK.out _ _ trivial (fun hHeld=>?_);clear hK K;refine Zq.nm (some 20) ?_
       refine Zq.o1 8 (some 26) (fun K hK=>?_);have hcv17:=F0 (P:=Tryz.prog) Tryz.underlying22 Tryz.underlying5 Tryz.underlying9 (Kd.EE HO27.out);refine OA (w1:=?_) (v:=?_) (by rfl) rfl ?_ ?_;rotate_left 2
       ·go_simp
        constructor
        ·rfl
        ·rfl
       clear hcv17;refine hK.out _ _ trivial (fun hHeld=>?_);clear hK K;refine Zq.nm (some 26) ?_
       exact NS (by simp only [Ic,Act.put,List.setIfInBounds_toArray,List.set_cons_zero,List.set_cons_succ]) (hCont (v26) _ ⟨((Zs.mvR HO27.out)),(Zs.auHB)⟩)
      ·skip
       have hcv16:=F0 (P:=Tryz.prog) Tryz.underlying22 Tryz.underlying5 Tryz.underlying9 (Kd.EE HO27.out);refine OA (w1:=?_) (v:=?_) (by rfl) rfl ?_ ?_;rotate_left 2
       ·go_simp
        constructor
        ·rfl
        ·rfl
       clear hcv16;refine hK.out _ _ trivial (fun hHeld=>?_);clear hK K;refine Zq.nm (some 26) ?_
       refine Zq.o1 2 (some 20) (fun K hK=>?_);refine FN Tryz.func53 (by kernel_rfl) rfl #[.int .i64 (wrap64 (Int.tdiv a0 10))] (by rfl) rfl rfl Zs.auM ?_
       with_reducible refine (ih k (by omega) (wrap64 (Int.tdiv a0 10)) t24 _ A11.out).mono ?_
       rintro e w17 ⟨rfl,hb⟩;refine ⟨_,rfl,?_⟩;have n0_:=Zq.rb HO27.out hb;have n1_:=Zq.st hb;clear HO27;clear HB;have HO27:=n0_;have HB:=n1_;clear n0_ n1_;(try clear hb);(try clear hb2);(try clear hk);(try clear hi);refine hK.out _ _ trivial (fun hHeld=>?_);clear hK K;refine Zq.nm (some 20) ?_
       exact NS (by simp only [Ic,Act.put,List.setIfInBounds_toArray,List.set_cons_zero,List.set_cons_succ]) (hCont (v26) _ ⟨((Zs.mvR HO27.out)),(Zs.auHB)⟩)
    rintro v26 w18 ⟨h0_,h1_⟩;have n0_:Aa (Kd.R (Kd.int .u8) 5 w18 w.heap.size (fun _=>True) v26 y25):=⟨h0_⟩;have n1_:Aa (Below w.heap.size w w18):=⟨h1_⟩;clear HB;clear h0_ h1_;have HO27:=n0_;have HB:=n1_;clear n0_ n1_;have hHeld:=trivial;refine NS (a':=?_) ?_ ?_;rotate_left
    ·simp only [Ic,Act.put,List.setIfInBounds_toArray,List.set_cons_zero,List.set_cons_succ];rfl
    refine Zs.pu 9 (some 27) ?_;refine Zs.pu 10 (some 2) ?_
    refine Zq.dn ?_
    try go_wp2
    go_ret
    exact ⟨Zs.auR,Zs.auHB⟩
def Bz.l0:Nat→List Int→Int→Int→List Int→Int→Option (List Int×Int)
 | 0,_,_,_,_,_=>none
 | k+1,x5,x6,x7,x12,x13=>if x7<x6 then (some (([1,2,3,5,6,7,1,10,12,3,15,4,21,1,30,8]:List Int):List Int)).bind fun y3=>((Aj.f k x12 x13 16).bind fun bt4=>(if 0≤bt4.1 then if bt4.1<(y3.length:Int) then (Aj.f k x12 bt4.2 5).bind fun bt8=>(if bt8.1<2 then if x5.length<17592186044416 then Bz.l0 k (x5++[wrap64 (-(rd y3 bt4.1))]) x6 (wrap64 (x7+1)) x12 bt8.2 else none else if x5.length<17592186044416 then Bz.l0 k (x5++[rd y3 bt4.1]) x6 (wrap64 (x7+1)) x12 bt8.2 else none) else none else none)) else (Aj.f k x12 x13 40).bind fun bt9=>(if bt9.1=0 then (some (([0,31]:List Int):List Int)).bind fun y10=>((Aj.f k x12 bt9.2 2).bind fun bt11=>(if 0≤bt11.1 then if bt11.1<(y10.length:Int) then if 0<(x5.length:Int) then some ((x5.set (0:Int).toNat (rd y10 bt11.1)),bt11.2) else none else none else none)) else if bt9.1=1 then some ((([]:List Int)),bt9.2) else some (x5,bt9.2))
def Bz.f (k:Nat) (s0_0:List Int) (s0_1 a1:Int):Option (List Int×Int):=(Aj.f k s0_0 s0_1 a1).bind fun bt3=>(Bz.l0 k (([]:List Int)) (wrap64 (1+bt3.1)) 0 s0_0 bt3.2)
theorem Bz.calls (k g:Nat) (s0_0:List Int) (s0_1 a1:Int) (r1:List Int) (r2:Int) (w0 w:World) (hI:AH w0 w g s0_0 s0_1) (hB:Below w0.heap.size w0 w) (h:Bz.f k s0_0 s0_1 a1=some (r1,r2)) :
  Calls Tryz.prog 58 #[.pointer (some ⟨g,0,none⟩),.int .i64 a1] w fun e w' => ∃v0_:Value,e = .returned (v0_)∧Kd.R (Kd.int .i64) 3 w' w.heap.size (fun _=>True) v0_ r1∧AH w0 w' g s0_0 r2∧Below w0.heap.size w0 w'∧AA w w' g none:=by
 have HI0:=Aa.mk hI;have HK:=Aa.mk (AA.refl w g none);have HL:=Aa.mk hB.size;clear hI;have HW0:=Aa.mk hB.size;have HB:=Aa.mk hB;clear hB;unfold Bz.f at h;have H:=h;clear h;obtain ⟨y46,hyy⟩ : ∃y_:List Int,y_=(([]:List Int)):=⟨_,rfl⟩
 replace H:((Aj.f k s0_0 s0_1 a1).bind fun bt49=>(Bz.l0 k y46 (wrap64 (1+bt49.1)) 0 s0_0 bt49.2))=some (r1,r2):=Zs.auY
 have Ny46:=Aa.mk hyy;clear hyy;obtain ⟨t49,t50,A3,H⟩:=Zq.bp H;try dsimp only at H;have H':=Aa.mk H;clear H
 go_enter Tryz.func58,Tryz.ntmps58
 go_wp2_with (first|((with_reducible refine Bb (N:=9) rfl ?_);refine Zq.li ([]:List Int) ?_;intro v47 w4 ho5 hb;(first|rw [← Ny46.out] at ho5|(simp only [Int.reduceToNat] at ho5;rw [← Ny46.out] at ho5));have HO48:=Aa.mk (Kd.Bp ho5 (Dm (w:=w) (g:=g) (row:=none) Zq.iK));replace HK:=Aa.mk (AA.trans Zq.iK (AA.CV hb g none) (.inl rfl));replace HB:=Aa.mk (Bj Zq.iB hb);replace HI0:=Aa.mk (AH.below Zq.iI hb);clear hb ho5)|((with_reducible refine Ab (f:=43) rfl ?_);refine Zq.gc (some 12) Tryz.func43 (Aj.calls _ _ _ _ _ _ _ _ _ Zq.iI Zq.iB A3.out) ?_;rintro e w6 ⟨rfl,hi,hb,hk⟩;refine ⟨_,rfl,?_⟩;replace HO48:=Aa.mk (Kd.AB (Kd.DL (AH.apart (show AH w0 _ g s0_0 s0_1 from Zq.iI) ((Zs.mvR HO48.out)) (by decide)) hk (fun _ h=>h.2)) (fun _ h=>h.1));replace HK:=Aa.mk (AA.trans Zq.iK hk (.inl rfl));replace HB:=Aa.mk (hb);replace HI0:=Aa.mk (hi);(try clear hb);(try clear hk);(try clear hi)))
 go_loopg [5,7] k (fun kq v5 v7 w' => ∃(x5_1:List Int) (x7_1 x79_1:Int),v7 = .int .i64 x7_1∧Aa (Bz.l0 kq x5_1 (wrap64 (1+t49)) x7_1 s0_0 x79_1=some (r1,r2))∧Aa (kq≤k)∧Aa (Kd.R (Kd.int .i64) 3 w' w.heap.size (fun _=>True) v5 x5_1)∧Aa (AH w0 w' g s0_0 x79_1)∧Aa (AA w w' g none)∧Aa (Below w0.heap.size w0 w'))
 case atStart=>exact ⟨(y46),(0),(t50),Zs.auS,H',⟨Nat.le_refl _⟩,⟨(Zs.mvR HO48.out)⟩,⟨Zq.iI⟩,⟨Zq.iK⟩,⟨Zq.iB⟩⟩
 case round =>
  clear H'
  obtain ⟨x5_1,x7_1,x79_1,rfl,HA,HK1,HO_5,HI0,HK,HB⟩:=hrel;cases gk with
  | zero=>exact absurd HA.out (by simp [Bz.l0])
  | succ k1 =>
   have H:=HA.out;clear HA;simp only [Bz.l0] at H
   rcases Zq.jd H with ⟨c7b0,H⟩|⟨c7b0,H⟩
   ·generalize hyy:([1,2,3,5,6,7,1,10,12,3,15,4,21,1,30,8]:List Int)=y51 at H;have Ny51:=Aa.mk hyy.symm;clear hyy;obtain ⟨t54,t55,A8,H⟩:=Zq.bp H;try dsimp only at H
    obtain ⟨c9b0,H⟩:=Zq.pd H
    obtain ⟨c10b0,H⟩:=Zq.pd H;obtain ⟨t57,t59,A11,H⟩:=Zq.bp H;try dsimp only at H
    rcases Zq.jd H with ⟨c12b0,H⟩|⟨c12b0,H⟩
    ·obtain ⟨c13,H⟩:=Zq.ip H;have LMc13:=Aa.mk c13;clear c13;generalize hyy:(x5_1++[wrap64 (-(rd y51 t54))]:List Int)=y60 at H;have Ny60:=Aa.mk hyy.symm;clear hyy;have H':=Aa.mk H;clear H
     go_wp2_with (first|((with_reducible refine Bb (N:=19) rfl ?_);refine Zq.li ([1,2,3,5,6,7,1,10,12,3,15,4,21,1,30,8]:List Int) ?_;intro v52 w14 ho15 hb;(first|rw [← Ny51.out] at ho15|(simp only [Int.reduceToNat] at ho15;rw [← Ny51.out] at ho15));have HO53:=Aa.mk (Kd.Bp (Kd.Br ho15 (Zq.lt HO_5.out)) (Dm (w:=w) (g:=g) (row:=none) Zq.iK));replace HO_5:=Zq.el HO_5.out ho15 hb;replace HK:=Aa.mk (AA.trans Zq.iK (AA.CV hb g none) (.inl rfl));replace HB:=Aa.mk (Bj Zq.iB hb);replace HI0:=Aa.mk (AH.below Zq.iI hb);clear hb ho15)|((with_reducible refine Ab (f:=43) rfl ?_);refine Zq.gc (some 21) Tryz.func43 (Aj.calls _ _ _ _ _ _ _ _ _ Zq.iI Zq.iB A8.out) ?_;rintro e w16 ⟨rfl,hi,hb,hk⟩;refine ⟨_,rfl,?_⟩;replace HO_5:=Aa.mk (Kd.AB (Kd.DL (AH.apart (show AH w0 _ g s0_0 x79_1 from Zq.iI) ((Zs.mvR HO_5.out)) (by decide)) hk (fun _ h=>h.2)) (fun _ h=>h.1));replace HO53:=Aa.mk (Kd.AB (Kd.DL (AH.apart (show AH w0 _ g s0_0 x79_1 from Zq.iI) ((Zs.mvR HO53.out)) (by decide)) hk (fun _ h=>h.2)) (fun _ h=>h.1));replace HK:=Aa.mk (AA.trans Zq.iK hk (.inl rfl));replace HB:=Aa.mk (hb);replace HI0:=Aa.mk (hi);(try clear hb);(try clear hk);(try clear hi);obtain ⟨Ao17,co17,eo17⟩:=Kd.Az HO53.out;subst eo17;obtain ⟨ad56,e56,hx56_0,p56,q56⟩:=Zq.at_ (Kd.Ac HO53.out).2.2 t54;cases e56)|((with_reducible refine Ab (f:=43) rfl ?_);refine Zq.gc (some 25) Tryz.func43 (Aj.calls _ _ _ _ _ _ _ _ _ Zq.iI Zq.iB A11.out) ?_;rintro e w18 ⟨rfl,hi,hb,hk⟩;refine ⟨_,rfl,?_⟩;replace HO_5:=Aa.mk (Kd.AB (Kd.DL (AH.apart (show AH w0 _ g s0_0 t55 from Zq.iI) ((Zs.mvR HO_5.out)) (by decide)) hk (fun _ h=>h.2)) (fun _ h=>h.1));replace HO53:=Aa.mk (Kd.AB (Kd.DL (AH.apart (show AH w0 _ g s0_0 t55 from Zq.iI) ((Zs.mvR HO53.out)) (by decide)) hk (fun _ h=>h.2)) (fun _ h=>h.1));replace HK:=Aa.mk (AA.trans Zq.iK hk (.inl rfl));replace HB:=Aa.mk (hb);replace HI0:=Aa.mk (hi);(try clear hb);(try clear hk);(try clear hi))|((with_reducible refine AY (b := .append) (xs:=#[.tmp 29,.tmp 31]) rfl ?_);at_builtin;refine Kd.Ea (Kd.int .i64) w.heap.size rfl (.tmp 29) (.tmp 31) 27 3 (.int .i64 0) 8 rfl Tryz.underlying27 DS rfl (by decide) (by omega) u5 x5_1 (wrap64 (-(rd y51 t54))) [.int .i64 (wrap64 (-(rd y51 t54)))] (fun k_=>some k_≠(.slice (some ad56) y51.length co17:Value).ownBlock) (fun _=>False) rfl rfl ?aP (fun _ hk=>hk.elim) ?aF ?aO (Below.refl _ _) ?aS ?aL ?_;(case aP=>exact rfl);(case aF=>exact (fun k_ hk=>Kd.DF (Zq.lt HO53.out) k_ hk));(case aO=>exact ((Zs.mvR (Kd.AB HO_5.out Zq.tk))));(case aS=>exact (Dm (w:=w) (g:=g) (row:=none) Zq.iK));(case aL=>have:=LMc13.out;omega);intro v61 w19 ho hb hg hat;rw [← Ny60.out] at ho;replace HO53:=Aa.mk (Kd.BW (ok:=(fun _=>True)) ((Zs.mvR HO53.out)) hg hat);replace HB:=Aa.mk (FP Zq.iB HL.out hb);replace HI0:=Aa.mk (AH.grown Zq.iI hg (AH.C0 HI0.out HO_5.out (by decide)));replace HK:=Aa.mk (AA.trans Zq.iK (AA.ET hg g) (Kd.Ie HO_5.out));have HO62:=Aa.mk (ho);clear HO_5;clear ho hb hg hat))
     go_roundg k1
     case measure=>have:=HK1.out;omega
     case rel=>exact ⟨(y60),(wrap64 (x7_1+1)),(t59),Zs.auS,H',⟨by have:=HK1.out;omega⟩,⟨(Zs.mvR (Kd.AB HO62.out (fun _ hk=>trivial)))⟩,⟨Zq.iI⟩,⟨Zq.iK⟩,⟨Zq.iB⟩⟩
    ·obtain ⟨c20,H⟩:=Zq.ip H;have LMc20:=Aa.mk c20;clear c20;generalize hyy:(x5_1++[rd y51 t54]:List Int)=y63 at H;have Ny63:=Aa.mk hyy.symm;clear hyy;have H':=Aa.mk H;clear H
     go_wp2_with (first|((with_reducible refine Bb (N:=19) rfl ?_);refine Zq.li ([1,2,3,5,6,7,1,10,12,3,15,4,21,1,30,8]:List Int) ?_;intro v52 w21 ho22 hb;(first|rw [← Ny51.out] at ho22|(simp only [Int.reduceToNat] at ho22;rw [← Ny51.out] at ho22));have HO53:=Aa.mk (Kd.Bp (Kd.Br ho22 (Zq.lt HO_5.out)) (Dm (w:=w) (g:=g) (row:=none) Zq.iK));replace HO_5:=Zq.el HO_5.out ho22 hb;replace HK:=Aa.mk (AA.trans Zq.iK (AA.CV hb g none) (.inl rfl));replace HB:=Aa.mk (Bj Zq.iB hb);replace HI0:=Aa.mk (AH.below Zq.iI hb);clear hb ho22)|((with_reducible refine Ab (f:=43) rfl ?_);refine Zq.gc (some 21) Tryz.func43 (Aj.calls _ _ _ _ _ _ _ _ _ Zq.iI Zq.iB A8.out) ?_;rintro e w23 ⟨rfl,hi,hb,hk⟩;refine ⟨_,rfl,?_⟩;replace HO_5:=Aa.mk (Kd.AB (Kd.DL (AH.apart (show AH w0 _ g s0_0 x79_1 from Zq.iI) ((Zs.mvR HO_5.out)) (by decide)) hk (fun _ h=>h.2)) (fun _ h=>h.1));replace HO53:=Aa.mk (Kd.AB (Kd.DL (AH.apart (show AH w0 _ g s0_0 x79_1 from Zq.iI) ((Zs.mvR HO53.out)) (by decide)) hk (fun _ h=>h.2)) (fun _ h=>h.1));replace HK:=Aa.mk (AA.trans Zq.iK hk (.inl rfl));replace HB:=Aa.mk (hb);replace HI0:=Aa.mk (hi);(try clear hb);(try clear hk);(try clear hi);obtain ⟨Ao24,co24,eo24⟩:=Kd.Az HO53.out;subst eo24;obtain ⟨ad56,e56,hx56_0,p56,q56⟩:=Zq.at_ (Kd.Ac HO53.out).2.2 t54;cases e56)|((with_reducible refine Ab (f:=43) rfl ?_);refine Zq.gc (some 25) Tryz.func43 (Aj.calls _ _ _ _ _ _ _ _ _ Zq.iI Zq.iB A11.out) ?_;rintro e w25 ⟨rfl,hi,hb,hk⟩;refine ⟨_,rfl,?_⟩;replace HO_5:=Aa.mk (Kd.AB (Kd.DL (AH.apart (show AH w0 _ g s0_0 t55 from Zq.iI) ((Zs.mvR HO_5.out)) (by decide)) hk (fun _ h=>h.2)) (fun _ h=>h.1));replace HO53:=Aa.mk (Kd.AB (Kd.DL (AH.apart (show AH w0 _ g s0_0 t55 from Zq.iI) ((Zs.mvR HO53.out)) (by decide)) hk (fun _ h=>h.2)) (fun _ h=>h.1));replace HK:=Aa.mk (AA.trans Zq.iK hk (.inl rfl));replace HB:=Aa.mk (hb);replace HI0:=Aa.mk (hi);(try clear hb);(try clear hk);(try clear hi))|((with_reducible refine AY (b := .append) (xs:=#[.tmp 29,.tmp 31]) rfl ?_);at_builtin;refine Kd.Ea (Kd.int .i64) w.heap.size rfl (.tmp 29) (.tmp 31) 27 3 (.int .i64 0) 8 rfl Tryz.underlying27 DS rfl (by decide) (by omega) u5 x5_1 (rd y51 t54) [.int .i64 (rd y51 t54)] (fun k_=>some k_≠(.slice (some ad56) y51.length co24:Value).ownBlock) (fun _=>False) rfl rfl ?aP (fun _ hk=>hk.elim) ?aF ?aO (Below.refl _ _) ?aS ?aL ?_;(case aP=>exact rfl);(case aF=>exact (fun k_ hk=>Kd.DF (Zq.lt HO53.out) k_ hk));(case aO=>exact ((Zs.mvR (Kd.AB HO_5.out Zq.tk))));(case aS=>exact (Dm (w:=w) (g:=g) (row:=none) Zq.iK));(case aL=>have:=LMc20.out;omega);intro v65 w26 ho hb hg hat;rw [← Ny63.out] at ho;replace HO53:=Aa.mk (Kd.BW (ok:=(fun _=>True)) ((Zs.mvR HO53.out)) hg hat);replace HB:=Aa.mk (FP Zq.iB HL.out hb);replace HI0:=Aa.mk (AH.grown Zq.iI hg (AH.C0 HI0.out HO_5.out (by decide)));replace HK:=Aa.mk (AA.trans Zq.iK (AA.ET hg g) (Kd.Ie HO_5.out));have HO66:=Aa.mk (ho);clear HO_5;clear ho hb hg hat))
     go_roundg k1
     case measure=>have:=HK1.out;omega
     case rel=>exact ⟨(y63),(wrap64 (x7_1+1)),(t59),Zs.auS,H',⟨by have:=HK1.out;omega⟩,⟨(Zs.mvR (Kd.AB HO66.out (fun _ hk=>trivial)))⟩,⟨Zq.iI⟩,⟨Zq.iK⟩,⟨Zq.iB⟩⟩
   ·obtain ⟨t67,t68,A27,H⟩:=Zq.bp H;try dsimp only at H
    rcases Zq.jn H with ⟨c28b0,H⟩|⟨c28,c28b0,H⟩
    ·generalize hyy:([0,31]:List Int)=y69 at H;have Ny69:=Aa.mk hyy.symm;clear hyy;obtain ⟨t72,t73,A29,H⟩:=Zq.bp H;try dsimp only at H
     obtain ⟨c30b0,H⟩:=Zq.pd H
     obtain ⟨c31b0,H⟩:=Zq.pd H
     obtain ⟨c32b0,H⟩:=Zq.pd H;generalize hyy:(x5_1.set (0:Int).toNat (rd y69 t72):List Int)=y75 at H;have Ny75:=Aa.mk hyy.symm;clear hyy;obtain ⟨rfl,rfl⟩:=Zq.pi H
     go_wp2_with (first|((with_reducible refine Ab (f:=43) rfl ?_);refine Zq.gc (some 34) Tryz.func43 (Aj.calls _ _ _ _ _ _ _ _ _ Zq.iI Zq.iB A27.out) ?_;rintro e w34 ⟨rfl,hi,hb,hk⟩;refine ⟨_,rfl,?_⟩;replace HO_5:=Aa.mk (Kd.AB (Kd.DL (AH.apart (show AH w0 _ g s0_0 x79_1 from Zq.iI) ((Zs.mvR HO_5.out)) (by decide)) hk (fun _ h=>h.2)) (fun _ h=>h.1));replace HK:=Aa.mk (AA.trans Zq.iK hk (.inl rfl));replace HB:=Aa.mk (hb);replace HI0:=Aa.mk (hi);(try clear hb);(try clear hk);(try clear hi))|((with_reducible refine Bb (N:=38) rfl ?_);refine Zq.li ([0,31]:List Int) ?_;intro v70 w35 ho36 hb;(first|rw [← Ny69.out] at ho36|(simp only [Int.reduceToNat] at ho36;rw [← Ny69.out] at ho36));have HO71:=Aa.mk (Kd.Bp (Kd.Br ho36 (Zq.lt HO_5.out)) (Dm (w:=w) (g:=g) (row:=none) Zq.iK));replace HO_5:=Zq.el HO_5.out ho36 hb;replace HK:=Aa.mk (AA.trans Zq.iK (AA.CV hb g none) (.inl rfl));replace HB:=Aa.mk (Bj Zq.iB hb);replace HI0:=Aa.mk (AH.below Zq.iI hb);clear hb ho36)|((with_reducible refine Ab (f:=43) rfl ?_);refine Zq.gc (some 40) Tryz.func43 (Aj.calls _ _ _ _ _ _ _ _ _ Zq.iI Zq.iB A29.out) ?_;rintro e w37 ⟨rfl,hi,hb,hk⟩;refine ⟨_,rfl,?_⟩;replace HO_5:=Aa.mk (Kd.AB (Kd.DL (AH.apart (show AH w0 _ g s0_0 t68 from Zq.iI) ((Zs.mvR HO_5.out)) (by decide)) hk (fun _ h=>h.2)) (fun _ h=>h.1));replace HO71:=Aa.mk (Kd.AB (Kd.DL (AH.apart (show AH w0 _ g s0_0 t68 from Zq.iI) ((Zs.mvR HO71.out)) (by decide)) hk (fun _ h=>h.2)) (fun _ h=>h.1));replace HK:=Aa.mk (AA.trans Zq.iK hk (.inl rfl));replace HB:=Aa.mk (hb);replace HI0:=Aa.mk (hi);(try clear hb);(try clear hk);(try clear hi);obtain ⟨Ao38,co38,eo38⟩:=Kd.Az HO71.out;subst eo38;obtain ⟨ad74,e74,hx74_0,p74,q74⟩:=Zq.at_ (Kd.Ac HO71.out).2.2 t72;cases e74;have p33:0≤(0:Int):=(by omega);have q33:(0:Int)<((x5_1.length:Int):Int):=Zs.od;have qi33:(0<x5_1.length)=True:=eq_true (by omega);obtain ⟨go33,co33,eo33,gb33,gl33,cl33,HG33⟩:=Kd.E7 HO_5.out (by omega);(first|cases eo33|(injection eo33 with ea_ en_ ec_;(first|subst ea_|(injection ea_ with ea_;subst ea_));subst ec_;clear en_));have GB33:=Aa.mk gb33;have GG33:=Aa.mk HG33;clear gb33 gl33 HG33;obtain ⟨hx33_0,hf33_0⟩:=Kd.Co 0 HO_5.out (0:Int) p33 q33;(try rw [show ((0:Int)).toNat=0 from rfl] at hx33_0);(try simp only [Nat.reduceMul,Nat.zero_mul,Nat.zero_add,Nat.reduceAdd] at hx33_0);(try rw [show ((0:Int)).toNat=0 from rfl] at hf33_0);(try simp only [Nat.reduceMul,Nat.zero_mul,Nat.zero_add,Nat.reduceAdd] at hf33_0);replace p33:=eq_true p33;replace q33:=eq_true q33;have n_:=Aa.mk (Kd.AB (ok':=(fun k_=>some k_≠(.slice (some ad74) y69.length co38:Value).ownBlock)) HO_5.out (fun k_ hk=>hk.2));clear HO_5;have HO_5:=n_;clear n_;obtain ⟨hy39_,hz39_⟩:=Kd.Co 0 HO_5.out (0:Int) (by omega) (Zs.od);(try simp only [Int.reduceToNat,Int.toNat_zero,Int.toNat_ofNat,Nat.reduceMul,Nat.zero_mul,Nat.zero_add] at hy39_ hz39_);(try rw [show ((0:Int)).toNat=0 from rfl] at hy39_);(try rw [show ((0:Int)).toNat=0 from rfl] at hz39_);have HP39:=Kd.DV HO_5.out (0:Int) (rd y69 t72))|((with_reducible refine CA (t:=3) (p:=43) rfl ?_);refine Cb (t:=3) (p:=43) (v:=?vo_w40) (w1:=(w37.setCell ⟨go33,(0:Int).toNat,none⟩ (.int .i64 (rd y69 t72)))) ?hg ?ho ?hn ?hr ?_;(case ho=>rfl);(case hg=>rfl);(case hn=>rfl);(case hr=>first|(go_simp;done)|(go_simp;rfl));intro w40 hw;have hg:w37.grownBy w40 (some go33):=(by rw [hw];exact HP39.2);have hp_:Kd.R (Kd.int .i64) 3 w40 w.heap.size (fun k_=>some k_≠(.slice (some ad74) y69.length co38:Value).ownBlock) (.slice (some ⟨go33,0,none⟩) x5_1.length co33) y75:=(by rw [hw,Ny75.out];exact HP39.1);clear HP39;replace HI0:=Aa.mk (AH.grown Zq.iI hg (AH.C0 HI0.out HO_5.out (by decide)));replace HO71:=Aa.mk (Kd.BW (v:=(.slice (some ⟨go33,0,none⟩) x5_1.length co33)) (v1:=(.slice (some ⟨go33,0,none⟩) x5_1.length co33)) (ok:=(fun _=>True)) ((Zs.mvR HO71.out)) hg (.inl rfl));replace HB:=Aa.mk ((by rw [hw];exact AE (HB.out) (Nat.le_trans HL.out GB33.out):Below w0.heap.size w0 w40));replace HK:=Aa.mk (AA.trans Zq.iK (AA.ET hg g) (Kd.Ie HO_5.out));replace HO_5:=Aa.mk (hp_);clear hg hw hp_))
     go_ret
     exact ⟨_,Zs.auR,(Zs.mvR (Kd.AB HO_5.out (fun _ hk=>trivial))),Zq.iI,Zq.iB,Zq.iK⟩
    ·rcases Zq.jn H with ⟨c41b0,H⟩|⟨c41,c41b0,H⟩
     ·obtain ⟨y76,hyy⟩ : ∃y_:List Int,y_=(([]:List Int)):=⟨_,rfl⟩
      replace H:(some (y76,t68))=some (r1,r2):=Zs.auY
      have Ny76:=Aa.mk hyy;clear hyy;obtain ⟨rfl,rfl⟩:=Zq.pi H
      go_wp2_with (first|((with_reducible refine Ab (f:=43) rfl ?_);refine Zq.gc (some 34) Tryz.func43 (Aj.calls _ _ _ _ _ _ _ _ _ Zq.iI Zq.iB A27.out) ?_;rintro e w42 ⟨rfl,hi,hb,hk⟩;refine ⟨_,rfl,?_⟩;replace HO_5:=Aa.mk (Kd.AB (Kd.DL (AH.apart (show AH w0 _ g s0_0 x79_1 from Zq.iI) ((Zs.mvR HO_5.out)) (by decide)) hk (fun _ h=>h.2)) (fun _ h=>h.1));replace HK:=Aa.mk (AA.trans Zq.iK hk (.inl rfl));replace HB:=Aa.mk (hb);replace HI0:=Aa.mk (hi);(try clear hb);(try clear hk);(try clear hi))|((with_reducible refine Bb (N:=46) rfl ?_);refine Zq.li ([]:List Int) ?_;intro v77 w43 ho44 hb;(first|rw [← Ny76.out] at ho44|(simp only [Int.reduceToNat] at ho44;rw [← Ny76.out] at ho44));have HO78:=Aa.mk (Kd.Bp (Kd.Br ho44 (Zq.lt HO_5.out)) (Dm (w:=w) (g:=g) (row:=none) Zq.iK));replace HO_5:=Zq.el HO_5.out ho44 hb;replace HK:=Aa.mk (AA.trans Zq.iK (AA.CV hb g none) (.inl rfl));replace HB:=Aa.mk (Bj Zq.iB hb);replace HI0:=Aa.mk (AH.below Zq.iI hb);clear hb ho44))
      go_ret
      exact ⟨_,Zs.auR,(Zs.mvR (Kd.AB HO78.out (fun _ hk=>trivial))),Zq.iI,Zq.iB,Zq.iK⟩
     ·obtain ⟨rfl,rfl⟩:=Zq.pi H
      go_wp2_with (((with_reducible refine Ab (f:=43) rfl ?_);refine Zq.gc (some 34) Tryz.func43 (Aj.calls _ _ _ _ _ _ _ _ _ Zq.iI Zq.iB A27.out) ?_;rintro e w45 ⟨rfl,hi,hb,hk⟩;refine ⟨_,rfl,?_⟩;replace HO_5:=Aa.mk (Kd.AB (Kd.DL (AH.apart (show AH w0 _ g s0_0 x79_1 from Zq.iI) ((Zs.mvR HO_5.out)) (by decide)) hk (fun _ h=>h.2)) (fun _ h=>h.1));replace HK:=Aa.mk (AA.trans Zq.iK hk (.inl rfl));replace HB:=Aa.mk (hb);replace HI0:=Aa.mk (hi);(try clear hb);(try clear hk);(try clear hi)))
      go_ret
      exact ⟨_,Zs.auR,(Zs.mvR HO_5.out),Zq.iI,Zq.iB,Zq.iK⟩
def CC.f (a0 a1 a2:Int):Option (Bool):=if a0≥a1 then some (decide (a0≤a2)) else some false
theorem CC.calls (a0 a1 a2:Int) (r:Bool) (w:World) (h:CC.f a0 a1 a2=some r) :
  Calls Tryz.prog 111 #[.int .i64 a0,.int .i64 a1,.int .i64 a2] w fun e w'=>e = .returned (.bool r)∧Bo w w':=by
 unfold CC.f at h;have H:=h;clear h
 rcases Zq.jh H with ⟨c4b0,H⟩|⟨c4b0,H⟩
 ·obtain rfl:=Option.some.inj H
  go_enter Tryz.func111,Tryz.ntmps111
  go_wp2;go_ret
  exact ⟨Zs.auS,Zq.dr⟩
 ·obtain rfl:=Option.some.inj H
  go_enter Tryz.func111,Tryz.ntmps111
  go_wp2;go_ret
  exact ⟨Zs.auS,Zq.dr⟩
def As.l0:Nat→List Int→Int→Option (Bool)
 | 0,_,_=>none
 | k+1,x0,x3=>if x3<(x0.length:Int) then if 0≤x3 then if (rd x0 x3)=0 then some false else (CC.f (rd x0 x3) (-30) 30).bind fun t4=>(if t4=true then As.l0 k x0 (wrap64 (x3+1)) else some false) else none else (CC.f (x0.length:Int) 1 4).bind fun t5=>(some t5)
def As.f (k:Nat) (l0:List Int):Option (Bool):=As.l0 k l0 0
theorem As.calls (k:Nat) (A0:Option Addr) (c0:Nat) (l0:List Int) (r:Bool) (w:World) (hr0:Kd.C (Kd.int .i64) w A0 l0.length l0) (hc0:l0.length≤c0) (h:As.f k l0=some r) :
  Calls Tryz.prog 62 #[.slice A0 l0.length c0] w fun e w'=>e = .returned (.bool r)∧Bo w w':=by
 have HR0:=Aa.mk hr0;have HC0:=Aa.mk hc0;clear hr0 hc0;unfold As.f at h;have H:=h;clear h;have H':=Aa.mk H;clear H
 go_enter Tryz.func62,Tryz.ntmps62
 go_wp2
 go_loopg [3] k (fun kq v3 w' => ∃x3_1:Int,v3 = .int .i64 x3_1∧Aa (As.l0 kq l0 x3_1=some r)∧Aa (kq≤k)∧Bo w w')
 case atStart=>exact ⟨(0),Zs.auS,H',⟨Nat.le_refl _⟩,Zq.dr⟩
 case round =>
  clear H';obtain ⟨x3_1,rfl,HA,HK1,⟨m1,rfl⟩⟩:=hrel;cases gk with
  | zero=>exact absurd HA.out (by simp [As.l0])
  | succ k1 =>
   have H:=HA.out;clear HA;simp only [As.l0] at H
   rcases Zq.jd H with ⟨c2b0,H⟩|⟨c2b0,H⟩
   ·obtain ⟨c3b0,H⟩:=Zq.pd H
    rcases Zq.jn H with ⟨c4b0,H⟩|⟨c4,c4b0,H⟩
    ·obtain rfl:=Option.some.inj H;obtain ⟨ad6,e6,hx6_0,p6,q6⟩:=Zq.at_ HR0.out x3_1;cases e6;go_wp2;go_ret
     exact ⟨Zs.auS,Zq.dr⟩
    ·obtain ⟨t9,A5,H⟩:=Zs.be H
     cases t9
     ·replace H:=Zq.fh H;obtain rfl:=Option.some.inj H;obtain ⟨ad6,e6,hx6_0,p6,q6⟩:=Zq.at_ HR0.out x3_1;cases e6;obtain ⟨ad8,e8,hx8_0,p8,q8⟩:=Zq.at_ HR0.out x3_1;obtain rfl:ad6=ad8:=(by injection e8)
      go_wp2_with ((go_at_call 111;(with_reducible refine (CC.calls (rd l0 x3_1) (-30) 30 false _ A5.out).mono ?_);rintro e w' ⟨rfl,⟨nd,rfl⟩⟩))
      go_ret
      exact ⟨Zs.auS,Zq.dr⟩
     ·replace H:=Zq.th H;have H':=Aa.mk H;clear H;obtain ⟨ad6,e6,hx6_0,p6,q6⟩:=Zq.at_ HR0.out x3_1;cases e6;obtain ⟨ad8,e8,hx8_0,p8,q8⟩:=Zq.at_ HR0.out x3_1;obtain rfl:ad6=ad8:=(by injection e8)
      go_wp2_with ((go_at_call 111;(with_reducible refine (CC.calls (rd l0 x3_1) (-30) 30 true _ A5.out).mono ?_);rintro e w' ⟨rfl,⟨nd,rfl⟩⟩))
      go_roundg k1
      case measure=>have:=HK1.out;omega
      case rel=>exact ⟨(wrap64 (x3_1+1)),Zs.auS,H',⟨by have:=HK1.out;omega⟩,Zq.dr⟩
   ·obtain ⟨t10,A7,H⟩:=Zs.be H;obtain rfl:=Option.some.inj H
    go_wp2_with (((with_reducible refine Ab (f:=111) rfl ?_);refine Zq.gp Tryz.func111 (CC.calls _ _ _ _ _ A7.out) ?_;intro nd))
    go_ret
    exact ⟨Zs.auS,Zq.dr⟩
def Bc.f (a0:Int):Option (Int):=some (mx a0 (wrap64 (-a0)))
theorem Bc.calls (a0 r:Int) (w:World) (h:Bc.f a0=some r) :
  Calls Tryz.prog 134 #[.int .i64 a0] w fun e w'=>e = .returned (.int .i64 r)∧Below w.heap.size w w':=by
 have HB:=Aa.mk (Below.refl w.heap.size w);unfold Bc.f at h;have H:=h;clear h;obtain ⟨ji2,hji2⟩ : ∃j_:Int,(mx a0 (wrap64 (-a0)))=j_:=⟨_,rfl⟩
 replace H:(some ji2)=some r:=by first|(rw [hji2] at H;exact H)|(simp only [hji2] at H ⊢;exact H)
 have hji2_:(if a0<(wrap64 (-a0)) then wrap64 (-a0) else a0)=ji2:=hji2;obtain rfl:=Option.some.inj H
 go_enter Tryz.func134,Tryz.ntmps134
 go_wp2;go_ret
 exact ⟨by first|rfl|(simp [Cv,Cw]<;>rfl)|(simp only [← hji2];first|rfl|(simp [Cv,Cw]<;>rfl))|(simp [*,Cv,Cw]<;>rfl),Zs.auHB⟩
end Go.Proofs.YtacfcoilmdhgnaaGreatDoor.PFnExecuteWhat
