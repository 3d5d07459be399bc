/- A function's Lean twin and its walk, written by a program of this session. -/
import Derived.Test.YtacfcoilmdhgnaaGreatDoorYPFnExecuteWhatx3
set_option maxHeartbeats 8000000
set_option maxRecDepth 100000
namespace Go.Proofs.YtacfcoilmdhgnaaGreatDoor.PFnExecuteWhat
open Go.RowKit Go.Proofs.YtacfcoilmdhgnaaGreatDoorW.PrintWords Go.Proofs.YtacfcoilmdhgnaaGreatDoorW.PrintLast Go.Proofs.YtacfcoilmdhgnaaGreatDoorW.PrintMore
attribute [local go_sem] DN DO El En Du Dt DP DK   -- for this text's walks alone
set_option linter.unusedVariables false
set_option linter.unusedSimpArgs false
section
open Locg
def shAt (l0:List Int) (k:Nat) (p q:Int) (next:Option (Int×Int×Int)):Option (Int×Int×Int) :=
 (Cj.f k [rd l0 p,rd l0 q]).bind fun d=>if d>1 then (Bw.f k d).bind fun ps=>if 0<ps.length then some (p,q,rd ps 0) else none else next
def shF (l0:List Int) (k:Nat):Nat→Option (Int×Int×Int)
 | 0=>shAt l0 k 0 1 (shAt l0 k 0 2 (shAt l0 k 1 2 (some (0,0,0))))
 | 1=>shAt l0 k 0 2 (shAt l0 k 1 2 (some (0,0,0)))
 | 2=>shAt l0 k 1 2 (some (0,0,0))
 | _=>some (0,0,0)
def Cq.f (k:Nat) (l0:List Int):Option (Int×Int×Int):=if 3≤l0.length then shF l0 k 0 else none
theorem sh_pre {α:Type} {d:Kd α} {e n c m:Nat} {w:World} {base:Nat} {ok:Nat→Prop} {A:Option Addr} {xs ys:List α} (h:d.R e w base ok (.slice A n c) xs) (hy:ys=xs.take m):d.R e w base ok (.slice A ys.length c) ys:=by
 subst hy
 rcases Nat.le_total m xs.length with hm|hm
 ·have:=Kd.Pg (m:=m) h hm;rw [show (xs.take m).length=m by rw [List.length_take];omega];exact this
 ·rw [List.take_of_length_le hm];have e:=(Kd.Ac h).1;subst e;exact h
theorem sh_two {w:World} {b:Nat} {x y:Int} (h:w.heap[b]? = some (.cells #[.int .i64 x,.int .i64 y] 3 (0,0))):(Kd.int .i64).C w (some ⟨b,0,none⟩) [x,y].length [x,y]:=by
 refine ⟨rfl,by simp,fun _=>⟨_,rfl,fun j p hj=>⟨[.int .i64 p],rfl,rfl,fun i u hu=>?_⟩⟩⟩
 match i,hu with
 | 0,hu =>
  simp at hu
  subst hu
  match j,hj with
  | 0,hj=>simp at hj;subst hj;exact CW h 0
  | 1,hj=>simp at hj;subst hj;exact CW h 1
theorem Lv {w:World} {c:Obj} {x y:Int}:(Kd.int .i64).C ((w.alloc c).alloc (.cells #[.int .i64 x,.int .i64 y] 3 (0,0))).drew (some ⟨w.heap.size+1,0,none⟩) [x,y].length [x,y]:=by
 refine Kd.H5 (sh_two ?_);have:=heap_alloc_new (w.alloc c) (.cells #[.int .i64 x,.int .i64 y] 3 (0,0));have e:(w.alloc c).heap.size=w.heap.size+1:=by simp
 rw [e] at this;exact this
theorem LK {wr w':World} {c:Obj} {b:Nat} {o:Obj} (h:wr.heap[b]? = some o) (hb:Below (wr.alloc c).heap.size (wr.alloc c) w'):w'.heap[b]? = some o:=by
 have hl:=lt_of_block h;have e:(wr.alloc c).heap.size=wr.heap.size+1:=by simp
 rw [hb.block b (by omega),((Below.refl wr.heap.size wr).alloc (Nat.le_refl _) c).block b hl];exact h
theorem JN {fn:Func} {t u v:Tmp} (h:fn.results=#[.tmp t,.tmp u,.tmp v]) (tmps:Array Value) (P:Program) (w:World) :
  (results fn tmps).run P w = .ok (.tuple #[tmps.getD t undef,tmps.getD u undef,tmps.getD v undef]) w:=by
 simp [results,h]
theorem sh_lt {w:World} {a:Addr} {v:Value} (h:w.cell? a=some v):a.block<w.heap.size:=by
 by_cases ha:a.block<w.heap.size
 ·exact ha
 ·have:w.heap[a.block]? = none:=Array.getElem?_eq_none (by omega)
  simp [World.cell?,this] at h
theorem FI {wr w':World} {t:Nat} {p q x y:Value} {a b:Addr} (h:wr.cell? a=some x) (h':wr.cell? b=some y) (hb:Below (wr.alloc (.cells #[p,q] t (0,0))).heap.size (wr.alloc (.cells #[p,q] t (0,0))) w') :
  w'.cell? ⟨wr.heap.size,0,none⟩=some p∧w'.cell? ⟨wr.heap.size,1,none⟩=some q∧w'.cell? a=some x∧w'.cell? b=some y∧Below (wr.alloc (.cells #[p,q] t (0,0))).heap.size (wr.alloc (.cells #[p,q] t (0,0))) w':=by
 have ha:=sh_lt h;have hb':=sh_lt h';have e:(wr.alloc (.cells #[p,q] t (0,0))).heap.size=wr.heap.size+1:=by simp
 have hn:=CW (heap_alloc_new wr (.cells #[p,q] t (0,0)));refine ⟨?_,?_,?_,?_,hb⟩
 ·rw [hb.cell (by rw [e];exact Nat.lt_succ_self _)];exact hn 0
 ·rw [hb.cell (by rw [e];exact Nat.lt_succ_self _)];exact hn 1
 ·rw [hb.cell (by omega)];exact ((Below.refl wr.heap.size wr).alloc (Nat.le_refl _) _ |>.cell ha).trans h
 ·rw [hb.cell (by omega)];exact ((Below.refl wr.heap.size wr).alloc (Nat.le_refl _) _ |>.cell hb').trans h'
set_option maxHeartbeats 4000000 in
theorem Cq.calls (k:Nat) (A0:Option Addr) (c0:Nat) (l0:List Int) (r1 r2 r3:Int) (w:World) (hr0:Kd.C (Kd.int .i64) w A0 l0.length l0) (hc0:l0.length≤c0) (h:Cq.f k l0=some (r1,r2,r3)) :
  Calls Tryz.prog 135 #[.slice A0 l0.length c0] w fun e w'=>e = .returned (.tuple #[.int .i64 r1,.int .i64 r2,.int .i64 r3])∧Below w.heap.size w w':=by
 unfold Cq.f at h
 by_cases hl:3≤l0.length
 ·rw [if_pos hl] at h;have HR0:=Aa.mk hr0;have HC0:=Aa.mk hc0;have HH:=Aa.mk h;have HL:=Aa.mk hl;clear hr0 hc0 h hl
  go_enter Tryz.func135,Tryz.ntmps135
  go_wp2_with fail
  go_loopw [13] (fun v13 wr => ∃i:Nat,v13 = .int .i64 i∧i≤3∧Aa (shF l0 k i=some (r1,r2,r3))∧Aa (wr.heap[w.heap.size]? = some (.cells #[.int .i64 0,.int .i64 1,.int .i64 0,.int .i64 2,.int .i64 1,.int .i64 2] 119 (0,0)))∧Aa (Below w.heap.size w wr)) (fun v13 _=>3-(intOf v13).toNat)
  case atStart=>exact ⟨0,rfl,by omega,HH,⟨by simpa using heap_alloc_new w _⟩,⟨Ah (Below.refl _ _) _⟩⟩
  case round =>
   clear HH;obtain ⟨i,rfl,hi,HF,HG,HB⟩:=hrel;have hcases:i=0∨i=1∨i=2∨i=3:=by omega
   rcases hcases with rfl|rfl|rfl|rfl
   ·unfold shF shAt at HF
    obtain ⟨d,hd,hd2⟩:=Option.bind_eq_some_iff.mp HF.out;have HD:=Aa.mk hd;have HD2:=Aa.mk hd2;clear HF hd hd2;have cl0:=CW HG.out 0;have cl1:=CW HG.out 1
    simp at cl0 cl1
    have HC:=Kd.BF HR0.out HB.out;have hl:=HL.out;obtain ⟨ad,rfl,ht0⟩:=Kd.E8 HC 0 (by omega) (by omega);obtain ⟨ad',e_,ht1⟩:=Kd.E8 HC 1 (by omega) (by omega);cases e_;have hs0:wr.cell? ad=some (.int .i64 (rd l0 0)):=ht0;have hs1:wr.cell? ⟨ad.block,ad.off+1,none⟩=some (.int .i64 (rd l0 1)):=ht1;clear ht0 ht1;have b0:0<l0.length:=by omega
    have b1:(1:Int)<(l0.length:Int):=by omega
    go_wp2_with fail
    have hlt:=lt_of_block HG.out
    go_region_held3 (fun w'=>w'.cell? ⟨wr.heap.size,0,none⟩=some (.int .i64 0)∧w'.cell? ⟨wr.heap.size,1,none⟩=some (.int .i64 1)∧w'.cell? ad=some (.int .i64 (rd l0 0))∧w'.cell? ⟨ad.block,ad.off+1,none⟩=some (.int .i64 (rd l0 1))∧Below (wr.alloc (.cells #[.int .i64 0,.int .i64 1] 119 (0,0))).heap.size (wr.alloc (.cells #[.int .i64 0,.int .i64 1] 119 (0,0))) w')
     ((refine FI hs0 hs1 ?_;go_split_ands;first|assumption|exact CD (Below.refl _ _)|exact CD (Ah (Below.refl _ _) _)|(refine Bj (CD (Ah (Below.refl _ _) _)) ?_;assumption)|(refine CD ?_;assumption)|(refine Ah ?_ _;assumption)|(refine Bj ?_ ?_<;>assumption)))
     (first|(go_at_call 88;refine (Cj.calls k _ _ [rd l0 0,rd l0 1] d _ ?s1 ?s2 HD.out).mono ?_;(case s1=>exact Lv);(case s2=>simp);rintro e w1 ⟨rfl,hb⟩;have hb2:=Bj (CD (Ah (Below.refl _ _) _)) hb;clear hb;dsimp only))
    go_split_ands
    rename_i g0 g1 g2 g3 g4
    by_cases hd:d>1
    ·have hd2:=HD2.out;rw [if_pos hd] at hd2;obtain ⟨ps,hp1,hp2⟩:=Option.bind_eq_some_iff.mp hd2
     by_cases hp:0<ps.length
     ·rw [if_pos hp] at hp2;simp only [Option.some.injEq,Prod.mk.injEq] at hp2;obtain ⟨rfl,rfl,rfl⟩:=hp2;have HP:=Aa.mk hp1;clear hd2 hp1 HD2 HD
      go_wp2_with fail
      go_region_with ((go_at_call 113;refine (Bw.calls k d ps _ HP.out).mono ?_;rintro e w2 ⟨v,rfl,ho,hb⟩;have hb3:=Bj (CD g4) hb;have z0:=(FI hs0 hs1 hb3).1;have z1:=(FI hs0 hs1 hb3).2.1;have hz:=Bj (Ah HB.out _) hb3;obtain ⟨Ao,co,rfl⟩:=Kd.Az ho;obtain ⟨ao,rfl,hps⟩:=Kd.E8 (Kd.Ac ho).2.2 0 (by omega) (by omega);have hps0:w2.cell? ao=some (.int .i64 (rd ps 0)):=hps;clear hps ho hb;dsimp only))
      all_goals (go_wp2_with fail;(try simp only [Exit.inBlock,Exit.then]);refine bodyPost_ret (JN rfl _ _ _) rfl ?_;exact ⟨rfl,hz⟩)
     ·rw [if_neg hp] at hp2;cases hp2
    ·have hd2:=HD2.out;rw [if_neg hd] at hd2
     go_wp2_with fail
     exact ⟨⟨0+1,rfl,by omega,⟨hd2⟩,⟨LK HG.out g4⟩,⟨Bj (Ah HB.out _) g4⟩⟩,by simp [intOf]⟩
   ·unfold shF shAt at HF
    obtain ⟨d,hd,hd2⟩:=Option.bind_eq_some_iff.mp HF.out;have HD:=Aa.mk hd;have HD2:=Aa.mk hd2;clear HF hd hd2;have cl0:=CW HG.out 2;have cl1:=CW HG.out 3
    simp at cl0 cl1
    have HC:=Kd.BF HR0.out HB.out;have hl:=HL.out;obtain ⟨ad,rfl,ht0⟩:=Kd.E8 HC 0 (by omega) (by omega);obtain ⟨ad',e_,ht1⟩:=Kd.E8 HC 2 (by omega) (by omega);cases e_;have hs0:wr.cell? ad=some (.int .i64 (rd l0 0)):=ht0;have hs1:wr.cell? ⟨ad.block,ad.off+2,none⟩=some (.int .i64 (rd l0 2)):=ht1;clear ht0 ht1;have b0:0<l0.length:=by omega
    have b1:(2:Int)<(l0.length:Int):=by omega
    go_wp2_with fail
    have hlt:=lt_of_block HG.out
    go_region_held3 (fun w'=>w'.cell? ⟨wr.heap.size,0,none⟩=some (.int .i64 0)∧w'.cell? ⟨wr.heap.size,1,none⟩=some (.int .i64 2)∧w'.cell? ad=some (.int .i64 (rd l0 0))∧w'.cell? ⟨ad.block,ad.off+2,none⟩=some (.int .i64 (rd l0 2))∧Below (wr.alloc (.cells #[.int .i64 0,.int .i64 2] 119 (0,0))).heap.size (wr.alloc (.cells #[.int .i64 0,.int .i64 2] 119 (0,0))) w')
     ((refine FI hs0 hs1 ?_;go_split_ands;first|assumption|exact CD (Below.refl _ _)|exact CD (Ah (Below.refl _ _) _)|(refine Bj (CD (Ah (Below.refl _ _) _)) ?_;assumption)|(refine CD ?_;assumption)|(refine Ah ?_ _;assumption)|(refine Bj ?_ ?_<;>assumption)))
     (first|(go_at_call 88;refine (Cj.calls k _ _ [rd l0 0,rd l0 2] d _ ?s1 ?s2 HD.out).mono ?_;(case s1=>exact Lv);(case s2=>simp);rintro e w1 ⟨rfl,hb⟩;have hb2:=Bj (CD (Ah (Below.refl _ _) _)) hb;clear hb;dsimp only))
    go_split_ands
    rename_i g0 g1 g2 g3 g4
    by_cases hd:d>1
    ·have hd2:=HD2.out;rw [if_pos hd] at hd2;obtain ⟨ps,hp1,hp2⟩:=Option.bind_eq_some_iff.mp hd2
     by_cases hp:0<ps.length
     ·rw [if_pos hp] at hp2;simp only [Option.some.injEq,Prod.mk.injEq] at hp2;obtain ⟨rfl,rfl,rfl⟩:=hp2;have HP:=Aa.mk hp1;clear hd2 hp1 HD2 HD
      go_wp2_with fail
      go_region_with ((go_at_call 113;refine (Bw.calls k d ps _ HP.out).mono ?_;rintro e w2 ⟨v,rfl,ho,hb⟩;have hb3:=Bj (CD g4) hb;have z0:=(FI hs0 hs1 hb3).1;have z1:=(FI hs0 hs1 hb3).2.1;have hz:=Bj (Ah HB.out _) hb3;obtain ⟨Ao,co,rfl⟩:=Kd.Az ho;obtain ⟨ao,rfl,hps⟩:=Kd.E8 (Kd.Ac ho).2.2 0 (by omega) (by omega);have hps0:w2.cell? ao=some (.int .i64 (rd ps 0)):=hps;clear hps ho hb;dsimp only))
      all_goals (go_wp2_with fail;(try simp only [Exit.inBlock,Exit.then]);refine bodyPost_ret (JN rfl _ _ _) rfl ?_;exact ⟨rfl,hz⟩)
     ·rw [if_neg hp] at hp2;cases hp2
    ·have hd2:=HD2.out;rw [if_neg hd] at hd2
     go_wp2_with fail
     exact ⟨⟨1+1,rfl,by omega,⟨hd2⟩,⟨LK HG.out g4⟩,⟨Bj (Ah HB.out _) g4⟩⟩,by simp [intOf]⟩
   ·unfold shF shAt at HF
    obtain ⟨d,hd,hd2⟩:=Option.bind_eq_some_iff.mp HF.out;have HD:=Aa.mk hd;have HD2:=Aa.mk hd2;clear HF hd hd2;have cl0:=CW HG.out 4;have cl1:=CW HG.out 5
    simp at cl0 cl1
    have HC:=Kd.BF HR0.out HB.out;have hl:=HL.out;obtain ⟨ad,rfl,ht0⟩:=Kd.E8 HC 1 (by omega) (by omega);obtain ⟨ad',e_,ht1⟩:=Kd.E8 HC 2 (by omega) (by omega);cases e_;have hs0:wr.cell? ⟨ad.block,ad.off+1,none⟩=some (.int .i64 (rd l0 1)):=ht0;have hs1:wr.cell? ⟨ad.block,ad.off+2,none⟩=some (.int .i64 (rd l0 2)):=ht1;clear ht0 ht1;have b0:(1:Int)<(l0.length:Int):=by omega
    have b1:(2:Int)<(l0.length:Int):=by omega
    go_wp2_with fail
    have hlt:=lt_of_block HG.out
    go_region_held3 (fun w'=>w'.cell? ⟨wr.heap.size,0,none⟩=some (.int .i64 1)∧w'.cell? ⟨wr.heap.size,1,none⟩=some (.int .i64 2)∧w'.cell? ⟨ad.block,ad.off+1,none⟩=some (.int .i64 (rd l0 1))∧w'.cell? ⟨ad.block,ad.off+2,none⟩=some (.int .i64 (rd l0 2))∧Below (wr.alloc (.cells #[.int .i64 1,.int .i64 2] 119 (0,0))).heap.size (wr.alloc (.cells #[.int .i64 1,.int .i64 2] 119 (0,0))) w')
     ((refine FI hs0 hs1 ?_;go_split_ands;first|assumption|exact CD (Below.refl _ _)|exact CD (Ah (Below.refl _ _) _)|(refine Bj (CD (Ah (Below.refl _ _) _)) ?_;assumption)|(refine CD ?_;assumption)|(refine Ah ?_ _;assumption)|(refine Bj ?_ ?_<;>assumption)))
     (first|(go_at_call 88;refine (Cj.calls k _ _ [rd l0 1,rd l0 2] d _ ?s1 ?s2 HD.out).mono ?_;(case s1=>exact Lv);(case s2=>simp);rintro e w1 ⟨rfl,hb⟩;have hb2:=Bj (CD (Ah (Below.refl _ _) _)) hb;clear hb;dsimp only))
    go_split_ands
    rename_i g0 g1 g2 g3 g4
    by_cases hd:d>1
    ·have hd2:=HD2.out;rw [if_pos hd] at hd2;obtain ⟨ps,hp1,hp2⟩:=Option.bind_eq_some_iff.mp hd2
     by_cases hp:0<ps.length
     ·rw [if_pos hp] at hp2;simp only [Option.some.injEq,Prod.mk.injEq] at hp2;obtain ⟨rfl,rfl,rfl⟩:=hp2;have HP:=Aa.mk hp1;clear hd2 hp1 HD2 HD
      go_wp2_with fail
      go_region_with ((go_at_call 113;refine (Bw.calls k d ps _ HP.out).mono ?_;rintro e w2 ⟨v,rfl,ho,hb⟩;have hb3:=Bj (CD g4) hb;have z0:=(FI hs0 hs1 hb3).1;have z1:=(FI hs0 hs1 hb3).2.1;have hz:=Bj (Ah HB.out _) hb3;obtain ⟨Ao,co,rfl⟩:=Kd.Az ho;obtain ⟨ao,rfl,hps⟩:=Kd.E8 (Kd.Ac ho).2.2 0 (by omega) (by omega);have hps0:w2.cell? ao=some (.int .i64 (rd ps 0)):=hps;clear hps ho hb;dsimp only))
      all_goals (go_wp2_with fail;(try simp only [Exit.inBlock,Exit.then]);refine bodyPost_ret (JN rfl _ _ _) rfl ?_;exact ⟨rfl,hz⟩)
     ·rw [if_neg hp] at hp2;cases hp2
    ·have hd2:=HD2.out;rw [if_neg hd] at hd2
     go_wp2_with fail
     exact ⟨⟨2+1,rfl,by omega,⟨hd2⟩,⟨LK HG.out g4⟩,⟨Bj (Ah HB.out _) g4⟩⟩,by simp [intOf]⟩
   ·have hf:=HF.out;simp only [shF,Option.some.injEq,Prod.mk.injEq] at hf;obtain ⟨rfl,rfl,rfl⟩:=hf
    go_wp2_with fail
    (try simp only [Exit.inBlock,Exit.then]);refine bodyPost_ret (JN rfl _ _ _) rfl ?_;exact ⟨rfl,HB.out⟩
 ·rw [if_neg hl] at h;cases h
end
mutual
def Aw.j0:Nat→List Int→Bool→Option (List Int×List Int×Bool)
 | 0,_,_=>none
 | k+1,x0,x21=>if x21=true then some (([]:List Int),([]:List Int),false) else (Bn.f x0).bind fun t3=>(Aw.l0 k t3 (([1,1,1]:List Int)) x0 (x0.length:Int) 0)
def Aw.l0:Nat→List Int→List Int→List Int→Int→Int→Option (List Int×List Int×Bool)
 | 0,_,_,_,_,_=>none
 | k+1,x5,x6,x25,x26,x27=>if x27<x26 then if 0≤x27 then if x27<(x25.length:Int) then (AW.f k (rd x25 x27)).bind fun bt3=>(if x27<(x5.length:Int) then if 0≤(Int.tmod (wrap64 (x27+1)) 3) then if (Int.tmod (wrap64 (x27+1)) 3)<(x6.length:Int) then (some (x6.set ((Int.tmod (wrap64 (x27+1)) 3):Int).toNat (wrap64 ((rd x6 (Int.tmod (wrap64 (x27+1)) 3))*bt3.2)):List Int)).bind fun y4=>(if 0≤(Int.tmod (wrap64 (x27+2)) 3) then (if (Int.tmod (wrap64 (x27+2)) 3)<(x6.length:Int) then (Aw.l0 k (x5.set (x27:Int).toNat bt3.1) (y4.set ((Int.tmod (wrap64 (x27+2)) 3):Int).toNat (wrap64 ((rd y4 (Int.tmod (wrap64 (x27+2)) 3))*bt3.2))) x25 x26 (wrap64 (x27+1))) else none) else none) else none else none else none) else none else none else Aw.l1 k x5 x6
def Aw.l1:Nat→List Int→List Int→Option (List Int×List Int×Bool)
 | 0,_,_=>none
 | k+1,x5,x6=>(Cq.f k x5).bind fun bt3=>(if bt3.2.2=0 then some (x5,x6,true) else if 0≤bt3.1 then if bt3.1<(x5.length:Int) then (some (x5.set (bt3.1:Int).toNat (wrap64 (Int.tdiv (rd x5 bt3.1) bt3.2.2)):List Int)).bind fun y4=>(if 0≤bt3.2.1 then if bt3.2.1<(x5.length:Int) then (some (y4.set (bt3.2.1:Int).toNat (wrap64 (Int.tdiv (rd y4 bt3.2.1) bt3.2.2)):List Int)).bind fun y7=>(if 0≤(wrap64 ((wrap64 (3-bt3.1))-bt3.2.1)) then (if (wrap64 ((wrap64 (3-bt3.1))-bt3.2.1))<(x5.length:Int) then (if (Int.tmod (rd y7 (wrap64 ((wrap64 (3-bt3.1))-bt3.2.1))) bt3.2.2)=0 then (Aw.l1 k (y7.set ((wrap64 ((wrap64 (3-bt3.1))-bt3.2.1)):Int).toNat (wrap64 (Int.tdiv (rd y7 (wrap64 ((wrap64 (3-bt3.1))-bt3.2.1))) bt3.2.2))) x6) else (if (wrap64 ((wrap64 (3-bt3.1))-bt3.2.1))<(x6.length:Int) then (Aw.l1 k (y7.set ((wrap64 ((wrap64 (3-bt3.1))-bt3.2.1)):Int).toNat (wrap64 ((rd y7 (wrap64 ((wrap64 (3-bt3.1))-bt3.2.1)))*bt3.2.2))) (x6.set ((wrap64 ((wrap64 (3-bt3.1))-bt3.2.1)):Int).toNat (wrap64 ((rd x6 (wrap64 ((wrap64 (3-bt3.1))-bt3.2.1)))*bt3.2.2)))) else none)) else none) else none) else none else none) else none else none)
end
def Aw.f (k:Nat) (l0:List Int):Option (List Int×List Int×Bool):=(Am.f k l0).bind fun t3=>(if t3=true then Aw.j0 k l0 ((l0.length:Int)!=3) else Aw.j0 k l0 true)
theorem Aw.calls (k:Nat) (A0:Option Addr) (c0:Nat) (l0 r1 r2:List Int) (r3:Bool) (w:World) (hr0:Kd.C (Kd.int .i64) w A0 l0.length l0) (hc0:l0.length≤c0) (h:Aw.f k l0=some (r1,r2,r3)) :
  Calls Tryz.prog 78 #[.slice A0 l0.length c0] w fun e w' => ∃v0_ v1_:Value,e = .returned (.tuple #[v0_,v1_,.bool r3])∧Kd.R (Kd.int .i64) 3 w' w.heap.size (fun k_=>some k_≠(v1_:Value).ownBlock) v0_ r1∧Kd.R (Kd.int .i64) 3 w' w.heap.size (fun k_=>some k_≠(v0_:Value).ownBlock) v1_ r2∧Below w.heap.size w w':=by
 have HR0:=Aa.mk hr0;have HC0:=Aa.mk hc0;clear hr0 hc0;have HB:=Aa.mk (Below.refl w.heap.size w);unfold Aw.f at h;have H:=h;clear h;have HC2:=Aa.mk H;clear H
 go_enter Tryz.func78,Tryz.ntmps78
 go_upto_region 1 with (fail)
 go_cut [21] (fun v21 wc => ∃(kq:Nat) (x21_1:Bool),v21 = .bool x21_1∧Aa (Aw.j0 kq l0 x21_1=some (r1,r2,r3))∧Aa (kq≤k)∧Aa (Below w.heap.size w wc))
 case first =>
  have H:=HC2.out;clear HC2;obtain ⟨t4,A3,H⟩:=Zs.be H
  cases t4
  ·replace H:=Zq.fh H;have H':=Aa.mk H;clear H
   go_wp2_with (((with_reducible refine Ab (f:=59) rfl ?_);refine Zq.gb Tryz.func59 (Am.calls _ _ _ _ _ _ (Zs.mvC ((Kd.BF HR0.out HB.out))) HC0.out A3.out) ?_;intro w6 hb;replace HB:=Zq.st hb;(try clear hb)))
   go_meet
   case rel=>exact ⟨_,(true),Zs.auS,H',⟨Zs.auN⟩,⟨Zs.auHB⟩⟩
  ·replace H:=Zq.th H;have H':=Aa.mk H;clear H
   go_wp2_with (((with_reducible refine Ab (f:=59) rfl ?_);refine Zq.gb Tryz.func59 (Am.calls _ _ _ _ _ _ (Zs.mvC ((Kd.BF HR0.out HB.out))) HC0.out A3.out) ?_;intro w5 hb;replace HB:=Zq.st hb;(try clear hb)))
   go_meet
   case rel=>exact ⟨_,(((l0.length:Int)!=3)),Zs.auS,H',⟨Zs.auN⟩,⟨Zs.auHB⟩⟩
 case rest =>
  clear HC2
  obtain ⟨kq,x21_1,rfl,HA,HJ1,HB⟩:=hcut;cases kq with
  | zero=>exact absurd HA.out (by simp [Aw.j0])
  | succ kj1 =>
   have H:=HA.out;clear HA;simp only [Aw.j0] at H
   cases x21_1
   ·replace H:=Zq.fh H;obtain ⟨t71,A8,H⟩:=Zs.be H;generalize hyy:([1,1,1]:List Int)=y74 at H;have Ny74:=Aa.mk hyy.symm;clear hyy;have H':=Aa.mk H;clear H
    go_wp2_with (first|((with_reducible refine Ab (f:=87) rfl ?_);refine Zq.gc (some 23) Tryz.func87 (Bn.calls _ _ _ _ _ (Zs.mvC ((Kd.BF HR0.out HB.out))) HC0.out A8.out) ?_;rintro e w9 ⟨v72,rfl,ho0,hb⟩;refine ⟨_,rfl,?_⟩;have HO73:=Zq.lw ho0;replace HB:=Zq.st hb;(try clear hb);(try clear ho0))|((with_reducible refine Bb (N:=24) rfl ?_);(try (refine Dr (by rfl) ?_;dsimp only));refine Zq.li ([1,1,1]:List Int) ?_;intro v75 w10 ho11 hb;(first|rw [← Ny74.out] at ho11|(simp only [Int.reduceToNat] at ho11;rw [← Ny74.out] at ho11));have HO76:=Aa.mk (Kd.Bp (Kd.Br ho11 (Zq.lt HO73.out)) (Ay (Zs.auHB)));replace HO73:=Zq.el HO73.out ho11 hb;replace HB:=Zq.st hb;clear hb ho11))
    go_loopg [27] kj1 (fun kq v27 w' => ∃(x5_2 x6_2:List Int) (x27_2:Int),v27 = .int .i64 x27_2∧Aa (Aw.l0 kq x5_2 x6_2 l0 (l0.length:Int) x27_2=some (r1,r2,r3))∧Aa (kq≤kj1)∧Aa (Kd.R (Kd.int .i64) 3 w' w.heap.size (fun k_=>some k_≠(v75:Value).ownBlock) v72 x5_2)∧Aa (Kd.R (Kd.int .i64) 3 w' w.heap.size (fun k_=>some k_≠(v72:Value).ownBlock) v75 x6_2)∧Aa (Below w.heap.size w w'))
    case atStart=>exact ⟨(t71),(y74),(0),Zs.auS,H',⟨Nat.le_refl _⟩,⟨(Zs.mvR (Kd.AB HO73.out Zq.tk))⟩,⟨(Zs.mvR (Kd.AB HO76.out Zq.tk))⟩,⟨Zs.auHB⟩⟩
    case round =>
     clear H'
     obtain ⟨x5_2,x6_2,x27_2,rfl,HA,HK2,HO_5,HO_6,HB⟩:=hrel;cases gk with
     | zero=>exact absurd HA.out (by simp [Aw.l0])
     | succ k2 =>
      have H:=HA.out;clear HA;simp only [Aw.l0] at H
      rcases Zq.jd H with ⟨c12b0,H⟩|⟨c12b0,H⟩
      ·obtain ⟨c13b0,H⟩:=Zq.pd H
       obtain ⟨c14b0,H⟩:=Zq.pd H;obtain ⟨t79,t80,A15,H⟩:=Zq.bp H;try dsimp only at H
       obtain ⟨c16b0,H⟩:=Zq.pd H;generalize hyy:(x5_2.set (x27_2:Int).toNat t79:List Int)=y81 at H;have Ny81:=Aa.mk hyy.symm;clear hyy;obtain ⟨ji18,hji18⟩ : ∃j_:Int,(Int.tmod (wrap64 (x27_2+1)) 3)=j_:=⟨_,rfl⟩
       replace H:(if 0≤(ji18) then if (ji18)<(x6_2.length:Int) then (some (x6_2.set ((ji18):Int).toNat (wrap64 ((rd x6_2 (ji18))*t80)):List Int)).bind fun y83=>(if 0≤(Int.tmod (wrap64 (x27_2+2)) 3) then (if (Int.tmod (wrap64 (x27_2+2)) 3)<(x6_2.length:Int) then (Aw.l0 k2 y81 (y83.set ((Int.tmod (wrap64 (x27_2+2)) 3):Int).toNat (wrap64 ((rd y83 (Int.tmod (wrap64 (x27_2+2)) 3))*t80))) l0 (l0.length:Int) (wrap64 (x27_2+1))) else none) else none) else none else none)=some (r1,r2,r3):=by first|(rw [hji18] at H;exact H)|(simp only [hji18] at H ⊢;exact H)
       (try rw [hji18] at A15)
       obtain ⟨c19b0,H⟩:=Zq.pd H
       obtain ⟨c20b0,H⟩:=Zq.pd H;generalize hyy:(x6_2.set ((ji18):Int).toNat (wrap64 ((rd x6_2 (ji18))*t80)):List Int)=y83 at H;have Ny83:=Aa.mk hyy.symm;clear hyy;obtain ⟨ji22,hji22⟩ : ∃j_:Int,(Int.tmod (wrap64 (x27_2+2)) 3)=j_:=⟨_,rfl⟩
       replace H:(if 0≤(ji22) then (if (ji22)<(x6_2.length:Int) then (Aw.l0 k2 y81 (y83.set ((ji22):Int).toNat (wrap64 ((rd y83 (ji22))*t80))) l0 (l0.length:Int) (wrap64 (x27_2+1))) else none) else none)=some (r1,r2,r3):=by first|(rw [hji22] at H;exact H)|(simp only [hji22] at H ⊢;exact H)
       (try rw [hji22] at A15)
       obtain ⟨c23b0,H⟩:=Zq.pd H
       obtain ⟨c24b0,H⟩:=Zq.pd H;generalize hyy:(y83.set ((ji22):Int).toNat (wrap64 ((rd y83 (ji22))*t80)):List Int)=y85 at H;have Ny85:=Aa.mk hyy.symm;clear hyy;have H':=Aa.mk H;clear H;obtain ⟨ad77,e77,hx77_0,p77,q77⟩:=Zq.at_ HR0.out x27_2;cases e77;replace hx77_0:=Zq.ce HB.out hx77_0
       go_wp2_with (first|((with_reducible refine Ab (f:=61) rfl ?_);refine Zq.gb Tryz.func61 (AW.calls _ _ _ _ _ A15.out) ?_;intro w26 hb;replace HO_5:=Zq.rb HO_5.out hb;replace HO_6:=Zq.rb HO_6.out hb;replace HB:=Zq.st hb;(try clear hb);have p17:0≤(x27_2:Int):=Zs.od;have q17:(x27_2:Int)<((x5_2.length:Int):Int):=Zs.od;obtain ⟨go17,co17,eo17,gb17,gl17,cl17,HG17⟩:=Kd.E7 HO_5.out (by omega);(first|cases eo17|(injection eo17 with ea_ en_ ec_;(first|subst ea_|(injection ea_ with ea_;subst ea_));subst ec_;clear en_));have GB17:=Aa.mk gb17;have GG17:=Aa.mk HG17;clear gb17 gl17 HG17;obtain ⟨hx17_0,hf17_0⟩:=Kd.Co 0 HO_5.out (x27_2:Int) p17 q17;replace p17:=eq_true p17;replace q17:=eq_true q17;obtain ⟨hy27_,hz27_⟩:=Kd.Co 0 HO_5.out (x27_2:Int) (Zs.od) (Zs.od);have HP27:=Kd.DV HO_5.out (x27_2:Int) t79)|((with_reducible refine CA (t:=3) (p:=39) rfl ?_);refine Cb (t:=3) (p:=39) (v:=?vo_w28) (w1:=(w26.setCell ⟨go17,(x27_2:Int).toNat,none⟩ (.int .i64 t79))) ?hg ?ho ?hn ?hr ?_;(case ho=>rfl);(case hg=>rfl);(case hn=>rfl);(case hr=>first|(go_simp;done)|(go_simp;rfl));intro w28 hw;have hg:w26.grownBy w28 (some go17):=(by rw [hw];exact HP27.2);have hp_:Kd.R (Kd.int .i64) 3 w28 w.heap.size (fun k_=>some k_≠(v75:Value).ownBlock) (.slice (some ⟨go17,0,none⟩) x5_2.length co17) y81:=(by rw [hw,Ny81.out];exact HP27.1);clear HP27;replace HO_5:=Aa.mk (hp_);replace HO_6:=Aa.mk (Kd.BW (v:=(.slice (some ⟨go17,0,none⟩) x5_2.length co17)) (v1:=(.slice (some ⟨go17,0,none⟩) x5_2.length co17)) (ok:=(fun _=>True)) ((Zs.mvR (Kd.AB HO_6.out (fun _ hk=>⟨trivial,hk⟩)))) hg (.inl rfl));replace HB:=Aa.mk ((by rw [hw];exact AE (HB.out) GB17.out:Below w.heap.size w w28));clear hg hw hp_;obtain ⟨Ao29,co29,eo29⟩:=Kd.Az HO_6.out;subst eo29;obtain ⟨ad82,e82,hx82_0,p82,q82⟩:=Zq.at_ (Kd.Ac HO_6.out).2.2 (ji18);cases e82;have p21:0≤((ji18):Int):=Zs.od;have q21:((ji18):Int)<((x6_2.length:Int):Int):=Zs.od;obtain ⟨go21,co21,eo21,gb21,gl21,cl21,HG21⟩:=Kd.E7 HO_6.out (by omega);(first|cases eo21|(injection eo21 with ea_ en_ ec_;(first|subst ea_|(injection ea_ with ea_;subst ea_));subst ec_;clear en_));have GB21:=Aa.mk gb21;have GG21:=Aa.mk HG21;clear gb21 gl21 HG21;(first|simp only [add_plain] at hx82_0|skip);obtain ⟨hx21_0,hf21_0⟩:=Kd.Co 0 HO_6.out ((ji18):Int) p21 q21;replace p21:=eq_true p21;replace q21:=eq_true q21;have n_:=Aa.mk (Kd.AB (ok':=(fun k_=>some k_≠(.slice (some ⟨go17,0,none⟩) x5_2.length co17:Value).ownBlock)) HO_6.out (fun k_ hk=>hk.2));clear HO_6;have HO_6:=n_;clear n_;obtain ⟨hy30_,hz30_⟩:=Kd.Co 0 HO_6.out ((ji18):Int) (Zs.od) (Zs.od);have HP30:=Kd.DV HO_6.out ((ji18):Int) (wrap64 ((rd x6_2 (ji18))*t80)))|((with_reducible refine CA (t:=3) (p:=48) rfl ?_);refine Cb (t:=3) (p:=48) (v:=?vo_w31) (w1:=(w28.setCell ⟨go21,((ji18):Int).toNat,none⟩ (.int .i64 (wrap64 ((rd x6_2 (ji18))*t80))))) ?hg ?ho ?hn ?hr ?_;(case ho=>rfl);(case hg=>rfl);(case hn=>rfl);(case hr=>first|(go_simp;done)|(go_simp;rfl));intro w31 hw;have hg:w28.grownBy w31 (some go21):=(by rw [hw];exact HP30.2);have hp_:Kd.R (Kd.int .i64) 3 w31 w.heap.size (fun k_=>some k_≠(.slice (some ⟨go17,0,none⟩) x5_2.length co17:Value).ownBlock) (.slice (some ⟨go21,0,none⟩) x6_2.length co29) y83:=(by rw [hw,Ny83.out];exact HP30.1);clear HP30;replace HO_5:=Aa.mk (Kd.BW (v:=(.slice (some ⟨go21,0,none⟩) x6_2.length co29)) (v1:=(.slice (some ⟨go21,0,none⟩) x6_2.length co29)) (ok:=(fun _=>True)) ((Zs.mvR (Kd.AB HO_5.out (fun _ hk=>⟨trivial,hk⟩)))) hg (.inl rfl));replace HO_6:=Aa.mk (hp_);replace HB:=Aa.mk ((by rw [hw];exact AE (HB.out) GB21.out:Below w.heap.size w w31));clear hg hw hp_;have p84:0≤((ji22):Int):=Zs.od;have q84:(ji22)<(y83.length:Int):=(by have h_:((ji22):Int)<((x6_2.length:Int):Int):=Zs.od;first|(have e_:=(Kd.Ac HO_6.out).1;omega)|simpa only [Ny83.out,List.length_set] using h_);have ql84:(((ji22):Int)<((x6_2.length:Int):Int))=True:=eq_true (Zs.od);have hx84_0:=Zq.pl (Kd.Ac HO_6.out).2.2 (ji22) p84 q84;replace p84:=eq_true p84;replace q84:=eq_true q84;have p25:0≤((ji22):Int):=Zs.od;have q25:((ji22):Int)<((x6_2.length:Int):Int):=Zs.od;obtain ⟨hx25_0,hf25_0⟩:=Kd.Co 0 HO_6.out ((ji22):Int) p25 q25;replace p25:=eq_true p25;replace q25:=eq_true q25;obtain ⟨hy32_,hz32_⟩:=Kd.Co 0 HO_6.out ((ji22):Int) (Zs.od) (Zs.od);have HP32:=Kd.DV HO_6.out ((ji22):Int) (wrap64 ((rd y83 (ji22))*t80)))|((with_reducible refine CA (t:=3) (p:=57) rfl ?_);refine Cb (t:=3) (p:=57) (v:=?vo_w33) (w1:=(w31.setCell ⟨go21,((ji22):Int).toNat,none⟩ (.int .i64 (wrap64 ((rd y83 (ji22))*t80))))) ?hg ?ho ?hn ?hr ?_;(case ho=>rfl);(case hg=>rfl);(case hn=>rfl);(case hr=>first|(go_simp;done)|(go_simp;rfl));intro w33 hw;have hg:w31.grownBy w33 (some go21):=(by rw [hw];exact HP32.2);have hp_:Kd.R (Kd.int .i64) 3 w33 w.heap.size (fun k_=>some k_≠(.slice (some ⟨go17,0,none⟩) x5_2.length co17:Value).ownBlock) (.slice (some ⟨go21,0,none⟩) x6_2.length co29) y85:=(by rw [hw,Ny85.out];exact HP32.1);clear HP32;replace HO_5:=Aa.mk (Kd.BW (v:=(.slice (some ⟨go21,0,none⟩) x6_2.length co29)) (v1:=(.slice (some ⟨go21,0,none⟩) x6_2.length co29)) (ok:=(fun _=>True)) ((Zs.mvR HO_5.out)) hg (.inl rfl));replace HO_6:=Aa.mk (hp_);replace HB:=Aa.mk ((by rw [hw];exact AE (HB.out) GB21.out:Below w.heap.size w w33));clear hg hw hp_))
       go_roundg k2
       case measure=>have:=HJ1.out;have:=HK2.out;omega
       case rel=>exact ⟨(y81),(y85),(wrap64 (x27_2+1)),Zs.auS,H',⟨by have:=HJ1.out;have:=HK2.out;omega⟩,⟨(Zs.mvR (Kd.AB HO_5.out Zq.tk))⟩,⟨(Zs.mvR HO_6.out)⟩,⟨Zs.auHB⟩⟩
      ·have H':=Aa.mk H;clear H;go_wp2
       go_loopg [] k2 (fun kq w' => ∃x5_3 x6_3:List Int,Aa (Aw.l1 kq x5_3 x6_3=some (r1,r2,r3))∧Aa (kq≤k2)∧Aa (Kd.R (Kd.int .i64) 3 w' w.heap.size (fun k_=>some k_≠(v75:Value).ownBlock) v72 x5_3)∧Aa (Kd.R (Kd.int .i64) 3 w' w.heap.size (fun k_=>some k_≠(v72:Value).ownBlock) v75 x6_3)∧Aa (Below w.heap.size w w'))
       case atStart=>exact ⟨(x5_2),(x6_2),H',⟨Nat.le_refl _⟩,⟨(Zs.mvR HO_5.out)⟩,⟨(Zs.mvR HO_6.out)⟩,⟨Zs.auHB⟩⟩
       case round =>
        clear H'
        obtain ⟨x5_3,x6_3,HA,HK3,HO_5,HO_6,HB⟩:=hrel;cases gk with
        | zero=>exact absurd HA.out (by simp [Aw.l1])
        | succ k3 =>
         have H:=HA.out;clear HA;simp only [Aw.l1] at H;replace H:=Option.bind_eq_some_iff.mp H;obtain ⟨⟨t86,t88,t89⟩,A340,H⟩:=H;try dsimp only at H;have A34:=Aa.mk A340;clear A340
         rcases Zq.jn H with ⟨c35b0,H⟩|⟨c35,c35b0,H⟩
         ·simp only [Option.some.injEq,Prod.mk.injEq] at H;obtain ⟨rfl,rfl,rfl⟩:=H;obtain ⟨Ao36,co36,eo36⟩:=Kd.Az HO_5.out;subst eo36
          go_wp2_with (((with_reducible refine Ab (f:=135) rfl ?_);refine Zq.gb Tryz.func135 (Cq.calls _ _ _ _ _ _ _ _ (Zs.mvC ((Kd.Ac HO_5.out).2.2)) ((Kd.Ac HO_5.out).2.1) A34.out) ?_;intro w37 hb;replace HO_5:=Zq.rb HO_5.out hb;replace HO_6:=Zq.rb HO_6.out hb;replace HB:=Zq.st hb;(try clear hb)))
          go_ret3
          exact ⟨_,_,Zs.auR,(Zs.mvR HO_5.out),(Zs.mvR HO_6.out),Zs.auHB⟩
         ·obtain ⟨c38b0,H⟩:=Zq.pd H
          obtain ⟨c39b0,H⟩:=Zq.pd H;obtain ⟨y91,Ny91,H⟩:=Zq.bs H
          obtain ⟨c41b0,H⟩:=Zq.pd H
          obtain ⟨c42b0,H⟩:=Zq.pd H;obtain ⟨y93,Ny93,H⟩:=Zq.bs H;obtain ⟨ji44,hji44⟩ : ∃j_:Int,(wrap64 ((wrap64 (3-t86))-t88))=j_:=⟨_,rfl⟩
          replace H:(if 0≤(ji44) then (if (ji44)<(x5_3.length:Int) then (if (Int.tmod (rd y93 (ji44)) t89)=0 then (Aw.l1 k3 (y93.set ((ji44):Int).toNat (wrap64 (Int.tdiv (rd y93 (ji44)) t89))) x6_3) else (if (ji44)<(x6_3.length:Int) then (Aw.l1 k3 (y93.set ((ji44):Int).toNat (wrap64 ((rd y93 (ji44))*t89))) (x6_3.set ((ji44):Int).toNat (wrap64 ((rd x6_3 (ji44))*t89)))) else none)) else none) else none)=some (r1,r2,r3):=by first|(rw [hji44] at H;exact H)|(simp only [hji44] at H ⊢;exact H)
          (try rw [hji44] at A34);have hji44w:(IntKind.i64.wrap ((wrap64 (3-t86))-t88))=ji44:=(IG _).trans hji44
          obtain ⟨c45b0,H⟩:=Zq.pd H
          obtain ⟨c46b0,H⟩:=Zq.pd H
          rcases Zq.jn H with ⟨c47b0,H⟩|⟨c47,c47b0,H⟩
          ·generalize hyy:(y93.set ((ji44):Int).toNat (wrap64 (Int.tdiv (rd y93 (ji44)) t89)):List Int)=y96 at H;have Ny96:=Aa.mk hyy.symm;clear hyy;have H':=Aa.mk H;clear H;obtain ⟨Ao49,co49,eo49⟩:=Kd.Az HO_5.out;subst eo49
           go_wp2_with (first|((with_reducible refine Ab (f:=135) rfl ?_);refine Zq.gb Tryz.func135 (Cq.calls _ _ _ _ _ _ _ _ (Zs.mvC ((Kd.Ac HO_5.out).2.2)) ((Kd.Ac HO_5.out).2.1) A34.out) ?_;intro w50 hb;replace HO_5:=Zq.rb HO_5.out hb;replace HO_6:=Zq.rb HO_6.out hb;replace HB:=Zq.st hb;(try clear hb);obtain ⟨ad90,e90,hx90_0,p90,q90⟩:=Zq.at_ (Kd.Ac HO_5.out).2.2 t86;cases e90;have p40:0≤(t86:Int):=Zs.od;have q40:(t86:Int)<((x5_3.length:Int):Int):=Zs.od;obtain ⟨go40,co40,eo40,gb40,gl40,cl40,HG40⟩:=Kd.E7 HO_5.out (by omega);(first|cases eo40|(injection eo40 with ea_ en_ ec_;(first|subst ea_|(injection ea_ with ea_;subst ea_));subst ec_;clear en_));have GB40:=Aa.mk gb40;have GG40:=Aa.mk HG40;clear gb40 gl40 HG40;(first|simp only [add_plain] at hx90_0|skip);obtain ⟨hx40_0,hf40_0⟩:=Kd.Co 0 HO_5.out (t86:Int) p40 q40;replace p40:=eq_true p40;replace q40:=eq_true q40;obtain ⟨hy51_,hz51_⟩:=Kd.Co 0 HO_5.out (t86:Int) (Zs.od) (Zs.od);have HP51:=Kd.DV HO_5.out (t86:Int) (wrap64 (Int.tdiv (rd x5_3 t86) t89)))|((with_reducible refine CA (t:=3) (p:=79) rfl ?_);refine Cb (t:=3) (p:=79) (v:=?vo_w52) (w1:=(w50.setCell ⟨go40,(t86:Int).toNat,none⟩ (.int .i64 (wrap64 (Int.tdiv (rd x5_3 t86) t89))))) ?hg ?ho ?hn ?hr ?_;(case ho=>rfl);(case hg=>rfl);(case hn=>rfl);(case hr=>first|(go_simp;done)|(go_simp;rfl));intro w52 hw;have hg:w50.grownBy w52 (some go40):=(by rw [hw];exact HP51.2);have hp_:Kd.R (Kd.int .i64) 3 w52 w.heap.size (fun k_=>some k_≠(v75:Value).ownBlock) (.slice (some ⟨go40,0,none⟩) x5_3.length co49) y91:=(by rw [hw,Ny91.out];exact HP51.1);clear HP51;replace HO_5:=Aa.mk (hp_);replace HO_6:=Aa.mk (Kd.BW (v:=(.slice (some ⟨go40,0,none⟩) x5_3.length co49)) (v1:=(.slice (some ⟨go40,0,none⟩) x5_3.length co49)) (ok:=(fun _=>True)) ((Zs.mvR (Kd.AB HO_6.out (fun _ hk=>⟨trivial,hk⟩)))) hg (.inl rfl));replace HB:=Aa.mk ((by rw [hw];exact AE (HB.out) GB40.out:Below w.heap.size w w52));clear hg hw hp_;have p92:0≤(t88:Int):=Zs.od;have q92:t88<(y91.length:Int):=(by have h_:(t88:Int)<((x5_3.length:Int):Int):=Zs.od;first|(have e_:=(Kd.Ac HO_5.out).1;omega)|simpa only [Ny91.out,List.length_set] using h_);have ql92:((t88:Int)<((x5_3.length:Int):Int))=True:=eq_true (Zs.od);have hx92_0:=Zq.pl (Kd.Ac HO_5.out).2.2 t88 p92 q92;replace p92:=eq_true p92;replace q92:=eq_true q92;have p43:0≤(t88:Int):=Zs.od;have q43:(t88:Int)<((x5_3.length:Int):Int):=Zs.od;obtain ⟨hx43_0,hf43_0⟩:=Kd.Co 0 HO_5.out (t88:Int) p43 q43;replace p43:=eq_true p43;replace q43:=eq_true q43;obtain ⟨hy53_,hz53_⟩:=Kd.Co 0 HO_5.out (t88:Int) (Zs.od) (Zs.od);have HP53:=Kd.DV HO_5.out (t88:Int) (wrap64 (Int.tdiv (rd y91 t88) t89)))|((with_reducible refine CA (t:=3) (p:=86) rfl ?_);refine Cb (t:=3) (p:=86) (v:=?vo_w54) (w1:=(w52.setCell ⟨go40,(t88:Int).toNat,none⟩ (.int .i64 (wrap64 (Int.tdiv (rd y91 t88) t89))))) ?hg ?ho ?hn ?hr ?_;(case ho=>rfl);(case hg=>rfl);(case hn=>rfl);(case hr=>first|(go_simp;done)|(go_simp;rfl));intro w54 hw;have hg:w52.grownBy w54 (some go40):=(by rw [hw];exact HP53.2);have hp_:Kd.R (Kd.int .i64) 3 w54 w.heap.size (fun k_=>some k_≠(v75:Value).ownBlock) (.slice (some ⟨go40,0,none⟩) x5_3.length co49) y93:=(by rw [hw,Ny93.out];exact HP53.1);clear HP53;replace HO_5:=Aa.mk (hp_);replace HO_6:=Aa.mk (Kd.BW (v:=(.slice (some ⟨go40,0,none⟩) x5_3.length co49)) (v1:=(.slice (some ⟨go40,0,none⟩) x5_3.length co49)) (ok:=(fun _=>True)) ((Zs.mvR HO_6.out)) hg (.inl rfl));replace HB:=Aa.mk ((by rw [hw];exact AE (HB.out) GB40.out:Below w.heap.size w w54));clear hg hw hp_;have p94:0≤((ji44):Int):=Zs.od;have q94:(ji44)<(y93.length:Int):=(by have h_:((ji44):Int)<((x5_3.length:Int):Int):=Zs.od;first|(have e_:=(Kd.Ac HO_5.out).1;omega)|simpa only [Ny91.out,Ny93.out,List.length_set] using h_);have ql94:(((ji44):Int)<((x5_3.length:Int):Int))=True:=eq_true (Zs.od);have hx94_0:=Zq.pl (Kd.Ac HO_5.out).2.2 (ji44) p94 q94;replace p94:=eq_true p94;replace q94:=eq_true q94;have p95:0≤((ji44):Int):=Zs.od;have q95:(ji44)<(y93.length:Int):=(by have h_:((ji44):Int)<((x5_3.length:Int):Int):=Zs.od;first|(have e_:=(Kd.Ac HO_5.out).1;omega)|simpa only [Ny91.out,Ny93.out,List.length_set] using h_);have ql95:(((ji44):Int)<((x5_3.length:Int):Int))=True:=eq_true (Zs.od);have hx95_0:=Zq.pl (Kd.Ac HO_5.out).2.2 (ji44) p95 q95;replace p95:=eq_true p95;replace q95:=eq_true q95;have p48:0≤((ji44):Int):=Zs.od;have q48:((ji44):Int)<((x5_3.length:Int):Int):=Zs.od;obtain ⟨hx48_0,hf48_0⟩:=Kd.Co 0 HO_5.out ((ji44):Int) p48 q48;replace p48:=eq_true p48;replace q48:=eq_true q48;obtain ⟨hy55_,hz55_⟩:=Kd.Co 0 HO_5.out ((ji44):Int) (Zs.od) (Zs.od);have HP55:=Kd.DV HO_5.out ((ji44):Int) (wrap64 (Int.tdiv (rd y93 (ji44)) t89)))|((with_reducible refine CA (t:=3) (p:=100) rfl ?_);refine Cb (t:=3) (p:=100) (v:=?vo_w56) (w1:=(w54.setCell ⟨go40,((ji44):Int).toNat,none⟩ (.int .i64 (wrap64 (Int.tdiv (rd y93 (ji44)) t89))))) ?hg ?ho ?hn ?hr ?_;(case ho=>rfl);(case hg=>rfl);(case hn=>rfl);(case hr=>first|(go_simp;done)|(go_simp;rfl));intro w56 hw;have hg:w54.grownBy w56 (some go40):=(by rw [hw];exact HP55.2);have hp_:Kd.R (Kd.int .i64) 3 w56 w.heap.size (fun k_=>some k_≠(v75:Value).ownBlock) (.slice (some ⟨go40,0,none⟩) x5_3.length co49) y96:=(by rw [hw,Ny96.out];exact HP55.1);clear HP55;replace HO_5:=Aa.mk (hp_);replace HO_6:=Aa.mk (Kd.BW (v:=(.slice (some ⟨go40,0,none⟩) x5_3.length co49)) (v1:=(.slice (some ⟨go40,0,none⟩) x5_3.length co49)) (ok:=(fun _=>True)) ((Zs.mvR HO_6.out)) hg (.inl rfl));replace HB:=Aa.mk ((by rw [hw];exact AE (HB.out) GB40.out:Below w.heap.size w w56));clear hg hw hp_))
           go_roundg k3
           case measure=>have:=HJ1.out;have:=HK2.out;have:=HK3.out;omega
           case rel=>exact ⟨(y96),(x6_3),H',⟨by have:=HJ1.out;have:=HK2.out;have:=HK3.out;omega⟩,⟨(Zs.mvR HO_5.out)⟩,⟨(Zs.mvR (Kd.AB HO_6.out Zq.tk))⟩,⟨Zs.auHB⟩⟩
          ·generalize hyy:(y93.set ((ji44):Int).toNat (wrap64 ((rd y93 (ji44))*t89)):List Int)=y98 at H;have Ny98:=Aa.mk hyy.symm;clear hyy
           obtain ⟨c58b0,H⟩:=Zq.pd H;generalize hyy:(x6_3.set ((ji44):Int).toNat (wrap64 ((rd x6_3 (ji44))*t89)):List Int)=y265 at H;have Ny265:=Aa.mk hyy.symm;clear hyy;have H':=Aa.mk H;clear H;obtain ⟨Ao60,co60,eo60⟩:=Kd.Az HO_5.out;subst eo60
           go_wp2_with (first|((with_reducible refine Ab (f:=135) rfl ?_);refine Zq.gb Tryz.func135 (Cq.calls _ _ _ _ _ _ _ _ (Zs.mvC ((Kd.Ac HO_5.out).2.2)) ((Kd.Ac HO_5.out).2.1) A34.out) ?_;intro w61 hb;replace HO_5:=Zq.rb HO_5.out hb;replace HO_6:=Zq.rb HO_6.out hb;replace HB:=Zq.st hb;(try clear hb);obtain ⟨ad90,e90,hx90_0,p90,q90⟩:=Zq.at_ (Kd.Ac HO_5.out).2.2 t86;cases e90;have p40:0≤(t86:Int):=Zs.od;have q40:(t86:Int)<((x5_3.length:Int):Int):=Zs.od;obtain ⟨go40,co40,eo40,gb40,gl40,cl40,HG40⟩:=Kd.E7 HO_5.out (by omega);(first|cases eo40|(injection eo40 with ea_ en_ ec_;(first|subst ea_|(injection ea_ with ea_;subst ea_));subst ec_;clear en_));have GB40:=Aa.mk gb40;have GG40:=Aa.mk HG40;clear gb40 gl40 HG40;(first|simp only [add_plain] at hx90_0|skip);obtain ⟨hx40_0,hf40_0⟩:=Kd.Co 0 HO_5.out (t86:Int) p40 q40;replace p40:=eq_true p40;replace q40:=eq_true q40;obtain ⟨hy62_,hz62_⟩:=Kd.Co 0 HO_5.out (t86:Int) (Zs.od) (Zs.od);have HP62:=Kd.DV HO_5.out (t86:Int) (wrap64 (Int.tdiv (rd x5_3 t86) t89)))|((with_reducible refine CA (t:=3) (p:=79) rfl ?_);refine Cb (t:=3) (p:=79) (v:=?vo_w63) (w1:=(w61.setCell ⟨go40,(t86:Int).toNat,none⟩ (.int .i64 (wrap64 (Int.tdiv (rd x5_3 t86) t89))))) ?hg ?ho ?hn ?hr ?_;(case ho=>rfl);(case hg=>rfl);(case hn=>rfl);(case hr=>first|(go_simp;done)|(go_simp;rfl));intro w63 hw;have hg:w61.grownBy w63 (some go40):=(by rw [hw];exact HP62.2);have hp_:Kd.R (Kd.int .i64) 3 w63 w.heap.size (fun k_=>some k_≠(v75:Value).ownBlock) (.slice (some ⟨go40,0,none⟩) x5_3.length co60) y91:=(by rw [hw,Ny91.out];exact HP62.1);clear HP62;replace HO_5:=Aa.mk (hp_);replace HO_6:=Aa.mk (Kd.BW (v:=(.slice (some ⟨go40,0,none⟩) x5_3.length co60)) (v1:=(.slice (some ⟨go40,0,none⟩) x5_3.length co60)) (ok:=(fun _=>True)) ((Zs.mvR (Kd.AB HO_6.out (fun _ hk=>⟨trivial,hk⟩)))) hg (.inl rfl));replace HB:=Aa.mk ((by rw [hw];exact AE (HB.out) GB40.out:Below w.heap.size w w63));clear hg hw hp_;have p92:0≤(t88:Int):=Zs.od;have q92:t88<(y91.length:Int):=(by have h_:(t88:Int)<((x5_3.length:Int):Int):=Zs.od;first|(have e_:=(Kd.Ac HO_5.out).1;omega)|simpa only [Ny91.out,List.length_set] using h_);have ql92:((t88:Int)<((x5_3.length:Int):Int))=True:=eq_true (Zs.od);have hx92_0:=Zq.pl (Kd.Ac HO_5.out).2.2 t88 p92 q92;replace p92:=eq_true p92;replace q92:=eq_true q92;have p43:0≤(t88:Int):=Zs.od;have q43:(t88:Int)<((x5_3.length:Int):Int):=Zs.od;obtain ⟨hx43_0,hf43_0⟩:=Kd.Co 0 HO_5.out (t88:Int) p43 q43;replace p43:=eq_true p43;replace q43:=eq_true q43;obtain ⟨hy64_,hz64_⟩:=Kd.Co 0 HO_5.out (t88:Int) (Zs.od) (Zs.od);have HP64:=Kd.DV HO_5.out (t88:Int) (wrap64 (Int.tdiv (rd y91 t88) t89)))|((with_reducible refine CA (t:=3) (p:=86) rfl ?_);refine Cb (t:=3) (p:=86) (v:=?vo_w65) (w1:=(w63.setCell ⟨go40,(t88:Int).toNat,none⟩ (.int .i64 (wrap64 (Int.tdiv (rd y91 t88) t89))))) ?hg ?ho ?hn ?hr ?_;(case ho=>rfl);(case hg=>rfl);(case hn=>rfl);(case hr=>first|(go_simp;done)|(go_simp;rfl));intro w65 hw;have hg:w63.grownBy w65 (some go40):=(by rw [hw];exact HP64.2);have hp_:Kd.R (Kd.int .i64) 3 w65 w.heap.size (fun k_=>some k_≠(v75:Value).ownBlock) (.slice (some ⟨go40,0,none⟩) x5_3.length co60) y93:=(by rw [hw,Ny93.out];exact HP64.1);clear HP64;replace HO_5:=Aa.mk (hp_);replace HO_6:=Aa.mk (Kd.BW (v:=(.slice (some ⟨go40,0,none⟩) x5_3.length co60)) (v1:=(.slice (some ⟨go40,0,none⟩) x5_3.length co60)) (ok:=(fun _=>True)) ((Zs.mvR HO_6.out)) hg (.inl rfl));replace HB:=Aa.mk ((by rw [hw];exact AE (HB.out) GB40.out:Below w.heap.size w w65));clear hg hw hp_;have p94:0≤((ji44):Int):=Zs.od;have q94:(ji44)<(y93.length:Int):=(by have h_:((ji44):Int)<((x5_3.length:Int):Int):=Zs.od;first|(have e_:=(Kd.Ac HO_5.out).1;omega)|simpa only [Ny91.out,Ny93.out,List.length_set] using h_);have ql94:(((ji44):Int)<((x5_3.length:Int):Int))=True:=eq_true (Zs.od);have hx94_0:=Zq.pl (Kd.Ac HO_5.out).2.2 (ji44) p94 q94;replace p94:=eq_true p94;replace q94:=eq_true q94;have p97:0≤((ji44):Int):=Zs.od;have q97:(ji44)<(y93.length:Int):=(by have h_:((ji44):Int)<((x5_3.length:Int):Int):=Zs.od;first|(have e_:=(Kd.Ac HO_5.out).1;omega)|simpa only [Ny91.out,Ny93.out,List.length_set] using h_);have ql97:(((ji44):Int)<((x5_3.length:Int):Int))=True:=eq_true (Zs.od);have hx97_0:=Zq.pl (Kd.Ac HO_5.out).2.2 (ji44) p97 q97;replace p97:=eq_true p97;replace q97:=eq_true q97;have p57:0≤((ji44):Int):=Zs.od;have q57:((ji44):Int)<((x5_3.length:Int):Int):=Zs.od;obtain ⟨hx57_0,hf57_0⟩:=Kd.Co 0 HO_5.out ((ji44):Int) p57 q57;replace p57:=eq_true p57;replace q57:=eq_true q57;obtain ⟨hy66_,hz66_⟩:=Kd.Co 0 HO_5.out ((ji44):Int) (Zs.od) (Zs.od);have HP66:=Kd.DV HO_5.out ((ji44):Int) (wrap64 ((rd y93 (ji44))*t89)))|((with_reducible refine CA (t:=3) (p:=107) rfl ?_);refine Cb (t:=3) (p:=107) (v:=?vo_w67) (w1:=(w65.setCell ⟨go40,((ji44):Int).toNat,none⟩ (.int .i64 (wrap64 ((rd y93 (ji44))*t89))))) ?hg ?ho ?hn ?hr ?_;(case ho=>rfl);(case hg=>rfl);(case hn=>rfl);(case hr=>first|(go_simp;done)|(go_simp;rfl));intro w67 hw;have hg:w65.grownBy w67 (some go40):=(by rw [hw];exact HP66.2);have hp_:Kd.R (Kd.int .i64) 3 w67 w.heap.size (fun k_=>some k_≠(v75:Value).ownBlock) (.slice (some ⟨go40,0,none⟩) x5_3.length co60) y98:=(by rw [hw,Ny98.out];exact HP66.1);clear HP66;replace HO_5:=Aa.mk (hp_);replace HO_6:=Aa.mk (Kd.BW (v:=(.slice (some ⟨go40,0,none⟩) x5_3.length co60)) (v1:=(.slice (some ⟨go40,0,none⟩) x5_3.length co60)) (ok:=(fun _=>True)) ((Zs.mvR HO_6.out)) hg (.inl rfl));replace HB:=Aa.mk ((by rw [hw];exact AE (HB.out) GB40.out:Below w.heap.size w w67));clear hg hw hp_;obtain ⟨Ao68,co68,eo68⟩:=Kd.Az HO_6.out;subst eo68;obtain ⟨ad99,e99,hx99_0,p99,q99⟩:=Zq.at_ (Kd.Ac HO_6.out).2.2 (ji44);cases e99;have p59:0≤((ji44):Int):=Zs.od;have q59:((ji44):Int)<((x6_3.length:Int):Int):=Zs.od;obtain ⟨go59,co59,eo59,gb59,gl59,cl59,HG59⟩:=Kd.E7 HO_6.out (by omega);(first|cases eo59|(injection eo59 with ea_ en_ ec_;(first|subst ea_|(injection ea_ with ea_;subst ea_));subst ec_;clear en_));have GB59:=Aa.mk gb59;have GG59:=Aa.mk HG59;clear gb59 gl59 HG59;(first|simp only [add_plain] at hx99_0|skip);obtain ⟨hx59_0,hf59_0⟩:=Kd.Co 0 HO_6.out ((ji44):Int) p59 q59;replace p59:=eq_true p59;replace q59:=eq_true q59;have n_:=Aa.mk (Kd.AB (ok':=(fun k_=>some k_≠(.slice (some ⟨go40,0,none⟩) x5_3.length co60:Value).ownBlock)) HO_6.out (fun k_ hk=>hk.2));clear HO_6;have HO_6:=n_;clear n_;obtain ⟨hy69_,hz69_⟩:=Kd.Co 0 HO_6.out ((ji44):Int) (Zs.od) (Zs.od);have HP69:=Kd.DV HO_6.out ((ji44):Int) (wrap64 ((rd x6_3 (ji44))*t89)))|((with_reducible refine CA (t:=3) (p:=114) rfl ?_);refine Cb (t:=3) (p:=114) (v:=?vo_w70) (w1:=(w67.setCell ⟨go59,((ji44):Int).toNat,none⟩ (.int .i64 (wrap64 ((rd x6_3 (ji44))*t89))))) ?hg ?ho ?hn ?hr ?_;(case ho=>rfl);(case hg=>rfl);(case hn=>rfl);(case hr=>first|(go_simp;done)|(go_simp;rfl));intro w70 hw;have hg:w67.grownBy w70 (some go59):=(by rw [hw];exact HP69.2);have hp_:Kd.R (Kd.int .i64) 3 w70 w.heap.size (fun k_=>some k_≠(.slice (some ⟨go40,0,none⟩) x5_3.length co60:Value).ownBlock) (.slice (some ⟨go59,0,none⟩) x6_3.length co68) y265:=(by rw [hw,Ny265.out];exact HP69.1);clear HP69;replace HO_5:=Aa.mk (Kd.BW (v:=(.slice (some ⟨go59,0,none⟩) x6_3.length co68)) (v1:=(.slice (some ⟨go59,0,none⟩) x6_3.length co68)) (ok:=(fun _=>True)) ((Zs.mvR (Kd.AB HO_5.out (fun _ hk=>⟨trivial,hk⟩)))) hg (.inl rfl));replace HO_6:=Aa.mk (hp_);replace HB:=Aa.mk ((by rw [hw];exact AE (HB.out) GB59.out:Below w.heap.size w w70));clear hg hw hp_))
           go_roundg k3
           case measure=>have:=HJ1.out;have:=HK2.out;have:=HK3.out;omega
           case rel=>exact ⟨(y98),(y265),H',⟨by have:=HJ1.out;have:=HK2.out;have:=HK3.out;omega⟩,⟨(Zs.mvR (Kd.AB HO_5.out Zq.tk))⟩,⟨(Zs.mvR HO_6.out)⟩,⟨Zs.auHB⟩⟩
   ·replace H:=Zq.th H;simp only [Option.some.injEq,Prod.mk.injEq] at H;obtain ⟨rfl,rfl,rfl⟩:=H;go_wp2
    go_ret3
    exact ⟨_,_,Zs.auR,Zq.nl,Zq.nl,Zs.auHB⟩
def AJ.l0:Nat→Int→Int→Int→Option (Int×Bool)
 | 0,_,_,_=>none
 | k+1,x0,x4,x5=>if x5>0 then if (wrap64 ((wrap64 (x4+x5))*(wrap64 (x4+x5))))≤x0 then AJ.l0 k x0 (wrap64 (x4+x5)) (wrap64 (Int.tdiv x5 2)) else AJ.l0 k x0 x4 (wrap64 (Int.tdiv x5 2)) else some (x4,((wrap64 (x4*x4))==x0))
def AJ.f (k:Nat) (a0:Int):Option (Int×Bool):=if a0<0 then some (0,false) else AJ.l0 k a0 0 1073741824
theorem AJ.calls (k:Nat) (a0 r1:Int) (r2:Bool) (w:World) (h:AJ.f k a0=some (r1,r2)) :
  Calls Tryz.prog 110 #[.int .i64 a0] w fun e w'=>e = .returned (.tuple #[.int .i64 r1,.bool r2])∧Bo w w':=by
 unfold AJ.f at h;have H:=h;clear h
 rcases Zq.jd H with ⟨c2b0,H⟩|⟨c2b0,H⟩
 ·obtain ⟨rfl,rfl⟩:=Zq.pi H
  go_enter Tryz.func110,Tryz.ntmps110
  go_wp2;go_ret2
  exact ⟨Zs.auS,Zq.dr⟩
 ·have H':=Aa.mk H;clear H
  go_enter Tryz.func110,Tryz.ntmps110
  go_wp2
  go_loopg [4,5] k (fun kq v4 v5 w' => ∃x4_1 x5_1:Int,v4 = .int .i64 x4_1∧v5 = .int .i64 x5_1∧Aa (AJ.l0 kq a0 x4_1 x5_1=some (r1,r2))∧Aa (kq≤k)∧Bo w w')
  case atStart=>exact ⟨(0),(1073741824),Zs.auS,Zs.auS,H',⟨Nat.le_refl _⟩,Zq.dr⟩
  case round =>
   clear H'
   obtain ⟨x4_1,x5_1,rfl,rfl,HA,HK1,⟨m1,rfl⟩⟩:=hrel;cases gk with
   | zero=>exact absurd HA.out (by simp [AJ.l0])
   | succ k1 =>
    have H:=HA.out;clear HA;simp only [AJ.l0] at H
    rcases Zq.jg H with ⟨c3b0,H⟩|⟨c3b0,H⟩
    ·rcases Zq.jd H with ⟨c4b0,H⟩|⟨c4b0,H⟩
     ·have H':=Aa.mk H;clear H;go_wp2
      go_roundg k1
      case measure=>have:=HK1.out;omega
      case rel=>exact ⟨(wrap64 (x4_1+x5_1)),(wrap64 (Int.tdiv x5_1 2)),Zs.auS,Zs.auS,H',⟨by have:=HK1.out;omega⟩,Zq.dr⟩
     ·have H':=Aa.mk H;clear H;go_wp2
      go_roundg k1
      case measure=>have:=HK1.out;omega
      case rel=>exact ⟨(x4_1),(wrap64 (Int.tdiv x5_1 2)),Zs.auS,Zs.auS,H',⟨by have:=HK1.out;omega⟩,Zq.dr⟩
    ·obtain ⟨rfl,rfl⟩:=Zq.pi H;go_wp2;go_ret2
     exact ⟨Zs.auS,Zq.dr⟩
mutual
def Ae.l0:Nat→List Int→List Int→Int→Int→Option (List Int×Bool)
 | 0,_,_,_,_=>none
 | k+1,x0,x22,x23,x24=>if x24<x23 then if 0≤x24 then if x24<(x22.length:Int) then if (rd x22 x24)=0 then Ae.j1 k x0 (rd x22 x24) x22 x23 x24 true else (BB.f (rd x22 x24)).bind fun t3=>(Ae.j1 k x0 (rd x22 x24) x22 x23 x24 (decide (t3>30000))) else none else none else (Cq.f k x0).bind fun bt4=>(if bt4.2.2=0 then (Be.f k x0).bind fun t5=>((BB.f t5).bind fun t6=>(Ae.j2 k x0 (decide (t6>30000)))) else Ae.j2 k x0 true)
def Ae.j1:Nat→List Int→Int→List Int→Int→Int→Bool→Option (List Int×Bool)
 | 0,_,_,_,_,_,_=>none
 | k+1,x0,x5,x22,x23,x24,x34=>if x34=true then some (([]:List Int),false) else (AW.f k x5).bind fun bt3=>(if bt3.2=1 then Ae.l0 k x0 x22 x23 (wrap64 (x24+1)) else some (([]:List Int),false))
def Ae.j2:Nat→List Int→Bool→Option (List Int×Bool)
 | 0,_,_=>none
 | k+1,x0,x56=>if x56=true then some (([]:List Int),false) else if 0<(x0.length:Int) then if 1<(x0.length:Int) then if 2<(x0.length:Int) then Ae.l1 k (rd x0 0) (rd x0 1) (rd x0 2) 0 else none else none else none
def Ae.l1:Nat→Int→Int→Int→Int→Option (List Int×Bool)
 | 0,_,_,_,_=>none
 | k+1,x11,x12,x13,x14=>(BB.f (wrap64 (x12*x13))).bind fun t3=>(if (wrap64 (x14*x14))≤t3 then Ae.l2 k x11 x12 x13 x14 0 else some (([]:List Int),false))
def Ae.l2:Nat→Int→Int→Int→Int→Int→Option (List Int×Bool)
 | 0,_,_,_,_,_=>none
 | k+1,x11,x12,x13,x14,x15=>(BB.f (wrap64 (x11*x13))).bind fun t3=>(if (wrap64 (x15*x15))≤t3 then if x13=0 then none else if (Int.tmod (wrap64 ((wrap64 ((wrap64 ((wrap64 (-x11))*x14))*x14))-(wrap64 ((wrap64 (x12*x15))*x15)))) x13)=0 then (AJ.f k (wrap64 (Int.tdiv (wrap64 ((wrap64 ((wrap64 ((wrap64 (-x11))*x14))*x14))-(wrap64 ((wrap64 (x12*x15))*x15)))) x13))).bind fun bt4=>(if bt4.2=true then if x14=0 then if x15=0 then if bt4.1=0 then Ae.l2 k x11 x12 x13 x14 (wrap64 (x15+1)) else some ((([x14,x15,bt4.1]:List Int)),true) else some ((([x14,x15,bt4.1]:List Int)),true) else some ((([x14,x15,bt4.1]:List Int)),true) else Ae.l2 k x11 x12 x13 x14 (wrap64 (x15+1))) else Ae.l2 k x11 x12 x13 x14 (wrap64 (x15+1)) else Ae.l1 k x11 x12 x13 (wrap64 (x14+1)))
end
def Ae.f (k:Nat) (l0:List Int):Option (List Int×Bool):=if (l0.length:Int)=3 then Ae.l0 k l0 l0 (l0.length:Int) 0 else some (([]:List Int),false)
theorem Ae.calls (k:Nat) (A0:Option Addr) (c0:Nat) (l0 r1:List Int) (r2:Bool) (w:World) (hr0:Kd.C (Kd.int .i64) w A0 l0.length l0) (hc0:l0.length≤c0) (h:Ae.f k l0=some (r1,r2)) :
  Calls Tryz.prog 79 #[.slice A0 l0.length c0] w fun e w' => ∃v0_:Value,e = .returned (.tuple #[v0_,.bool r2])∧Kd.R (Kd.int .i64) 3 w' w.heap.size (fun _=>True) v0_ r1∧Below w.heap.size w w':=by
 have HR0:=Aa.mk hr0;have HC0:=Aa.mk hc0;clear hr0 hc0;have HB:=Aa.mk (Below.refl w.heap.size w);unfold Ae.f at h;have H:=h;clear h
 rcases Zq.ii H with ⟨c2,H⟩|⟨c2,H⟩
 ·have c2b1:=bne_eq_false_iff_eq.mpr c2;clear c2;have H':=Aa.mk H;clear H
  go_enter Tryz.func79,Tryz.ntmps79
  go_wp2
  go_loopg [24] k (fun kq v24 w' => ∃x24_1:Int,v24 = .int .i64 x24_1∧Aa (Ae.l0 kq l0 l0 (l0.length:Int) x24_1=some (r1,r2))∧Aa (kq≤k)∧Aa (Below w.heap.size w w'))
  case atStart=>exact ⟨(0),Zs.auS,H',⟨Nat.le_refl _⟩,⟨Zs.auHB⟩⟩
  case round =>
   clear H'
   obtain ⟨x24_1,rfl,HA,HK1,HB⟩:=hrel;cases gk with
   | zero=>exact absurd HA.out (by simp [Ae.l0])
   | succ k1 =>
    have H:=HA.out;clear HA;simp only [Ae.l0] at H
    rcases Zq.jd H with ⟨c3b0,H⟩|⟨c3b0,H⟩
    ·obtain ⟨c4b0,H⟩:=Zq.pd H
     obtain ⟨c5b0,H⟩:=Zq.pd H;have HC6:=Aa.mk H;clear H;obtain ⟨ad22,e22,hx22_0,p22,q22⟩:=Zq.at_ HR0.out x24_1;cases e22;replace hx22_0:=Zq.ce HB.out hx22_0
     go_upto_region 6 with (fail)
     go_cut [34] (fun v34 wc => ∃(kq:Nat) (x34_5:Bool),v34 = .bool x34_5∧Aa (Ae.j1 kq l0 (rd l0 x24_1) l0 (l0.length:Int) x24_1 x34_5=some (r1,r2))∧Aa (kq≤k1)∧Aa (Below w.heap.size w wc))
     case first =>
      have H:=HC6.out;clear HC6
      rcases Zq.jn H with ⟨c7b0,H⟩|⟨c7,c7b0,H⟩
      ·have H':=Aa.mk H;clear H;go_wp2
       go_meet
       case rel=>exact ⟨_,(true),Zs.auS,H',⟨by have:=HK1.out;first|omega|exact Nat.le_refl _⟩,⟨Zs.auHB⟩⟩
      ·obtain ⟨t52,A8,H⟩:=Zs.be H;have H':=Aa.mk H;clear H
       go_wp2_with ((go_at_call 112;(with_reducible refine (BB.calls (rd l0 x24_1) t52 _ A8.out).mono ?_);rintro e w9 ⟨rfl,hb⟩;replace HB:=Zq.st hb;(try clear hb)))
       go_meet
       case rel=>exact ⟨_,(decide (t52>30000)),Zs.auS,H',⟨by have:=HK1.out;first|omega|exact Nat.le_refl _⟩,⟨Zs.auHB⟩⟩
     case rest =>
      clear HC6
      obtain ⟨kq,x34_5,rfl,HA,HJ5,HB⟩:=hcut;cases kq with
      | zero=>exact absurd HA.out (by simp [Ae.j1])
      | succ kj5 =>
       have H:=HA.out;clear HA;simp only [Ae.j1] at H
       cases x34_5
       ·replace H:=Zq.fh H;obtain ⟨t53,t54,A11,H⟩:=Zq.bp H;try dsimp only at H
        rcases Zq.ii H with ⟨c12,H⟩|⟨c12,H⟩
        ·have c12b1:=bne_eq_false_iff_eq.mpr c12;clear c12;have H':=Aa.mk H;clear H
         go_wp2_with ((go_at_call 61;(with_reducible refine (AW.calls kj5 (rd l0 x24_1) t53 t54 _ A11.out).mono ?_);rintro e w13 ⟨rfl,hb⟩;replace HB:=Zq.st hb;(try clear hb)))
         go_roundg kj5
         case measure=>have:=HK1.out;have:=HJ5.out;omega
         case rel=>exact ⟨(wrap64 (x24_1+1)),Zs.auS,H',⟨by have:=HK1.out;have:=HJ5.out;omega⟩,⟨Zs.auHB⟩⟩
        ·have c12b1:=bne_iff_ne.mpr c12;obtain ⟨rfl,rfl⟩:=Zq.pi H
         go_wp2_with ((go_at_call 61;(with_reducible refine (AW.calls kj5 (rd l0 x24_1) t53 t54 _ A11.out).mono ?_);rintro e w14 ⟨rfl,hb⟩;replace HB:=Zq.st hb;(try clear hb)))
         go_ret2
         exact ⟨_,Zs.auR,Zq.nl,Zs.auHB⟩
       ·replace H:=Zq.th H;obtain ⟨rfl,rfl⟩:=Zq.pi H;go_wp2
        go_ret2
        exact ⟨_,Zs.auR,Zq.nl,Zs.auHB⟩
    ·replace H:=Option.bind_eq_some_iff.mp H;obtain ⟨⟨t55,t57,t58⟩,A10,H⟩:=H;try dsimp only at H;have A15:=Aa.mk A10;clear A10;have HC16:=Aa.mk H;clear H
     go_upto_region 13 with ((go_at_call 135;(with_reducible refine (Cq.calls k1 _ _ l0 t55 t57 t58 _ ?side1 ?side2 A15.out).mono ?_);(case side1=>exact Zs.mvC ((Kd.BF HR0.out HB.out)));(case side2=>exact HC0.out);rintro e w17 ⟨rfl,hb⟩;replace HB:=Zq.st hb;(try clear hb)))
     (try simp only [Act.put,List.setIfInBounds_toArray,List.set_cons_zero,List.set_cons_succ])
     go_cut [56] (fun v56 wc => ∃(kq:Nat) (x56_15:Bool),v56 = .bool x56_15∧Aa (Ae.j2 kq l0 x56_15=some (r1,r2))∧Aa (kq≤k1)∧Aa (Below w.heap.size w wc))
     case first =>
      have H:=HC16.out;clear HC16
      rcases Zq.ii H with ⟨c18,H⟩|⟨c18,H⟩
      ·have c18b1:=bne_eq_false_iff_eq.mpr c18;clear c18
       obtain ⟨t59,A19,H⟩:=Zs.be H;obtain ⟨t60,A20,H⟩:=Zs.be H;have H':=Aa.mk H;clear H
       go_wp2_with (first|(go_at_call 65;(with_reducible refine (Be.calls k1 _ _ l0 t59 _ ?side1 ?side2 A19.out).mono ?_);(case side1=>exact Zs.mvC ((Kd.BF HR0.out HB.out)));(case side2=>exact HC0.out);rintro e w' ⟨rfl,⟨nd,rfl⟩⟩;(try exact Zq.dd))|(go_at_call 112;(with_reducible refine (BB.calls t59 t60 _ A20.out).mono ?_);rintro e w21 ⟨rfl,hb⟩;replace HB:=Zq.st hb;(try clear hb)))
       go_meet
       case rel=>exact ⟨_,(decide (t60>30000)),Zs.auS,H',⟨by have:=HK1.out;first|omega|exact Nat.le_refl _⟩,⟨Zs.auHB⟩⟩
      ·have c18b1:=bne_iff_ne.mpr c18
       have H':=Aa.mk H;clear H;go_wp2
       go_meet
       case rel=>exact ⟨_,(true),Zs.auS,H',⟨by have:=HK1.out;first|omega|exact Nat.le_refl _⟩,⟨Zs.auHB⟩⟩
     case rest =>
      clear HC16
      obtain ⟨kq,x56_15,rfl,HA,HJ15,HB⟩:=hcut;cases kq with
      | zero=>exact absurd HA.out (by simp [Ae.j2])
      | succ kj15 =>
       have H:=HA.out;clear HA;simp only [Ae.j2] at H
       cases x56_15
       ·replace H:=Zq.fh H
        obtain ⟨c23b0,H⟩:=Zq.pd H
        obtain ⟨c24b0,H⟩:=Zq.pd H
        obtain ⟨c25b0,H⟩:=Zq.pd H;have H':=Aa.mk H;clear H;obtain ⟨ad61,e61,hx61_0,p61,q61,qi61⟩:=Zq.a0 HR0.out;cases e61;replace hx61_0:=Zq.ce HB.out hx61_0;obtain ⟨ad62,e62,hx62_0,p62,q62⟩:=Zq.an HR0.out 1 1;obtain rfl:ad61=ad62:=(by injection e62);replace hx62_0:=Zq.ce HB.out hx62_0;obtain ⟨ad63,e63,hx63_0,p63,q63⟩:=Zq.an HR0.out 2 2;obtain rfl:ad61=ad63:=(by injection e63);replace hx63_0:=Zq.ce HB.out hx63_0;go_wp2
        repeat (go_quiet (fail);try go_wp2)
        go_loopg [14] kj15 (fun kq v14 w' => ∃x14_3:Int,v14 = .int .i64 x14_3∧Aa (Ae.l1 kq (rd l0 0) (rd l0 1) (rd l0 2) x14_3=some (r1,r2))∧Aa (kq≤kj15)∧Aa (Below w.heap.size w w'))
        case atStart=>exact ⟨(0),Zs.auS,H',⟨Nat.le_refl _⟩,⟨Zs.auHB⟩⟩
        case round =>
         clear H'
         obtain ⟨x14_3,rfl,HA,HK3,HB⟩:=hrel;cases gk with
         | zero=>exact absurd HA.out (by simp [Ae.l1])
         | succ k3 =>
          have H:=HA.out;clear HA;simp only [Ae.l1] at H;obtain ⟨t65,A26,H⟩:=Zs.be H
          rcases Zq.jd H with ⟨c27b0,H⟩|⟨c27b0,H⟩
          ·have H':=Aa.mk H;clear H
           go_wp2_with ((go_at_call 112;(with_reducible refine (BB.calls (wrap64 ((rd l0 1)*(rd l0 2))) t65 _ A26.out).mono ?_);rintro e w28 ⟨rfl,hb⟩;replace HB:=Zq.st hb;(try clear hb)))
           go_loopg [15] k3 (fun kq v15 w' => ∃x15_4:Int,v15 = .int .i64 x15_4∧Aa (Ae.l2 kq (rd l0 0) (rd l0 1) (rd l0 2) x14_3 x15_4=some (r1,r2))∧Aa (kq≤k3)∧Aa (Below w.heap.size w w'))
           case atStart=>exact ⟨(0),Zs.auS,H',⟨Nat.le_refl _⟩,⟨Zs.auHB⟩⟩
           case round =>
            clear H'
            obtain ⟨x15_4,rfl,HA,HK4,HB⟩:=hrel;cases gk with
            | zero=>exact absurd HA.out (by simp [Ae.l2])
            | succ k4 =>
             have H:=HA.out;clear HA;simp only [Ae.l2] at H;obtain ⟨t66,A29,H⟩:=Zs.be H
             rcases Zq.jd H with ⟨c30b0,H⟩|⟨c30b0,H⟩
             ·rcases Zq.ii H with ⟨c31,H⟩|⟨c31,H⟩
              ·exact absurd H (by simp)
              ·rcases Zq.ii H with ⟨c32,H⟩|⟨c32,H⟩
               ·have c32b1:=bne_eq_false_iff_eq.mpr c32;clear c32;obtain ⟨t67,t68,A33,H⟩:=Zq.bp H;try dsimp only at H
                cases t68
                ·replace H:=Zq.fh H;have H':=Aa.mk H;clear H
                 go_wp2_with (first|(go_at_call 112;(with_reducible refine (BB.calls (wrap64 ((rd l0 0)*(rd l0 2))) t66 _ A29.out).mono ?_);rintro e w48 ⟨rfl,hb⟩;replace HB:=Zq.st hb;(try clear hb))|(go_at_call 110;(with_reducible refine (AJ.calls k4 (wrap64 (Int.tdiv (wrap64 ((wrap64 ((wrap64 ((wrap64 (-(rd l0 0)))*x14_3))*x14_3))-(wrap64 ((wrap64 ((rd l0 1)*x15_4))*x15_4)))) (rd l0 2))) t67 false _ A33.out).mono ?_);rintro e w' ⟨rfl,⟨nd,rfl⟩⟩;(try exact Zq.dd)))
                 go_roundg k4
                 case measure=>have:=HK1.out;have:=HJ15.out;have:=HK3.out;have:=HK4.out;omega
                 case rel=>exact ⟨(wrap64 (x15_4+1)),Zs.auS,H',⟨by have:=HK1.out;have:=HJ15.out;have:=HK3.out;have:=HK4.out;omega⟩,⟨Zs.auHB⟩⟩
                ·replace H:=Zq.th H
                 rcases Zq.ii H with ⟨c35,H⟩|⟨c35,H⟩
                 ·have c35b1:=bne_eq_false_iff_eq.mpr c35;clear c35
                  rcases Zq.ii H with ⟨c36,H⟩|⟨c36,H⟩
                  ·have c36b1:=bne_eq_false_iff_eq.mpr c36;clear c36
                   rcases Zq.ii H with ⟨c37,H⟩|⟨c37,H⟩
                   ·have c37b1:=bne_eq_false_iff_eq.mpr c37;clear c37;have H':=Aa.mk H;clear H
                    go_wp2_with (first|(go_at_call 112;(with_reducible refine (BB.calls (wrap64 ((rd l0 0)*(rd l0 2))) t66 _ A29.out).mono ?_);rintro e w38 ⟨rfl,hb⟩;replace HB:=Zq.st hb;(try clear hb))|(go_at_call 110;(with_reducible refine (AJ.calls k4 (wrap64 (Int.tdiv (wrap64 ((wrap64 ((wrap64 ((wrap64 (-(rd l0 0)))*x14_3))*x14_3))-(wrap64 ((wrap64 ((rd l0 1)*x15_4))*x15_4)))) (rd l0 2))) t67 true _ A33.out).mono ?_);rintro e w' ⟨rfl,⟨nd,rfl⟩⟩;(try exact Zq.dd)))
                    go_roundg k4
                    case measure=>have:=HK1.out;have:=HJ15.out;have:=HK3.out;have:=HK4.out;omega
                    case rel=>exact ⟨(wrap64 (x15_4+1)),Zs.auS,H',⟨by have:=HK1.out;have:=HJ15.out;have:=HK3.out;have:=HK4.out;omega⟩,⟨Zs.auHB⟩⟩
                   ·have c37b1:=bne_iff_ne.mpr c37;generalize hyy:([x14_3,x15_4,t67]:List Int)=y69 at H;have Ny69:=Aa.mk hyy.symm;clear hyy;obtain ⟨rfl,rfl⟩:=Zq.pi H
                    go_wp2_with (first|(go_at_call 112;(with_reducible refine (BB.calls (wrap64 ((rd l0 0)*(rd l0 2))) t66 _ A29.out).mono ?_);rintro e w39 ⟨rfl,hb⟩;replace HB:=Zq.st hb;(try clear hb))|(go_at_call 110;(with_reducible refine (AJ.calls k4 (wrap64 (Int.tdiv (wrap64 ((wrap64 ((wrap64 ((wrap64 (-(rd l0 0)))*x14_3))*x14_3))-(wrap64 ((wrap64 ((rd l0 1)*x15_4))*x15_4)))) (rd l0 2))) t67 true _ A33.out).mono ?_);rintro e w' ⟨rfl,⟨nd,rfl⟩⟩;(try exact Zq.dd))|((with_reducible refine Bb (N:=125) rfl ?_);refine Zq.li ([x14_3,x15_4,t67]:List Int) ?_;intro v70 w40 ho41 hb;(first|rw [← Ny69.out] at ho41|(simp only [Int.reduceToNat] at ho41;rw [← Ny69.out] at ho41));have HO71:=Zq.lw ho41;replace HB:=Zq.st hb;clear hb ho41))
                    go_ret2
                    exact ⟨_,Zs.auR,(Zs.mvR HO71.out),Zs.auHB⟩
                  ·have c36b1:=bne_iff_ne.mpr c36;generalize hyy:([x14_3,x15_4,t67]:List Int)=y72 at H;have Ny72:=Aa.mk hyy.symm;clear hyy;obtain ⟨rfl,rfl⟩:=Zq.pi H
                   go_wp2_with (first|(go_at_call 112;(with_reducible refine (BB.calls (wrap64 ((rd l0 0)*(rd l0 2))) t66 _ A29.out).mono ?_);rintro e w42 ⟨rfl,hb⟩;replace HB:=Zq.st hb;(try clear hb))|(go_at_call 110;(with_reducible refine (AJ.calls k4 (wrap64 (Int.tdiv (wrap64 ((wrap64 ((wrap64 ((wrap64 (-(rd l0 0)))*x14_3))*x14_3))-(wrap64 ((wrap64 ((rd l0 1)*x15_4))*x15_4)))) (rd l0 2))) t67 true _ A33.out).mono ?_);rintro e w' ⟨rfl,⟨nd,rfl⟩⟩;(try exact Zq.dd))|((with_reducible refine Bb (N:=125) rfl ?_);refine Zq.li ([x14_3,x15_4,t67]:List Int) ?_;intro v73 w43 ho44 hb;(first|rw [← Ny72.out] at ho44|(simp only [Int.reduceToNat] at ho44;rw [← Ny72.out] at ho44));have HO74:=Zq.lw ho44;replace HB:=Zq.st hb;clear hb ho44))
                   go_ret2
                   exact ⟨_,Zs.auR,(Zs.mvR HO74.out),Zs.auHB⟩
                 ·have c35b1:=bne_iff_ne.mpr c35;generalize hyy:([x14_3,x15_4,t67]:List Int)=y75 at H;have Ny75:=Aa.mk hyy.symm;clear hyy;obtain ⟨rfl,rfl⟩:=Zq.pi H
                  go_wp2_with (first|(go_at_call 112;(with_reducible refine (BB.calls (wrap64 ((rd l0 0)*(rd l0 2))) t66 _ A29.out).mono ?_);rintro e w45 ⟨rfl,hb⟩;replace HB:=Zq.st hb;(try clear hb))|(go_at_call 110;(with_reducible refine (AJ.calls k4 (wrap64 (Int.tdiv (wrap64 ((wrap64 ((wrap64 ((wrap64 (-(rd l0 0)))*x14_3))*x14_3))-(wrap64 ((wrap64 ((rd l0 1)*x15_4))*x15_4)))) (rd l0 2))) t67 true _ A33.out).mono ?_);rintro e w' ⟨rfl,⟨nd,rfl⟩⟩;(try exact Zq.dd))|((with_reducible refine Bb (N:=125) rfl ?_);refine Zq.li ([x14_3,x15_4,t67]:List Int) ?_;intro v76 w46 ho47 hb;(first|rw [← Ny75.out] at ho47|(simp only [Int.reduceToNat] at ho47;rw [← Ny75.out] at ho47));have HO77:=Zq.lw ho47;replace HB:=Zq.st hb;clear hb ho47))
                  go_ret2
                  exact ⟨_,Zs.auR,(Zs.mvR HO77.out),Zs.auHB⟩
               ·have c32b1:=bne_iff_ne.mpr c32;have H':=Aa.mk H;clear H
                go_wp2_with ((go_at_call 112;(with_reducible refine (BB.calls (wrap64 ((rd l0 0)*(rd l0 2))) t66 _ A29.out).mono ?_);rintro e w49 ⟨rfl,hb⟩;replace HB:=Zq.st hb;(try clear hb)))
                go_roundg k4
                case measure=>have:=HK1.out;have:=HJ15.out;have:=HK3.out;have:=HK4.out;omega
                case rel=>exact ⟨(wrap64 (x15_4+1)),Zs.auS,H',⟨by have:=HK1.out;have:=HJ15.out;have:=HK3.out;have:=HK4.out;omega⟩,⟨Zs.auHB⟩⟩
             ·have H':=Aa.mk H;clear H
              go_wp2_with ((go_at_call 112;(with_reducible refine (BB.calls (wrap64 ((rd l0 0)*(rd l0 2))) t66 _ A29.out).mono ?_);rintro e w50 ⟨rfl,hb⟩;replace HB:=Zq.st hb;(try clear hb)))
              go_roundg k4
              case measure=>have:=HK1.out;have:=HJ15.out;have:=HK3.out;have:=HK4.out;omega
              case rel=>exact ⟨(wrap64 (x14_3+1)),Zs.auS,H',⟨by have:=HK1.out;have:=HJ15.out;have:=HK3.out;have:=HK4.out;omega⟩,⟨Zs.auHB⟩⟩
          ·obtain ⟨rfl,rfl⟩:=Zq.pi H
           go_wp2_with ((go_at_call 112;(with_reducible refine (BB.calls (wrap64 ((rd l0 1)*(rd l0 2))) t65 _ A26.out).mono ?_);rintro e w51 ⟨rfl,hb⟩;replace HB:=Zq.st hb;(try clear hb)))
           go_ret2
           exact ⟨_,Zs.auR,Zq.nl,Zs.auHB⟩
       ·replace H:=Zq.th H;obtain ⟨rfl,rfl⟩:=Zq.pi H;go_wp2
        go_ret2
        exact ⟨_,Zs.auR,Zq.nl,Zs.auHB⟩
 ·have c2b1:=bne_iff_ne.mpr c2;obtain ⟨rfl,rfl⟩:=Zq.pi H
  go_enter Tryz.func79,Tryz.ntmps79
  go_wp2
  go_ret2
  exact ⟨_,Zs.auR,Zq.nl,Zs.auHB⟩
end Go.Proofs.YtacfcoilmdhgnaaGreatDoor.PFnExecuteWhat
