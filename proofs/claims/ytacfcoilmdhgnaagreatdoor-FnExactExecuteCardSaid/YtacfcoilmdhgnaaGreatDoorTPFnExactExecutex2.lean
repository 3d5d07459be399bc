/- A function's Lean twin and its walk, written by a program of this session. -/
import Derived.Test.YtacfcoilmdhgnaaGreatDoorTPFnExactExecutex1
set_option maxHeartbeats 8000000
set_option maxRecDepth 100000
namespace Go.Proofs.YtacfcoilmdhgnaaGreatDoor.PFnExactExecute
open Go.RowKit Go.Proofs.YtacfcoilmdhgnaaGreatDoorW.PrintWords Go.Proofs.YtacfcoilmdhgnaaGreatDoorW.PrintLast Go.Proofs.YtacfcoilmdhgnaaGreatDoorW.PrintMore
attribute [local go_sem] Dy Dx D0 D1 Dc De DA Dz   -- for this text's walks alone
set_option linter.unusedVariables false
set_option linter.unusedSimpArgs false
section
open Locg
def shAt (l0:List Int) (k:Nat) (p q:Int) (next:Option (Int×Int×Int)):Option (Int×Int×Int) :=
 (B2.f k [rd l0 p,rd l0 q]).bind fun d=>if d>1 then ((Bk.f k d).bind fun ps=>if 0<ps.length then some (p,q,rd ps 0) else none) else next
def shF (l0:List Int) (k:Nat):Nat→Option (Int×Int×Int)
 | 0=>shAt l0 k 0 1 (shAt l0 k 0 2 (shAt l0 k 1 2 (some (0,0,0))))
 | 1=>shAt l0 k 0 2 (shAt l0 k 1 2 (some (0,0,0)))
 | 2=>shAt l0 k 1 2 (some (0,0,0))
 | _=>some (0,0,0)
def Cg.f (k:Nat) (l0:List Int):Option (Int×Int×Int):=if 3≤l0.length then shF l0 k 0 else none
theorem sh_pre {α:Type} {d:Kd α} {e n c m:Nat} {w:World} {base:Nat} {ok:Nat→Prop} {A:Option Addr} {xs ys:List α} (h:d.R e w base ok (.slice A n c) xs) (hy:ys=xs.take m):d.R e w base ok (.slice A ys.length c) ys:=by
 subst hy
 rcases Nat.le_total m xs.length with hm|hm
 ·have:=Kd.N0 (m:=m) h hm;rw [show (xs.take m).length=m by rw [List.length_take];omega];exact this
 ·rw [List.take_of_length_le hm];have e:=(Kd.Ac h).1;subst e;exact h
theorem sh_two {w:World} {b:Nat} {x y:Int} (h:w.heap[b]? = some (.cells #[.int .i64 x,.int .i64 y] 3 (0,0))):(Kd.int .i64).C w (some ⟨b,0,none⟩) [x,y].length [x,y]:=by
 refine ⟨rfl,by simp,fun _=>⟨_,rfl,fun j p hj=>⟨[.int .i64 p],rfl,rfl,fun i u hu=>?_⟩⟩⟩
 match i,hu with
 | 0,hu =>
  simp at hu
  subst hu
  match j,hj with
  | 0,hj=>simp at hj;subst hj;exact CK h 0
  | 1,hj=>simp at hj;subst hj;exact CK h 1
theorem KV {w:World} {c:Obj} {x y:Int}:(Kd.int .i64).C ((w.alloc c).alloc (.cells #[.int .i64 x,.int .i64 y] 3 (0,0))).drew (some ⟨w.heap.size+1,0,none⟩) [x,y].length [x,y]:=by
 refine Kd.Hb (sh_two ?_);have:=heap_alloc_new (w.alloc c) (.cells #[.int .i64 x,.int .i64 y] 3 (0,0));have e:(w.alloc c).heap.size=w.heap.size+1:=by simp
 rw [e] at this;exact this
theorem KH {wr w':World} {c:Obj} {b:Nat} {o:Obj} (h:wr.heap[b]? = some o) (hb:Below (wr.alloc c).heap.size (wr.alloc c) w'):w'.heap[b]? = some o:=by
 have hl:=lt_of_block h;have e:(wr.alloc c).heap.size=wr.heap.size+1:=by simp
 rw [hb.block b (by omega),((Below.refl wr.heap.size wr).alloc (Nat.le_refl _) c).block b hl];exact h
theorem Jv {fn:Func} {t u v:Tmp} (h:fn.results=#[.tmp t,.tmp u,.tmp v]) (tmps:Array Value) (P:Program) (w:World) :
  (results fn tmps).run P w = .ok (.tuple #[tmps.getD t undef,tmps.getD u undef,tmps.getD v undef]) w:=by
 simp [results,h]
theorem sh_lt {w:World} {a:Addr} {v:Value} (h:w.cell? a=some v):a.block<w.heap.size:=by
 by_cases ha:a.block<w.heap.size
 ·exact ha
 ·have:w.heap[a.block]? = none:=Array.getElem?_eq_none (by omega)
  simp [World.cell?,this] at h
theorem Fb {wr w':World} {t:Nat} {p q x y:Value} {a b:Addr} (h:wr.cell? a=some x) (h':wr.cell? b=some y) (hb:Below (wr.alloc (.cells #[p,q] t (0,0))).heap.size (wr.alloc (.cells #[p,q] t (0,0))) w') :
  w'.cell? ⟨wr.heap.size,0,none⟩=some p∧w'.cell? ⟨wr.heap.size,1,none⟩=some q∧w'.cell? a=some x∧w'.cell? b=some y∧Below (wr.alloc (.cells #[p,q] t (0,0))).heap.size (wr.alloc (.cells #[p,q] t (0,0))) w':=by
 have ha:=sh_lt h;have hb':=sh_lt h';have e:(wr.alloc (.cells #[p,q] t (0,0))).heap.size=wr.heap.size+1:=by simp
 have hn:=CK (heap_alloc_new wr (.cells #[p,q] t (0,0)));refine ⟨?_,?_,?_,?_,hb⟩
 ·rw [hb.cell (by rw [e];exact Nat.lt_succ_self _)];exact hn 0
 ·rw [hb.cell (by rw [e];exact Nat.lt_succ_self _)];exact hn 1
 ·rw [hb.cell (by omega)];exact ((Below.refl wr.heap.size wr).alloc (Nat.le_refl _) _ |>.cell ha).trans h
 ·rw [hb.cell (by omega)];exact ((Below.refl wr.heap.size wr).alloc (Nat.le_refl _) _ |>.cell hb').trans h'
set_option maxHeartbeats 4000000 in
theorem Cg.calls (k:Nat) (A0:Option Addr) (c0:Nat) (l0:List Int) (r1 r2 r3:Int) (w:World) (hr0:Kd.C (Kd.int .i64) w A0 l0.length l0) (hc0:l0.length≤c0) (h:Cg.f k l0=some (r1,r2,r3)) :
  Calls Tryz.prog 135 #[.slice A0 l0.length c0] w fun e w'=>e = .returned (.tuple #[.int .i64 r1,.int .i64 r2,.int .i64 r3])∧Below w.heap.size w w':=by
 unfold Cg.f at h
 by_cases hl:3≤l0.length
 ·rw [if_pos hl] at h;have HR0:=Aa.mk hr0;have HC0:=Aa.mk hc0;have HH:=Aa.mk h;have HL:=Aa.mk hl;clear hr0 hc0 h hl
  go_enter Tryz.func135,Tryz.ntmps135
  go_wp2_with fail
  go_loopw [13] (fun v13 wr => ∃i:Nat,v13 = .int .i64 i∧i≤3∧Aa (shF l0 k i=some (r1,r2,r3))∧Aa (wr.heap[w.heap.size]? = some (.cells #[.int .i64 0,.int .i64 1,.int .i64 0,.int .i64 2,.int .i64 1,.int .i64 2] 119 (0,0)))∧Aa (Below w.heap.size w wr)) (fun v13 _=>3-(intOf v13).toNat)
  case atStart=>exact ⟨0,rfl,by omega,HH,⟨by simpa using heap_alloc_new w _⟩,⟨Al (Below.refl _ _) _⟩⟩
  case round =>
   clear HH;obtain ⟨i,rfl,hi,HF,HG,HB⟩:=hrel;have hcases:i=0∨i=1∨i=2∨i=3:=by omega
   rcases hcases with rfl|rfl|rfl|rfl
   ·unfold shF shAt at HF
    obtain ⟨d,hd,hd2⟩:=Option.bind_eq_some_iff.mp HF.out;have HD:=Aa.mk hd;have HD2:=Aa.mk hd2;clear HF hd hd2;have cl0:=CK HG.out 0;have cl1:=CK HG.out 1
    simp at cl0 cl1
    have HC:=Kd.Bw HR0.out HB.out;have hl:=HL.out;obtain ⟨ad,rfl,ht0⟩:=Kd.Du HC 0 (by omega) (by omega);obtain ⟨ad',e_,ht1⟩:=Kd.Du HC 1 (by omega) (by omega);cases e_;have hs0:wr.cell? ad=some (.int .i64 (rd l0 0)):=ht0;have hs1:wr.cell? ⟨ad.block,ad.off+1,none⟩=some (.int .i64 (rd l0 1)):=ht1;clear ht0 ht1;have b0:0<l0.length:=by omega
    have b1:(1:Int)<(l0.length:Int):=by omega
    go_wp2_with fail
    have hlt:=lt_of_block HG.out
    go_region_held3 (fun w'=>w'.cell? ⟨wr.heap.size,0,none⟩=some (.int .i64 0)∧w'.cell? ⟨wr.heap.size,1,none⟩=some (.int .i64 1)∧w'.cell? ad=some (.int .i64 (rd l0 0))∧w'.cell? ⟨ad.block,ad.off+1,none⟩=some (.int .i64 (rd l0 1))∧Below (wr.alloc (.cells #[.int .i64 0,.int .i64 1] 119 (0,0))).heap.size (wr.alloc (.cells #[.int .i64 0,.int .i64 1] 119 (0,0))) w')
     ((refine Fb hs0 hs1 ?_;go_split_ands;first|assumption|exact Cs (Below.refl _ _)|exact Cs (Al (Below.refl _ _) _)|(refine Ch (Cs (Al (Below.refl _ _) _)) ?_;assumption)|(refine Cs ?_;assumption)|(refine Al ?_ _;assumption)|(refine Ch ?_ ?_<;>assumption)))
     (first|(go_at_call 88;refine (B2.calls k _ _ [rd l0 0,rd l0 1] d _ ?s1 ?s2 HD.out).mono ?_;(case s1=>exact KV);(case s2=>simp);rintro e w1 ⟨rfl,hb⟩;have hb2:=Ch (Cs (Al (Below.refl _ _) _)) hb;clear hb;dsimp only))
    go_split_ands
    rename_i g0 g1 g2 g3 g4
    by_cases hd:d>1
    ·have hd2:=HD2.out;rw [if_pos hd] at hd2;obtain ⟨ps,hp1,hp2⟩:=Option.bind_eq_some_iff.mp hd2
     by_cases hp:0<ps.length
     ·rw [if_pos hp] at hp2;simp only [Option.some.injEq,Prod.mk.injEq] at hp2;obtain ⟨rfl,rfl,rfl⟩:=hp2;have HP:=Aa.mk hp1;clear hd2 hp1 HD2 HD
      go_wp2_with fail
      go_region_with ((go_at_call 113;refine (Bk.calls k d ps _ HP.out).mono ?_;rintro e w2 ⟨v,rfl,ho,hb⟩;have hb3:=Ch (Cs g4) hb;have z0:=(Fb hs0 hs1 hb3).1;have z1:=(Fb hs0 hs1 hb3).2.1;have hz:=Ch (Al HB.out _) hb3;obtain ⟨Ao,co,rfl⟩:=Kd.AD ho;obtain ⟨ao,rfl,hps⟩:=Kd.Du (Kd.Ac ho).2.2 0 (by omega) (by omega);have hps0:w2.cell? ao=some (.int .i64 (rd ps 0)):=hps;clear hps ho hb;dsimp only))
      all_goals (go_wp2_with fail;(try simp only [Exit.inBlock,Exit.then]);refine bodyPost_ret (Jv rfl _ _ _) rfl ?_;exact ⟨rfl,hz⟩)
     ·rw [if_neg hp] at hp2;cases hp2
    ·have hd2:=HD2.out;rw [if_neg hd] at hd2
     go_wp2_with fail
     exact ⟨⟨0+1,rfl,by omega,⟨hd2⟩,⟨KH HG.out g4⟩,⟨Ch (Al HB.out _) g4⟩⟩,by simp [intOf]⟩
   ·unfold shF shAt at HF
    obtain ⟨d,hd,hd2⟩:=Option.bind_eq_some_iff.mp HF.out;have HD:=Aa.mk hd;have HD2:=Aa.mk hd2;clear HF hd hd2;have cl0:=CK HG.out 2;have cl1:=CK HG.out 3
    simp at cl0 cl1
    have HC:=Kd.Bw HR0.out HB.out;have hl:=HL.out;obtain ⟨ad,rfl,ht0⟩:=Kd.Du HC 0 (by omega) (by omega);obtain ⟨ad',e_,ht1⟩:=Kd.Du HC 2 (by omega) (by omega);cases e_;have hs0:wr.cell? ad=some (.int .i64 (rd l0 0)):=ht0;have hs1:wr.cell? ⟨ad.block,ad.off+2,none⟩=some (.int .i64 (rd l0 2)):=ht1;clear ht0 ht1;have b0:0<l0.length:=by omega
    have b1:(2:Int)<(l0.length:Int):=by omega
    go_wp2_with fail
    have hlt:=lt_of_block HG.out
    go_region_held3 (fun w'=>w'.cell? ⟨wr.heap.size,0,none⟩=some (.int .i64 0)∧w'.cell? ⟨wr.heap.size,1,none⟩=some (.int .i64 2)∧w'.cell? ad=some (.int .i64 (rd l0 0))∧w'.cell? ⟨ad.block,ad.off+2,none⟩=some (.int .i64 (rd l0 2))∧Below (wr.alloc (.cells #[.int .i64 0,.int .i64 2] 119 (0,0))).heap.size (wr.alloc (.cells #[.int .i64 0,.int .i64 2] 119 (0,0))) w')
     ((refine Fb hs0 hs1 ?_;go_split_ands;first|assumption|exact Cs (Below.refl _ _)|exact Cs (Al (Below.refl _ _) _)|(refine Ch (Cs (Al (Below.refl _ _) _)) ?_;assumption)|(refine Cs ?_;assumption)|(refine Al ?_ _;assumption)|(refine Ch ?_ ?_<;>assumption)))
     (first|(go_at_call 88;refine (B2.calls k _ _ [rd l0 0,rd l0 2] d _ ?s1 ?s2 HD.out).mono ?_;(case s1=>exact KV);(case s2=>simp);rintro e w1 ⟨rfl,hb⟩;have hb2:=Ch (Cs (Al (Below.refl _ _) _)) hb;clear hb;dsimp only))
    go_split_ands
    rename_i g0 g1 g2 g3 g4
    by_cases hd:d>1
    ·have hd2:=HD2.out;rw [if_pos hd] at hd2;obtain ⟨ps,hp1,hp2⟩:=Option.bind_eq_some_iff.mp hd2
     by_cases hp:0<ps.length
     ·rw [if_pos hp] at hp2;simp only [Option.some.injEq,Prod.mk.injEq] at hp2;obtain ⟨rfl,rfl,rfl⟩:=hp2;have HP:=Aa.mk hp1;clear hd2 hp1 HD2 HD
      go_wp2_with fail
      go_region_with ((go_at_call 113;refine (Bk.calls k d ps _ HP.out).mono ?_;rintro e w2 ⟨v,rfl,ho,hb⟩;have hb3:=Ch (Cs g4) hb;have z0:=(Fb hs0 hs1 hb3).1;have z1:=(Fb hs0 hs1 hb3).2.1;have hz:=Ch (Al HB.out _) hb3;obtain ⟨Ao,co,rfl⟩:=Kd.AD ho;obtain ⟨ao,rfl,hps⟩:=Kd.Du (Kd.Ac ho).2.2 0 (by omega) (by omega);have hps0:w2.cell? ao=some (.int .i64 (rd ps 0)):=hps;clear hps ho hb;dsimp only))
      all_goals (go_wp2_with fail;(try simp only [Exit.inBlock,Exit.then]);refine bodyPost_ret (Jv rfl _ _ _) rfl ?_;exact ⟨rfl,hz⟩)
     ·rw [if_neg hp] at hp2;cases hp2
    ·have hd2:=HD2.out;rw [if_neg hd] at hd2
     go_wp2_with fail
     exact ⟨⟨1+1,rfl,by omega,⟨hd2⟩,⟨KH HG.out g4⟩,⟨Ch (Al HB.out _) g4⟩⟩,by simp [intOf]⟩
   ·unfold shF shAt at HF
    obtain ⟨d,hd,hd2⟩:=Option.bind_eq_some_iff.mp HF.out;have HD:=Aa.mk hd;have HD2:=Aa.mk hd2;clear HF hd hd2;have cl0:=CK HG.out 4;have cl1:=CK HG.out 5
    simp at cl0 cl1
    have HC:=Kd.Bw HR0.out HB.out;have hl:=HL.out;obtain ⟨ad,rfl,ht0⟩:=Kd.Du HC 1 (by omega) (by omega);obtain ⟨ad',e_,ht1⟩:=Kd.Du HC 2 (by omega) (by omega);cases e_;have hs0:wr.cell? ⟨ad.block,ad.off+1,none⟩=some (.int .i64 (rd l0 1)):=ht0;have hs1:wr.cell? ⟨ad.block,ad.off+2,none⟩=some (.int .i64 (rd l0 2)):=ht1;clear ht0 ht1;have b0:(1:Int)<(l0.length:Int):=by omega
    have b1:(2:Int)<(l0.length:Int):=by omega
    go_wp2_with fail
    have hlt:=lt_of_block HG.out
    go_region_held3 (fun w'=>w'.cell? ⟨wr.heap.size,0,none⟩=some (.int .i64 1)∧w'.cell? ⟨wr.heap.size,1,none⟩=some (.int .i64 2)∧w'.cell? ⟨ad.block,ad.off+1,none⟩=some (.int .i64 (rd l0 1))∧w'.cell? ⟨ad.block,ad.off+2,none⟩=some (.int .i64 (rd l0 2))∧Below (wr.alloc (.cells #[.int .i64 1,.int .i64 2] 119 (0,0))).heap.size (wr.alloc (.cells #[.int .i64 1,.int .i64 2] 119 (0,0))) w')
     ((refine Fb hs0 hs1 ?_;go_split_ands;first|assumption|exact Cs (Below.refl _ _)|exact Cs (Al (Below.refl _ _) _)|(refine Ch (Cs (Al (Below.refl _ _) _)) ?_;assumption)|(refine Cs ?_;assumption)|(refine Al ?_ _;assumption)|(refine Ch ?_ ?_<;>assumption)))
     (first|(go_at_call 88;refine (B2.calls k _ _ [rd l0 1,rd l0 2] d _ ?s1 ?s2 HD.out).mono ?_;(case s1=>exact KV);(case s2=>simp);rintro e w1 ⟨rfl,hb⟩;have hb2:=Ch (Cs (Al (Below.refl _ _) _)) hb;clear hb;dsimp only))
    go_split_ands
    rename_i g0 g1 g2 g3 g4
    by_cases hd:d>1
    ·have hd2:=HD2.out;rw [if_pos hd] at hd2;obtain ⟨ps,hp1,hp2⟩:=Option.bind_eq_some_iff.mp hd2
     by_cases hp:0<ps.length
     ·rw [if_pos hp] at hp2;simp only [Option.some.injEq,Prod.mk.injEq] at hp2;obtain ⟨rfl,rfl,rfl⟩:=hp2;have HP:=Aa.mk hp1;clear hd2 hp1 HD2 HD
      go_wp2_with fail
      go_region_with ((go_at_call 113;refine (Bk.calls k d ps _ HP.out).mono ?_;rintro e w2 ⟨v,rfl,ho,hb⟩;have hb3:=Ch (Cs g4) hb;have z0:=(Fb hs0 hs1 hb3).1;have z1:=(Fb hs0 hs1 hb3).2.1;have hz:=Ch (Al HB.out _) hb3;obtain ⟨Ao,co,rfl⟩:=Kd.AD ho;obtain ⟨ao,rfl,hps⟩:=Kd.Du (Kd.Ac ho).2.2 0 (by omega) (by omega);have hps0:w2.cell? ao=some (.int .i64 (rd ps 0)):=hps;clear hps ho hb;dsimp only))
      all_goals (go_wp2_with fail;(try simp only [Exit.inBlock,Exit.then]);refine bodyPost_ret (Jv rfl _ _ _) rfl ?_;exact ⟨rfl,hz⟩)
     ·rw [if_neg hp] at hp2;cases hp2
    ·have hd2:=HD2.out;rw [if_neg hd] at hd2
     go_wp2_with fail
     exact ⟨⟨2+1,rfl,by omega,⟨hd2⟩,⟨KH HG.out g4⟩,⟨Ch (Al HB.out _) g4⟩⟩,by simp [intOf]⟩
   ·have hf:=HF.out;simp only [shF,Option.some.injEq,Prod.mk.injEq] at hf;obtain ⟨rfl,rfl,rfl⟩:=hf
    go_wp2_with fail
    (try simp only [Exit.inBlock,Exit.then]);refine bodyPost_ret (Jv rfl _ _ _) rfl ?_;exact ⟨rfl,HB.out⟩
 ·rw [if_neg hl] at h;cases h
end
mutual
def Aq.j0:Nat→List Int→Bool→Option (List Int×List Int×Bool)
 | 0,_,_=>none
 | k+1,x0,x21=>if x21=true then (some (([]:List Int),([]:List Int),false)) else ((Be.f x0).bind fun t238=>(Aq.l0 k t238 (([1,1,1]:List Int)) x0 (x0.length:Int) 0))
def Aq.l0:Nat→List Int→List Int→List Int→Int→Int→Option (List Int×List Int×Bool)
 | 0,_,_,_,_,_=>none
 | k+1,x5,x6,x25,x26,x27=>if x27<x26 then (if 0≤x27 then (if x27<(x25.length:Int) then ((AO.f k (rd x25 x27)).bind fun bt245=>(if x27<(x5.length:Int) then (if 0≤(Int.tmod (wrap64 (x27+1)) 3) then (if (Int.tmod (wrap64 (x27+1)) 3)<(x6.length:Int) then ((some (x6.set ((Int.tmod (wrap64 (x27+1)) 3):Int).toNat (wrap64 ((rd x6 (Int.tmod (wrap64 (x27+1)) 3))*bt245.2)):List Int)).bind fun y249=>(if 0≤(Int.tmod (wrap64 (x27+2)) 3) then (if (Int.tmod (wrap64 (x27+2)) 3)<(x6.length:Int) then (Aq.l0 k (x5.set (x27:Int).toNat bt245.1) (y249.set ((Int.tmod (wrap64 (x27+2)) 3):Int).toNat (wrap64 ((rd y249 (Int.tmod (wrap64 (x27+2)) 3))*bt245.2))) x25 x26 (wrap64 (x27+1))) else (none)) else (none))) else (none)) else (none)) else (none))) else (none)) else (none)) else (Aq.l1 k x5 x6)
def Aq.l1:Nat→List Int→List Int→Option (List Int×List Int×Bool)
 | 0,_,_=>none
 | k+1,x5,x6=>(Cg.f k x5).bind fun bt252=>(if bt252.2.2=0 then (some (x5,x6,true)) else (if 0≤bt252.1 then (if bt252.1<(x5.length:Int) then ((some (x5.set (bt252.1:Int).toNat (wrap64 (Int.tdiv (rd x5 bt252.1) bt252.2.2)):List Int)).bind fun y256=>(if 0≤bt252.2.1 then (if bt252.2.1<(x5.length:Int) then ((some (y256.set (bt252.2.1:Int).toNat (wrap64 (Int.tdiv (rd y256 bt252.2.1) bt252.2.2)):List Int)).bind fun y258=>(if 0≤(wrap64 ((wrap64 (3-bt252.1))-bt252.2.1)) then (if (wrap64 ((wrap64 (3-bt252.1))-bt252.2.1))<(x5.length:Int) then (if (Int.tmod (rd y258 (wrap64 ((wrap64 (3-bt252.1))-bt252.2.1))) bt252.2.2)=0 then (Aq.l1 k (y258.set ((wrap64 ((wrap64 (3-bt252.1))-bt252.2.1)):Int).toNat (wrap64 (Int.tdiv (rd y258 (wrap64 ((wrap64 (3-bt252.1))-bt252.2.1))) bt252.2.2))) x6) else (if (wrap64 ((wrap64 (3-bt252.1))-bt252.2.1))<(x6.length:Int) then (Aq.l1 k (y258.set ((wrap64 ((wrap64 (3-bt252.1))-bt252.2.1)):Int).toNat (wrap64 ((rd y258 (wrap64 ((wrap64 (3-bt252.1))-bt252.2.1)))*bt252.2.2))) (x6.set ((wrap64 ((wrap64 (3-bt252.1))-bt252.2.1)):Int).toNat (wrap64 ((rd x6 (wrap64 ((wrap64 (3-bt252.1))-bt252.2.1)))*bt252.2.2)))) else (none))) else (none)) else (none))) else (none)) else (none))) else (none)) else (none)))
end
def Aq.f (k:Nat) (l0:List Int):Option (List Int×List Int×Bool):=(Ai.f k l0).bind fun t237=>(if t237=true then (Aq.j0 k l0 ((l0.length:Int)!=3)) else (Aq.j0 k l0 true))
theorem Aq.calls (k:Nat) (A0:Option Addr) (c0:Nat) (l0:List Int) (r1:List Int) (r2:List Int) (r3:Bool) (w:World) (hr0:Kd.C (Kd.int .i64) w A0 l0.length l0) (hc0:l0.length≤c0) (h:Aq.f k l0=some (r1,r2,r3)) :
  Calls Tryz.prog 78 #[.slice A0 l0.length c0] w fun e w' => ∃v0_ v1_:Value,e = .returned (.tuple #[v0_,v1_,.bool r3])∧Kd.R (Kd.int .i64) 3 w' w.heap.size (fun k_=>some k_≠(v1_:Value).ownBlock) v0_ r1∧Kd.R (Kd.int .i64) 3 w' w.heap.size (fun k_=>some k_≠(v0_:Value).ownBlock) v1_ r2∧Below w.heap.size w w':=by
 have HR0:=Aa.mk hr0;have HC0:=Aa.mk hc0;clear hr0 hc0;have HB:=Aa.mk (Below.refl w.heap.size w);unfold Aq.f at h;have H:=h;clear h;have HC2:=Aa.mk H;clear H
 go_enter Tryz.func78,Tryz.ntmps78
 go_upto_region 1 with (fail)
 go_cut [21] (fun v21 wc => ∃(kq:Nat) (x21_1:Bool),v21 = .bool x21_1∧Aa (Aq.j0 kq l0 x21_1=some (r1,r2,r3))∧Aa (kq≤k)∧Aa (Below w.heap.size w wc))
 case first =>
  have H:=HC2.out;clear HC2;obtain ⟨t237,A3,H⟩:=Zs.be H
  by_cases c4:t237=true
  ·subst c4;rw [if_pos rfl] at H;have H':=Aa.mk H;clear H
   go_wp2_with (((with_reducible refine Ab (f:=59) rfl ?_);refine Zq.gb Tryz.func59 (Ai.calls _ _ _ _ _ _ (Zs.mvC ((Kd.Bw HR0.out HB.out))) HC0.out A3.out) ?_;intro w5 hb;replace HB:=Zq.st hb;(try clear hb)))
   go_meet
   case rel=>exact ⟨_,(((l0.length:Int)!=3)),Zs.auS,H',⟨Zs.auN⟩,⟨Zs.auHB⟩⟩
  ·replace c4:=Bool.eq_false_iff.mpr c4;subst c4;rw [if_neg (show ¬(false=true) by decide)] at H;have H':=Aa.mk H;clear H
   go_wp2_with (((with_reducible refine Ab (f:=59) rfl ?_);refine Zq.gb Tryz.func59 (Ai.calls _ _ _ _ _ _ (Zs.mvC ((Kd.Bw HR0.out HB.out))) HC0.out A3.out) ?_;intro w6 hb;replace HB:=Zq.st hb;(try clear hb)))
   go_meet
   case rel=>exact ⟨_,(true),Zs.auS,H',⟨Zs.auN⟩,⟨Zs.auHB⟩⟩
 case rest =>
  clear HC2
  obtain ⟨kq,x21_1,rfl,HA,HJ1,HB⟩:=hcut;cases kq with
  | zero=>exact absurd HA.out (by simp [Aq.j0])
  | succ kj1 =>
   have H:=HA.out;clear HA;simp only [Aq.j0] at H
   by_cases c7:x21_1=true
   ·subst c7;rw [if_pos rfl] at H;simp only [Option.some.injEq,Prod.mk.injEq] at H;obtain ⟨rfl,rfl,rfl⟩:=H;go_wp2
    go_ret3
    exact ⟨_,_,Zs.auR,by first|exact Kd.Es _ _ _ _ _|exact Kd.Fq _ _ _ _ _|exact Kd.Fz _ _ _ _ _|exact Kd.FB _ _ _ _ _|exact Kd.Fy _ _ _ _ _,by first|exact Kd.Es _ _ _ _ _|exact Kd.Fq _ _ _ _ _|exact Kd.Fz _ _ _ _ _|exact Kd.FB _ _ _ _ _|exact Kd.Fy _ _ _ _ _,Zs.auHB⟩
   ·replace c7:=Bool.eq_false_iff.mpr c7;subst c7;rw [if_neg (show ¬(false=true) by decide)] at H;obtain ⟨t238,A8,H⟩:=Zs.be H;(try rw [Option.bind_some] at H);generalize hyy:([1,1,1]:List Int)=y241 at H;have Ny241:=Aa.mk hyy.symm;clear hyy;have H':=Aa.mk H;clear H
    go_wp2_with (first|((with_reducible refine Ab (f:=87) rfl ?_);refine Zq.gc (some 23) Tryz.func87 (Be.calls _ _ _ _ _ (Zs.mvC ((Kd.Bw HR0.out HB.out))) HC0.out A8.out) ?_;rintro e w9 ⟨v239,rfl,ho0,hb⟩;refine ⟨_,rfl,?_⟩;have HO240:=Zq.lw ho0;replace HB:=Zq.st hb;(try clear hb);(try clear ho0))|((with_reducible refine Bg (N:=24) rfl ?_);(try (refine Dn (by rfl) ?_;dsimp only));refine Zq.li ([1,1,1]:List Int) ?_;intro v242 w10 ho11 hb;(first|rw [← Ny241.out] at ho11|(simp only [Int.reduceToNat] at ho11;rw [← Ny241.out] at ho11));have HO243:=Aa.mk (Kd.Bp (Kd.Bj ho11 (Zq.lt HO240.out)) (Av (Zs.auHB)));replace HO240:=Zq.el HO240.out ho11 hb;replace HB:=Zq.st hb;clear hb ho11))
    go_loopg [27] kj1 (fun kq v27 w' => ∃(x5_2:List Int) (x6_2:List Int) (x27_2:Int),v27 = .int .i64 x27_2∧Aa (Aq.l0 kq x5_2 x6_2 l0 (l0.length:Int) x27_2=some (r1,r2,r3))∧Aa (kq≤kj1)∧Aa (Kd.R (Kd.int .i64) 3 w' w.heap.size (fun k_=>some k_≠(v242:Value).ownBlock) v239 x5_2)∧Aa (Kd.R (Kd.int .i64) 3 w' w.heap.size (fun k_=>some k_≠(v239:Value).ownBlock) v242 x6_2)∧Aa (Below w.heap.size w w'))
    case atStart=>exact ⟨(t238),(y241),(0),Zs.auS,H',⟨Nat.le_refl _⟩,⟨(Zs.mvR (Kd.AJ HO240.out (fun _ hk=>(by first|exact hk.2|exact trivial))))⟩,⟨(Zs.mvR (Kd.AJ HO243.out (fun _ hk=>(by first|exact hk.2|exact trivial))))⟩,⟨Zs.auHB⟩⟩
    case round =>
     clear H'
     obtain ⟨x5_2,x6_2,x27_2,rfl,HA,HK2,HO_5,HO_6,HB⟩:=hrel;cases gk with
     | zero=>exact absurd HA.out (by simp [Aq.l0])
     | succ k2 =>
      have H:=HA.out;clear HA;simp only [Aq.l0] at H
      rcases Zq.ii H with ⟨c12,H⟩|⟨c12,H⟩
      ·have c12b0:=decide_eq_true c12;clear c12
       obtain ⟨c13,H⟩:=Zq.ip H;have c13b0:=decide_eq_true c13;clear c13
       obtain ⟨c14,H⟩:=Zq.ip H;have c14b0:=decide_eq_true c14;clear c14;replace H:=Option.bind_eq_some_iff.mp H;obtain ⟨⟨t245,t246⟩,A150,H⟩:=H;try dsimp only at H;have A15:=Aa.mk A150;clear A150
       obtain ⟨c16,H⟩:=Zq.ip H;have c16b0:=decide_eq_true c16;clear c16;(try rw [Option.bind_some] at H);generalize hyy:(x5_2.set (x27_2:Int).toNat t245:List Int)=y247 at H;have Ny247:=Aa.mk hyy.symm;clear hyy;obtain ⟨ji18,hji18⟩ : ∃j_:Int,(Int.tmod (wrap64 (x27_2+1)) 3)=j_:=⟨_,rfl⟩
       replace H:(if 0≤(ji18) then (if (ji18)<(x6_2.length:Int) then ((some (x6_2.set ((ji18):Int).toNat (wrap64 ((rd x6_2 (ji18))*t246)):List Int)).bind fun y249=>(if 0≤(Int.tmod (wrap64 (x27_2+2)) 3) then (if (Int.tmod (wrap64 (x27_2+2)) 3)<(x6_2.length:Int) then (Aq.l0 k2 y247 (y249.set ((Int.tmod (wrap64 (x27_2+2)) 3):Int).toNat (wrap64 ((rd y249 (Int.tmod (wrap64 (x27_2+2)) 3))*t246))) l0 (l0.length:Int) (wrap64 (x27_2+1))) else (none)) else (none))) else (none)) else (none))=some (r1,r2,r3):=by first|(rw [hji18] at H;exact H)|(simp only [hji18] at H ⊢;exact H)
       (try rw [hji18] at A15)
       obtain ⟨c19,H⟩:=Zq.ip H;have c19b0:=decide_eq_true c19;clear c19
       obtain ⟨c20,H⟩:=Zq.ip H;have c20b0:=decide_eq_true c20;clear c20;(try rw [Option.bind_some] at H);generalize hyy:(x6_2.set ((ji18):Int).toNat (wrap64 ((rd x6_2 (ji18))*t246)):List Int)=y249 at H;have Ny249:=Aa.mk hyy.symm;clear hyy;obtain ⟨ji22,hji22⟩ : ∃j_:Int,(Int.tmod (wrap64 (x27_2+2)) 3)=j_:=⟨_,rfl⟩
       replace H:(if 0≤(ji22) then (if (ji22)<(x6_2.length:Int) then (Aq.l0 k2 y247 (y249.set ((ji22):Int).toNat (wrap64 ((rd y249 (ji22))*t246))) l0 (l0.length:Int) (wrap64 (x27_2+1))) else (none)) else (none))=some (r1,r2,r3):=by first|(rw [hji22] at H;exact H)|(simp only [hji22] at H ⊢;exact H)
       (try rw [hji22] at A15)
       obtain ⟨c23,H⟩:=Zq.ip H;have c23b0:=decide_eq_true c23;clear c23
       obtain ⟨c24,H⟩:=Zq.ip H;have c24b0:=decide_eq_true c24;clear c24;(try rw [Option.bind_some] at H);generalize hyy:(y249.set ((ji22):Int).toNat (wrap64 ((rd y249 (ji22))*t246)):List Int)=y251 at H;have Ny251:=Aa.mk hyy.symm;clear hyy;have H':=Aa.mk H;clear H;obtain ⟨ad244,e244,hx244_0,p244,q244⟩:=Zq.at_ HR0.out x27_2;cases e244;replace hx244_0:=Zq.ce HB.out hx244_0
       go_wp2_with (first|((with_reducible refine Ab (f:=61) rfl ?_);refine Zq.gb Tryz.func61 (AO.calls _ _ _ _ _ A15.out) ?_;intro w26 hb;replace HO_5:=Zq.rb HO_5.out hb;replace HO_6:=Zq.rb HO_6.out hb;replace HB:=Zq.st hb;(try clear hb);have p17:0≤(x27_2:Int):=Zs.od;have q17:(x27_2:Int)<((x5_2.length:Int):Int):=Zs.od;obtain ⟨go17,co17,eo17,gb17,gl17,cl17,HG17⟩:=Kd.Fj HO_5.out (by omega);(first|cases eo17|(injection eo17 with ea_ en_ ec_;(first|subst ea_|(injection ea_ with ea_;subst ea_));subst ec_;clear en_));have GB17:=Aa.mk gb17;have GG17:=Aa.mk HG17;clear gb17 gl17 HG17;obtain ⟨hx17_0,hf17_0⟩:=Kd.Co 0 HO_5.out (x27_2:Int) p17 q17;replace p17:=eq_true p17;replace q17:=eq_true q17;obtain ⟨hy27_,hz27_⟩:=Kd.Co 0 HO_5.out (x27_2:Int) (Zs.od) (Zs.od);have HP27:=Kd.DP HO_5.out (x27_2:Int) t245)|((with_reducible refine Cy (t:=3) (p:=39) rfl ?_);refine Ci (t:=3) (p:=39) (v:=?vo_w28) (w1:=(w26.setCell ⟨go17,(x27_2:Int).toNat,none⟩ (.int .i64 t245))) ?hg ?ho ?hn ?hr ?_;(case ho=>rfl);(case hg=>rfl);(case hn=>rfl);(case hr=>first|(go_simp;done)|(go_simp;rfl));intro w28 hw;have hg:w26.grownBy w28 (some go17):=(by rw [hw];exact HP27.2);have hp_:Kd.R (Kd.int .i64) 3 w28 w.heap.size (fun k_=>some k_≠(v242:Value).ownBlock) (.slice (some ⟨go17,0,none⟩) x5_2.length co17) y247:=(by rw [hw,Ny247.out];exact HP27.1);clear HP27;replace HO_5:=Aa.mk (hp_);replace HO_6:=Aa.mk (Kd.BV (v:=(.slice (some ⟨go17,0,none⟩) x5_2.length co17)) (v1:=(.slice (some ⟨go17,0,none⟩) x5_2.length co17)) (ok:=(fun _=>True)) ((Zs.mvR (Kd.AJ HO_6.out (fun _ hk=>⟨trivial,hk⟩)))) hg (.inl rfl));replace HB:=Aa.mk ((by rw [hw];exact AQ (HB.out) GB17.out:Below w.heap.size w w28));clear hg hw hp_;obtain ⟨Ao29,co29,eo29⟩:=Kd.AD HO_6.out;subst eo29;obtain ⟨ad248,e248,hx248_0,p248,q248⟩:=Zq.at_ (Kd.Ac HO_6.out).2.2 (ji18);cases e248;have p21:0≤((ji18):Int):=Zs.od;have q21:((ji18):Int)<((x6_2.length:Int):Int):=Zs.od;obtain ⟨go21,co21,eo21,gb21,gl21,cl21,HG21⟩:=Kd.Fj HO_6.out (by omega);(first|cases eo21|(injection eo21 with ea_ en_ ec_;(first|subst ea_|(injection ea_ with ea_;subst ea_));subst ec_;clear en_));have GB21:=Aa.mk gb21;have GG21:=Aa.mk HG21;clear gb21 gl21 HG21;(first|simp only [add_plain] at hx248_0|skip);obtain ⟨hx21_0,hf21_0⟩:=Kd.Co 0 HO_6.out ((ji18):Int) p21 q21;replace p21:=eq_true p21;replace q21:=eq_true q21;have n_:=Aa.mk (Kd.AJ (ok':=(fun k_=>some k_≠(.slice (some ⟨go17,0,none⟩) x5_2.length co17:Value).ownBlock)) HO_6.out (fun k_ hk=>hk.2));clear HO_6;have HO_6:=n_;clear n_;obtain ⟨hy30_,hz30_⟩:=Kd.Co 0 HO_6.out ((ji18):Int) (Zs.od) (Zs.od);have HP30:=Kd.DP HO_6.out ((ji18):Int) (wrap64 ((rd x6_2 (ji18))*t246)))|((with_reducible refine Cy (t:=3) (p:=48) rfl ?_);refine Ci (t:=3) (p:=48) (v:=?vo_w31) (w1:=(w28.setCell ⟨go21,((ji18):Int).toNat,none⟩ (.int .i64 (wrap64 ((rd x6_2 (ji18))*t246))))) ?hg ?ho ?hn ?hr ?_;(case ho=>rfl);(case hg=>rfl);(case hn=>rfl);(case hr=>first|(go_simp;done)|(go_simp;rfl));intro w31 hw;have hg:w28.grownBy w31 (some go21):=(by rw [hw];exact HP30.2);have hp_:Kd.R (Kd.int .i64) 3 w31 w.heap.size (fun k_=>some k_≠(.slice (some ⟨go17,0,none⟩) x5_2.length co17:Value).ownBlock) (.slice (some ⟨go21,0,none⟩) x6_2.length co29) y249:=(by rw [hw,Ny249.out];exact HP30.1);clear HP30;replace HO_5:=Aa.mk (Kd.BV (v:=(.slice (some ⟨go21,0,none⟩) x6_2.length co29)) (v1:=(.slice (some ⟨go21,0,none⟩) x6_2.length co29)) (ok:=(fun _=>True)) ((Zs.mvR (Kd.AJ HO_5.out (fun _ hk=>⟨trivial,hk⟩)))) hg (.inl rfl));replace HO_6:=Aa.mk (hp_);replace HB:=Aa.mk ((by rw [hw];exact AQ (HB.out) GB21.out:Below w.heap.size w w31));clear hg hw hp_;have p250:0≤((ji22):Int):=Zs.od;have q250:(ji22)<(y249.length:Int):=(by have h_:((ji22):Int)<((x6_2.length:Int):Int):=Zs.od;first|(have e_:=(Kd.Ac HO_6.out).1;omega)|simpa only [Ny249.out,List.length_set] using h_);have ql250:(((ji22):Int)<((x6_2.length:Int):Int))=True:=eq_true (Zs.od);obtain ⟨ad250,e250,hx250_0⟩:=Kd.Du (Kd.Ac HO_6.out).2.2 (ji22) p250 q250;obtain rfl:(⟨go21,0,none⟩:Addr)=ad250:=(by injection e250);(first|simp only [add_plain] at hx250_0|simp only [EF] at hx250_0|simp only [Addr.add,Nat.zero_add] at hx250_0|skip);replace p250:=eq_true p250;replace q250:=eq_true q250;have p25:0≤((ji22):Int):=Zs.od;have q25:((ji22):Int)<((x6_2.length:Int):Int):=Zs.od;obtain ⟨hx25_0,hf25_0⟩:=Kd.Co 0 HO_6.out ((ji22):Int) p25 q25;replace p25:=eq_true p25;replace q25:=eq_true q25;obtain ⟨hy32_,hz32_⟩:=Kd.Co 0 HO_6.out ((ji22):Int) (Zs.od) (Zs.od);have HP32:=Kd.DP HO_6.out ((ji22):Int) (wrap64 ((rd y249 (ji22))*t246)))|((with_reducible refine Cy (t:=3) (p:=57) rfl ?_);refine Ci (t:=3) (p:=57) (v:=?vo_w33) (w1:=(w31.setCell ⟨go21,((ji22):Int).toNat,none⟩ (.int .i64 (wrap64 ((rd y249 (ji22))*t246))))) ?hg ?ho ?hn ?hr ?_;(case ho=>rfl);(case hg=>rfl);(case hn=>rfl);(case hr=>first|(go_simp;done)|(go_simp;rfl));intro w33 hw;have hg:w31.grownBy w33 (some go21):=(by rw [hw];exact HP32.2);have hp_:Kd.R (Kd.int .i64) 3 w33 w.heap.size (fun k_=>some k_≠(.slice (some ⟨go17,0,none⟩) x5_2.length co17:Value).ownBlock) (.slice (some ⟨go21,0,none⟩) x6_2.length co29) y251:=(by rw [hw,Ny251.out];exact HP32.1);clear HP32;replace HO_5:=Aa.mk (Kd.BV (v:=(.slice (some ⟨go21,0,none⟩) x6_2.length co29)) (v1:=(.slice (some ⟨go21,0,none⟩) x6_2.length co29)) (ok:=(fun _=>True)) ((Zs.mvR HO_5.out)) hg (.inl rfl));replace HO_6:=Aa.mk (hp_);replace HB:=Aa.mk ((by rw [hw];exact AQ (HB.out) GB21.out:Below w.heap.size w w33));clear hg hw hp_))
       go_roundg k2
       case measure=>have:=HJ1.out;have:=HK2.out;omega
       case rel=>exact ⟨(y247),(y251),(wrap64 (x27_2+1)),Zs.auS,H',⟨by have:=HJ1.out;have:=HK2.out;omega⟩,⟨(Zs.mvR (Kd.AJ HO_5.out (fun _ hk=>(by first|exact hk.2|exact trivial))))⟩,⟨(Zs.mvR HO_6.out)⟩,⟨Zs.auHB⟩⟩
      ·have c12b0:=decide_eq_false c12;clear c12;have H':=Aa.mk H;clear H;go_wp2
       go_loopg [] k2 (fun kq w' => ∃(x5_3:List Int) (x6_3:List Int),Aa (Aq.l1 kq x5_3 x6_3=some (r1,r2,r3))∧Aa (kq≤k2)∧Aa (Kd.R (Kd.int .i64) 3 w' w.heap.size (fun k_=>some k_≠(v242:Value).ownBlock) v239 x5_3)∧Aa (Kd.R (Kd.int .i64) 3 w' w.heap.size (fun k_=>some k_≠(v239:Value).ownBlock) v242 x6_3)∧Aa (Below w.heap.size w w'))
       case atStart=>exact ⟨(x5_2),(x6_2),H',⟨Nat.le_refl _⟩,⟨(Zs.mvR HO_5.out)⟩,⟨(Zs.mvR HO_6.out)⟩,⟨Zs.auHB⟩⟩
       case round =>
        clear H'
        obtain ⟨x5_3,x6_3,HA,HK3,HO_5,HO_6,HB⟩:=hrel;cases gk with
        | zero=>exact absurd HA.out (by simp [Aq.l1])
        | succ k3 =>
         have H:=HA.out;clear HA;simp only [Aq.l1] at H;replace H:=Option.bind_eq_some_iff.mp H;obtain ⟨⟨t252,t253,t254⟩,A340,H⟩:=H;try dsimp only at H;have A34:=Aa.mk A340;clear A340
         rcases Zq.ii H with ⟨c35,H⟩|⟨c35,H⟩
         ·have c35b0:=beq_iff_eq.mpr c35;clear c35;simp only [Option.some.injEq,Prod.mk.injEq] at H;obtain ⟨rfl,rfl,rfl⟩:=H;obtain ⟨Ao36,co36,eo36⟩:=Kd.AD HO_5.out;subst eo36
          go_wp2_with (((with_reducible refine Ab (f:=135) rfl ?_);refine Zq.gb Tryz.func135 (Cg.calls _ _ _ _ _ _ _ _ (Zs.mvC ((Kd.Ac HO_5.out).2.2)) ((Kd.Ac HO_5.out).2.1) A34.out) ?_;intro w37 hb;replace HO_5:=Zq.rb HO_5.out hb;replace HO_6:=Zq.rb HO_6.out hb;replace HB:=Zq.st hb;(try clear hb)))
          go_ret3
          exact ⟨_,_,Zs.auR,(Zs.mvR HO_5.out),(Zs.mvR HO_6.out),Zs.auHB⟩
         ·have c35b0:=beq_eq_false_iff_ne.mpr c35
          obtain ⟨c38,H⟩:=Zq.ip H;have c38b0:=decide_eq_true c38;clear c38
          obtain ⟨c39,H⟩:=Zq.ip H;have c39b0:=decide_eq_true c39;clear c39;(try rw [Option.bind_some] at H);generalize hyy:(x5_3.set (t252:Int).toNat (wrap64 (Int.tdiv (rd x5_3 t252) t254)):List Int)=y256 at H;have Ny256:=Aa.mk hyy.symm;clear hyy
          obtain ⟨c41,H⟩:=Zq.ip H;have c41b0:=decide_eq_true c41;clear c41
          obtain ⟨c42,H⟩:=Zq.ip H;have c42b0:=decide_eq_true c42;clear c42;(try rw [Option.bind_some] at H);generalize hyy:(y256.set (t253:Int).toNat (wrap64 (Int.tdiv (rd y256 t253) t254)):List Int)=y258 at H;have Ny258:=Aa.mk hyy.symm;clear hyy;obtain ⟨ji44,hji44⟩ : ∃j_:Int,(wrap64 ((wrap64 (3-t252))-t253))=j_:=⟨_,rfl⟩
          replace H:(if 0≤(ji44) then (if (ji44)<(x5_3.length:Int) then (if (Int.tmod (rd y258 (ji44)) t254)=0 then (Aq.l1 k3 (y258.set ((ji44):Int).toNat (wrap64 (Int.tdiv (rd y258 (ji44)) t254))) x6_3) else (if (ji44)<(x6_3.length:Int) then (Aq.l1 k3 (y258.set ((ji44):Int).toNat (wrap64 ((rd y258 (ji44))*t254))) (x6_3.set ((ji44):Int).toNat (wrap64 ((rd x6_3 (ji44))*t254)))) else (none))) else (none)) else (none))=some (r1,r2,r3):=by first|(rw [hji44] at H;exact H)|(simp only [hji44] at H ⊢;exact H)
          (try rw [hji44] at A34);have hji44w:(IntKind.i64.wrap ((wrap64 (3-t252))-t253))=ji44:=(Ks _).trans hji44
          obtain ⟨c45,H⟩:=Zq.ip H;have c45b0:=decide_eq_true c45;clear c45
          obtain ⟨c46,H⟩:=Zq.ip H;have c46b0:=decide_eq_true c46;clear c46
          rcases Zq.ii H with ⟨c47,H⟩|⟨c47,H⟩
          ·have c47b0:=beq_iff_eq.mpr c47;clear c47;(try rw [Option.bind_some] at H);generalize hyy:(y258.set ((ji44):Int).toNat (wrap64 (Int.tdiv (rd y258 (ji44)) t254)):List Int)=y261 at H;have Ny261:=Aa.mk hyy.symm;clear hyy;have H':=Aa.mk H;clear H;obtain ⟨Ao49,co49,eo49⟩:=Kd.AD HO_5.out;subst eo49
           go_wp2_with (first|((with_reducible refine Ab (f:=135) rfl ?_);refine Zq.gb Tryz.func135 (Cg.calls _ _ _ _ _ _ _ _ (Zs.mvC ((Kd.Ac HO_5.out).2.2)) ((Kd.Ac HO_5.out).2.1) A34.out) ?_;intro w50 hb;replace HO_5:=Zq.rb HO_5.out hb;replace HO_6:=Zq.rb HO_6.out hb;replace HB:=Zq.st hb;(try clear hb);obtain ⟨ad255,e255,hx255_0,p255,q255⟩:=Zq.at_ (Kd.Ac HO_5.out).2.2 t252;cases e255;have p40:0≤(t252:Int):=Zs.od;have q40:(t252:Int)<((x5_3.length:Int):Int):=Zs.od;obtain ⟨go40,co40,eo40,gb40,gl40,cl40,HG40⟩:=Kd.Fj HO_5.out (by omega);(first|cases eo40|(injection eo40 with ea_ en_ ec_;(first|subst ea_|(injection ea_ with ea_;subst ea_));subst ec_;clear en_));have GB40:=Aa.mk gb40;have GG40:=Aa.mk HG40;clear gb40 gl40 HG40;(first|simp only [add_plain] at hx255_0|skip);obtain ⟨hx40_0,hf40_0⟩:=Kd.Co 0 HO_5.out (t252:Int) p40 q40;replace p40:=eq_true p40;replace q40:=eq_true q40;obtain ⟨hy51_,hz51_⟩:=Kd.Co 0 HO_5.out (t252:Int) (Zs.od) (Zs.od);have HP51:=Kd.DP HO_5.out (t252:Int) (wrap64 (Int.tdiv (rd x5_3 t252) t254)))|((with_reducible refine Cy (t:=3) (p:=79) rfl ?_);refine Ci (t:=3) (p:=79) (v:=?vo_w52) (w1:=(w50.setCell ⟨go40,(t252:Int).toNat,none⟩ (.int .i64 (wrap64 (Int.tdiv (rd x5_3 t252) t254))))) ?hg ?ho ?hn ?hr ?_;(case ho=>rfl);(case hg=>rfl);(case hn=>rfl);(case hr=>first|(go_simp;done)|(go_simp;rfl));intro w52 hw;have hg:w50.grownBy w52 (some go40):=(by rw [hw];exact HP51.2);have hp_:Kd.R (Kd.int .i64) 3 w52 w.heap.size (fun k_=>some k_≠(v242:Value).ownBlock) (.slice (some ⟨go40,0,none⟩) x5_3.length co49) y256:=(by rw [hw,Ny256.out];exact HP51.1);clear HP51;replace HO_5:=Aa.mk (hp_);replace HO_6:=Aa.mk (Kd.BV (v:=(.slice (some ⟨go40,0,none⟩) x5_3.length co49)) (v1:=(.slice (some ⟨go40,0,none⟩) x5_3.length co49)) (ok:=(fun _=>True)) ((Zs.mvR (Kd.AJ HO_6.out (fun _ hk=>⟨trivial,hk⟩)))) hg (.inl rfl));replace HB:=Aa.mk ((by rw [hw];exact AQ (HB.out) GB40.out:Below w.heap.size w w52));clear hg hw hp_;have p257:0≤(t253:Int):=Zs.od;have q257:t253<(y256.length:Int):=(by have h_:(t253:Int)<((x5_3.length:Int):Int):=Zs.od;first|(have e_:=(Kd.Ac HO_5.out).1;omega)|simpa only [Ny256.out,List.length_set] using h_);have ql257:((t253:Int)<((x5_3.length:Int):Int))=True:=eq_true (Zs.od);obtain ⟨ad257,e257,hx257_0⟩:=Kd.Du (Kd.Ac HO_5.out).2.2 t253 p257 q257;obtain rfl:(⟨go40,0,none⟩:Addr)=ad257:=(by injection e257);(first|simp only [add_plain] at hx257_0|simp only [EF] at hx257_0|simp only [Addr.add,Nat.zero_add] at hx257_0|skip);replace p257:=eq_true p257;replace q257:=eq_true q257;have p43:0≤(t253:Int):=Zs.od;have q43:(t253:Int)<((x5_3.length:Int):Int):=Zs.od;obtain ⟨hx43_0,hf43_0⟩:=Kd.Co 0 HO_5.out (t253:Int) p43 q43;replace p43:=eq_true p43;replace q43:=eq_true q43;obtain ⟨hy53_,hz53_⟩:=Kd.Co 0 HO_5.out (t253:Int) (Zs.od) (Zs.od);have HP53:=Kd.DP HO_5.out (t253:Int) (wrap64 (Int.tdiv (rd y256 t253) t254)))|((with_reducible refine Cy (t:=3) (p:=86) rfl ?_);refine Ci (t:=3) (p:=86) (v:=?vo_w54) (w1:=(w52.setCell ⟨go40,(t253:Int).toNat,none⟩ (.int .i64 (wrap64 (Int.tdiv (rd y256 t253) t254))))) ?hg ?ho ?hn ?hr ?_;(case ho=>rfl);(case hg=>rfl);(case hn=>rfl);(case hr=>first|(go_simp;done)|(go_simp;rfl));intro w54 hw;have hg:w52.grownBy w54 (some go40):=(by rw [hw];exact HP53.2);have hp_:Kd.R (Kd.int .i64) 3 w54 w.heap.size (fun k_=>some k_≠(v242:Value).ownBlock) (.slice (some ⟨go40,0,none⟩) x5_3.length co49) y258:=(by rw [hw,Ny258.out];exact HP53.1);clear HP53;replace HO_5:=Aa.mk (hp_);replace HO_6:=Aa.mk (Kd.BV (v:=(.slice (some ⟨go40,0,none⟩) x5_3.length co49)) (v1:=(.slice (some ⟨go40,0,none⟩) x5_3.length co49)) (ok:=(fun _=>True)) ((Zs.mvR HO_6.out)) hg (.inl rfl));replace HB:=Aa.mk ((by rw [hw];exact AQ (HB.out) GB40.out:Below w.heap.size w w54));clear hg hw hp_;have p259:0≤((ji44):Int):=Zs.od;have q259:(ji44)<(y258.length:Int):=(by have h_:((ji44):Int)<((x5_3.length:Int):Int):=Zs.od;first|(have e_:=(Kd.Ac HO_5.out).1;omega)|simpa only [Ny256.out,Ny258.out,List.length_set] using h_);have ql259:(((ji44):Int)<((x5_3.length:Int):Int))=True:=eq_true (Zs.od);obtain ⟨ad259,e259,hx259_0⟩:=Kd.Du (Kd.Ac HO_5.out).2.2 (ji44) p259 q259;obtain rfl:(⟨go40,0,none⟩:Addr)=ad259:=(by injection e259);(first|simp only [add_plain] at hx259_0|simp only [EF] at hx259_0|simp only [Addr.add,Nat.zero_add] at hx259_0|skip);replace p259:=eq_true p259;replace q259:=eq_true q259;have p260:0≤((ji44):Int):=Zs.od;have q260:(ji44)<(y258.length:Int):=(by have h_:((ji44):Int)<((x5_3.length:Int):Int):=Zs.od;first|(have e_:=(Kd.Ac HO_5.out).1;omega)|simpa only [Ny256.out,Ny258.out,List.length_set] using h_);have ql260:(((ji44):Int)<((x5_3.length:Int):Int))=True:=eq_true (Zs.od);obtain ⟨ad260,e260,hx260_0⟩:=Kd.Du (Kd.Ac HO_5.out).2.2 (ji44) p260 q260;obtain rfl:(⟨go40,0,none⟩:Addr)=ad260:=(by injection e260);(first|simp only [add_plain] at hx260_0|simp only [EF] at hx260_0|simp only [Addr.add,Nat.zero_add] at hx260_0|skip);replace p260:=eq_true p260;replace q260:=eq_true q260;have p48:0≤((ji44):Int):=Zs.od;have q48:((ji44):Int)<((x5_3.length:Int):Int):=Zs.od;obtain ⟨hx48_0,hf48_0⟩:=Kd.Co 0 HO_5.out ((ji44):Int) p48 q48;replace p48:=eq_true p48;replace q48:=eq_true q48;obtain ⟨hy55_,hz55_⟩:=Kd.Co 0 HO_5.out ((ji44):Int) (Zs.od) (Zs.od);have HP55:=Kd.DP HO_5.out ((ji44):Int) (wrap64 (Int.tdiv (rd y258 (ji44)) t254)))|((with_reducible refine Cy (t:=3) (p:=100) rfl ?_);refine Ci (t:=3) (p:=100) (v:=?vo_w56) (w1:=(w54.setCell ⟨go40,((ji44):Int).toNat,none⟩ (.int .i64 (wrap64 (Int.tdiv (rd y258 (ji44)) t254))))) ?hg ?ho ?hn ?hr ?_;(case ho=>rfl);(case hg=>rfl);(case hn=>rfl);(case hr=>first|(go_simp;done)|(go_simp;rfl));intro w56 hw;have hg:w54.grownBy w56 (some go40):=(by rw [hw];exact HP55.2);have hp_:Kd.R (Kd.int .i64) 3 w56 w.heap.size (fun k_=>some k_≠(v242:Value).ownBlock) (.slice (some ⟨go40,0,none⟩) x5_3.length co49) y261:=(by rw [hw,Ny261.out];exact HP55.1);clear HP55;replace HO_5:=Aa.mk (hp_);replace HO_6:=Aa.mk (Kd.BV (v:=(.slice (some ⟨go40,0,none⟩) x5_3.length co49)) (v1:=(.slice (some ⟨go40,0,none⟩) x5_3.length co49)) (ok:=(fun _=>True)) ((Zs.mvR HO_6.out)) hg (.inl rfl));replace HB:=Aa.mk ((by rw [hw];exact AQ (HB.out) GB40.out:Below w.heap.size w w56));clear hg hw hp_))
           go_roundg k3
           case measure=>have:=HJ1.out;have:=HK2.out;have:=HK3.out;omega
           case rel=>exact ⟨(y261),(x6_3),H',⟨by have:=HJ1.out;have:=HK2.out;have:=HK3.out;omega⟩,⟨(Zs.mvR HO_5.out)⟩,⟨(Zs.mvR (Kd.AJ HO_6.out (fun _ hk=>(by first|exact hk.2|exact trivial))))⟩,⟨Zs.auHB⟩⟩
          ·have c47b0:=beq_eq_false_iff_ne.mpr c47;(try rw [Option.bind_some] at H);generalize hyy:(y258.set ((ji44):Int).toNat (wrap64 ((rd y258 (ji44))*t254)):List Int)=y263 at H;have Ny263:=Aa.mk hyy.symm;clear hyy
           obtain ⟨c58,H⟩:=Zq.ip H;have c58b0:=decide_eq_true c58;clear c58;(try rw [Option.bind_some] at H);generalize hyy:(x6_3.set ((ji44):Int).toNat (wrap64 ((rd x6_3 (ji44))*t254)):List Int)=y265 at H;have Ny265:=Aa.mk hyy.symm;clear hyy;have H':=Aa.mk H;clear H;obtain ⟨Ao60,co60,eo60⟩:=Kd.AD HO_5.out;subst eo60
           go_wp2_with (first|((with_reducible refine Ab (f:=135) rfl ?_);refine Zq.gb Tryz.func135 (Cg.calls _ _ _ _ _ _ _ _ (Zs.mvC ((Kd.Ac HO_5.out).2.2)) ((Kd.Ac HO_5.out).2.1) A34.out) ?_;intro w61 hb;replace HO_5:=Zq.rb HO_5.out hb;replace HO_6:=Zq.rb HO_6.out hb;replace HB:=Zq.st hb;(try clear hb);obtain ⟨ad255,e255,hx255_0,p255,q255⟩:=Zq.at_ (Kd.Ac HO_5.out).2.2 t252;cases e255;have p40:0≤(t252:Int):=Zs.od;have q40:(t252:Int)<((x5_3.length:Int):Int):=Zs.od;obtain ⟨go40,co40,eo40,gb40,gl40,cl40,HG40⟩:=Kd.Fj HO_5.out (by omega);(first|cases eo40|(injection eo40 with ea_ en_ ec_;(first|subst ea_|(injection ea_ with ea_;subst ea_));subst ec_;clear en_));have GB40:=Aa.mk gb40;have GG40:=Aa.mk HG40;clear gb40 gl40 HG40;(first|simp only [add_plain] at hx255_0|skip);obtain ⟨hx40_0,hf40_0⟩:=Kd.Co 0 HO_5.out (t252:Int) p40 q40;replace p40:=eq_true p40;replace q40:=eq_true q40;obtain ⟨hy62_,hz62_⟩:=Kd.Co 0 HO_5.out (t252:Int) (Zs.od) (Zs.od);have HP62:=Kd.DP HO_5.out (t252:Int) (wrap64 (Int.tdiv (rd x5_3 t252) t254)))|((with_reducible refine Cy (t:=3) (p:=79) rfl ?_);refine Ci (t:=3) (p:=79) (v:=?vo_w63) (w1:=(w61.setCell ⟨go40,(t252:Int).toNat,none⟩ (.int .i64 (wrap64 (Int.tdiv (rd x5_3 t252) t254))))) ?hg ?ho ?hn ?hr ?_;(case ho=>rfl);(case hg=>rfl);(case hn=>rfl);(case hr=>first|(go_simp;done)|(go_simp;rfl));intro w63 hw;have hg:w61.grownBy w63 (some go40):=(by rw [hw];exact HP62.2);have hp_:Kd.R (Kd.int .i64) 3 w63 w.heap.size (fun k_=>some k_≠(v242:Value).ownBlock) (.slice (some ⟨go40,0,none⟩) x5_3.length co60) y256:=(by rw [hw,Ny256.out];exact HP62.1);clear HP62;replace HO_5:=Aa.mk (hp_);replace HO_6:=Aa.mk (Kd.BV (v:=(.slice (some ⟨go40,0,none⟩) x5_3.length co60)) (v1:=(.slice (some ⟨go40,0,none⟩) x5_3.length co60)) (ok:=(fun _=>True)) ((Zs.mvR (Kd.AJ HO_6.out (fun _ hk=>⟨trivial,hk⟩)))) hg (.inl rfl));replace HB:=Aa.mk ((by rw [hw];exact AQ (HB.out) GB40.out:Below w.heap.size w w63));clear hg hw hp_;have p257:0≤(t253:Int):=Zs.od;have q257:t253<(y256.length:Int):=(by have h_:(t253:Int)<((x5_3.length:Int):Int):=Zs.od;first|(have e_:=(Kd.Ac HO_5.out).1;omega)|simpa only [Ny256.out,List.length_set] using h_);have ql257:((t253:Int)<((x5_3.length:Int):Int))=True:=eq_true (Zs.od);obtain ⟨ad257,e257,hx257_0⟩:=Kd.Du (Kd.Ac HO_5.out).2.2 t253 p257 q257;obtain rfl:(⟨go40,0,none⟩:Addr)=ad257:=(by injection e257);(first|simp only [add_plain] at hx257_0|simp only [EF] at hx257_0|simp only [Addr.add,Nat.zero_add] at hx257_0|skip);replace p257:=eq_true p257;replace q257:=eq_true q257;have p43:0≤(t253:Int):=Zs.od;have q43:(t253:Int)<((x5_3.length:Int):Int):=Zs.od;obtain ⟨hx43_0,hf43_0⟩:=Kd.Co 0 HO_5.out (t253:Int) p43 q43;replace p43:=eq_true p43;replace q43:=eq_true q43;obtain ⟨hy64_,hz64_⟩:=Kd.Co 0 HO_5.out (t253:Int) (Zs.od) (Zs.od);have HP64:=Kd.DP HO_5.out (t253:Int) (wrap64 (Int.tdiv (rd y256 t253) t254)))|((with_reducible refine Cy (t:=3) (p:=86) rfl ?_);refine Ci (t:=3) (p:=86) (v:=?vo_w65) (w1:=(w63.setCell ⟨go40,(t253:Int).toNat,none⟩ (.int .i64 (wrap64 (Int.tdiv (rd y256 t253) t254))))) ?hg ?ho ?hn ?hr ?_;(case ho=>rfl);(case hg=>rfl);(case hn=>rfl);(case hr=>first|(go_simp;done)|(go_simp;rfl));intro w65 hw;have hg:w63.grownBy w65 (some go40):=(by rw [hw];exact HP64.2);have hp_:Kd.R (Kd.int .i64) 3 w65 w.heap.size (fun k_=>some k_≠(v242:Value).ownBlock) (.slice (some ⟨go40,0,none⟩) x5_3.length co60) y258:=(by rw [hw,Ny258.out];exact HP64.1);clear HP64;replace HO_5:=Aa.mk (hp_);replace HO_6:=Aa.mk (Kd.BV (v:=(.slice (some ⟨go40,0,none⟩) x5_3.length co60)) (v1:=(.slice (some ⟨go40,0,none⟩) x5_3.length co60)) (ok:=(fun _=>True)) ((Zs.mvR HO_6.out)) hg (.inl rfl));replace HB:=Aa.mk ((by rw [hw];exact AQ (HB.out) GB40.out:Below w.heap.size w w65));clear hg hw hp_;have p259:0≤((ji44):Int):=Zs.od;have q259:(ji44)<(y258.length:Int):=(by have h_:((ji44):Int)<((x5_3.length:Int):Int):=Zs.od;first|(have e_:=(Kd.Ac HO_5.out).1;omega)|simpa only [Ny256.out,Ny258.out,List.length_set] using h_);have ql259:(((ji44):Int)<((x5_3.length:Int):Int))=True:=eq_true (Zs.od);obtain ⟨ad259,e259,hx259_0⟩:=Kd.Du (Kd.Ac HO_5.out).2.2 (ji44) p259 q259;obtain rfl:(⟨go40,0,none⟩:Addr)=ad259:=(by injection e259);(first|simp only [add_plain] at hx259_0|simp only [EF] at hx259_0|simp only [Addr.add,Nat.zero_add] at hx259_0|skip);replace p259:=eq_true p259;replace q259:=eq_true q259;have p262:0≤((ji44):Int):=Zs.od;have q262:(ji44)<(y258.length:Int):=(by have h_:((ji44):Int)<((x5_3.length:Int):Int):=Zs.od;first|(have e_:=(Kd.Ac HO_5.out).1;omega)|simpa only [Ny256.out,Ny258.out,List.length_set] using h_);have ql262:(((ji44):Int)<((x5_3.length:Int):Int))=True:=eq_true (Zs.od);obtain ⟨ad262,e262,hx262_0⟩:=Kd.Du (Kd.Ac HO_5.out).2.2 (ji44) p262 q262;obtain rfl:(⟨go40,0,none⟩:Addr)=ad262:=(by injection e262);(first|simp only [add_plain] at hx262_0|simp only [EF] at hx262_0|simp only [Addr.add,Nat.zero_add] at hx262_0|skip);replace p262:=eq_true p262;replace q262:=eq_true q262;have p57:0≤((ji44):Int):=Zs.od;have q57:((ji44):Int)<((x5_3.length:Int):Int):=Zs.od;obtain ⟨hx57_0,hf57_0⟩:=Kd.Co 0 HO_5.out ((ji44):Int) p57 q57;replace p57:=eq_true p57;replace q57:=eq_true q57;obtain ⟨hy66_,hz66_⟩:=Kd.Co 0 HO_5.out ((ji44):Int) (Zs.od) (Zs.od);have HP66:=Kd.DP HO_5.out ((ji44):Int) (wrap64 ((rd y258 (ji44))*t254)))|((with_reducible refine Cy (t:=3) (p:=107) rfl ?_);refine Ci (t:=3) (p:=107) (v:=?vo_w67) (w1:=(w65.setCell ⟨go40,((ji44):Int).toNat,none⟩ (.int .i64 (wrap64 ((rd y258 (ji44))*t254))))) ?hg ?ho ?hn ?hr ?_;(case ho=>rfl);(case hg=>rfl);(case hn=>rfl);(case hr=>first|(go_simp;done)|(go_simp;rfl));intro w67 hw;have hg:w65.grownBy w67 (some go40):=(by rw [hw];exact HP66.2);have hp_:Kd.R (Kd.int .i64) 3 w67 w.heap.size (fun k_=>some k_≠(v242:Value).ownBlock) (.slice (some ⟨go40,0,none⟩) x5_3.length co60) y263:=(by rw [hw,Ny263.out];exact HP66.1);clear HP66;replace HO_5:=Aa.mk (hp_);replace HO_6:=Aa.mk (Kd.BV (v:=(.slice (some ⟨go40,0,none⟩) x5_3.length co60)) (v1:=(.slice (some ⟨go40,0,none⟩) x5_3.length co60)) (ok:=(fun _=>True)) ((Zs.mvR HO_6.out)) hg (.inl rfl));replace HB:=Aa.mk ((by rw [hw];exact AQ (HB.out) GB40.out:Below w.heap.size w w67));clear hg hw hp_;obtain ⟨Ao68,co68,eo68⟩:=Kd.AD HO_6.out;subst eo68;obtain ⟨ad264,e264,hx264_0,p264,q264⟩:=Zq.at_ (Kd.Ac HO_6.out).2.2 (ji44);cases e264;have p59:0≤((ji44):Int):=Zs.od;have q59:((ji44):Int)<((x6_3.length:Int):Int):=Zs.od;obtain ⟨go59,co59,eo59,gb59,gl59,cl59,HG59⟩:=Kd.Fj HO_6.out (by omega);(first|cases eo59|(injection eo59 with ea_ en_ ec_;(first|subst ea_|(injection ea_ with ea_;subst ea_));subst ec_;clear en_));have GB59:=Aa.mk gb59;have GG59:=Aa.mk HG59;clear gb59 gl59 HG59;(first|simp only [add_plain] at hx264_0|skip);obtain ⟨hx59_0,hf59_0⟩:=Kd.Co 0 HO_6.out ((ji44):Int) p59 q59;replace p59:=eq_true p59;replace q59:=eq_true q59;have n_:=Aa.mk (Kd.AJ (ok':=(fun k_=>some k_≠(.slice (some ⟨go40,0,none⟩) x5_3.length co60:Value).ownBlock)) HO_6.out (fun k_ hk=>hk.2));clear HO_6;have HO_6:=n_;clear n_;obtain ⟨hy69_,hz69_⟩:=Kd.Co 0 HO_6.out ((ji44):Int) (Zs.od) (Zs.od);have HP69:=Kd.DP HO_6.out ((ji44):Int) (wrap64 ((rd x6_3 (ji44))*t254)))|((with_reducible refine Cy (t:=3) (p:=114) rfl ?_);refine Ci (t:=3) (p:=114) (v:=?vo_w70) (w1:=(w67.setCell ⟨go59,((ji44):Int).toNat,none⟩ (.int .i64 (wrap64 ((rd x6_3 (ji44))*t254))))) ?hg ?ho ?hn ?hr ?_;(case ho=>rfl);(case hg=>rfl);(case hn=>rfl);(case hr=>first|(go_simp;done)|(go_simp;rfl));intro w70 hw;have hg:w67.grownBy w70 (some go59):=(by rw [hw];exact HP69.2);have hp_:Kd.R (Kd.int .i64) 3 w70 w.heap.size (fun k_=>some k_≠(.slice (some ⟨go40,0,none⟩) x5_3.length co60:Value).ownBlock) (.slice (some ⟨go59,0,none⟩) x6_3.length co68) y265:=(by rw [hw,Ny265.out];exact HP69.1);clear HP69;replace HO_5:=Aa.mk (Kd.BV (v:=(.slice (some ⟨go59,0,none⟩) x6_3.length co68)) (v1:=(.slice (some ⟨go59,0,none⟩) x6_3.length co68)) (ok:=(fun _=>True)) ((Zs.mvR (Kd.AJ HO_5.out (fun _ hk=>⟨trivial,hk⟩)))) hg (.inl rfl));replace HO_6:=Aa.mk (hp_);replace HB:=Aa.mk ((by rw [hw];exact AQ (HB.out) GB59.out:Below w.heap.size w w70));clear hg hw hp_))
           go_roundg k3
           case measure=>have:=HJ1.out;have:=HK2.out;have:=HK3.out;omega
           case rel=>exact ⟨(y263),(y265),H',⟨by have:=HJ1.out;have:=HK2.out;have:=HK3.out;omega⟩,⟨(Zs.mvR (Kd.AJ HO_5.out (fun _ hk=>(by first|exact hk.2|exact trivial))))⟩,⟨(Zs.mvR HO_6.out)⟩,⟨Zs.auHB⟩⟩
def AA.l0:Nat→Int→Int→Int→Option (Int×Bool)
 | 0,_,_,_=>none
 | k+1,x0,x4,x5=>if x5>0 then (if (wrap64 ((wrap64 (x4+x5))*(wrap64 (x4+x5))))≤x0 then (AA.l0 k x0 (wrap64 (x4+x5)) (wrap64 (Int.tdiv x5 2))) else (AA.l0 k x0 x4 (wrap64 (Int.tdiv x5 2)))) else (some (x4,((wrap64 (x4*x4))==x0)))
def AA.f (k:Nat) (a0:Int):Option (Int×Bool):=if a0<0 then (some (0,false)) else (AA.l0 k a0 0 1073741824)
theorem AA.calls (k:Nat) (a0:Int) (r1:Int) (r2:Bool) (w:World) (h:AA.f k a0=some (r1,r2)) :
  Calls Tryz.prog 110 #[.int .i64 a0] w fun e w'=>e = .returned (.tuple #[.int .i64 r1,.bool r2])∧Bh w w':=by
 unfold AA.f at h;have H:=h;clear h
 rcases Zq.ii H with ⟨c2,H⟩|⟨c2,H⟩
 ·have c2b0:=decide_eq_true c2;clear c2;simp only [Option.some.injEq,Prod.mk.injEq] at H;obtain ⟨rfl,rfl⟩:=H
  go_enter Tryz.func110,Tryz.ntmps110
  go_wp2;go_ret2
  exact ⟨Zs.auS,Zq.dr⟩
 ·have c2b0:=decide_eq_false c2;clear c2;have H':=Aa.mk H;clear H
  go_enter Tryz.func110,Tryz.ntmps110
  go_wp2
  go_loopg [4,5] k (fun kq v4 v5 w' => ∃(x4_1:Int) (x5_1:Int),v4 = .int .i64 x4_1∧v5 = .int .i64 x5_1∧Aa (AA.l0 kq a0 x4_1 x5_1=some (r1,r2))∧Aa (kq≤k)∧Bh w w')
  case atStart=>exact ⟨(0),(1073741824),Zs.auS,Zs.auS,H',⟨Nat.le_refl _⟩,Zq.dr⟩
  case round =>
   clear H'
   obtain ⟨x4_1,x5_1,rfl,rfl,HA,HK1,⟨m1,rfl⟩⟩:=hrel;cases gk with
   | zero=>exact absurd HA.out (by simp [AA.l0])
   | succ k1 =>
    have H:=HA.out;clear HA;simp only [AA.l0] at H
    rcases Zq.ii H with ⟨c3,H⟩|⟨c3,H⟩
    ·have c3b0:decide (0<x5_1)=true:=decide_eq_true c3;clear c3
     rcases Zq.ii H with ⟨c4,H⟩|⟨c4,H⟩
     ·have c4b0:=decide_eq_true c4;clear c4;have H':=Aa.mk H;clear H;go_wp2
      go_roundg k1
      case measure=>have:=HK1.out;omega
      case rel=>exact ⟨(wrap64 (x4_1+x5_1)),(wrap64 (Int.tdiv x5_1 2)),Zs.auS,Zs.auS,H',⟨by have:=HK1.out;omega⟩,Zq.dr⟩
     ·have c4b0:=decide_eq_false c4;clear c4;have H':=Aa.mk H;clear H;go_wp2
      go_roundg k1
      case measure=>have:=HK1.out;omega
      case rel=>exact ⟨(x4_1),(wrap64 (Int.tdiv x5_1 2)),Zs.auS,Zs.auS,H',⟨by have:=HK1.out;omega⟩,Zq.dr⟩
    ·have c3b0:decide (0<x5_1)=false:=decide_eq_false c3;clear c3;simp only [Option.some.injEq,Prod.mk.injEq] at H;obtain ⟨rfl,rfl⟩:=H;go_wp2;go_ret2
     exact ⟨Zs.auS,Zq.dr⟩
end Go.Proofs.YtacfcoilmdhgnaaGreatDoor.PFnExactExecute
