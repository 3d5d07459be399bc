/- A function's Lean twin and its walk, written by a program of this session. -/
import Derived.Test.YtacfcoilmdhgnaaGreatDoorYPFnExecuteWhatx7
set_option maxHeartbeats 8000000
set_option maxRecDepth 100000
namespace Go.Proofs.YtacfcoilmdhgnaaGreatDoor.PFnExecuteWhat
open Go.RowKit Go.Proofs.YtacfcoilmdhgnaaGreatDoorW.PrintWords Go.Proofs.YtacfcoilmdhgnaaGreatDoorW.PrintLast Go.Proofs.YtacfcoilmdhgnaaGreatDoorW.PrintMore
attribute [local go_sem] DN DO El En Du Dt DP DK   -- for this text's walks alone
set_option linter.unusedVariables false
set_option linter.unusedSimpArgs false
section
open Locg
def runL (k:Nat):List ByteArray→List Int→List UInt8→Option (List Int×List UInt8)
 | [],form,out=>some (form,out)
 | l::ls,form,out=>(strings_Split.f l ⟨#[32]⟩).bind fun ws=>(Dj.f k form ws).bind fun r=>if r.2.size≤1000000∧out.length≤1000000000 then runL k ls r.1 (out++(r.2++(⟨#[10]⟩:ByteArray)).data.toList) else none
def CM.f (k:Nat) (a0:ByteArray):Option ByteArray:=if a0.size>500 then some ⟨#[116,111,111,32,108,111,110,103,10]⟩ else
 (strings_Split.f a0 ⟨#[10]⟩).bind fun lines=>(runL k lines.dropLast [1] []).bind fun r=>(strconv_Itoa.f (r.1.length:Int)).bind fun t=>if t.size≤1000000∧r.2.length≤1000000000∧r.1.length≤1000000 then some ⟨(r.2++(((⟨#[116,101,114,109,115,32]⟩:ByteArray)++t)++(⟨#[10]⟩:ByteArray)).data.toList).toArray⟩ else none
theorem OE {k:Nat} {l:ByteArray} {ls:List ByteArray} {form:List Int} {out:List UInt8} {x:List Int×List UInt8} (h:runL k (l::ls) form out=some x) :
  ∃ws form' r,strings_Split.f l ⟨#[32]⟩=some ws∧Dj.f k form ws=some (form',r)∧(r.size≤1000000∧out.length≤1000000000)∧runL k ls form' (out++(r++(⟨#[10]⟩:ByteArray)).data.toList)=some x:=by
 simp only [runL] at h;obtain ⟨ws,h1,h⟩:=Option.bind_eq_some_iff.mp h;obtain ⟨⟨f',r⟩,h2,h⟩:=Option.bind_eq_some_iff.mp h
 by_cases c:r.size≤1000000∧out.length≤1000000000
 ·rw [if_pos c] at h;exact ⟨ws,f',r,h1,h2,c,h⟩
 ·rw [if_neg c] at h;cases h
theorem ex_split (w:World) (a0:ByteArray) (lines:List ByteArray) (hG:GW w) (hs:strings_Split.f a0 ⟨#[10]⟩=some lines) :
  Calls Tryz.prog 46 #[.string a0,.string ⟨#[10]⟩] (((w.alloc (.cells #[.int .i64 1] 3)).alloc (.cells #[.slice (some ⟨w.heap.size,0,none⟩) 1 1] 27)).alloc (.cells #[.pointer none,.slice none 0 0] 53)) fun e w' =>
   e = .returned (.slice (some ⟨w.heap.size+1+1+1,0,none⟩) lines.length lines.length)∧ExAt w (w.heap.size+1) (w.heap.size+1+1) (w.heap.size+1+1+1) lines [1] [] w':=by
 have hb0:Below w.heap.size w (((w.alloc (.cells #[.int .i64 1] 3)).alloc (.cells #[.slice (some ⟨w.heap.size,0,none⟩) 1 1] 27)).alloc (.cells #[.pointer none,.slice none 0 0] 53)) :=
  (((Below.refl _ w).alloc (Nat.le_refl _) _).alloc (by simp) _).alloc (by simp<;>omega) _
 unfold strings_Split.f at hs
 by_cases c:a0.size<4294967281∧1≤(⟨#[10]⟩:ByteArray).size
 ·rw [if_pos c] at hs;have e:=Option.some.inj hs;have hl:=Lib.splitB_all (⟨#[10]⟩:ByteArray) c.2 0 _ a0 rfl;rw [e] at hl;have hG3:=hG.below hb0;obtain ⟨⟨m,hm⟩,_⟩:=hG3;refine (Tryz.strings_Split a0 ⟨#[10]⟩ m _ c.1 hm c.2).mono ?_;rintro e' w' ⟨rfl,rfl⟩;rw [e];refine ⟨by rw [← hl];simp,hb0.alloc (by simp<;>omega) _,?_,?_,?_,by omega,by omega⟩
  ·refine ⟨by omega,.slice (some ⟨w.heap.size,0,none⟩) 1 1,?_,?_⟩
   ·refine (Below.heap_alloc _ _ _ (by simp<;>omega)).trans ((Below.heap_alloc _ _ _ (by simp)).trans ?_)
    simpa using heap_alloc_new (w.alloc (.cells #[.int .i64 1] 3)) (.cells #[.slice (some ⟨w.heap.size,0,none⟩) 1 1] 27)
   ·have ho:=World.ownsRow_lit (base:=w.heap.size) (e:=3) (size:=1) w #[.int .i64 1] 1 (Nat.le_refl _) (by decide) rfl;refine FB (w:=w.alloc (.cells #[.int .i64 1] 3)) (by simpa [nums] using ho) (fun k hk=>?_);simp only [Value.ownBlock,Option.some.injEq] at hk;subst hk;exact (Below.heap_alloc _ _ _ (by simp<;>omega)).trans ((Below.heap_alloc _ _ _ (by simp<;>omega)).trans (Below.heap_alloc _ _ _ (by simp)))
  ·refine .inl ⟨by omega,.slice none 0 0,?_,O5 _ _ _ _,by simp [Value.ownBlock]⟩;refine (Below.heap_alloc _ _ _ (by simp)).trans ?_
   simpa using heap_alloc_new ((w.alloc (.cells #[.int .i64 1] 3)).alloc (.cells #[.slice (some ⟨w.heap.size,0,none⟩) 1 1] 27)) (.cells #[.pointer none,.slice none 0 0] 53)
  ·simpa using heap_alloc_new (((w.alloc (.cells #[.int .i64 1] 3)).alloc (.cells #[.slice (some ⟨w.heap.size,0,none⟩) 1 1] 27)).alloc (.cells #[.pointer none,.slice none 0 0] 53)) (.cells (lines.map Value.string).toArray 9)
 ·rw [if_neg c] at hs;cases hs
theorem ex_len {out:List UInt8} {s:ByteArray} (h:s.size≤1000000∧out.length≤1000000000):(Lib.byteCells out).length+(s++(⟨#[10]⟩:ByteArray)).size≤140737488355328:=by
 rw [Lib.byteCells_length,ByteArray.size_append];have e:(⟨#[10]⟩:ByteArray).size=1:=rfl
 omega
theorem ex_len2 {out:List UInt8} {t:ByteArray} {n:Nat} (h:t.size≤1000000∧out.length≤1000000000∧n≤1000000):(Lib.byteCells out).length+(((⟨#[116,101,114,109,115,32]⟩:ByteArray)++t)++(⟨#[10]⟩:ByteArray)).size≤140737488355328:=by
 rw [Lib.byteCells_length,ByteArray.size_append,ByteArray.size_append];have e:(⟨#[10]⟩:ByteArray).size=1:=rfl;have e2:(⟨#[116,101,114,109,115,32]⟩:ByteArray).size=6:=rfl
 omega
set_option maxHeartbeats 16000000 in
theorem CM.calls (k:Nat) (a0 r:ByteArray) (w:World) (hG:GW w) (h:CM.f k a0=some r) :
  Calls Tryz.prog 14 #[.string a0] w fun e w'=>e = .returned (.string r)∧Below w.heap.size w w':=by
 unfold CM.f at h
 by_cases c:a0.size>500
 ·rw [if_pos c] at h;obtain rfl:=Option.some.inj h;have c1:decide (500<(a0.size:Int))=true:=decide_eq_true (by omega);clear h c
  go_enter Tryz.func14,Tryz.ntmps14
  go_wp2_with fail
  go_ret
  exact ⟨rfl,Below.refl _ _⟩
 ·rw [if_neg c] at h;obtain ⟨lines,hs,h⟩:=Option.bind_eq_some_iff.mp h;obtain ⟨⟨form',out'⟩,hl,h⟩:=Option.bind_eq_some_iff.mp h;obtain ⟨t,ht,h⟩:=Option.bind_eq_some_iff.mp h;have c1:decide (500<(a0.size:Int))=false:=decide_eq_false (by omega)
  have hbd:t.size≤1000000∧out'.length≤1000000000∧form'.length≤1000000:=by
   by_cases c9:t.size≤1000000∧out'.length≤1000000000∧form'.length≤1000000
   ·exact c9
   ·simp only [if_neg c9] at h;cases h
  simp only [if_pos hbd] at h;obtain rfl:=Option.some.inj h;have HBD:=Aa.mk hbd;clear hbd
  obtain ⟨N,hN⟩ : ∃N,lines.length=N+1:=by
   unfold strings_Split.f at hs
   by_cases c2:a0.size<4294967281∧1≤(⟨#[10]⟩:ByteArray).size
   ·rw [if_pos c2] at hs;have e:=Option.some.inj hs;exact ⟨_,by rw [← e];exact Lib.splitB_all _ (by decide) 0 _ a0 rfl⟩
   ·rw [if_neg c2] at hs;cases hs
  have hNb:N<4294967296:=by
   unfold strings_Split.f at hs
   by_cases c2:a0.size<4294967281∧1≤(⟨#[10]⟩:ByteArray).size
   ·rw [if_pos c2] at hs;have e:=Option.some.inj hs;have e2:=Lib.splitB_all (⟨#[10]⟩:ByteArray) (by decide) 0 _ a0 rfl;rw [e,hN] at e2;have:=Lib.countB_le (⟨#[10]⟩:ByteArray) (by decide) a0.size a0 (Nat.le_refl _)
    omega
   ·rw [if_neg c2] at hs;cases hs
  obtain ⟨i9,hi9,_⟩:=Option.map_eq_some_iff.1 (show (Tryz.prog.info? 9).map (fun i=>i.size)=some 1 by kernel_rfl);have hcut:=Mi (P:=Tryz.prog) 54 9 .i64 Tryz.underlying54 hi9 (some ⟨w.heap.size+1+1+1,0,none⟩) (N+1) (N+1) (N:Int) (by omega) (by omega) (Nat.le_refl _);rw [Int.toNat_natCast] at hcut;clear hi9;have hw1:wrap64 (((N+1:Nat):Int)-1)=N:=by rw [w64 (by omega) (by omega)];omega
  have hw2:wrap64 ((N:Nat):Int)=N:=w64 (by omega) (by omega);have HNb:=Aa.mk hNb;have HG:=Aa.mk hG;have HL:=Aa.mk hl;have HT:=Aa.mk ht;have HS:=Aa.mk hs;have HN:=Aa.mk hN;clear hG hl ht h hs c hN hNb
  go_enter Tryz.func14,Tryz.ntmps14
  go_wp2_with (go_at_call 46;refine (ex_split w a0 lines HG.out HS.out).mono ?_;rintro e w4 ⟨rfl,he4⟩;rw [HN.out];have HE:=Aa.mk he4;clear he4)
  simp only [hw2]
  go_loopg [20] N (fun kq v20 wr => ∃(i:Int) (form:List Int) (out:List UInt8),v20 = .int .i64 i∧Aa (i+(kq:Int)=N∧0≤i)∧Aa (ExAt w (w.heap.size+1) (w.heap.size+1+1) (w.heap.size+1+1+1) lines form out wr)∧Aa (runL k (lines.dropLast.drop i.toNat) form out=some (form',out')))
  case atStart=>exact ⟨0,[1],[],rfl,⟨by omega,by omega⟩,HE,⟨HL.out⟩⟩
  case round =>
   clear HE HL;obtain ⟨i,form,out,rfl,HI,HE,HL⟩:=hrel
   by_cases c2:i<(N:Int)
   ·have c2b:=decide_eq_true c2;have hil:i.toNat<lines.length:=by have:=HN.out;have:=HI.out.2;omega
    obtain ⟨l,hl0⟩ : ∃l,lines[i.toNat]? = some l:=⟨_,List.getElem?_eq_getElem hil⟩
    have hdl:lines.dropLast.drop i.toNat=l::lines.dropLast.drop (i.toNat+1):=by
     have hi2:i.toNat<lines.dropLast.length:=by rw [List.length_dropLast];have:=HN.out;have:=HI.out.2;omega
     rw [List.drop_eq_getElem_cons hi2]
     congr 1
     rw [List.getElem_dropLast];have:=List.getElem?_eq_getElem hil;rw [hl0] at this;exact (Option.some.inj this).symm
    have hL:=HL.out;rw [hdl] at hL;obtain ⟨ws,f2,s2,hs2,hc2,hb2,hr2⟩:=OE hL
    have hcell:wr.cell? ⟨w.heap.size+1+1+1,i.toNat,none⟩=some (.string l):=by
     rw [Lib.cell_of_heap HE.out.ln]
     simp [hl0]
    have p0:(0≤i)=True:=eq_true HI.out.2;have p1:(i<(N:Int))=True:=eq_true c2;have wi:wrap64 (i+1)=i+1:=w64 (by have:=HI.out.2;omega) (by have:=HNb.out;omega);have HS2:=Aa.mk hs2;have HC2:=Aa.mk hc2;have HB2:=Aa.mk hb2;have HR2:=Aa.mk hr2;have HH:=Aa.mk (lt_of_block HE.out.ln);clear hL hdl hil hl0 HL hs2 hc2 hb2 hr2 c2
    go_wp2_with (first|(go_at_call 46;refine (strings_Split.calls l ⟨#[32]⟩ ws _ (GW.below HG.out HE.out.bl) HS2.out).mono ?_;rintro e w5 ⟨v5,rfl,ho5,hb5⟩;have HE5:=Aa.mk (HE.out.below hb5);have HO5:=Aa.mk ho5;clear ho5 hb5;obtain ⟨A5,k5,e5⟩:=Kd.Az HO5.out;subst e5)|(go_at_call 48;refine (Dj.calls k w.heap.size (w.heap.size+1) _ _ form ws f2 s2 _ (GW.below HG.out HE5.out.bl) ((Kd.Ac HO5.out).2.2) ((Kd.Ac HO5.out).2.1) HE5.out.fm HE5.out.bl.size HC2.out).mono ?_;rintro e w6 ⟨rfl,hf6,hk6⟩;have HE6:=Aa.mk (HE5.out.line hk6 hf6);have hsz:s2.size+(⟨#[10]⟩:ByteArray).size≤9223372036854775807:=(by have:=HB2.out.1;show s2.size+1≤_;omega);clear hf6 hk6)|(go_at_call 47;refine (Ks w.heap.size (w.heap.size+1+1) _ (s2++(⟨#[10]⟩:ByteArray)) _ HE6.out.bd (ex_len HB2.out) HE6.out.bl.size).mono ?_;rintro e w7 ⟨rfl,hd7,hb7,hk7⟩;have HE7:=Aa.mk (HE6.out.wrote hb7 hk7 hd7);clear hd7 hb7 hk7))
    obtain ⟨k1,hk1⟩ : ∃k1,gk=k1+1:=⟨gk-1,by have:=HI.out.1;have:=of_decide_eq_true c2b;omega⟩
    go_roundg k1
    case measure=>omega
    case rel=>exact ⟨i+1,f2,_,by rw [wi],⟨by have:=HI.out.1;have:=HI.out.2;omega⟩,HE7,⟨by have:=HR2.out;have e:(i+1).toNat=i.toNat+1:=(by have:=HI.out.2;omega);rw [e];exact this⟩⟩
   ·have c2b:=decide_eq_false c2;have hi:i.toNat=N:=by have:=HI.out.1;have:=HI.out.2;omega
    have hL:=HL.out;rw [hi,List.drop_of_length_le (by rw [List.length_dropLast];have:=HN.out;omega)] at hL;simp only [runL,Option.some.injEq,Prod.mk.injEq] at hL;obtain ⟨rfl,rfl⟩:=hL;obtain ⟨_,v,hv,ho⟩:=HE.out.fm;obtain ⟨A,c,rfl⟩:=DU ho;have cF:=cell_of_one hv;have hs1:(⟨#[116,101,114,109,115,32]⟩:ByteArray).size+t.size≤9223372036854775807:=by have:=HBD.out.1;show 6+t.size≤_;omega
    have hs2:((⟨#[116,101,114,109,115,32]⟩:ByteArray)++t).size+(⟨#[10]⟩:ByteArray).size≤9223372036854775807:=by
     have:=HBD.out.1;rw [ByteArray.size_append]
     show 6+t.size+1≤_
     omega
    clear HL c2 hv ho hi
    go_wp2_with (first|(go_at_call 49;refine (strconv_Itoa.calls _ t _ (GW.below HG.out HE.out.bl) HT.out).mono ?_;rintro e w8 ⟨rfl,hb8⟩;have HE8:=Aa.mk (HE.out.below hb8);clear hb8 cF)|(go_at_call 47;refine (Ks w.heap.size (w.heap.size+1+1) _ _ _ HE8.out.bd (ex_len2 HBD.out) HE8.out.bl.size).mono ?_;rintro e w9 ⟨rfl,hd9,hb9,hk9⟩;have HE9:=Aa.mk (HE8.out.wrote hb9 hk9 hd9);clear hd9 hb9 hk9)|(go_at_call 50;refine (Tryz.Builder_String_any w.heap.size (w.heap.size+1+1) _ _ HE9.out.bd HE9.out.bl.size).mono ?_;rintro e w10 ⟨rfl,hb10⟩;have HB10:=Aa.mk (HE9.out.bl.trans hb10);clear hb10))
    go_ret
    exact ⟨rfl,HB10.out⟩
end
def Cl.l0:Nat→ByteArray→Int→List ByteArray→Int→Int→Option (List ByteArray)
 | 0,_,_,_,_,_=>none
 | k+1,x0,x1,x5,x6,x7=>if x7<(x0.size:Int) then if 0≤x7 then if (bt x0 x7)=x1 then if 0≤x6 then if x6≤x7 then if x7≤(x0.size:Int) then if x5.length<8796093022208 then Cl.l0 k x0 x1 (x5++[x0.extract (x6:Int).toNat (x7:Int).toNat]) (wrap64 (x7+1)) (wrap64 (x7+1)) else none else none else none else none else Cl.l0 k x0 x1 x5 x6 (wrap64 (x7+1)) else none else if 0≤x6 then if x6≤(x0.size:Int) then if x5.length<8796093022208 then some (x5++[x0.extract (x6:Int).toNat x0.size]) else none else none else none
def Cl.f (k:Nat) (a0:ByteArray) (a1:Int):Option (List ByteArray):=Cl.l0 k a0 a1 (([]:List ByteArray)) 0 0
theorem Cl.calls (k:Nat) (a0:ByteArray) (a1:Int) (r:List ByteArray) (w:World) (h:Cl.f k a0 a1=some r) :
  Calls Tryz.prog 51 #[.string a0,.int .u8 a1] w fun e w' => ∃v0_:Value,e = .returned (v0_)∧Kd.R Kd.string 9 w' w.heap.size (fun _=>True) v0_ r∧Below w.heap.size w w':=by
 have HB:=Aa.mk (Below.refl w.heap.size w);unfold Cl.f at h;have H:=h;clear h;obtain ⟨y18,hyy⟩ : ∃y_:List ByteArray,y_=(([]:List ByteArray)):=⟨_,rfl⟩
 replace H:(Cl.l0 k a0 a1 y18 0 0)=some r:=Zs.auY
 have Ny18:=Aa.mk hyy;clear hyy;have H':=Aa.mk H;clear H
 go_enter Tryz.func51,Tryz.ntmps51
 go_wp2_with (((with_reducible refine Bb (N:=8) rfl ?_);refine Kd.I2 Kd.string _ 9 ?hg (N:=8) ?hd (xs:=([]:List ByteArray)) (inner:=[]) (ok:=fun _=>True) (okp:=fun _=>True) ?hr ?hp (fun _ hk=>hk) trivial (Below.refl _ _) (Nat.le_refl _) (by simp) ?_;(case hd=>rfl);(case hg=>rfl);(case hr=>first|(go_simp;done)|(go_simp;rfl));(case hp=>exact (Reps.none _ _));intro v19 w3 ho4 hb hg_ hnew_;clear hg_ hnew_;(first|rw [← Ny18.out] at ho4|(simp only [Int.reduceToNat] at ho4;rw [← Ny18.out] at ho4));have HO20:=Zq.lw ho4;replace HB:=Zq.st hb;clear hb ho4))
 go_loopg [5,6,7] k (fun kq v5 v6 v7 w' => ∃(x5_1:List ByteArray) (x6_1 x7_1:Int),v6 = .int .i64 x6_1∧v7 = .int .i64 x7_1∧Aa (Cl.l0 kq a0 a1 x5_1 x6_1 x7_1=some r)∧Aa (kq≤k)∧Aa (Kd.R Kd.string 9 w' w.heap.size (fun _=>True) v5 x5_1)∧Aa (Below w.heap.size w w'))
 case atStart=>exact ⟨(y18),(0),(0),Zs.auS,Zs.auS,H',⟨Nat.le_refl _⟩,⟨(Zs.mvR HO20.out)⟩,⟨Zs.auHB⟩⟩
 case round =>
  clear H'
  obtain ⟨x5_1,x6_1,x7_1,rfl,rfl,HA,HK1,HO_5,HB⟩:=hrel;cases gk with
  | zero=>exact absurd HA.out (by simp [Cl.l0])
  | succ k1 =>
   have H:=HA.out;clear HA;simp only [Cl.l0] at H
   rcases Zq.jd H with ⟨c5b0,H⟩|⟨c5b0,H⟩
   ·obtain ⟨c6b0,H⟩:=Zq.pd H
    rcases Zq.jn H with ⟨c8b0,H⟩|⟨c8,c8b0,H⟩
    ·obtain ⟨c9,H⟩:=Zq.ip H;have c9b0:=eq_true c9;clear c9
     obtain ⟨c10,H⟩:=Zq.ip H;have c10b0:=eq_true c10;clear c10
     obtain ⟨c11,H⟩:=Zq.ip H;have c11b0:=eq_true c11;clear c11
     obtain ⟨c12,H⟩:=Zq.ip H;have LMc12:=Aa.mk c12;clear c12;(try rw [Option.bind_some] at H);generalize hyy:(x5_1++[a0.extract (x6_1:Int).toNat (x7_1:Int).toNat]:List ByteArray)=y21 at H;have Ny21:=Aa.mk hyy.symm;clear hyy;have H':=Aa.mk H;clear H;have p7:0≤(x7_1:Int):=Zs.od;have q7:x7_1<(a0.size:Int):=Zs.od;have hx7:=Fz a0 x7_1;replace p7:=eq_true p7;replace q7:=eq_true q7
     go_wp2_with (((with_reducible refine AY (b := .append) (xs:=#[.tmp 20,.tmp 25]) rfl ?_);at_builtin;refine Kd.Ea Kd.string (w0:=w) w.heap.size rfl (.tmp 20) (.tmp 25) 54 9 (.string ⟨#[]⟩) 16 rfl Tryz.underlying54 OV rfl (by decide) (by omega) u5 x5_1 (a0.extract (x6_1:Int).toNat (x7_1:Int).toNat) [.string (a0.extract (x6_1:Int).toNat (x7_1:Int).toNat)] (fun _=>True) (fun _=>False) rfl rfl ?aP (fun _ hk=>hk.elim) ?aF ?aO ?aB ?aS ?aL ?_;(case aP=>exact rfl);(case aB=>exact (Zs.auHB));(case aF=>exact (fun _ _=>trivial));(case aO=>exact ((Zs.mvR HO_5.out)));(case aS=>exact (Ay (Zs.auHB)));(case aL=>have:=LMc12.out;omega);intro v22 w13 ho hb hg hat;rw [← Ny21.out] at ho;replace HB:=Aa.mk (hb);have HO23:=Aa.mk (ho);clear HO_5;clear ho hb hg hat))
     go_roundg k1
     case measure=>have:=HK1.out;omega
     case rel=>exact ⟨(y21),(wrap64 (x7_1+1)),(wrap64 (x7_1+1)),Zs.auS,Zs.auS,H',⟨by have:=HK1.out;omega⟩,⟨(Zs.mvR HO23.out)⟩,⟨Zs.auHB⟩⟩
    ·have H':=Aa.mk H;clear H;have p7:0≤(x7_1:Int):=Zs.od;have q7:x7_1<(a0.size:Int):=Zs.od;have hx7:=Fz a0 x7_1;replace p7:=eq_true p7;replace q7:=eq_true q7;go_wp2
     go_roundg k1
     case measure=>have:=HK1.out;omega
     case rel=>exact ⟨(x5_1),(x6_1),(wrap64 (x7_1+1)),Zs.auS,Zs.auS,H',⟨by have:=HK1.out;omega⟩,⟨(Zs.mvR HO_5.out)⟩,⟨Zs.auHB⟩⟩
   ·obtain ⟨c14,H⟩:=Zq.ip H;have c14b0:=eq_true c14;clear c14
    obtain ⟨c15,H⟩:=Zq.ip H;have c15b0:=eq_true c15;clear c15
    obtain ⟨c16,H⟩:=Zq.ip H;have LMc16:=Aa.mk c16;clear c16;(try rw [Option.bind_some] at H);generalize hyy:(x5_1++[a0.extract (x6_1:Int).toNat a0.size]:List ByteArray)=y24 at H;have Ny24:=Aa.mk hyy.symm;clear hyy;obtain rfl:=Option.some.inj H
    go_wp2_with (((with_reducible refine AY (b := .append) (xs:=#[.tmp 29,.tmp 33]) rfl ?_);at_builtin;refine Kd.Ea Kd.string (w0:=w) w.heap.size rfl (.tmp 29) (.tmp 33) 54 9 (.string ⟨#[]⟩) 16 rfl Tryz.underlying54 OV rfl (by decide) (by omega) u5 x5_1 (a0.extract (x6_1:Int).toNat a0.size) [.string (a0.extract (x6_1:Int).toNat a0.size)] (fun _=>True) (fun _=>False) rfl rfl ?aP (fun _ hk=>hk.elim) ?aF ?aO ?aB ?aS ?aL ?_;(case aP=>exact rfl);(case aB=>exact (Zs.auHB));(case aF=>exact (fun _ _=>trivial));(case aO=>exact ((Zs.mvR HO_5.out)));(case aS=>exact (Ay (Zs.auHB)));(case aL=>have:=LMc16.out;omega);intro v25 w17 ho hb hg hat;rw [← Ny24.out] at ho;replace HB:=Aa.mk (hb);have HO26:=Aa.mk (ho);clear HO_5;clear ho hb hg hat))
    go_ret
    exact ⟨_,Zs.auR,(Zs.mvR HO26.out),Zs.auHB⟩
def B2.f (a0:Int):Option (Bool):=(CC.f a0 (-5000) 5000).bind fun t3=>(some t3)
theorem B2.calls (a0:Int) (r:Bool) (w:World) (h:B2.f a0=some r) :
  Calls Tryz.prog 63 #[.int .i64 a0] w fun e w'=>e = .returned (.bool r)∧Bo w w':=by
 unfold B2.f at h;have H:=h;clear h;obtain ⟨t3,A2,H⟩:=Zs.be H;obtain rfl:=Option.some.inj H
 go_enter Tryz.func63,Tryz.ntmps63
 go_wp2_with (((with_reducible refine Ab (f:=111) rfl ?_);refine Zq.gp Tryz.func111 (CC.calls _ _ _ _ _ A2.out) ?_;intro nd))
 go_ret
 exact ⟨Zs.auS,Zq.dr⟩
mutual
def AX.l0:Nat→Int→Int→Int→Option (Int×Int)
 | 0,_,_,_=>none
 | k+1,x0,x4,x5=>(Bc.f x0).bind fun t3=>(if (wrap64 (x5*x5))≤t3 then AX.l1 k x0 x4 x5 else some (x0,x4))
def AX.l1:Nat→Int→Int→Int→Option (Int×Int)
 | 0,_,_,_=>none
 | k+1,x0,x4,x5=>if (wrap64 (x5*x5))=0 then none else if (Int.tmod x0 (wrap64 (x5*x5)))=0 then AX.l1 k (wrap64 (Int.tdiv x0 (wrap64 (x5*x5)))) (wrap64 (x4*x5)) x5 else AX.l0 k x0 x4 (wrap64 (x5+1))
end
def AX.f (k:Nat) (a0:Int):Option (Int×Int):=AX.l0 k a0 1 2
theorem AX.calls (k:Nat) (a0 r1 r2:Int) (w:World) (h:AX.f k a0=some (r1,r2)) :
  Calls Tryz.prog 81 #[.int .i64 a0] w fun e w'=>e = .returned (.tuple #[.int .i64 r1,.int .i64 r2])∧Below w.heap.size w w':=by
 have HB:=Aa.mk (Below.refl w.heap.size w);unfold AX.f at h;have H:=h;clear h;have H':=Aa.mk H;clear H
 go_enter Tryz.func81,Tryz.ntmps81
 go_wp2
 go_loopg [0,4,5] k (fun kq v0 v4 v5 w' => ∃x0_1 x4_1 x5_1:Int,v0 = .int .i64 x0_1∧v4 = .int .i64 x4_1∧v5 = .int .i64 x5_1∧Aa (AX.l0 kq x0_1 x4_1 x5_1=some (r1,r2))∧Aa (kq≤k)∧Aa (Below w.heap.size w w'))
 case atStart=>exact ⟨(a0),(1),(2),Zs.auS,Zs.auS,Zs.auS,H',⟨Nat.le_refl _⟩,⟨Zs.auHB⟩⟩
 case round =>
  clear H';obtain ⟨x0_1,x4_1,x5_1,rfl,rfl,rfl,HA,HK1,HB⟩:=hrel;cases gk with
  | zero=>exact absurd HA.out (by simp [AX.l0])
  | succ k1 =>
   have H:=HA.out;clear HA;simp only [AX.l0] at H;obtain ⟨t8,A2,H⟩:=Zs.be H
   rcases Zq.jd H with ⟨c3b0,H⟩|⟨c3b0,H⟩
   ·have H':=Aa.mk H;clear H
    go_wp2_with (((with_reducible refine Ab (f:=134) rfl ?_);refine Zq.gb Tryz.func134 (Bc.calls _ _ _ A2.out) ?_;intro w4 hb;replace HB:=Zq.st hb;(try clear hb)))
    go_loopg [0,4] k1 (fun kq v0 v4 w' => ∃x0_2 x4_2:Int,v0 = .int .i64 x0_2∧v4 = .int .i64 x4_2∧Aa (AX.l1 kq x0_2 x4_2 x5_1=some (r1,r2))∧Aa (kq≤k1)∧Aa (Below w.heap.size w w'))
    case atStart=>exact ⟨(x0_1),(x4_1),Zs.auS,Zs.auS,H',⟨Nat.le_refl _⟩,⟨Zs.auHB⟩⟩
    case round =>
     clear H'
     obtain ⟨x0_2,x4_2,rfl,rfl,HA,HK2,HB⟩:=hrel;cases gk with
     | zero=>exact absurd HA.out (by simp [AX.l1])
     | succ k2 =>
      have H:=HA.out;clear HA;simp only [AX.l1] at H
      rcases Zq.ii H with ⟨c5,H⟩|⟨c5,H⟩
      ·exact absurd H (by simp)
      ·rcases Zq.jn H with ⟨c6b0,H⟩|⟨c6,c6b0,H⟩
       ·have H':=Aa.mk H;clear H;go_wp2
        go_roundg k2
        case measure=>have:=HK1.out;have:=HK2.out;omega
        case rel=>exact ⟨(wrap64 (Int.tdiv x0_2 (wrap64 (x5_1*x5_1)))),(wrap64 (x4_2*x5_1)),Zs.auS,Zs.auS,H',⟨by have:=HK1.out;have:=HK2.out;omega⟩,⟨Zs.auHB⟩⟩
       ·have H':=Aa.mk H;clear H;go_wp2
        go_roundg k2
        case measure=>have:=HK1.out;have:=HK2.out;omega
        case rel=>exact ⟨(x0_2),(x4_2),(wrap64 (x5_1+1)),Zs.auS,Zs.auS,Zs.auS,H',⟨by have:=HK1.out;have:=HK2.out;omega⟩,⟨Zs.auHB⟩⟩
   ·obtain ⟨rfl,rfl⟩:=Zq.pi H
    go_wp2_with (((with_reducible refine Ab (f:=134) rfl ?_);refine Zq.gb Tryz.func134 (Bc.calls _ _ _ A2.out) ?_;intro w7 hb;replace HB:=Zq.st hb;(try clear hb)))
    go_ret2
    exact ⟨Zs.auR,Zs.auHB⟩
def BL.l0:Nat→List Int→Int→List Int→Int→Option (List Int)
 | 0,_,_,_,_=>none
 | k+1,x0,x1,x5,x6=>if x6<(x0.length:Int) then if 0≤x6 then (AX.f k (wrap64 (x1*(rd x0 x6)))).bind fun bt3=>(if x5.length<17592186044416 then BL.l0 k x0 x1 (x5++[bt3.1]) (wrap64 (x6+1)) else none) else none else some x5
def BL.f (k:Nat) (l0:List Int) (a1:Int):Option (List Int):=BL.l0 k l0 a1 (([]:List Int)) 0
theorem BL.calls (k:Nat) (A0:Option Addr) (c0:Nat) (l0:List Int) (a1:Int) (r:List Int) (w:World) (hr0:Kd.C (Kd.int .i64) w A0 l0.length l0) (hc0:l0.length≤c0) (h:BL.f k l0 a1=some r) :
  Calls Tryz.prog 64 #[.slice A0 l0.length c0,.int .i64 a1] w fun e w' => ∃v0_:Value,e = .returned (v0_)∧Kd.R (Kd.int .i64) 3 w' w.heap.size (fun _=>True) v0_ r∧Below w.heap.size w w':=by
 have HR0:=Aa.mk hr0;have HC0:=Aa.mk hc0;clear hr0 hc0;have HB:=Aa.mk (Below.refl w.heap.size w);unfold BL.f at h;have H:=h;clear h;obtain ⟨y11,hyy⟩ : ∃y_:List Int,y_=(([]:List Int)):=⟨_,rfl⟩
 replace H:(BL.l0 k l0 a1 y11 0)=some r:=Zs.auY
 have Ny11:=Aa.mk hyy;clear hyy;have H':=Aa.mk H;clear H
 go_enter Tryz.func64,Tryz.ntmps64
 go_wp2_with (((with_reducible refine Bb (N:=9) rfl ?_);refine Zq.li ([]:List Int) ?_;intro v12 w3 ho4 hb;(first|rw [← Ny11.out] at ho4|(simp only [Int.reduceToNat] at ho4;rw [← Ny11.out] at ho4));have HO13:=Zq.lw ho4;replace HB:=Zq.st hb;clear hb ho4))
 go_loopg [5,6] k (fun kq v5 v6 w' => ∃(x5_1:List Int) (x6_1:Int),v6 = .int .i64 x6_1∧Aa (BL.l0 kq l0 a1 x5_1 x6_1=some r)∧Aa (kq≤k)∧Aa (Kd.R (Kd.int .i64) 3 w' w.heap.size (fun _=>True) v5 x5_1)∧Aa (Below w.heap.size w w'))
 case atStart=>exact ⟨(y11),(0),Zs.auS,H',⟨Nat.le_refl _⟩,⟨(Zs.mvR HO13.out)⟩,⟨Zs.auHB⟩⟩
 case round =>
  clear H'
  obtain ⟨x5_1,x6_1,rfl,HA,HK1,HO_5,HB⟩:=hrel;cases gk with
  | zero=>exact absurd HA.out (by simp [BL.l0])
  | succ k1 =>
   have H:=HA.out;clear HA;simp only [BL.l0] at H
   rcases Zq.jd H with ⟨c5b0,H⟩|⟨c5b0,H⟩
   ·obtain ⟨c6b0,H⟩:=Zq.pd H;obtain ⟨t15,t16,A7,H⟩:=Zq.bp H;try dsimp only at H
    obtain ⟨c8,H⟩:=Zq.ip H;have LMc8:=Aa.mk c8;clear c8;generalize hyy:(x5_1++[t15]:List Int)=y17 at H;have Ny17:=Aa.mk hyy.symm;clear hyy;have H':=Aa.mk H;clear H;obtain ⟨ad14,e14,hx14_0,p14,q14⟩:=Zq.at_ HR0.out x6_1;cases e14;replace hx14_0:=Zq.ce HB.out hx14_0
    go_wp2_with (first|((with_reducible refine Ab (f:=81) rfl ?_);refine Zq.gb Tryz.func81 (AX.calls _ _ _ _ _ A7.out) ?_;intro w9 hb;replace HO_5:=Zq.rb HO_5.out hb;replace HB:=Zq.st hb;(try clear hb))|((with_reducible refine AY (b := .append) (xs:=#[.tmp 26,.tmp 28]) rfl ?_);at_builtin;refine Zq.ap (.tmp 26) (.tmp 28) 27 Tryz.underlying27 DS u5 x5_1 t15 (fun _=>True) (fun _ _=>trivial) ((Zs.mvR HO_5.out)) LMc8.out ?_;intro v18 w10 ho hb hg hat;rw [← Ny17.out] at ho;replace HB:=Aa.mk (hb);have HO19:=Aa.mk (ho);clear HO_5;clear ho hb hg hat))
    go_roundg k1
    case measure=>have:=HK1.out;omega
    case rel=>exact ⟨(y17),(wrap64 (x6_1+1)),Zs.auS,H',⟨by have:=HK1.out;omega⟩,⟨(Zs.mvR HO19.out)⟩,⟨Zs.auHB⟩⟩
   ·obtain rfl:=Option.some.inj H;go_wp2;go_ret
    exact ⟨_,Zs.auR,(Zs.mvR HO_5.out),Zs.auHB⟩
def BJ.j0:Nat→List Int→Int→Bool→Option (List Int×Bool)
 | 0,_,_,_=>none
 | k+1,x0,x1,x18=>if x18=true then some ((([]:List Int)),false) else (BL.f k x0 x1).bind fun t3=>((As.f k t3).bind fun t4=>(if t4=true then some (t3,true) else some ((([]:List Int)),false)))
def BJ.f (k:Nat) (l0:List Int) (a1:Int):Option (List Int×Bool):=(As.f k l0).bind fun t3=>(if t3=true then (B2.f a1).bind fun t4=>(if t4=true then BJ.j0 k l0 a1 (a1==0) else BJ.j0 k l0 a1 true) else BJ.j0 k l0 a1 true)
theorem BJ.calls (k:Nat) (A0:Option Addr) (c0:Nat) (l0:List Int) (a1:Int) (r1:List Int) (r2:Bool) (w:World) (hr0:Kd.C (Kd.int .i64) w A0 l0.length l0) (hc0:l0.length≤c0) (h:BJ.f k l0 a1=some (r1,r2)) :
  Calls Tryz.prog 28 #[.slice A0 l0.length c0,.int .i64 a1] w fun e w' => ∃v0_:Value,e = .returned (.tuple #[v0_,.bool r2])∧Kd.R (Kd.int .i64) 3 w' w.heap.size (fun _=>True) v0_ r1∧Below w.heap.size w w':=by
 have HR0:=Aa.mk hr0;have HC0:=Aa.mk hc0;clear hr0 hc0;have HB:=Aa.mk (Below.refl w.heap.size w);unfold BJ.f at h;have H:=h;clear h;have HC3:=Aa.mk H;clear H
 go_enter Tryz.func28,Tryz.ntmps28
 go_upto_region 1 with (fail)
 go_cut [18] (fun v18 wc => ∃(kq:Nat) (x18_2:Bool),v18 = .bool x18_2∧Aa (BJ.j0 kq l0 a1 x18_2=some (r1,r2))∧Aa (kq≤k)∧Aa (Below w.heap.size w wc))
 case first =>
  have H:=HC3.out;clear HC3;obtain ⟨t5,A4,H⟩:=Zs.be H
  cases t5
  ·replace H:=Zq.fh H;have H':=Aa.mk H;clear H
   go_wp2_with (((with_reducible refine Ab (f:=62) rfl ?_);refine Zq.gp Tryz.func62 (As.calls _ _ _ _ _ _ (Zs.mvC ((Kd.BF HR0.out HB.out))) HC0.out A4.out) ?_;intro nd))
   go_meet
   case rel=>exact ⟨_,(true),Zs.auS,H',⟨Zs.auN⟩,⟨Zs.auHB⟩⟩
  ·replace H:=Zq.th H;obtain ⟨t7,A6,H⟩:=Zs.be H
   cases t7
   ·replace H:=Zq.fh H;have H':=Aa.mk H;clear H
    go_wp2_with (first|((with_reducible refine Ab (f:=62) rfl ?_);refine Zq.gp Tryz.func62 (As.calls _ _ _ _ _ _ (Zs.mvC ((Kd.BF HR0.out HB.out))) HC0.out A4.out) ?_;intro nd)|(go_at_call 63;(with_reducible refine (B2.calls a1 false _ A6.out).mono ?_);rintro e w' ⟨rfl,⟨nd,rfl⟩⟩))
    go_meet
    case rel=>exact ⟨_,(true),Zs.auS,H',⟨Zs.auN⟩,⟨Zs.auHB⟩⟩
   ·replace H:=Zq.th H;have H':=Aa.mk H;clear H
    go_wp2_with (first|((with_reducible refine Ab (f:=62) rfl ?_);refine Zq.gp Tryz.func62 (As.calls _ _ _ _ _ _ (Zs.mvC ((Kd.BF HR0.out HB.out))) HC0.out A4.out) ?_;intro nd)|(go_at_call 63;(with_reducible refine (B2.calls a1 true _ A6.out).mono ?_);rintro e w' ⟨rfl,⟨nd,rfl⟩⟩))
    go_meet
    case rel=>exact ⟨_,((a1==0)),Zs.auS,H',⟨Zs.auN⟩,⟨Zs.auHB⟩⟩
 case rest =>
  clear HC3
  obtain ⟨kq,x18_2,rfl,HA,HJ2,HB⟩:=hcut;cases kq with
  | zero=>exact absurd HA.out (by simp [BJ.j0])
  | succ kj2 =>
   have H:=HA.out;clear HA;simp only [BJ.j0] at H
   cases x18_2
   ·replace H:=Zq.fh H;obtain ⟨t21,A11,H⟩:=Zs.be H;obtain ⟨t24,A12,H⟩:=Zs.be H
    cases t24
    ·replace H:=Zq.fh H;obtain ⟨y25,hyy⟩ : ∃y_:List Int,y_=(([]:List Int)):=⟨_,rfl⟩
     replace H:(some (y25,false))=some (r1,r2):=Zs.auY
     have Ny25:=Aa.mk hyy;clear hyy;obtain ⟨rfl,rfl⟩:=Zq.pi H
     go_wp2_with (first|((with_reducible refine Ab (f:=64) rfl ?_);refine Zq.gc (some 22) Tryz.func64 (BL.calls _ _ _ _ _ _ _ (Zs.mvC ((Kd.BF HR0.out HB.out))) HC0.out A11.out) ?_;rintro e w16 ⟨v22,rfl,ho0,hb⟩;refine ⟨_,rfl,?_⟩;have HO23:=Zq.lw ho0;replace HB:=Zq.st hb;(try clear hb);(try clear ho0);obtain ⟨Ao17,co17,eo17⟩:=Kd.Az HO23.out;subst eo17)|((with_reducible refine Ab (f:=62) rfl ?_);refine Zq.gp Tryz.func62 (As.calls _ _ _ _ _ _ (Zs.mvC ((Kd.Ac HO23.out).2.2)) ((Kd.Ac HO23.out).2.1) A12.out) ?_;intro nd)|((with_reducible refine Bb (N:=26) rfl ?_);refine Zq.li ([]:List Int) ?_;intro v26 w18 ho19 hb;(first|rw [← Ny25.out] at ho19|(simp only [Int.reduceToNat] at ho19;rw [← Ny25.out] at ho19));have HO27:=Aa.mk (Kd.Bp (Kd.Br ho19 (Zq.lt HO23.out)) (Ay (Zs.auHB)));replace HO23:=Zq.el HO23.out ho19 hb;replace HB:=Zq.st hb;clear hb ho19))
     go_ret2
     exact ⟨_,Zs.auR,(Zs.mvR (Kd.AB HO27.out (fun _ hk=>trivial))),Zs.auHB⟩
    ·replace H:=Zq.th H;obtain ⟨rfl,rfl⟩:=Zq.pi H
     go_wp2_with (first|((with_reducible refine Ab (f:=64) rfl ?_);refine Zq.gc (some 22) Tryz.func64 (BL.calls _ _ _ _ _ _ _ (Zs.mvC ((Kd.BF HR0.out HB.out))) HC0.out A11.out) ?_;rintro e w14 ⟨v22,rfl,ho0,hb⟩;refine ⟨_,rfl,?_⟩;have HO23:=Zq.lw ho0;replace HB:=Zq.st hb;(try clear hb);(try clear ho0);obtain ⟨Ao15,co15,eo15⟩:=Kd.Az HO23.out;subst eo15)|((with_reducible refine Ab (f:=62) rfl ?_);refine Zq.gp Tryz.func62 (As.calls _ _ _ _ _ _ (Zs.mvC ((Kd.Ac HO23.out).2.2)) ((Kd.Ac HO23.out).2.1) A12.out) ?_;intro nd))
     go_ret2
     exact ⟨_,Zs.auR,(Zs.mvR HO23.out),Zs.auHB⟩
   ·replace H:=Zq.th H;obtain ⟨y8,hyy⟩ : ∃y_:List Int,y_=(([]:List Int)):=⟨_,rfl⟩
    replace H:(some (y8,false))=some (r1,r2):=Zs.auY
    have Ny8:=Aa.mk hyy;clear hyy;obtain ⟨rfl,rfl⟩:=Zq.pi H
    go_wp2_with (((with_reducible refine Bb (N:=19) rfl ?_);refine Zq.li ([]:List Int) ?_;intro v13 w9 ho10 hb;(first|rw [← Ny8.out] at ho10|(simp only [Int.reduceToNat] at ho10;rw [← Ny8.out] at ho10));have HO20:=Zq.lw ho10;replace HB:=Zq.st hb;clear hb ho10))
    go_ret2
    exact ⟨_,Zs.auR,(Zs.mvR HO20.out),Zs.auHB⟩
mutual
def Au.j0:Nat→ByteArray→Int→Bool→Option (Int)
 | 0,_,_,_=>none
 | k+1,x0,x3,x13=>if x13=true then if 1≤(x0.size:Int) then Au.j1 k (x0.extract 1 x0.size) (-1) else none else Au.j1 k x0 x3
def Au.j1:Nat→ByteArray→Int→Option (Int)
 | 0,_,_=>none
 | k+1,x0,x3=>(CC.f (x0.size:Int) 1 4).bind fun t4=>(if t4=true then Au.l0 k x0 x3 0 0 else some 99999)
def Au.l0:Nat→ByteArray→Int→Int→Int→Option (Int)
 | 0,_,_,_,_=>none
 | k+1,x0,x3,x4,x5=>if x5<(x0.size:Int) then if 0≤x5 then if (bt x0 x5)<48 then some 99999 else if (bt x0 x5)>57 then some 99999 else Au.l0 k x0 x3 (wrap64 ((wrap64 (10*x4))+(((bt x0 x5)-48)%256))) (wrap64 (x5+1)) else none else some (wrap64 (x3*x4))
end
def Au.f (k:Nat) (a0:ByteArray):Option (Int):=if (a0.size:Int)>0 then if 0<(a0.size:Int) then Au.j0 k a0 1 ((bt a0 0)==45) else none else Au.j0 k a0 1 false
theorem Au.calls (k:Nat) (a0:ByteArray) (r:Int) (w:World) (h:Au.f k a0=some r) :
  Calls Tryz.prog 106 #[.string a0] w fun e w'=>e = .returned (.int .i64 r)∧Bo w w':=by
 unfold Au.f at h;have H:=h;clear h;have HC2:=Aa.mk H;clear H
 go_enter Tryz.func106,Tryz.ntmps106
 go_upto_region 2 with (fail)
 go_cut [13] (fun v13 wc => ∃(kq:Nat) (x13_1:Bool),v13 = .bool x13_1∧Aa (Au.j0 kq a0 1 x13_1=some r)∧Aa (kq≤k)∧Bo w wc)
 case first =>
  have H:=HC2.out;clear HC2
  rcases Zq.ii H with ⟨c3,H⟩|⟨c3,H⟩
  ·have c3b1:decide (0<a0.size)=true:=decide_eq_true (by omega);clear c3
   obtain ⟨c4b0,H⟩:=Zq.pd H;have H':=Aa.mk H;clear H;have p5:0≤(0:Int):=(by omega);have q5:0<a0.size:=(by have:(0:Int)<(a0.size:Int):=Zs.od;omega);have hx5 : ∀h:0<a0.size,((a0[0]'h).toNat:Int)=bt a0 0:=Fz a0 0
   clear p5;replace q5:=eq_true q5;go_wp2
   go_meet
   case rel=>exact ⟨_,(((bt a0 0)==45)),Zs.auS,H',⟨Zs.auN⟩,Zq.dr⟩
  ·have c3b1:decide (0<a0.size)=false:=decide_eq_false (by omega);clear c3
   have H':=Aa.mk H;clear H;go_wp2
   go_meet
   case rel=>exact ⟨_,(false),Zs.auS,H',⟨Zs.auN⟩,Zq.dr⟩
 case rest =>
  clear HC2
  obtain ⟨kq,x13_1,rfl,HA,HJ1,⟨mc1,rfl⟩⟩:=hcut;cases kq with
  | zero=>exact absurd HA.out (by simp [Au.j0])
  | succ kj1 =>
   have H:=HA.out;clear HA;simp only [Au.j0] at H;have HC6:=Aa.mk H;clear H
   go_upto_if 13 with (fail)
   go_cut [0,3] (fun v0 v3 wc => ∃(kq:Nat) (x0_5:ByteArray) (x3_5:Int),v0 = .string x0_5∧v3 = .int .i64 x3_5∧Aa (Au.j1 kq x0_5 x3_5=some r)∧Aa (kq≤kj1)∧Bo w wc)
   case first =>
    have H:=HC6.out;clear HC6
    cases x13_1
    ·replace H:=Zq.fh H;have H':=Aa.mk H;clear H;go_wp2
     go_meet
     case rel=>exact ⟨_,(a0),(1),Zs.auS,Zs.auS,H',⟨by have:=HJ1.out;first|omega|exact Nat.le_refl _⟩,Zq.dr⟩
    ·replace H:=Zq.th H
     obtain ⟨c8,H⟩:=Zq.ip H;have c8b0:=eq_true c8;clear c8;have H':=Aa.mk H;clear H;go_wp2
     go_meet
     case rel=>exact ⟨_,(a0.extract 1 a0.size),((-1)),Zs.auS,Zs.auS,H',⟨by have:=HJ1.out;first|omega|exact Nat.le_refl _⟩,Zq.dr⟩
   case rest =>
    clear HC6
    obtain ⟨kq,x0_5,x3_5,rfl,rfl,HA,HJ5,⟨mc5,rfl⟩⟩:=hcut;cases kq with
    | zero=>exact absurd HA.out (by simp [Au.j1])
    | succ kj5 =>
     have H:=HA.out;clear HA;simp only [Au.j1] at H;obtain ⟨t7,A9,H⟩:=Zs.be H
     cases t7
     ·replace H:=Zq.fh H;obtain rfl:=Option.some.inj H
      go_wp2_with (((with_reducible refine Ab (f:=111) rfl ?_);refine Zq.gp Tryz.func111 (CC.calls _ _ _ _ _ A9.out) ?_;intro nd))
      go_ret
      exact ⟨Zs.auS,Zq.dr⟩
     ·replace H:=Zq.th H;have H':=Aa.mk H;clear H
      go_wp2_with (((with_reducible refine Ab (f:=111) rfl ?_);refine Zq.gp Tryz.func111 (CC.calls _ _ _ _ _ A9.out) ?_;intro nd))
      go_loopg [4,5] kj5 (fun kq v4 v5 w' => ∃x4_3 x5_3:Int,v4 = .int .i64 x4_3∧v5 = .int .i64 x5_3∧Aa (Au.l0 kq x0_5 x3_5 x4_3 x5_3=some r)∧Aa (kq≤kj5)∧Bo w w')
      case atStart=>exact ⟨(0),(0),Zs.auS,Zs.auS,H',⟨Nat.le_refl _⟩,Zq.dr⟩
      case round =>
       clear H'
       obtain ⟨x4_3,x5_3,rfl,rfl,HA,HK3,⟨m3,rfl⟩⟩:=hrel;cases gk with
       | zero=>exact absurd HA.out (by simp [Au.l0])
       | succ k3 =>
        have H:=HA.out;clear HA;simp only [Au.l0] at H
        rcases Zq.jd H with ⟨c11b0,H⟩|⟨c11b0,H⟩
        ·obtain ⟨c12b0,H⟩:=Zq.pd H
         rcases Zq.jd H with ⟨c14b0,H⟩|⟨c14b0,H⟩
         ·obtain rfl:=Option.some.inj H;have p13:0≤(x5_3:Int):=Zs.od;have q13:x5_3<(x0_5.size:Int):=Zs.od;have hx13:=Fz x0_5 x5_3;replace p13:=eq_true p13;replace q13:=eq_true q13;go_wp2;go_ret
          exact ⟨Zs.auS,Zq.dr⟩
         ·rcases Zq.jg H with ⟨c16b0,H⟩|⟨c16b0,H⟩
          ·obtain rfl:=Option.some.inj H;have p13:0≤(x5_3:Int):=Zs.od;have q13:x5_3<(x0_5.size:Int):=Zs.od;have hx13:=Fz x0_5 x5_3;replace p13:=eq_true p13;replace q13:=eq_true q13;have p15:0≤(x5_3:Int):=Zs.od;have q15:x5_3<(x0_5.size:Int):=Zs.od;have hx15:=Fz x0_5 x5_3;replace p15:=eq_true p15;replace q15:=eq_true q15;go_wp2;go_ret
           exact ⟨Zs.auS,Zq.dr⟩
          ·have H':=Aa.mk H;clear H;have p13:0≤(x5_3:Int):=Zs.od;have q13:x5_3<(x0_5.size:Int):=Zs.od;have hx13:=Fz x0_5 x5_3;replace p13:=eq_true p13;replace q13:=eq_true q13;have p15:0≤(x5_3:Int):=Zs.od;have q15:x5_3<(x0_5.size:Int):=Zs.od;have hx15:=Fz x0_5 x5_3;replace p15:=eq_true p15;replace q15:=eq_true q15;have p17:0≤(x5_3:Int):=Zs.od;have q17:x5_3<(x0_5.size:Int):=Zs.od;have hx17:=Fz x0_5 x5_3;replace p17:=eq_true p17;replace q17:=eq_true q17;go_wp2
           go_roundg k3
           case measure=>have:=HJ1.out;have:=HJ5.out;have:=HK3.out;omega
           case rel=>exact ⟨(wrap64 ((wrap64 (10*x4_3))+(((bt x0_5 x5_3)-48)%256))),(wrap64 (x5_3+1)),Zs.auS,Zs.auS,H',⟨by have:=HJ1.out;have:=HJ5.out;have:=HK3.out;omega⟩,Zq.dr⟩
        ·obtain rfl:=Option.some.inj H;go_wp2;go_ret
         exact ⟨Zs.auS,Zq.dr⟩
def C9.f (k:Nat) (l0:List Int):Option (List Int×Bool):=(As.f k l0).bind fun t3=>(if t3=true then (BL.f k l0 1).bind fun t4=>(some (t4,true)) else some ((([]:List Int)),false))
theorem C9.calls (k:Nat) (A0:Option Addr) (c0:Nat) (l0 r1:List Int) (r2:Bool) (w:World) (hr0:Kd.C (Kd.int .i64) w A0 l0.length l0) (hc0:l0.length≤c0) (h:C9.f k l0=some (r1,r2)) :
  Calls Tryz.prog 107 #[.slice A0 l0.length c0] w fun e w' => ∃v0_:Value,e = .returned (.tuple #[v0_,.bool r2])∧Kd.R (Kd.int .i64) 3 w' w.heap.size (fun _=>True) v0_ r1∧Below w.heap.size w w':=by
 have HR0:=Aa.mk hr0;have HC0:=Aa.mk hc0;clear hr0 hc0;have HB:=Aa.mk (Below.refl w.heap.size w);unfold C9.f at h;have H:=h;clear h;obtain ⟨t3,A2,H⟩:=Zs.be H
 cases t3
 ·replace H:=Zq.fh H;obtain ⟨y12,hyy⟩ : ∃y_:List Int,y_=(([]:List Int)):=⟨_,rfl⟩
  replace H:(some (y12,false))=some (r1,r2):=Zs.auY
  have Ny12:=Aa.mk hyy;clear hyy;obtain ⟨rfl,rfl⟩:=Zq.pi H
  go_enter Tryz.func107,Tryz.ntmps107
  go_wp2_with (first|((with_reducible refine Ab (f:=62) rfl ?_);refine Zq.gp Tryz.func62 (As.calls _ _ _ _ _ _ (Zs.mvC (HR0.out)) HC0.out A2.out) ?_;intro nd)|((with_reducible refine Bb (N:=7) rfl ?_);refine Zq.li ([]:List Int) ?_;intro v13 w6 ho7 hb;(first|rw [← Ny12.out] at ho7|(simp only [Int.reduceToNat] at ho7;rw [← Ny12.out] at ho7));have HO14:=Zq.lw ho7;replace HB:=Zq.st hb;clear hb ho7))
  go_ret2
  exact ⟨_,Zs.auR,(Zs.mvR HO14.out),Zs.auHB⟩
 ·replace H:=Zq.th H;obtain ⟨t8,A4,H⟩:=Zs.be H;obtain ⟨rfl,rfl⟩:=Zq.pi H
  go_enter Tryz.func107,Tryz.ntmps107
  go_wp2_with (first|((with_reducible refine Ab (f:=62) rfl ?_);refine Zq.gp Tryz.func62 (As.calls _ _ _ _ _ _ (Zs.mvC (HR0.out)) HC0.out A2.out) ?_;intro nd)|((with_reducible refine Ab (f:=64) rfl ?_);refine Zq.gc (some 9) Tryz.func64 (BL.calls _ _ _ _ _ _ _ (Zs.mvC (HR0.out)) HC0.out A4.out) ?_;rintro e w5 ⟨v10,rfl,ho0,hb⟩;refine ⟨_,rfl,?_⟩;have HO11:=Zq.lw ho0;replace HB:=Zq.st hb;(try clear hb);(try clear ho0)))
  go_ret2
  exact ⟨_,Zs.auR,(Zs.mvR HO11.out),Zs.auHB⟩
def Eh.f (a0 a1:Int):Option (Bool):=(CC.f a0 a1 2000).bind fun t3=>(some t3)
theorem Eh.calls (a0 a1:Int) (r:Bool) (w:World) (h:Eh.f a0 a1=some r) :
  Calls Tryz.prog 56 #[.int .i64 a0,.int .i64 a1] w fun e w'=>e = .returned (.bool r)∧Bo w w':=by
 unfold Eh.f at h;have H:=h;clear h;obtain ⟨t4,A3,H⟩:=Zs.be H;obtain rfl:=Option.some.inj H
 go_enter Tryz.func56,Tryz.ntmps56
 go_wp2_with (((with_reducible refine Ab (f:=111) rfl ?_);refine Zq.gp Tryz.func111 (CC.calls _ _ _ _ _ A3.out) ?_;intro nd))
 go_ret
 exact ⟨Zs.auS,Zq.dr⟩
def B0.l0:Nat→Int→Int→Int→Option (Int)
 | 0,_,_,_=>none
 | k+1,x0,x3,x4=>if x3<x4 then if (wrap64 ((wrap64 (Int.tdiv (wrap64 (x3+x4)) 2))*(wrap64 (Int.tdiv (wrap64 (x3+x4)) 2))))<x0 then B0.l0 k x0 (wrap64 ((wrap64 (Int.tdiv (wrap64 (x3+x4)) 2))+1)) x4 else B0.l0 k x0 x3 (wrap64 (Int.tdiv (wrap64 (x3+x4)) 2)) else if (wrap64 (x3*x3))=x0 then some x3 else some (-1)
def B0.f (k:Nat) (a0:Int):Option (Int):=B0.l0 k a0 0 1048576
theorem B0.calls (k:Nat) (a0 r:Int) (w:World) (h:B0.f k a0=some r) :
  Calls Tryz.prog 57 #[.int .i64 a0] w fun e w'=>e = .returned (.int .i64 r)∧Bo w w':=by
 unfold B0.f at h;have H:=h;clear h;have H':=Aa.mk H;clear H
 go_enter Tryz.func57,Tryz.ntmps57
 go_wp2
 go_loopg [3,4] k (fun kq v3 v4 w' => ∃x3_1 x4_1:Int,v3 = .int .i64 x3_1∧v4 = .int .i64 x4_1∧Aa (B0.l0 kq a0 x3_1 x4_1=some r)∧Aa (kq≤k)∧Bo w w')
 case atStart=>exact ⟨(0),(1048576),Zs.auS,Zs.auS,H',⟨Nat.le_refl _⟩,Zq.dr⟩
 case round =>
  clear H';obtain ⟨x3_1,x4_1,rfl,rfl,HA,HK1,⟨m1,rfl⟩⟩:=hrel;cases gk with
  | zero=>exact absurd HA.out (by simp [B0.l0])
  | succ k1 =>
   have H:=HA.out;clear HA;simp only [B0.l0] at H
   rcases Zq.jd H with ⟨c2b0,H⟩|⟨c2b0,H⟩
   ·rcases Zq.jd H with ⟨c3b0,H⟩|⟨c3b0,H⟩
    ·have H':=Aa.mk H;clear H;go_wp2
     go_roundg k1
     case measure=>have:=HK1.out;omega
     case rel=>exact ⟨(wrap64 ((wrap64 (Int.tdiv (wrap64 (x3_1+x4_1)) 2))+1)),(x4_1),Zs.auS,Zs.auS,H',⟨by have:=HK1.out;omega⟩,Zq.dr⟩
    ·have H':=Aa.mk H;clear H;go_wp2
     go_roundg k1
     case measure=>have:=HK1.out;omega
     case rel=>exact ⟨(x3_1),(wrap64 (Int.tdiv (wrap64 (x3_1+x4_1)) 2)),Zs.auS,Zs.auS,H',⟨by have:=HK1.out;omega⟩,Zq.dr⟩
   ·rcases Zq.jn H with ⟨c4b0,H⟩|⟨c4,c4b0,H⟩
    ·obtain rfl:=Option.some.inj H;go_wp2;go_ret
     exact ⟨Zs.auS,Zq.dr⟩
    ·obtain rfl:=Option.some.inj H;go_wp2;go_ret
     exact ⟨Zs.auS,Zq.dr⟩
mutual
def Ar.l0:Nat→Int→Int→Option (List Int×Bool)
 | 0,_,_=>none
 | k+1,x0,x4=>if (wrap64 ((wrap64 (4*x4))*x4))≤x0 then (Eh.f x0 0).bind fun t3=>(Ar.j1 k x0 x4 t3) else Ar.j1 k x0 x4 false
def Ar.j1:Nat→Int→Int→Bool→Option (List Int×Bool)
 | 0,_,_,_=>none
 | k+1,x0,x4,x17=>if x17=true then Ar.l1 k x0 x4 x4 else some ((([]:List Int)),false)
def Ar.l1:Nat→Int→Int→Int→Option (List Int×Bool)
 | 0,_,_,_=>none
 | k+1,x0,x4,x5=>if (wrap64 ((wrap64 (3*x5))*x5))≤(wrap64 (x0-(wrap64 (x4*x4)))) then Ar.l2 k x0 x4 x5 x5 else Ar.l0 k x0 (wrap64 (x4+1))
def Ar.l2:Nat→Int→Int→Int→Int→Option (List Int×Bool)
 | 0,_,_,_,_=>none
 | k+1,x0,x4,x5,x6=>if (wrap64 ((wrap64 (2*x6))*x6))≤(wrap64 ((wrap64 (x0-(wrap64 (x4*x4))))-(wrap64 (x5*x5)))) then (B0.f k (wrap64 ((wrap64 ((wrap64 (x0-(wrap64 (x4*x4))))-(wrap64 (x5*x5))))-(wrap64 (x6*x6))))).bind fun t3=>(if t3≥0 then some ((([x4,x5,x6,t3]:List Int)),true) else Ar.l2 k x0 x4 x5 (wrap64 (x6+1))) else Ar.l1 k x0 x4 (wrap64 (x5+1))
end
def Ar.f (k:Nat) (a0:Int):Option (List Int×Bool):=Ar.l0 k a0 0
theorem Ar.calls (k:Nat) (a0:Int) (r1:List Int) (r2:Bool) (w:World) (h:Ar.f k a0=some (r1,r2)) :
  Calls Tryz.prog 20 #[.int .i64 a0] w fun e w' => ∃v0_:Value,e = .returned (.tuple #[v0_,.bool r2])∧Kd.R (Kd.int .i64) 3 w' w.heap.size (fun _=>True) v0_ r1∧Below w.heap.size w w':=by
 have HB:=Aa.mk (Below.refl w.heap.size w);unfold Ar.f at h;have H:=h;clear h;have H':=Aa.mk H;clear H
 go_enter Tryz.func20,Tryz.ntmps20
 go_wp2
 go_loopg [4] k (fun kq v4 w' => ∃x4_1:Int,v4 = .int .i64 x4_1∧Aa (Ar.l0 kq a0 x4_1=some (r1,r2))∧Aa (kq≤k)∧Aa (Below w.heap.size w w'))
 case atStart=>exact ⟨(0),Zs.auS,H',⟨Nat.le_refl _⟩,⟨Zs.auHB⟩⟩
 case round =>
  clear H';obtain ⟨x4_1,rfl,HA,HK1,HB⟩:=hrel;cases gk with
  | zero=>exact absurd HA.out (by simp [Ar.l0])
  | succ k1 =>
   have H:=HA.out;clear HA;simp only [Ar.l0] at H;have HC2:=Aa.mk H;clear H
   go_upto_region 2 with (fail)
   go_cut [17] (fun v17 wc => ∃(kq:Nat) (x17_1:Bool),v17 = .bool x17_1∧Aa (Ar.j1 kq a0 x4_1 x17_1=some (r1,r2))∧Aa (kq≤k1)∧Aa (Below w.heap.size w wc))
   case first =>
    have H:=HC2.out;clear HC2
    rcases Zq.jd H with ⟨c3b0,H⟩|⟨c3b0,H⟩
    ·obtain ⟨t14,A4,H⟩:=Zs.be H;have H':=Aa.mk H;clear H
     go_wp2_with ((go_at_call 56;(with_reducible refine (Eh.calls a0 0 t14 _ A4.out).mono ?_);rintro e w' ⟨rfl,⟨nd,rfl⟩⟩))
     go_meet
     case rel=>exact ⟨_,(t14),Zs.auS,H',⟨by have:=HK1.out;first|omega|exact Nat.le_refl _⟩,⟨Zs.auHB⟩⟩
    ·have H':=Aa.mk H;clear H;go_wp2
     go_meet
     case rel=>exact ⟨_,(false),Zs.auS,H',⟨by have:=HK1.out;first|omega|exact Nat.le_refl _⟩,⟨Zs.auHB⟩⟩
   case rest =>
    clear HC2
    obtain ⟨kq,x17_1,rfl,HA,HJ1,HB⟩:=hcut;cases kq with
    | zero=>exact absurd HA.out (by simp [Ar.j1])
    | succ kj1 =>
     have H:=HA.out;clear HA;simp only [Ar.j1] at H
     cases x17_1
     ·replace H:=Zq.fh H;obtain ⟨y15,hyy⟩ : ∃y_:List Int,y_=(([]:List Int)):=⟨_,rfl⟩
      replace H:(some (y15,false))=some (r1,r2):=Zs.auY
      have Ny15:=Aa.mk hyy;clear hyy;obtain ⟨rfl,rfl⟩:=Zq.pi H
      go_wp2_with (((with_reducible refine Bb (N:=71) rfl ?_);refine Zq.li ([]:List Int) ?_;intro v16 w12 ho13 hb;(first|rw [← Ny15.out] at ho13|(simp only [Int.reduceToNat] at ho13;rw [← Ny15.out] at ho13));have HO18:=Zq.lw ho13;replace HB:=Zq.st hb;clear hb ho13))
      go_ret2
      exact ⟨_,Zs.auR,(Zs.mvR HO18.out),Zs.auHB⟩
     ·replace H:=Zq.th H;have H':=Aa.mk H;clear H;go_wp2
      go_loopg [5] kj1 (fun kq v5 w' => ∃x5_3:Int,v5 = .int .i64 x5_3∧Aa (Ar.l1 kq a0 x4_1 x5_3=some (r1,r2))∧Aa (kq≤kj1)∧Aa (Below w.heap.size w w'))
      case atStart=>exact ⟨(x4_1),Zs.auS,H',⟨Nat.le_refl _⟩,⟨Zs.auHB⟩⟩
      case round =>
       clear H'
       obtain ⟨x5_3,rfl,HA,HK3,HB⟩:=hrel;cases gk with
       | zero=>exact absurd HA.out (by simp [Ar.l1])
       | succ k3 =>
        have H:=HA.out;clear HA;simp only [Ar.l1] at H
        rcases Zq.jd H with ⟨c6b0,H⟩|⟨c6b0,H⟩
        ·have H':=Aa.mk H;clear H;go_wp2
         go_loopg [6] k3 (fun kq v6 w' => ∃x6_4:Int,v6 = .int .i64 x6_4∧Aa (Ar.l2 kq a0 x4_1 x5_3 x6_4=some (r1,r2))∧Aa (kq≤k3)∧Aa (Below w.heap.size w w'))
         case atStart=>exact ⟨(x5_3),Zs.auS,H',⟨Nat.le_refl _⟩,⟨Zs.auHB⟩⟩
         case round =>
          clear H'
          obtain ⟨x6_4,rfl,HA,HK4,HB⟩:=hrel;cases gk with
          | zero=>exact absurd HA.out (by simp [Ar.l2])
          | succ k4 =>
           have H:=HA.out;clear HA;simp only [Ar.l2] at H
           rcases Zq.jd H with ⟨c7b0,H⟩|⟨c7b0,H⟩
           ·obtain ⟨t19,A8,H⟩:=Zs.be H
            rcases Zq.jh H with ⟨c9b0,H⟩|⟨c9b0,H⟩
            ·generalize hyy:([x4_1,x5_3,x6_4,t19]:List Int)=y21 at H;have Ny21:=Aa.mk hyy.symm;clear hyy;obtain ⟨rfl,rfl⟩:=Zq.pi H
             go_wp2_with (first|((with_reducible refine Ab (f:=57) rfl ?_);refine Zq.gp Tryz.func57 (B0.calls _ _ _ _ A8.out) ?_;intro nd)|((with_reducible refine Bb (N:=70) rfl ?_);refine Zq.li ([x4_1,x5_3,x6_4,t19]:List Int) ?_;intro v22 w10 ho11 hb;(first|rw [← Ny21.out] at ho11|(simp only [Int.reduceToNat] at ho11;rw [← Ny21.out] at ho11));have HO23:=Zq.lw ho11;replace HB:=Zq.st hb;clear hb ho11))
             go_ret2
             exact ⟨_,Zs.auR,(Zs.mvR HO23.out),Zs.auHB⟩
            ·have H':=Aa.mk H;clear H
             go_wp2_with (((with_reducible refine Ab (f:=57) rfl ?_);refine Zq.gp Tryz.func57 (B0.calls _ _ _ _ A8.out) ?_;intro nd))
             go_roundg k4
             case measure=>have:=HK1.out;have:=HJ1.out;have:=HK3.out;have:=HK4.out;omega
             case rel=>exact ⟨(wrap64 (x6_4+1)),Zs.auS,H',⟨by have:=HK1.out;have:=HJ1.out;have:=HK3.out;have:=HK4.out;omega⟩,⟨Zs.auHB⟩⟩
           ·have H':=Aa.mk H;clear H;go_wp2
            go_roundg k4
            case measure=>have:=HK1.out;have:=HJ1.out;have:=HK3.out;have:=HK4.out;omega
            case rel=>exact ⟨(wrap64 (x5_3+1)),Zs.auS,H',⟨by have:=HK1.out;have:=HJ1.out;have:=HK3.out;have:=HK4.out;omega⟩,⟨Zs.auHB⟩⟩
        ·have H':=Aa.mk H;clear H;go_wp2
         go_roundg k3
         case measure=>have:=HK1.out;have:=HJ1.out;have:=HK3.out;omega
         case rel=>exact ⟨(wrap64 (x4_1+1)),Zs.auS,H',⟨by have:=HK1.out;have:=HJ1.out;have:=HK3.out;omega⟩,⟨Zs.auHB⟩⟩
def D9.f (a0 a1:Int):Option (Bool):=(B2.f a0).bind fun t3=>(if t3=true then (B2.f a1).bind fun t4=>(if t4=true then if a0=0 then some false else some (a1 != 0) else some false) else some false)
theorem D9.calls (a0 a1:Int) (r:Bool) (w:World) (h:D9.f a0 a1=some r) :
  Calls Tryz.prog 70 #[.int .i64 a0,.int .i64 a1] w fun e w'=>e = .returned (.bool r)∧Bo w w':=by
 unfold D9.f at h;have H:=h;clear h;obtain ⟨t4,A3,H⟩:=Zs.be H
 cases t4
 ·replace H:=Zq.fh H;obtain rfl:=Option.some.inj H
  go_enter Tryz.func70,Tryz.ntmps70
  go_wp2_with (((with_reducible refine Ab (f:=63) rfl ?_);refine Zq.gp Tryz.func63 (B2.calls _ _ _ A3.out) ?_;intro nd))
  go_ret
  exact ⟨Zs.auS,Zq.dr⟩
 ·replace H:=Zq.th H;obtain ⟨t6,A5,H⟩:=Zs.be H
  cases t6
  ·replace H:=Zq.fh H;obtain rfl:=Option.some.inj H
   go_enter Tryz.func70,Tryz.ntmps70
   go_wp2_with (first|((with_reducible refine Ab (f:=63) rfl ?_);refine Zq.gp Tryz.func63 (B2.calls _ _ _ A3.out) ?_;intro nd)|(go_at_call 63;(with_reducible refine (B2.calls a1 false _ A5.out).mono ?_);rintro e w' ⟨rfl,⟨nd,rfl⟩⟩))
   go_ret
   exact ⟨Zs.auS,Zq.dr⟩
  ·replace H:=Zq.th H
   rcases Zq.ii H with ⟨c7,H⟩|⟨c7,H⟩
   ·have c7b1:=bne_eq_false_iff_eq.mpr c7;clear c7;obtain rfl:=Option.some.inj H
    go_enter Tryz.func70,Tryz.ntmps70
    go_wp2_with (first|((with_reducible refine Ab (f:=63) rfl ?_);refine Zq.gp Tryz.func63 (B2.calls _ _ _ A3.out) ?_;intro nd)|(go_at_call 63;(with_reducible refine (B2.calls a1 true _ A5.out).mono ?_);rintro e w' ⟨rfl,⟨nd,rfl⟩⟩))
    go_ret
    exact ⟨Zs.auS,Zq.dr⟩
   ·have c7b1:=bne_iff_ne.mpr c7;obtain rfl:=Option.some.inj H
    go_enter Tryz.func70,Tryz.ntmps70
    go_wp2_with (first|((with_reducible refine Ab (f:=63) rfl ?_);refine Zq.gp Tryz.func63 (B2.calls _ _ _ A3.out) ?_;intro nd)|(go_at_call 63;(with_reducible refine (B2.calls a1 true _ A5.out).mono ?_);rintro e w' ⟨rfl,⟨nd,rfl⟩⟩))
    go_ret
    exact ⟨Zs.auS,Zq.dr⟩
def Cp.l0:Nat→Int→Int→Option (Bool)
 | 0,_,_=>none
 | k+1,x0,x3=>if (wrap64 (x3*x3))≤x0 then if x3=0 then none else if (Int.tmod x0 x3)=0 then some false else Cp.l0 k x0 (wrap64 (x3+1)) else some true
def Cp.f (k:Nat) (a0:Int):Option (Bool):=(CC.f a0 2 5000).bind fun t3=>(if t3=true then Cp.l0 k a0 2 else some false)
theorem Cp.calls (k:Nat) (a0:Int) (r:Bool) (w:World) (h:Cp.f k a0=some r) :
  Calls Tryz.prog 121 #[.int .i64 a0] w fun e w'=>e = .returned (.bool r)∧Bo w w':=by
 unfold Cp.f at h;have H:=h;clear h;obtain ⟨t7,A2,H⟩:=Zs.be H
 cases t7
 ·replace H:=Zq.fh H;obtain rfl:=Option.some.inj H
  go_enter Tryz.func121,Tryz.ntmps121
  go_wp2_with (((with_reducible refine Ab (f:=111) rfl ?_);refine Zq.gp Tryz.func111 (CC.calls _ _ _ _ _ A2.out) ?_;intro nd))
  go_ret
  exact ⟨Zs.auS,Zq.dr⟩
 ·replace H:=Zq.th H;have H':=Aa.mk H;clear H
  go_enter Tryz.func121,Tryz.ntmps121
  go_wp2_with (((with_reducible refine Ab (f:=111) rfl ?_);refine Zq.gp Tryz.func111 (CC.calls _ _ _ _ _ A2.out) ?_;intro nd))
  go_loopg [3] k (fun kq v3 w' => ∃x3_1:Int,v3 = .int .i64 x3_1∧Aa (Cp.l0 kq a0 x3_1=some r)∧Aa (kq≤k)∧Bo w w')
  case atStart=>exact ⟨(2),Zs.auS,H',⟨Nat.le_refl _⟩,Zq.dr⟩
  case round =>
   clear H'
   obtain ⟨x3_1,rfl,HA,HK1,⟨m1,rfl⟩⟩:=hrel;cases gk with
   | zero=>exact absurd HA.out (by simp [Cp.l0])
   | succ k1 =>
    have H:=HA.out;clear HA;simp only [Cp.l0] at H
    rcases Zq.jd H with ⟨c4b0,H⟩|⟨c4b0,H⟩
    ·rcases Zq.ii H with ⟨c5,H⟩|⟨c5,H⟩
     ·exact absurd H (by simp)
     ·rcases Zq.jn H with ⟨c6b0,H⟩|⟨c6,c6b0,H⟩
      ·obtain rfl:=Option.some.inj H;go_wp2;go_ret
       exact ⟨Zs.auS,Zq.dr⟩
      ·have H':=Aa.mk H;clear H;go_wp2
       go_roundg k1
       case measure=>have:=HK1.out;omega
       case rel=>exact ⟨(wrap64 (x3_1+1)),Zs.auS,H',⟨by have:=HK1.out;omega⟩,Zq.dr⟩
    ·obtain rfl:=Option.some.inj H;go_wp2;go_ret
     exact ⟨Zs.auS,Zq.dr⟩
def Cs.f (k:Nat) (a0:Int):Option (Bool):=if a0=0 then some true else (Cp.f k a0).bind fun t3=>(some t3)
theorem Cs.calls (k:Nat) (a0:Int) (r:Bool) (w:World) (h:Cs.f k a0=some r) :
  Calls Tryz.prog 71 #[.int .i64 a0] w fun e w'=>e = .returned (.bool r)∧Bo w w':=by
 unfold Cs.f at h;have H:=h;clear h
 rcases Zq.jn H with ⟨c2b0,H⟩|⟨c2,c2b0,H⟩
 ·obtain rfl:=Option.some.inj H
  go_enter Tryz.func71,Tryz.ntmps71
  go_wp2;go_ret
  exact ⟨Zs.auS,Zq.dr⟩
 ·obtain ⟨t4,A3,H⟩:=Zs.be H;obtain rfl:=Option.some.inj H
  go_enter Tryz.func71,Tryz.ntmps71
  go_wp2_with ((go_at_call 121;(with_reducible refine (Cp.calls k a0 t4 _ A3.out).mono ?_);rintro e w' ⟨rfl,⟨nd,rfl⟩⟩))
  go_ret
  exact ⟨Zs.auS,Zq.dr⟩
def AM.l0:Nat→Int→Int→Int→Option (Int×Int)
 | 0,_,_,_=>none
 | k+1,x0,x1,x6=>if x1=0 then none else if (Int.tmod x0 x1)=0 then AM.l0 k (wrap64 (Int.tdiv x0 x1)) x1 (wrap64 (x6+1)) else some (x6,x0)
def AM.f (k:Nat) (a0 a1:Int):Option (Int×Int):=AM.l0 k a0 a1 0
theorem AM.calls (k:Nat) (a0 a1 r1 r2:Int) (w:World) (h:AM.f k a0 a1=some (r1,r2)) :
  Calls Tryz.prog 122 #[.int .i64 a0,.int .i64 a1] w fun e w'=>e = .returned (.tuple #[.int .i64 r1,.int .i64 r2])∧Bo w w':=by
 unfold AM.f at h;have H:=h;clear h;have H':=Aa.mk H;clear H
 go_enter Tryz.func122,Tryz.ntmps122
 go_wp2
 go_loopg [0,6] k (fun kq v0 v6 w' => ∃x0_1 x6_1:Int,v0 = .int .i64 x0_1∧v6 = .int .i64 x6_1∧Aa (AM.l0 kq x0_1 a1 x6_1=some (r1,r2))∧Aa (kq≤k)∧Bo w w')
 case atStart=>exact ⟨(a0),(0),Zs.auS,Zs.auS,H',⟨Nat.le_refl _⟩,Zq.dr⟩
 case round =>
  clear H'
  obtain ⟨x0_1,x6_1,rfl,rfl,HA,HK1,⟨m1,rfl⟩⟩:=hrel;cases gk with
  | zero=>exact absurd HA.out (by simp [AM.l0])
  | succ k1 =>
   have H:=HA.out;clear HA;simp only [AM.l0] at H
   rcases Zq.ii H with ⟨c3,H⟩|⟨c3,H⟩
   ·exact absurd H (by simp)
   ·rcases Zq.jn H with ⟨c4b0,H⟩|⟨c4,c4b0,H⟩
    ·have H':=Aa.mk H;clear H;go_wp2
     go_roundg k1
     case measure=>have:=HK1.out;omega
     case rel=>exact ⟨(wrap64 (Int.tdiv x0_1 a1)),(wrap64 (x6_1+1)),Zs.auS,Zs.auS,H',⟨by have:=HK1.out;omega⟩,Zq.dr⟩
    ·obtain ⟨rfl,rfl⟩:=Zq.pi H;go_wp2;go_ret2
     exact ⟨Zs.auS,Zq.dr⟩
def Db.f (a0 a1:Int):Option (Int):=if a1=0 then none else some (Int.tmod (wrap64 ((Int.tmod a0 a1)+a1)) a1)
theorem Db.calls (a0 a1 r:Int) (w:World) (h:Db.f a0 a1=some r) :
  Calls Tryz.prog 123 #[.int .i64 a0,.int .i64 a1] w fun e w'=>e = .returned (.int .i64 r)∧Bo w w':=by
 unfold Db.f at h;have H:=h;clear h
 rcases Zq.ii H with ⟨c3,H⟩|⟨c3,H⟩
 ·exact absurd H (by simp)
 ·obtain rfl:=Option.some.inj H
  go_enter Tryz.func123,Tryz.ntmps123
  go_wp2;go_ret
  exact ⟨Zs.auS,Zq.dr⟩
def C4.f (a0:Int):Option (Int):=if (Int.tmod a0 2)=0 then some 1 else some (-1)
theorem C4.calls (a0 r:Int) (w:World) (h:C4.f a0=some r) :
  Calls Tryz.prog 124 #[.int .i64 a0] w fun e w'=>e = .returned (.int .i64 r)∧Bo w w':=by
 unfold C4.f at h;have H:=h;clear h
 rcases Zq.jn H with ⟨c2b0,H⟩|⟨c2,c2b0,H⟩
 ·obtain rfl:=Option.some.inj H
  go_enter Tryz.func124,Tryz.ntmps124
  go_wp2;go_ret
  exact ⟨Zs.auS,Zq.dr⟩
 ·obtain rfl:=Option.some.inj H
  go_enter Tryz.func124,Tryz.ntmps124
  go_wp2;go_ret
  exact ⟨Zs.auS,Zq.dr⟩
end Go.Proofs.YtacfcoilmdhgnaaGreatDoor.PFnExecuteWhat
