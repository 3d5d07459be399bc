/- A function's Lean twin and its walk, written by a program of this session. -/
import Derived.Test.YtacfcoilmdhgnaaGreatDoorYPFnExecuteWhatx6
set_option maxHeartbeats 8000000
set_option maxRecDepth 100000
namespace Go.Proofs.YtacfcoilmdhgnaaGreatDoor.PFnExecuteWhat
open Go.RowKit Go.Proofs.YtacfcoilmdhgnaaGreatDoorW.PrintWords Go.Proofs.YtacfcoilmdhgnaaGreatDoorW.PrintLast Go.Proofs.YtacfcoilmdhgnaaGreatDoorW.PrintMore
attribute [local go_sem] DN DO El En Du Dt DP DK   -- for this text's walks alone
set_option linter.unusedVariables false
set_option linter.unusedSimpArgs false
section
open Locg
theorem Er {w:World} {b n:Nat} {D:DataW Unit} (h:w.ownsMap Tryz.prog 9 (plainElem Tryz.prog 3) b n D) (hn:n<1000) (s:ByteArray) (v:Int) (hv:(Lit.int .i64 v).wf=true) (hk:keyOf Tryz.prog 9 (.string s)=some (.string s.data.toList)) :
  ∃w',(Instr.mapUpdate 86 (.map (some b)) (.string s) (.int .i64 v)).run Tryz.prog w = .ok () w'∧w'.ownsMap Tryz.prog 9 (plainElem Tryz.prog 3) b (n+1) (D.put (.string s.data.toList) (.lit (.int .i64 v)))∧w.grownBy w' (some b) :=
 h.update (Maps.string_keyed Tryz.underlying9) Tryz.underlying86 (by unfold maxLen;omega) hk (plainElem_int Tryz.underlying3 hv)
def OT:DataW Unit:=((((((((((((((((((((((DataW.map []).put (.string [116,105,109,101,115]) (.lit (.int .i64 2)))).put (.string [99,111,114,101,115]) (.lit (.int .i64 1)))).put (.string [115,104,111,119]) (.lit (.int .i64 1)))).put (.string [100,105,115,99]) (.lit (.int .i64 1)))).put (.string [115,121,109,98,111,108]) (.lit (.int .i64 4)))).put (.string [97,116]) (.lit (.int .i64 2)))).put (.string [98,97,100]) (.lit (.int .i64 1)))).put (.string [122,101,114,111]) (.lit (.int .i64 1)))).put (.string [118,97,108,117,101]) (.lit (.int .i64 2)))).put (.string [112,108,97,110,101,115]) (.lit (.int .i64 1)))).put (.string [115,113,117,97,114,101,115]) (.lit (.int .i64 2)))
theorem Ds (w:World) : ∃w1 w2 w3 w4 w5 w6 w7 w8 w9 w10 w11:World,
  (Instr.mapUpdate 86 (.map (some w.heap.size)) (.string ⟨#[116,105,109,101,115]⟩) (.int .i64 2)).run Tryz.prog (w.alloc (.map #[] 0)) = .ok () w1∧
  (Instr.mapUpdate 86 (.map (some w.heap.size)) (.string ⟨#[99,111,114,101,115]⟩) (.int .i64 1)).run Tryz.prog (w1) = .ok () w2∧
  (Instr.mapUpdate 86 (.map (some w.heap.size)) (.string ⟨#[115,104,111,119]⟩) (.int .i64 1)).run Tryz.prog (w2) = .ok () w3∧
  (Instr.mapUpdate 86 (.map (some w.heap.size)) (.string ⟨#[100,105,115,99]⟩) (.int .i64 1)).run Tryz.prog (w3) = .ok () w4∧
  (Instr.mapUpdate 86 (.map (some w.heap.size)) (.string ⟨#[115,121,109,98,111,108]⟩) (.int .i64 4)).run Tryz.prog (w4) = .ok () w5∧
  (Instr.mapUpdate 86 (.map (some w.heap.size)) (.string ⟨#[97,116]⟩) (.int .i64 2)).run Tryz.prog (w5) = .ok () w6∧
  (Instr.mapUpdate 86 (.map (some w.heap.size)) (.string ⟨#[98,97,100]⟩) (.int .i64 1)).run Tryz.prog (w6) = .ok () w7∧
  (Instr.mapUpdate 86 (.map (some w.heap.size)) (.string ⟨#[122,101,114,111]⟩) (.int .i64 1)).run Tryz.prog (w7) = .ok () w8∧
  (Instr.mapUpdate 86 (.map (some w.heap.size)) (.string ⟨#[118,97,108,117,101]⟩) (.int .i64 2)).run Tryz.prog (w8) = .ok () w9∧
  (Instr.mapUpdate 86 (.map (some w.heap.size)) (.string ⟨#[112,108,97,110,101,115]⟩) (.int .i64 1)).run Tryz.prog (w9) = .ok () w10∧
  (Instr.mapUpdate 86 (.map (some w.heap.size)) (.string ⟨#[115,113,117,97,114,101,115]⟩) (.int .i64 2)).run Tryz.prog (w10) = .ok () w11∧
  w11.ownsMap Tryz.prog 9 (plainElem Tryz.prog 3) w.heap.size 11 OT∧Below w.heap.size w w11:=by
 have h0:=World.ownsMap_made w Tryz.prog 9 (plainElem (H:=Unit) Tryz.prog 3);have b0:Below w.heap.size w (w.alloc (.map #[] 0)):=(Below.refl _ w).alloc (Nat.le_refl _) _;obtain ⟨w1,r1,h1,g1⟩:=Er h0 (by omega) ⟨#[116,105,109,101,115]⟩ 2 (by decide) (by kernel_rfl);have b1:=b0.grown g1 (by have:=b0.size;omega) (fun k hk=>by injection hk with hk;omega);obtain ⟨w2,r2,h2,g2⟩:=Er h1 (by omega) ⟨#[99,111,114,101,115]⟩ 1 (by decide) (by kernel_rfl);have b2:=b1.grown g2 (by have:=b1.size;omega) (fun k hk=>by injection hk with hk;omega);obtain ⟨w3,r3,h3,g3⟩:=Er h2 (by omega) ⟨#[115,104,111,119]⟩ 1 (by decide) (by kernel_rfl);have b3:=b2.grown g3 (by have:=b2.size;omega) (fun k hk=>by injection hk with hk;omega);obtain ⟨w4,r4,h4,g4⟩:=Er h3 (by omega) ⟨#[100,105,115,99]⟩ 1 (by decide) (by kernel_rfl);have b4:=b3.grown g4 (by have:=b3.size;omega) (fun k hk=>by injection hk with hk;omega);obtain ⟨w5,r5,h5,g5⟩:=Er h4 (by omega) ⟨#[115,121,109,98,111,108]⟩ 4 (by decide) (by kernel_rfl);have b5:=b4.grown g5 (by have:=b4.size;omega) (fun k hk=>by injection hk with hk;omega);obtain ⟨w6,r6,h6,g6⟩:=Er h5 (by omega) ⟨#[97,116]⟩ 2 (by decide) (by kernel_rfl);have b6:=b5.grown g6 (by have:=b5.size;omega) (fun k hk=>by injection hk with hk;omega);obtain ⟨w7,r7,h7,g7⟩:=Er h6 (by omega) ⟨#[98,97,100]⟩ 1 (by decide) (by kernel_rfl);have b7:=b6.grown g7 (by have:=b6.size;omega) (fun k hk=>by injection hk with hk;omega);obtain ⟨w8,r8,h8,g8⟩:=Er h7 (by omega) ⟨#[122,101,114,111]⟩ 1 (by decide) (by kernel_rfl);have b8:=b7.grown g8 (by have:=b7.size;omega) (fun k hk=>by injection hk with hk;omega);obtain ⟨w9,r9,h9,g9⟩:=Er h8 (by omega) ⟨#[118,97,108,117,101]⟩ 2 (by decide) (by kernel_rfl);have b9:=b8.grown g9 (by have:=b8.size;omega) (fun k hk=>by injection hk with hk;omega);obtain ⟨w10,r10,h10,g10⟩:=Er h9 (by omega) ⟨#[112,108,97,110,101,115]⟩ 1 (by decide) (by kernel_rfl);have b10:=b9.grown g10 (by have:=b9.size;omega) (fun k hk=>by injection hk with hk;omega);obtain ⟨w11,r11,h11,g11⟩:=Er h10 (by omega) ⟨#[115,113,117,97,114,101,115]⟩ 2 (by decide) (by kernel_rfl);have b11:=b10.grown g11 (by have:=b10.size;omega) (fun k hk=>by injection hk with hk;omega);exact ⟨w1,w2,w3,w4,w5,w6,w7,w8,w9,w10,w11,r1,r2,r3,r4,r5,r6,r7,r8,r9,r10,r11,h11,b11⟩
theorem DC {w:World} {b n:Nat} (h:w.ownsMap Tryz.prog 9 (plainElem Tryz.prog 3) b n OT) (s:ByteArray) (v:Int) (hk:keyOf Tryz.prog 9 (.string s)=some (.string s.data.toList)) (hv:OT.atKey (.string s.data.toList) (.lit (.int .i64 0)) = .lit (.int .i64 v)) :
  (Instr.lookup 86 (.map (some b)) (.string s) false).run Tryz.prog w = .ok (.int .i64 v) w:=by
 obtain ⟨c,hr,hc,_⟩:=h.lookup_int (Maps.string_keyed Tryz.underlying9) Tryz.underlying86 Tryz.underlying3 (Tryz.zeroValue3 w) hk;have e:=hv.symm.trans hc;simp only [DataW.lit.injEq,Lit.int.injEq,true_and] at e;rw [hr,e]
def Dh (base F:Nat) (form:List Int) (w:World):Prop:=base≤F∧∃v,w.heap[F]? = some (.cells #[v] 27 (0,0))∧w.ownsRow base 3 1 v form.length (nums .i64 form)
structure FO (F:Nat) (w w':World):Prop where
 os:w'.os=w.os
 tape:w'.tape=w.tape
 output:w'.output=w.output
 size:w.heap.size≤w'.heap.size
 block : ∀k,k<w.heap.size→k≠F→w'.heap[k]? = w.heap[k]?
theorem FO.CV {F:Nat} {w w':World} (h:Below w.heap.size w w'):FO F w w':=⟨h.os,h.tape,h.output,h.size,fun k hk _=>h.block k hk⟩
theorem Dh.keep {base F:Nat} {form:List Int} {w w':World} (h:Dh base F form w) (hs : ∀k,k<w.heap.size→(∀cells,w.heap[k]? ≠some (.cells cells 5 (0,0)))→w'.heap[k]? = w.heap[k]?):Dh base F form w':=by
 obtain ⟨h0,v,hv,ho⟩:=h;refine ⟨h0,v,(hs F (lt_of_block hv) (fun cells e=>by rw [hv] at e;injection e with e;injection e with _ e;revert e;decide)).trans hv,FB ho (fun k hk=>?_)⟩;obtain ⟨cells,hc⟩:=D8 ho k hk;exact hs k (lt_of_block hc) (fun cells e=>by rw [hc] at e;injection e with e;injection e with _ e;revert e;decide)
theorem Dh.below {base F:Nat} {form:List Int} {w w':World} (h:Dh base F form w) (hb:Below w.heap.size w w'):Dh base F form w':=h.keep (fun k hk _=>hb.block k hk)
structure ExAt (w0:World) (F Bd Lr:Nat) (lines:List ByteArray) (form:List Int) (out:List UInt8) (w:World):Prop where
 bl:Below w0.heap.size w0 w
 fm:Dh w0.heap.size F form w
 bd:Lib.IsBuilder 53 5 w0.heap.size Bd (Lib.byteCells out) w
 ln:w.heap[Lr]? = some (.cells (lines.map Value.string).toArray 9 (0,0))
 hF:F≠Bd
 hL:w0.heap.size≤Lr
theorem O4 {B b:Nat} {bs:List Value} {w w':World} (h:Lib.IsBuilder 53 5 B b bs w) (hs : ∀k,k<w.heap.size→(∀cells,w.heap[k]? ≠some (.cells cells 27 (0,0)))→w'.heap[k]? = w.heap[k]?):Lib.IsBuilder 53 5 B b bs w':=by
 have key : ∀p,Lib.BuilderAt 53 5 B b p bs w→Lib.BuilderAt 53 5 B b p bs w':=by
  rintro p ⟨h1,v,hv,ho,hn⟩;refine ⟨h1,v,(hs b (lt_of_block hv) (fun cells e=>by rw [hv] at e;injection e with e;injection e with _ e;revert e;decide)).trans hv,FB ho (fun k hk=>?_),hn⟩;obtain ⟨cells,hc⟩:=D8 ho k hk;exact hs k (lt_of_block hc) (fun cells e=>by rw [hc] at e;injection e with e;injection e with _ e;revert e;decide)
 rcases h with h|h
 ·exact .inl (key _ h)
 ·exact .inr (key _ h)
theorem ExAt.below {w0 w w':World} {F Bd Lr:Nat} {lines:List ByteArray} {form:List Int} {out:List UInt8} (h:ExAt w0 F Bd Lr lines form out w) (hb:Below w.heap.size w w'):ExAt w0 F Bd Lr lines form out w' :=
 ⟨h.bl.trans (hb.mono h.bl.size),h.fm.below hb,O4 h.bd (fun k hk _=>hb.block k hk),(hb.block Lr (lt_of_block h.ln)).trans h.ln,h.hF,h.hL⟩
theorem ExAt.line {w0 w w':World} {F Bd Lr:Nat} {lines:List ByteArray} {form form':List Int} {out:List UInt8} (h:ExAt w0 F Bd Lr lines form out w) (hk:FO F w w') (hf:Dh w0.heap.size F form' w'):ExAt w0 F Bd Lr lines form' out w':=by
 have hF0:=h.fm.1;obtain ⟨_,v,hv,_⟩:=h.fm;refine ⟨h.bl.trans ⟨hk.os,hk.tape,hk.output,hk.size,fun k hkk=>hk.block k (Nat.lt_of_lt_of_le hkk h.bl.size) (by omega)⟩,hf,O4 h.bd (fun k hkk hty=>hk.block k hkk (fun e=>by subst e;exact hty _ hv)),(hk.block Lr (lt_of_block h.ln) (fun e=>?_)).trans h.ln,h.hF,h.hL⟩;have e1:=h.ln;rw [e,hv] at e1;injection e1 with e1
 injection e1 with _ e1
 revert e1;decide
theorem ExAt.wrote {w0 w w':World} {F Bd Lr:Nat} {lines:List ByteArray} {form:List Int} {out:List UInt8} {s:ByteArray} (h:ExAt w0 F Bd Lr lines form out w) (hb:Below w0.heap.size w w') (hk:KeepB Bd w w') (hd:Lib.BuilderAt 53 5 w0.heap.size Bd (.pointer (some ⟨Bd,0,none⟩)) (Lib.byteCells out++Lib.strCells s) w'):ExAt w0 F Bd Lr lines form (out++s.data.toList) w':=by
 obtain ⟨h0,v,hv,ho⟩:=h.fm
 have hbd:w.heap[Bd]? ≠none∧∀c t,w.heap[Bd]? = some (.cells c t (0,0))→t=53:=by
  rcases h.bd with ⟨_,u,hu,_⟩|⟨_,u,hu,_⟩<;>exact ⟨by rw [hu];simp,fun c t e=>by rw [hu] at e;injection e with e;injection e with _ e;exact e.symm⟩
 have hty : ∀(k:Nat) (c:Array Value) (t:TypeId),t≠5→t≠53→w.heap[k]? = some (Obj.cells c t (0,0))→w'.heap[k]? = w.heap[k]? := by
  intro k c t h1 h2 e;refine hk.block k (lt_of_block e) (fun ek=>?_) (fun cells e2=>?_)
  ·subst ek;exact h2 (hbd.2 c t e)
  ·rw [e] at e2;injection e2 with e2;injection e2 with _ e2;exact h1 e2
 refine ⟨h.bl.trans hb,⟨h0,v,(hty F _ _ (by decide) (by decide) hv).trans hv,FB ho (fun k hkk=>?_)⟩,.inr (by rw [Lib.byteCells_append,← Lib.strCells_eq];exact hd),(hty Lr _ _ (by decide) (by decide) h.ln).trans h.ln,h.hF,h.hL⟩;obtain ⟨cells,hc⟩:=D8 ho k hkk;exact hty k _ _ (by decide) (by decide) hc
theorem Dh.GB {base F:Nat} {form l:List Int} {w:World} {v:Value} (h:Dh base F form w) (ho:w.ownsRow base 3 1 v l.length (nums .i64 l)):Dh base F l (w.setCell ⟨F,0,none⟩ v):=by
 obtain ⟨h0,u,hu,_⟩:=h;refine ⟨h0,v,?_,FB ho (fun k hk=>?_)⟩
 ·rw [LD hu 0 v];rfl
 ·obtain ⟨cells,hc⟩:=D8 ho k hk;refine Below.heap_setCell _ _ _ _ (fun e=>?_);subst e;rw [hu] at hc;injection hc with hc
  injection hc with _ hc
  revert hc;decide
theorem Dh.parts {base F:Nat} {form:List Int} {w:World} (h:Dh base F form w) : ∃A c,w.heap[F]? = some (.cells #[.slice A form.length c] 27 (0,0))∧Kd.C (Kd.int .i64) w A form.length form∧form.length≤c:=by
 obtain ⟨_,v,hv,ho⟩:=h;have hR:Kd.R (Kd.int .i64) 3 w base (fun _=>True) v form:=Kd.F9 (by simpa [encs,nums] using ho) (fun _ _=>trivial);obtain ⟨A,c,rfl⟩:=Kd.Az hR;exact ⟨A,c,hv,(Kd.Ac hR).2.2,(Kd.Ac hR).2.1⟩
theorem FO.GB {F:Nat} {w w':World} {v:Value} (hb:Below w.heap.size w w'):FO F w (w'.setCell ⟨F,0,none⟩ v):=by
 refine ⟨hb.os,hb.tape,hb.output,?_,fun k hk hne=>(Below.heap_setCell _ _ _ _ hne).trans (hb.block k hk)⟩;rw [show (w'.setCell ⟨F,0,none⟩ v).heap.size=w'.heap.size by simp [World.setCell]];exact hb.size
theorem Ig (F:Nat) (A:Option Addr) (n c:Nat) (u:Value) (w:World) (hF:w.heap[F]? = some (.cells #[u] 27 (0,0))) :
  Calls Tryz.prog 97 #[.pointer (some ⟨F,0,none⟩),.slice A n c,.bool true] w fun e w'=>e = .returned (.string ⟨#[111,107]⟩)∧w'=w.setCell ⟨F,0,none⟩ (.slice A n c):=by
 have hc:=cell_of_one hF;have hz:w.frozen? ⟨F,0,none⟩=false:=by simp [World.frozen?,hF]
 go_enter Tryz.func97,Tryz.ntmps97
 go_wp2;go_ret
 exact ⟨rfl,rfl⟩
theorem Ix (F:Nat) (A:Option Addr) (n c:Nat) (w:World) :
  Calls Tryz.prog 97 #[.pointer (some ⟨F,0,none⟩),.slice A n c,.bool false] w fun e w'=>e = .returned (.string ⟨#[110,111]⟩)∧w'=w:=by
 go_enter Tryz.func97,Tryz.ntmps97
 go_wp2;go_ret
 exact ⟨rfl,rfl⟩
def Fx:ByteArray:=⟨#[102,111,114,109]⟩
def Ho (k:Nat):List ByteArray→Option (List Int)
 | []=>some []
 | x::xs=>(Ax.f k x).bind fun n=>(Ho k xs).bind fun l=>some (n::l)
set_option maxHeartbeats 4000000 in
theorem cmd_form (k base F:Nat) (A0:Option Addr) (c0:Nat) (ws:List ByteArray) (l form:List Int) (b:Bool) (w:World) (hw:Kd.C Kd.string w A0 (Fx::ws).length (Fx::ws)) (hc:(Fx::ws).length≤c0) (h1:1≤ws.length) (hl:ws.length≤1000000)
  (hF:Dh base F form w) (hb:base≤w.heap.size) (hn:Ho k ws=some l) (hv:Am.f k l=some b) :
  Calls Tryz.prog 48 #[.pointer (some ⟨F,0,none⟩),.slice A0 (Fx::ws).length c0] w fun e w'=>e = .returned (.string (if b=true then ⟨#[111,107]⟩ else ⟨#[110,111]⟩))∧Dh base F (if b=true then l else form) w'∧FO F w w':=by
 obtain ⟨ad0,e0,h0⟩:=Kd.Cr hw 0 (by omega) (by simp);cases e0;have H0:w.cell? ad0=some (.string ⟨#[102,111,114,109]⟩):=h0;have hlen:(Fx::ws).length=ws.length+1:=rfl;have HW:=Aa.mk hw;have HF:=Aa.mk hF;have HN:=Aa.mk hn;have HV:=Aa.mk hv;have HB0:=Aa.mk hb;have HL:=Aa.mk (And.intro h1 hl);have HC:=Aa.mk hc;obtain ⟨w1,w2,w3,w4,w5,w6,w7,w8,w9,w10,w11,r1,r2,r3,r4,r5,r6,r7,r8,r9,r10,r11,hM,hB⟩:=Ds w;have hmk:(Instr.makeMap 86 none).run Tryz.prog w = .ok (.map (some w.heap.size)) (w.alloc (.map #[] 0)):=run_makeMap _ w;have K0:w11.cell? ad0=some (.string ⟨#[102,111,114,109]⟩):=(hB.cell (World.block_lt_of_cell? w _ H0)).trans H0;have HB:=Aa.mk hB;obtain ⟨i9,hi9,hs9⟩:=Option.map_eq_some_iff.1 (show (Tryz.prog.info? 9).map (fun i=>i.size)=some 1 by kernel_rfl)
 have hcut : ∀W:World,(Instr.slice 54 (.slice (some ad0) (ws.length+1) c0) (some (.int .i64 1)) none none).run Tryz.prog W = .ok (.slice (some (ad0.add 1)) ws.length (c0-1)) W:=by
  intro W;have h:=cut_from (P:=Tryz.prog) 54 9 .i64 Tryz.underlying54 hi9 1 hs9 (some ad0) (ws.length+1) c0 1 (by omega) (by omega) W;rw [if_neg (show ¬c0=(1:Int).toNat by rw [hlen] at hc;omega)] at h
  simpa using h
 have c1:decide (1<((ws.length+1:Nat):Int))=true:=decide_eq_true (by omega);have c2:decide ((1:Int)<(ws.length:Int)+1)=true:=decide_eq_true (by omega);rw [hlen];clear hi9 hs9 hM hB H0 h0 hw hF hn hv hb h1 hl hc
 go_enter Tryz.func48,Tryz.ntmps48
 go_wp2_with (first|((with_reducible refine Bb (N:=32) rfl ?_);refine Zq.li ([]:List Int) ?_;intro v12 w12 ho hb;clear K0;have HO:=Zq.lw ho;replace HB:=Zq.st hb;clear hb ho))
 have hw0:wrap64 (((ws.length:Nat)):Int)=ws.length:=w64 (by have:=HL.out;omega) (by have:=HL.out;omega)
 go_loopg [6,36] ws.length (fun kq v6 v36 wr => ∃(acc:List Int) (i:Int) (rest:List Int),v36 = .int .i64 i∧Aa (i+(kq:Int)=ws.length∧0≤i∧acc.length=i.toNat)∧Aa (Ho k (ws.drop i.toNat)=some rest∧acc++rest=l)∧Aa (Kd.R (Kd.int .i64) 3 wr w.heap.size (fun _=>True) v6 acc)∧Aa (Below w.heap.size w wr))
 case atStart=>exact ⟨[],0,l,rfl,⟨by omega,by omega,rfl⟩,⟨HN.out,rfl⟩,⟨(Zs.mvR HO.out)⟩,⟨Zs.auHB⟩⟩
 case round =>
  clear HO HB;obtain ⟨acc,i,rest,rfl,HI,HA,HO,HB⟩:=hrel
  by_cases c3:i<(ws.length:Int)
  ·have c3b:=decide_eq_true c3;have hil:i.toNat<ws.length:=by have:=HI.out;omega
   have ha:=HA.out;rw [List.drop_eq_getElem_cons hil] at ha;simp only [Ho] at ha;obtain ⟨n,hn,ha1⟩:=Option.bind_eq_some_iff.mp ha.1;obtain ⟨rest2,hr2,ha2⟩:=Option.bind_eq_some_iff.mp ha1;obtain rfl:=Option.some.inj ha2;have HN1:=Aa.mk hn;have HR2:=Aa.mk (And.intro hr2 ha.2);obtain ⟨adx,ex,hx⟩:=Kd.Cr HW.out (i+1) (by have:=HI.out;omega) (by rw [hlen];omega);cases ex
   have hcell:wr.cell? ⟨ad0.block,ad0.off+1+i.toNat,none⟩=some (.string ws[i.toNat]):=by
    have e1:(⟨ad0.block,ad0.off+1+i.toNat,none⟩:Addr)=ad0.add (i+1).toNat:=by
     have:=HI.out;rw [show (i+1).toNat=1+i.toNat by omega]
     simp [Addr.add,Nat.add_assoc]
    have e2:rdOf ByteArray.empty (Fx::ws) (i+1)=ws[i.toNat]:=by
     unfold rdOf
     rw [show (i+1).toNat=i.toNat+1 by have:=HI.out;omega]
     simp [List.getD_eq_getElem?_getD,hil]
    rw [e1,HB.out.cell (World.block_lt_of_cell? w _ hx),hx,e2]
   have p0:(0≤i)=True:=eq_true HI.out.2.1;have p1:(i<(ws.length:Int))=True:=eq_true c3;have wi:wrap64 (i+1)=i+1:=w64 (by have:=HI.out;omega) (by have:=HI.out;have:=HL.out;omega);have LM:=Aa.mk (show acc.length<17592186044416 by have:=HI.out;have:=HL.out;omega);clear ha ha1 hn hr2 hx c3
   go_wp2_with (first|(go_at_call 96;with_reducible refine (Ax.calls k _ n _ HN1.out).mono ?_;rintro e w' ⟨rfl,⟨nd,rfl⟩⟩)|((with_reducible refine AY (b := .append) (xs:=#[.tmp 40,.tmp 43]) rfl ?_);at_builtin;refine Zq.ap (.tmp 40) (.tmp 43) 27 Tryz.underlying27 DS u6 acc n (fun _=>True) (fun _ _=>trivial) ((Zs.mvR HO.out)) LM.out ?_;intro v15 w15 ho hb hg hat;have HO2:=Aa.mk ho;have HB2:=Aa.mk hb;clear HO HB ho hb hg hat))
   obtain ⟨k1,hk1⟩ : ∃k1,gk=k1+1:=⟨gk-1,by have:=HI.out;have:=of_decide_eq_true c3b;omega⟩
   go_roundg k1
   case measure=>omega
   case rel=>exact ⟨acc++[n],i+1,rest2,by rw [wi],⟨by have:=HI.out;rw [List.length_append];simp;omega⟩,⟨by have:=HI.out;rw [show (i+1).toNat=i.toNat+1 by omega];exact HR2.out.1,by have:=HR2.out.2;simpa using this⟩,⟨(Zs.mvR HO2.out)⟩,HB2⟩
  ·have c3b:=decide_eq_false c3;have hi:i.toNat=ws.length:=by have:=HI.out;omega
   have ha:=HA.out;rw [hi,List.drop_length] at ha;simp only [Ho,Option.some.injEq] at ha;obtain ⟨ha1,ha2⟩:=ha;subst ha1;rw [List.append_nil] at ha2;subst ha2;obtain ⟨Ao,co,eo⟩:=Kd.Az HO.out;subst eo;clear c3 hi;cases b
   ·go_wp2_with (first|(go_at_call 59;refine (Am.calls k _ _ acc false _ ?s1 ?s2 HV.out).mono ?_;(case s1=>exact Zs.mvC ((Kd.Ac HO.out).2.2));(case s2=>exact (Kd.Ac HO.out).2.1);rintro e w13 ⟨rfl,hb⟩;replace HB:=Zq.st hb;clear hb)|(go_at_call 97;refine (Ix F _ _ _ _).mono ?_;rintro e w14 ⟨rfl,rfl⟩))
    go_ret
    exact ⟨rfl,HF.out.below HB.out,FO.CV HB.out⟩
   ·go_wp2_with (first|(go_at_call 59;refine (Am.calls k _ _ acc true _ ?s1 ?s2 HV.out).mono ?_;(case s1=>exact Zs.mvC ((Kd.Ac HO.out).2.2));(case s2=>exact (Kd.Ac HO.out).2.1);rintro e w13 ⟨rfl,hb⟩;have HO3:=Zq.rb HO.out hb;replace HB:=Zq.st hb;clear hb)|(go_at_call 97;refine (Ig F _ _ _ _ _ (HF.out.below HB.out).2.choose_spec.1).mono ?_;rintro e w14 ⟨rfl,rfl⟩))
    go_ret
    exact ⟨rfl,(HF.out.below HB.out).GB (Kd.EE (Kd.Bp (Zs.mvR HO3.out) HB0.out)),FO.GB HB.out⟩
def MK:ByteArray:=⟨#[115,104,111,119]⟩
def Nz:ByteArray:=⟨#[100,105,115,99]⟩
def Gf:ByteArray:=⟨#[116,105,109,101,115]⟩
set_option maxHeartbeats 4000000 in
theorem cmd_show (k base F:Nat) (A0:Option Addr) (c0:Nat) (form:List Int) (r:ByteArray) (w:World) (hG:GW w) (hw:Kd.C Kd.string w A0 ([MK]:List ByteArray).length [MK]) (hc:([MK]:List ByteArray).length≤c0)
  (hF:Dh base F form w) (hr:Bx.f k form=some r) :
  Calls Tryz.prog 48 #[.pointer (some ⟨F,0,none⟩),.slice A0 ([MK]:List ByteArray).length c0] w fun e w'=>e = .returned (.string r)∧Below w.heap.size w w':=by
 obtain ⟨ad0,e0,h0⟩:=Kd.Cr hw 0 (by omega) (by simp);cases e0;have H0:w.cell? ad0=some (.string ⟨#[115,104,111,119]⟩):=h0;have HG:=Aa.mk hG;have HR:=Aa.mk hr;obtain ⟨w1,w2,w3,w4,w5,w6,w7,w8,w9,w10,w11,r1,r2,r3,r4,r5,r6,r7,r8,r9,r10,r11,hM,hB⟩:=Ds w;have hlook:=DC hM ⟨#[115,104,111,119]⟩ 1 (by kernel_rfl) (by kernel_rfl);have hmk:(Instr.makeMap 86 none).run Tryz.prog w = .ok (.map (some w.heap.size)) (w.alloc (.map #[] 0)):=run_makeMap _ w;have K0:w11.cell? ad0=some (.string ⟨#[115,104,111,119]⟩):=(hB.cell (World.block_lt_of_cell? w _ H0)).trans H0;obtain ⟨Af,cf,hf1,hf2,hf3⟩:=(hF.below hB).parts;have KF:w11.cell? ⟨F,0,none⟩=some (.slice Af form.length cf):=cell_of_one hf1;have HC:=Aa.mk (And.intro hf2 hf3);have HB:=Aa.mk hB;clear hM hB H0 h0 hw hG hr hF hf1 hf2 hf3
 go_enter Tryz.func48,Tryz.ntmps48
 go_wp2_with (go_at_call 99;refine (Bx.calls k _ _ form r _ ?s0 ?s1 ?s2 HR.out).mono ?_;(case s0=>exact GW.below HG.out (Zs.auHB));(case s1=>exact Zs.mvC HC.out.1);(case s2=>exact HC.out.2);rintro e w13 ⟨rfl,hb⟩;replace HB:=Zq.st hb;clear hb)
 go_ret
 exact ⟨rfl,HB.out⟩
set_option maxHeartbeats 4000000 in
theorem cmd_disc (k base F:Nat) (A0:Option Addr) (c0:Nat) (form:List Int) (n:Int) (r:ByteArray) (w:World) (hG:GW w) (hw:Kd.C Kd.string w A0 ([Nz]:List ByteArray).length [Nz]) (hc:([Nz]:List ByteArray).length≤c0)
  (hF:Dh base F form w) (hn:C5.f k form=some n) (hr:strconv_Itoa.f n=some r) :
  Calls Tryz.prog 48 #[.pointer (some ⟨F,0,none⟩),.slice A0 ([Nz]:List ByteArray).length c0] w fun e w'=>e = .returned (.string r)∧Below w.heap.size w w':=by
 obtain ⟨ad0,e0,h0⟩:=Kd.Cr hw 0 (by omega) (by simp);cases e0;have H0:w.cell? ad0=some (.string ⟨#[100,105,115,99]⟩):=h0;have HG:=Aa.mk hG;have HR:=Aa.mk hr;have HN:=Aa.mk hn;obtain ⟨w1,w2,w3,w4,w5,w6,w7,w8,w9,w10,w11,r1,r2,r3,r4,r5,r6,r7,r8,r9,r10,r11,hM,hB⟩:=Ds w;have hlook:=DC hM ⟨#[100,105,115,99]⟩ 1 (by kernel_rfl) (by kernel_rfl);have hmk:(Instr.makeMap 86 none).run Tryz.prog w = .ok (.map (some w.heap.size)) (w.alloc (.map #[] 0)):=run_makeMap _ w;have K0:w11.cell? ad0=some (.string ⟨#[100,105,115,99]⟩):=(hB.cell (World.block_lt_of_cell? w _ H0)).trans H0;obtain ⟨Af,cf,hf1,hf2,hf3⟩:=(hF.below hB).parts;have KF:w11.cell? ⟨F,0,none⟩=some (.slice Af form.length cf):=cell_of_one hf1;have HC:=Aa.mk (And.intro hf2 hf3);have HB:=Aa.mk hB;clear hM hB H0 h0 hw hG hr hn hF hf1 hf2 hf3
 go_enter Tryz.func48,Tryz.ntmps48
 go_wp2_with (first|(go_at_call 29;refine (C5.calls k _ _ form n _ ?s1 ?s2 HN.out).mono ?_;(case s1=>exact Zs.mvC HC.out.1);(case s2=>exact HC.out.2);rintro e w13 ⟨rfl,hb⟩;replace HB:=Zq.st hb;clear hb)|(go_at_call 49;refine (strconv_Itoa.calls n r _ ?s0 HR.out).mono ?_;(case s0=>exact GW.below HG.out (Zs.auHB));rintro e w14 ⟨rfl,hb⟩;replace HB:=Zq.st hb;clear hb))
 go_ret
 exact ⟨rfl,HB.out⟩
set_option maxHeartbeats 4000000 in
theorem NN (k base F:Nat) (A0:Option Addr) (c0:Nat) (s:ByteArray) (form l:List Int) (n:Int) (b:Bool) (w:World) (hw:Kd.C Kd.string w A0 ([Gf,s]:List ByteArray).length [Gf,s]) (hc:([Gf,s]:List ByteArray).length≤c0)
  (hF:Dh base F form w) (hb:base≤w.heap.size) (hn:Ax.f k s=some n) (hf:AU.f k form n=some (l,b)) :
  Calls Tryz.prog 48 #[.pointer (some ⟨F,0,none⟩),.slice A0 ([Gf,s]:List ByteArray).length c0] w fun e w'=>e = .returned (.string (if b=true then ⟨#[111,107]⟩ else ⟨#[110,111]⟩))∧Dh base F (if b=true then l else form) w'∧FO F w w':=by
 obtain ⟨ad0,e0,h0⟩:=Kd.Cr hw 0 (by omega) (by simp);obtain ⟨ad1,e1,h1⟩:=Kd.Cr hw 1 (by omega) (by simp);cases e0;cases e1;have H0:w.cell? ad0=some (.string ⟨#[116,105,109,101,115]⟩):=h0;have H1:w.cell? ⟨ad0.block,ad0.off+1,none⟩=some (.string s):=h1;have HN:=Aa.mk hn;have HT:=Aa.mk hf;have HF:=Aa.mk hF;have HB0:=Aa.mk hb;obtain ⟨w1,w2,w3,w4,w5,w6,w7,w8,w9,w10,w11,r1,r2,r3,r4,r5,r6,r7,r8,r9,r10,r11,hM,hB⟩:=Ds w;have hlook:=DC hM ⟨#[116,105,109,101,115]⟩ 2 (by kernel_rfl) (by kernel_rfl);have hmk:(Instr.makeMap 86 none).run Tryz.prog w = .ok (.map (some w.heap.size)) (w.alloc (.map #[] 0)):=run_makeMap _ w;have K0:w11.cell? ad0=some (.string ⟨#[116,105,109,101,115]⟩):=(hB.cell (World.block_lt_of_cell? w _ H0)).trans H0;have K1:w11.cell? ⟨ad0.block,ad0.off+1,none⟩=some (.string s):=(hB.cell (World.block_lt_of_cell? w _ H1)).trans H1;obtain ⟨Af,cf,hf1,hf2,hf3⟩:=(hF.below hB).parts;have KF:w11.cell? ⟨F,0,none⟩=some (.slice Af form.length cf):=cell_of_one hf1;have HC:=Aa.mk (And.intro hf2 hf3);have HB:=Aa.mk hB;clear hM hB H0 H1 h0 h1 hw hn hf hF hb hf1 hf2 hf3;cases b
 ·go_enter Tryz.func48,Tryz.ntmps48
  go_wp2_with fail
  go_region_with (first|(go_at_call 96;with_reducible refine (Ax.calls k s n _ HN.out).mono ?_;rintro e w' ⟨rfl,⟨nd,rfl⟩⟩)|(go_at_call 27;refine (AU.calls k _ _ form n l false _ ?s1 ?s2 HT.out).mono ?_;(case s1=>exact Zs.mvC HC.out.1);(case s2=>exact HC.out.2);rintro e w13 ⟨v13,rfl,ho,hb⟩;have HO:=Zq.lw ho;replace HB:=Zq.st hb;clear hb ho K0 K1 KF;obtain ⟨Ao,co,eo⟩:=Kd.Az HO.out;subst eo))
  all_goals
   go_wp2_with (go_at_call 97;refine (Ix F _ _ _ _).mono ?_;rintro e w14 ⟨rfl,rfl⟩)
   go_ret
   exact ⟨rfl,HF.out.below HB.out,FO.CV HB.out⟩
 ·go_enter Tryz.func48,Tryz.ntmps48
  go_wp2_with fail
  go_region_with (first|(go_at_call 96;with_reducible refine (Ax.calls k s n _ HN.out).mono ?_;rintro e w' ⟨rfl,⟨nd,rfl⟩⟩)|(go_at_call 27;refine (AU.calls k _ _ form n l true _ ?s1 ?s2 HT.out).mono ?_;(case s1=>exact Zs.mvC HC.out.1);(case s2=>exact HC.out.2);rintro e w13 ⟨v13,rfl,ho,hb⟩;have HO:=Zq.lw ho;replace HB:=Zq.st hb;clear hb ho K0 K1 KF;obtain ⟨Ao,co,eo⟩:=Kd.Az HO.out;subst eo))
  all_goals
   go_wp2_with (go_at_call 97;refine (Ig F _ _ _ _ _ (HF.out.below HB.out).2.choose_spec.1).mono ?_;rintro e w14 ⟨rfl,rfl⟩)
   go_ret
   exact ⟨rfl,(HF.out.below HB.out).GB (Kd.EE (Kd.Bp (Zs.mvR HO.out) HB0.out)),FO.GB HB.out⟩
def Gg:ByteArray:=⟨#[99,111,114,101,115]⟩
theorem OR (k base F:Nat) (A0:Option Addr) (c0:Nat) (form l:List Int) (b:Bool) (w:World) (hG:GW w) (hw:Kd.C Kd.string w A0 ([Gg]:List ByteArray).length [Gg]) (hc:([Gg]:List ByteArray).length≤c0)
  (hF:Dh base F form w) (hb0:base≤w.heap.size) (hf:CX.f k form=some (l,b)) :
  Calls Tryz.prog 48 #[.pointer (some ⟨F,0,none⟩),.slice A0 ([Gg]:List ByteArray).length c0] w fun e w'=>e = .returned (.string (if b=true then ⟨#[111,107]⟩ else ⟨#[110,111]⟩))∧Dh base F (if b=true then l else form) w'∧FO F w w':=by
 obtain ⟨ad0,e0,h0⟩:=Kd.Cr hw 0 (by omega) (by simp);cases e0;have H0:w.cell? ad0=some (.string ⟨#[99,111,114,101,115]⟩):=h0;have HG:=Aa.mk hG;have HF:=Aa.mk hF;have HT:=Aa.mk hf;have HB0:=Aa.mk hb0;obtain ⟨w1,w2,w3,w4,w5,w6,w7,w8,w9,w10,w11,r1,r2,r3,r4,r5,r6,r7,r8,r9,r10,r11,hM,hB⟩:=Ds w;have hlook:=DC hM ⟨#[99,111,114,101,115]⟩ 1 (by kernel_rfl) (by kernel_rfl);have hmk:(Instr.makeMap 86 none).run Tryz.prog w = .ok (.map (some w.heap.size)) (w.alloc (.map #[] 0)):=run_makeMap _ w;have K0:w11.cell? ad0=some (.string ⟨#[99,111,114,101,115]⟩):=(hB.cell (World.block_lt_of_cell? w _ H0)).trans H0;obtain ⟨Af,cf,hf1,hf2,hf3⟩:=(hF.below hB).parts;have KF:w11.cell? ⟨F,0,none⟩=some (.slice Af form.length cf):=cell_of_one hf1;have HC:=Aa.mk (And.intro hf2 hf3);have HB:=Aa.mk hB;clear hM hB H0 h0 hw hG hF hf1 hf2 hf3 hf hb0;cases b
 ·go_enter Tryz.func48,Tryz.ntmps48
  go_wp2_with (first|(go_at_call 98;refine (CX.calls k _ _ form l false _ ?s1 ?s2 HT.out).mono ?_;(case s1=>exact Zs.mvC HC.out.1);(case s2=>exact HC.out.2);rintro e w13 ⟨v13,rfl,ho,hb⟩;have HO:=Zq.lw ho;replace HB:=Zq.st hb;clear hb ho K0 KF;obtain ⟨Ao,co,eo⟩:=Kd.Az HO.out;subst eo)|(go_at_call 97;refine (Ix F _ _ _ _).mono ?_;rintro e w14 ⟨rfl,rfl⟩))
  go_ret
  exact ⟨rfl,HF.out.below HB.out,FO.CV HB.out⟩
 ·go_enter Tryz.func48,Tryz.ntmps48
  go_wp2_with (first|(go_at_call 98;refine (CX.calls k _ _ form l true _ ?s1 ?s2 HT.out).mono ?_;(case s1=>exact Zs.mvC HC.out.1);(case s2=>exact HC.out.2);rintro e w13 ⟨v13,rfl,ho,hb⟩;have HO:=Zq.lw ho;replace HB:=Zq.st hb;clear hb ho K0 KF;obtain ⟨Ao,co,eo⟩:=Kd.Az HO.out;subst eo)|(go_at_call 97;refine (Ig F _ _ _ _ _ (HF.out.below HB.out).2.choose_spec.1).mono ?_;rintro e w14 ⟨rfl,rfl⟩))
  go_ret
  exact ⟨rfl,(HF.out.below HB.out).GB (Kd.EE (Kd.Bp (Zs.mvR HO.out) HB0.out)),FO.GB HB.out⟩
def GY:ByteArray:=⟨#[115,121,109,98,111,108]⟩
theorem M8 (k F:Nat) (A0:Option Addr) (c0:Nat) (s1 s2 s3 r:ByteArray) (n1 n2 n3 sy:Int) (w:World) (hG:GW w) (hw:Kd.C Kd.string w A0 ([GY,s1,s2,s3]:List ByteArray).length [GY,s1,s2,s3]) (hc:([GY,s1,s2,s3]:List ByteArray).length≤c0)
  (hn1:Ax.f k s1=some n1) (hn2:Ax.f k s2=some n2) (hn3:CG.f k s3=some n3) (hf:C8.f k n1 n2 n3=some sy) (hr:CJ.f k [sy] (sy != 0)=some r) :
  Calls Tryz.prog 48 #[.pointer (some ⟨F,0,none⟩),.slice A0 ([GY,s1,s2,s3]:List ByteArray).length c0] w fun e w'=>e = .returned (.string r)∧Below w.heap.size w w':=by
 obtain ⟨ad0,e0,h0⟩:=Kd.Cr hw 0 (by omega) (by simp);obtain ⟨ad1,e1,h1⟩:=Kd.Cr hw 1 (by omega) (by simp);obtain ⟨ad2,e2,h2⟩:=Kd.Cr hw 2 (by omega) (by simp);obtain ⟨ad3,e3,h3⟩:=Kd.Cr hw 3 (by omega) (by simp);cases e0;cases e1;cases e2;cases e3;have H0:w.cell? ad0=some (.string ⟨#[115,121,109,98,111,108]⟩):=h0;have H1:w.cell? ⟨ad0.block,ad0.off+1,none⟩=some (.string s1):=h1;have H2:w.cell? ⟨ad0.block,ad0.off+2,none⟩=some (.string s2):=h2;have H3:w.cell? ⟨ad0.block,ad0.off+3,none⟩=some (.string s3):=h3;have HG:=Aa.mk hG;have HN1:=Aa.mk hn1;have HN2:=Aa.mk hn2;have HN3:=Aa.mk hn3;have HFf:=Aa.mk hf;have HR:=Aa.mk hr;have HB:=Aa.mk (Below.refl w.heap.size w);clear hG hn1 hn2 hn3 hf hr h0 h1 h2 h3 hw;obtain ⟨w1,w2,w3,w4,w5,w6,w7,w8,w9,w10,w11,r1,r2,r3,r4,r5,r6,r7,r8,r9,r10,r11,hM,hB⟩:=Ds w;have hlook:=DC hM ⟨#[115,121,109,98,111,108]⟩ 4 (by kernel_rfl) (by kernel_rfl);have hmk:(Instr.makeMap 86 none).run Tryz.prog w = .ok (.map (some w.heap.size)) (w.alloc (.map #[] 0)):=run_makeMap _ w;have K0:w11.cell? ad0=some (.string ⟨#[115,121,109,98,111,108]⟩):=(hB.cell (World.block_lt_of_cell? w _ H0)).trans H0;have K1:w11.cell? ⟨ad0.block,ad0.off+1,none⟩=some (.string s1):=(hB.cell (World.block_lt_of_cell? w _ H1)).trans H1;have K2:w11.cell? ⟨ad0.block,ad0.off+2,none⟩=some (.string s2):=(hB.cell (World.block_lt_of_cell? w _ H2)).trans H2;have K3:w11.cell? ⟨ad0.block,ad0.off+3,none⟩=some (.string s3):=(hB.cell (World.block_lt_of_cell? w _ H3)).trans H3;replace HB:=Aa.mk hB;clear hM hB H0 H1 H2 H3
 go_enter Tryz.func48,Tryz.ntmps48
 go_wp2_with fail
 go_quiet (first|(go_at_call 96;with_reducible refine Calls.quiet_of (v := .int .i64 n1) ((Ax.calls k s1 n1 _ HN1.out).mono ?s7);(case s7=>(rintro e w' ⟨rfl,⟨nd,rfl⟩⟩;exact ⟨rfl,nd,rfl⟩)))|(go_at_call 96;with_reducible refine Calls.quiet_of (v := .int .i64 n2) ((Ax.calls k s2 n2 _ HN2.out).mono ?s7);(case s7=>(rintro e w' ⟨rfl,⟨nd,rfl⟩⟩;exact ⟨rfl,nd,rfl⟩)))|(go_at_call 100;with_reducible refine Calls.quiet_of (v := .int .i64 n3) ((CG.calls k s3 n3 _ HN3.out).mono ?s7);(case s7=>(rintro e w' ⟨rfl,⟨nd,rfl⟩⟩;exact ⟨rfl,nd,rfl⟩)))|(go_at_call 31;with_reducible refine Calls.quiet_of (v := .int .i64 sy) ((C8.calls k n1 n2 n3 sy _ HFf.out).mono ?s7);(case s7=>(rintro e w' ⟨rfl,⟨nd,rfl⟩⟩;exact ⟨rfl,nd,rfl⟩))))
 go_wp2_with (first|((with_reducible refine Bb (N:=121) rfl ?_);refine Zq.li ([sy]:List Int) ?_;intro v12 w12 ho hb;clear K0 K1 K2 K3;have HO:=Aa.mk ho;replace HB:=Zq.st hb;clear hb ho;obtain ⟨Ao,co,eo⟩:=Kd.Az HO.out;subst eo)|(go_at_call 101;refine (CJ.calls k _ _ [sy] (sy != 0) r _ ?s0 ?s1 ?s2 HR.out).mono ?_;(case s0=>exact GW.below HG.out (Zs.auHB));(case s1=>exact Zs.mvC ((Kd.Ac HO.out).2.2));(case s2=>exact (Kd.Ac HO.out).2.1);rintro e w13 ⟨rfl,hb⟩;replace HB:=Zq.st hb;clear hb))
 go_ret
 exact ⟨rfl,HB.out⟩
def kAt:ByteArray:=⟨#[97,116]⟩
def KQ (v t:Bool):ByteArray:=if v=true then if t=true then ⟨#[122,101,114,111]⟩ else ⟨#[110,111,110,101]⟩ else ⟨#[110,111]⟩
set_option maxHeartbeats 4000000 in
theorem cmd_at (k base F:Nat) (A0:Option Addr) (c0:Nat) (s:ByteArray) (form:List Int) (n:Int) (v t:Bool) (w:World) (hw:Kd.C Kd.string w A0 ([kAt,s]:List ByteArray).length [kAt,s]) (hc:([kAt,s]:List ByteArray).length≤c0)
  (hF:Dh base F form w) (hn:CG.f k s=some n) (hv:BD.f k n=some v) (ht:v=true→Ct.f k form n=some t) :
  Calls Tryz.prog 48 #[.pointer (some ⟨F,0,none⟩),.slice A0 ([kAt,s]:List ByteArray).length c0] w fun e w'=>e = .returned (.string (KQ v t))∧Below w.heap.size w w':=by
 obtain ⟨ad0,e0,h0⟩:=Kd.Cr hw 0 (by omega) (by simp);obtain ⟨ad1,e1,h1⟩:=Kd.Cr hw 1 (by omega) (by simp);cases e0;cases e1;have H0:w.cell? ad0=some (.string ⟨#[97,116]⟩):=h0;have H1:w.cell? ⟨ad0.block,ad0.off+1,none⟩=some (.string s):=h1;have HN:=Aa.mk hn;have HV:=Aa.mk hv;have HT:=Aa.mk ht;obtain ⟨w1,w2,w3,w4,w5,w6,w7,w8,w9,w10,w11,r1,r2,r3,r4,r5,r6,r7,r8,r9,r10,r11,hM,hB⟩:=Ds w;have hlook:=DC hM ⟨#[97,116]⟩ 2 (by kernel_rfl) (by kernel_rfl);have hmk:(Instr.makeMap 86 none).run Tryz.prog w = .ok (.map (some w.heap.size)) (w.alloc (.map #[] 0)):=run_makeMap _ w;have K0:w11.cell? ad0=some (.string ⟨#[97,116]⟩):=(hB.cell (World.block_lt_of_cell? w _ H0)).trans H0;have K1:w11.cell? ⟨ad0.block,ad0.off+1,none⟩=some (.string s):=(hB.cell (World.block_lt_of_cell? w _ H1)).trans H1;obtain ⟨Af,cf,hf1,hf2,hf3⟩:=(hF.below hB).parts;have KF:w11.cell? ⟨F,0,none⟩=some (.slice Af form.length cf):=cell_of_one hf1;have HC:=Aa.mk (And.intro hf2 hf3);have HB:=Aa.mk hB;clear hM hB H0 H1 h0 h1 hw hn hv ht hF hf1 hf2 hf3;cases v
 ·go_enter Tryz.func48,Tryz.ntmps48
  go_wp2_with (first|(go_at_call 100;refine (CG.calls k s n _ HN.out).mono ?_;rintro e w' ⟨rfl,⟨nd,rfl⟩⟩)|(go_at_call 68;refine (BD.calls k n false _ HV.out).mono ?_;rintro e w' ⟨rfl,⟨nd2,rfl⟩⟩))
  go_ret
  exact ⟨rfl,Zs.auHB⟩
 ·have HT2:=Aa.mk (HT.out rfl);clear HT;cases t
  ·go_enter Tryz.func48,Tryz.ntmps48
   go_wp2_with (first|(go_at_call 100;refine (CG.calls k s n _ HN.out).mono ?_;rintro e w' ⟨rfl,⟨nd,rfl⟩⟩)|(go_at_call 68;refine (BD.calls k n true _ HV.out).mono ?_;rintro e w' ⟨rfl,⟨nd2,rfl⟩⟩)|(go_at_call 34;refine (Ct.calls k _ _ form n false _ ?s1 ?s2 HT2.out).mono ?_;(case s1=>exact Zs.mvC HC.out.1);(case s2=>exact HC.out.2);rintro e w13 ⟨rfl,hb⟩;replace HB:=Zq.st hb;clear hb))
   go_ret
   exact ⟨rfl,HB.out⟩
  ·go_enter Tryz.func48,Tryz.ntmps48
   go_wp2_with (first|(go_at_call 100;refine (CG.calls k s n _ HN.out).mono ?_;rintro e w' ⟨rfl,⟨nd,rfl⟩⟩)|(go_at_call 68;refine (BD.calls k n true _ HV.out).mono ?_;rintro e w' ⟨rfl,⟨nd2,rfl⟩⟩)|(go_at_call 34;refine (Ct.calls k _ _ form n true _ ?s1 ?s2 HT2.out).mono ?_;(case s1=>exact Zs.mvC HC.out.1);(case s2=>exact HC.out.2);rintro e w13 ⟨rfl,hb⟩;replace HB:=Zq.st hb;clear hb))
   go_ret
   exact ⟨rfl,HB.out⟩
def kBad:ByteArray:=⟨#[98,97,100]⟩
def badL:List Int→Option (List ByteArray)
 | []=>some []
 | p::ps=>(if p=0 then some ⟨#[114]⟩ else strconv_Itoa.f p).bind fun t=>(badL ps).bind fun l=>some (t::l)
theorem cmd_bad (k base F:Nat) (A0:Option Addr) (c0:Nat) (form ps:List Int) (ts:List ByteArray) (r:ByteArray) (w:World) (hG:GW w) (hw:Kd.C Kd.string w A0 ([kBad]:List ByteArray).length [kBad]) (hc:([kBad]:List ByteArray).length≤c0)
  (hF:Dh base F form w) (hf:BM.f k form=some ps) (hl:badL ps=some ts) (hp:ps.length≤1000000) (hj:strings_Join.f ts ⟨#[32]⟩=some r) :
  Calls Tryz.prog 48 #[.pointer (some ⟨F,0,none⟩),.slice A0 ([kBad]:List ByteArray).length c0] w fun e w'=>e = .returned (.string r)∧Below w.heap.size w w':=by
 obtain ⟨ad0,e0,h0⟩:=Kd.Cr hw 0 (by omega) (by simp);cases e0;have H0:w.cell? ad0=some (.string ⟨#[98,97,100]⟩):=h0;have HG:=Aa.mk hG;have HF:=Aa.mk hF;have HZ:=Aa.mk hf;have HL:=Aa.mk hl;have HN:=Aa.mk hp;have HJ:=Aa.mk hj;obtain ⟨w1,w2,w3,w4,w5,w6,w7,w8,w9,w10,w11,r1,r2,r3,r4,r5,r6,r7,r8,r9,r10,r11,hM,hB⟩:=Ds w;have hlook:=DC hM ⟨#[98,97,100]⟩ 1 (by kernel_rfl) (by kernel_rfl);have hmk:(Instr.makeMap 86 none).run Tryz.prog w = .ok (.map (some w.heap.size)) (w.alloc (.map #[] 0)):=run_makeMap _ w;have K0:w11.cell? ad0=some (.string ⟨#[98,97,100]⟩):=(hB.cell (World.block_lt_of_cell? w _ H0)).trans H0;obtain ⟨Af,cf,hf1,hf2,hf3⟩:=hF.parts;have KF0:=Aa.mk (show w.cell? ⟨F,0,none⟩=some (.slice Af form.length cf) from cell_of_one hf1);have HC:=Aa.mk (And.intro hf2 hf3);have HB:=Aa.mk hB;clear hM hB H0 h0 hw hG hF hf1 hf2 hf3 hf hl hp hj
 go_enter Tryz.func48,Tryz.ntmps48
 go_wp2_with (first|((with_reducible refine Bb (N:=143) rfl ?_);refine Kd.I2 Kd.string _ 9 ?hg (N:=143) ?hd (xs:=([]:List ByteArray)) (inner:=[]) (ok:=fun _=>True) (okp:=fun _=>True) ?hr ?hp (fun _ hk=>hk) trivial (Below.refl _ _) (Nat.le_refl _) (by simp) ?_;(case hd=>rfl);(case hg=>rfl);(case hr=>first|(go_simp;done)|(go_simp;rfl));(case hp=>exact (Reps.none _ _));intro v12 w12 ho hb hg_ hnew_;clear hg_ hnew_ K0;have HO:=Zq.lw ho;replace HB:=Zq.st hb;clear hb ho;have KF:=(HB.out.cell (World.block_lt_of_cell? w _ KF0.out)).trans KF0.out)|(go_at_call 102;refine (BM.calls k _ _ form ps _ ?s1 ?s2 HZ.out).mono ?_;(case s1=>exact Zs.mvC (Kd.BF HC.out.1 HB.out));(case s2=>exact HC.out.2);rintro e w13 ⟨v13,rfl,ho,hb⟩;have HP:=Aa.mk (Kd.Bp (Kd.Br ho (Kd.R_lt (Zs.mvR HO.out))) (Ay (Zs.auHB)));replace HO:=Aa.mk (Kd.Jw (Zs.mvR HO.out) (Kd.Mv ho) hb);replace HB:=Zq.st hb;clear hb ho KF;obtain ⟨Ap,cp,ep⟩:=Kd.Az HP.out;subst ep))
 go_loopg [15,149] ps.length (fun kq v15 v17 wr => ∃(acc:List ByteArray) (i:Int) (rest:List ByteArray),v17 = .int .i64 i∧Aa (i+(kq:Int)=ps.length∧0≤i∧acc.length=i.toNat)∧Aa (badL (ps.drop i.toNat)=some rest∧acc++rest=ts)∧Aa (Kd.R Kd.string 9 wr w.heap.size (fun k_=>some k_≠((.slice Ap ps.length cp):Value).ownBlock) v15 acc)∧Aa (Kd.R (Kd.int .i64) 3 wr w.heap.size (fun k_=>some k_≠(v15:Value).ownBlock) (.slice Ap ps.length cp) ps)∧Aa (Below w.heap.size w wr))
 case atStart=>exact ⟨[],0,ts,rfl,⟨by omega,by omega,rfl⟩,⟨HL.out,rfl⟩,⟨Zs.mvR (Kd.AB HO.out Zq.tk)⟩,⟨Zs.mvR (Kd.AB HP.out Zq.tk)⟩,⟨Zs.auHB⟩⟩
 case round =>
  clear HO HP HB;obtain ⟨acc,i,rest,rfl,HI,HA,HO,HP,HB⟩:=hrel
  by_cases c3:i<(ps.length:Int)
  ·have c3b:=decide_eq_true c3;have hil:i.toNat<ps.length:=by have:=HI.out;omega
   have ha:=HA.out;rw [CQ hil,Int.toNat_of_nonneg HI.out.2.1] at ha;simp only [badL] at ha;obtain ⟨t,ht,ha1⟩:=Option.bind_eq_some_iff.mp ha.1;obtain ⟨rest2,hr2,ha2⟩:=Option.bind_eq_some_iff.mp ha1;obtain rfl:=Option.some.inj ha2;have HR2:=Aa.mk (And.intro hr2 ha.2);obtain ⟨ad,ead,hx⟩:=Kd.E8 (Kd.Ac HP.out).2.2 i HI.out.2.1 c3;cases ead;have p0:(0≤i)=True:=eq_true HI.out.2.1;have p1:(i<(ps.length:Int))=True:=eq_true c3;have wi:wrap64 (i+1)=i+1:=w64 (by have:=HI.out;omega) (by have:=HI.out;have:=HN.out;omega);have LM:=Aa.mk (show acc.length<8796093022208 by have:=HI.out;have:=HN.out;omega);have hgk : ∃k1,gk=k1+1:=⟨gk-1,by have:=HI.out;omega⟩
   clear ha ha1 hr2 c3 hil
   by_cases c4:rd ps i=0
   ·rw [if_pos c4] at ht;obtain rfl:=Option.some.inj ht;have c4b:(rd ps i==0)=true:=beq_iff_eq.mpr c4;clear ht c4
    go_wp2_with (((with_reducible refine AY (b := .append) (xs:=#[.tmp 155,.tmp 156]) rfl ?_);at_builtin;refine Kd.Ea Kd.string (w0:=w) w.heap.size rfl (.tmp 155) (.tmp 156) 54 9 (.string ⟨#[]⟩) 16 rfl Tryz.underlying54 OV rfl (by decide) (by omega) u15 acc (⟨#[114]⟩:ByteArray) [.string ⟨#[114]⟩] (fun k_=>some k_≠(.slice (some ad) ps.length cp:Value).ownBlock) (fun _=>False) rfl rfl ?aP (fun _ hk=>hk.elim) ?aF ?aO ?aB ?aS ?aL ?_;(case aP=>exact rfl);(case aB=>exact (Zs.auHB));(case aF=>exact (fun k_ hk=>Kd.DF (Kd.R_lt (Zs.mvR HP.out)) k_ hk));(case aO=>exact (Zs.mvR HO.out));(case aS=>exact (Ay (Zs.auHB)));(case aL=>have:=LM.out;omega);intro v16 w16 ho hb hg hat;replace HP:=Aa.mk (Kd.BW (ok:=(fun _=>True)) (Zs.mvR (Kd.AB HP.out (fun _ hk=>⟨trivial,hk⟩))) hg hat);replace HB:=Aa.mk hb;have HO2:=Aa.mk ho;clear ho hb hg hat))
    obtain ⟨k1,hk1⟩:=hgk
    go_roundg k1
    case measure=>omega
    case rel=>exact ⟨acc++[(⟨#[114]⟩:ByteArray)],i+1,rest2,by first|rfl|rw [wi],⟨by have:=HI.out;rw [List.length_append];simp;omega⟩,⟨by have:=HI.out;rw [show (i+1).toNat=i.toNat+1 by omega];exact HR2.out.1,by have:=HR2.out.2;simpa using this⟩,⟨Zs.mvR HO2.out⟩,⟨Zs.mvR (Kd.AB HP.out Zq.tk)⟩,⟨Zs.auHB⟩⟩
   ·rw [if_neg c4] at ht;have HT:=Aa.mk ht;have c4b:(rd ps i==0)=false:=beq_eq_false_iff_ne.mpr c4;clear ht c4
    go_wp2_with (first|(go_at_call 49;refine (strconv_Itoa.calls (rd ps i) t _ ?s0 HT.out).mono ?_;(case s0=>exact GW.below HG.out (Zs.auHB));rintro e w14 ⟨rfl,hb⟩;replace HO:=Aa.mk (Kd.Fe (Zs.mvR HO.out) hb);replace HP:=Aa.mk (Kd.Fe (Zs.mvR HP.out) hb);replace HB:=Zq.st hb;clear hb)|((with_reducible refine AY (b := .append) (xs:=#[.tmp 158,.tmp 161]) rfl ?_);at_builtin;refine Kd.Ea Kd.string (w0:=w) w.heap.size rfl (.tmp 158) (.tmp 161) 54 9 (.string ⟨#[]⟩) 16 rfl Tryz.underlying54 OV rfl (by decide) (by omega) u15 acc t [.string t] (fun k_=>some k_≠(.slice (some ad) ps.length cp:Value).ownBlock) (fun _=>False) rfl rfl ?aP (fun _ hk=>hk.elim) ?aF ?aO ?aB ?aS ?aL ?_;(case aP=>exact rfl);(case aB=>exact (Zs.auHB));(case aF=>exact (fun k_ hk=>Kd.DF (Kd.R_lt (Zs.mvR HP.out)) k_ hk));(case aO=>exact (Zs.mvR HO.out));(case aS=>exact (Ay (Zs.auHB)));(case aL=>have:=LM.out;omega);intro v16 w16 ho hb hg hat;replace HP:=Aa.mk (Kd.BW (ok:=(fun _=>True)) (Zs.mvR (Kd.AB HP.out (fun _ hk=>⟨trivial,hk⟩))) hg hat);replace HB:=Aa.mk hb;have HO2:=Aa.mk ho;clear ho hb hg hat))
    obtain ⟨k1,hk1⟩:=hgk
    go_roundg k1
    case measure=>omega
    case rel=>exact ⟨acc++[t],i+1,rest2,by first|rfl|rw [wi],⟨by have:=HI.out;rw [List.length_append];simp;omega⟩,⟨by have:=HI.out;rw [show (i+1).toNat=i.toNat+1 by omega];exact HR2.out.1,by have:=HR2.out.2;simpa using this⟩,⟨Zs.mvR HO2.out⟩,⟨Zs.mvR (Kd.AB HP.out Zq.tk)⟩,⟨Zs.auHB⟩⟩
  ·have c3b:=decide_eq_false c3;have hi:i.toNat=ps.length:=by have:=HI.out;omega
   have ha:=HA.out;rw [hi,List.drop_length] at ha;simp only [badL,Option.some.injEq] at ha;obtain ⟨ha1,ha2⟩:=ha;subst ha1;rw [List.append_nil] at ha2;subst ha2;obtain ⟨Ao,co,eo⟩:=Kd.Az HO.out;subst eo;clear c3 hi
   go_wp2_with (go_at_call 103;refine (strings_Join.calls _ _ acc ⟨#[32]⟩ r _ ?s1 ?s2 HJ.out).mono ?_;(case s1=>exact Zs.mvC ((Kd.Ac HO.out).2.2));(case s2=>exact (Kd.Ac HO.out).2.1);rintro e w15 ⟨rfl,hb⟩;replace HB:=Zq.st hb;clear hb)
   go_ret
   exact ⟨rfl,HB.out⟩
def NC:ByteArray:=⟨#[122,101,114,111]⟩
theorem cmd_zero (k base F:Nat) (A0:Option Addr) (c0:Nat) (form l:List Int) (b:Bool) (r:ByteArray) (w:World) (hG:GW w) (hw:Kd.C Kd.string w A0 ([NC]:List ByteArray).length [NC]) (hc:([NC]:List ByteArray).length≤c0)
  (hF:Dh base F form w) (hf:BI.f k form=some (l,b)) (hr:CJ.f k l b=some r) :
  Calls Tryz.prog 48 #[.pointer (some ⟨F,0,none⟩),.slice A0 ([NC]:List ByteArray).length c0] w fun e w'=>e = .returned (.string r)∧Below w.heap.size w w':=by
 obtain ⟨ad0,e0,h0⟩:=Kd.Cr hw 0 (by omega) (by simp);cases e0;have H0:w.cell? ad0=some (.string ⟨#[122,101,114,111]⟩):=h0;have HG:=Aa.mk hG;have HF:=Aa.mk hF;have HZ:=Aa.mk hf;have HR:=Aa.mk hr;obtain ⟨w1,w2,w3,w4,w5,w6,w7,w8,w9,w10,w11,r1,r2,r3,r4,r5,r6,r7,r8,r9,r10,r11,hM,hB⟩:=Ds w;have hlook:=DC hM ⟨#[122,101,114,111]⟩ 1 (by kernel_rfl) (by kernel_rfl);have hmk:(Instr.makeMap 86 none).run Tryz.prog w = .ok (.map (some w.heap.size)) (w.alloc (.map #[] 0)):=run_makeMap _ w;have K0:w11.cell? ad0=some (.string ⟨#[122,101,114,111]⟩):=(hB.cell (World.block_lt_of_cell? w _ H0)).trans H0;obtain ⟨Af,cf,hf1,hf2,hf3⟩:=(hF.below hB).parts;have KF:w11.cell? ⟨F,0,none⟩=some (.slice Af form.length cf):=cell_of_one hf1;have HC:=Aa.mk (And.intro hf2 hf3);have HB:=Aa.mk hB;clear hM hB H0 h0 hw hG hF hf1 hf2 hf3 hf hr
 go_enter Tryz.func48,Tryz.ntmps48
 go_wp2_with (first|(go_at_call 37;refine (BI.calls k _ _ form l b _ ?s1 ?s2 HZ.out).mono ?_;(case s1=>exact Zs.mvC HC.out.1);(case s2=>exact HC.out.2);rintro e w13 ⟨v13,rfl,ho,hb⟩;have HO:=Zq.lw ho;replace HB:=Zq.st hb;clear hb ho K0 KF;obtain ⟨Ao,co,eo⟩:=Kd.Az HO.out;subst eo)|(go_at_call 101;refine (CJ.calls k _ _ l b r _ ?s0 ?s1 ?s2 HR.out).mono ?_;(case s0=>exact GW.below HG.out (Zs.auHB));(case s1=>exact Zs.mvC ((Kd.Ac HO.out).2.2));(case s2=>exact (Kd.Ac HO.out).2.1);rintro e w15 ⟨rfl,hb⟩;replace HB:=Zq.st hb;clear hb))
 go_ret
 exact ⟨rfl,HB.out⟩
def Jl:ByteArray:=⟨#[118,97,108,117,101]⟩
def JZ (t u:ByteArray):ByteArray:=(t++(⟨#[32,47,32]⟩:ByteArray))++u
theorem KP (k base F:Nat) (A0:Option Addr) (c0:Nat) (s:ByteArray) (form:List Int) (n:Int) (l:List Int) (d:Int) (b:Bool) (t u:ByteArray) (w:World) (hG:GW w) (hw:Kd.C Kd.string w A0 ([Jl,s]:List ByteArray).length [Jl,s]) (hc:([Jl,s]:List ByteArray).length≤c0)
  (hF:Dh base F form w) (hn:Ax.f k s=some n) (hf:Ad.f k form n=some (l,d,b)) (ht:b=true→Bx.f k l=some t∧strconv_Itoa.f d=some u∧t.size≤1000000∧u.size≤1000000) :
  Calls Tryz.prog 48 #[.pointer (some ⟨F,0,none⟩),.slice A0 ([Jl,s]:List ByteArray).length c0] w fun e w'=>e = .returned (.string (if b=true then JZ t u else ⟨#[110,111]⟩))∧Below w.heap.size w w':=by
 obtain ⟨ad0,e0,h0⟩:=Kd.Cr hw 0 (by omega) (by simp);obtain ⟨ad1,e1,h1⟩:=Kd.Cr hw 1 (by omega) (by simp);cases e0;cases e1;have H0:w.cell? ad0=some (.string ⟨#[118,97,108,117,101]⟩):=h0;have H1:w.cell? ⟨ad0.block,ad0.off+1,none⟩=some (.string s):=h1;have HG:=Aa.mk hG;have HF:=Aa.mk hF;have HN:=Aa.mk hn;have HV:=Aa.mk hf;have HT:=Aa.mk ht;obtain ⟨w1,w2,w3,w4,w5,w6,w7,w8,w9,w10,w11,r1,r2,r3,r4,r5,r6,r7,r8,r9,r10,r11,hM,hB⟩:=Ds w;have hlook:=DC hM ⟨#[118,97,108,117,101]⟩ 2 (by kernel_rfl) (by kernel_rfl);have hmk:(Instr.makeMap 86 none).run Tryz.prog w = .ok (.map (some w.heap.size)) (w.alloc (.map #[] 0)):=run_makeMap _ w;have K0:w11.cell? ad0=some (.string ⟨#[118,97,108,117,101]⟩):=(hB.cell (World.block_lt_of_cell? w _ H0)).trans H0;have K1:w11.cell? ⟨ad0.block,ad0.off+1,none⟩=some (.string s):=(hB.cell (World.block_lt_of_cell? w _ H1)).trans H1;obtain ⟨Af,cf,hf1,hf2,hf3⟩:=(hF.below hB).parts;have KF:w11.cell? ⟨F,0,none⟩=some (.slice Af form.length cf):=cell_of_one hf1;have HC:=Aa.mk (And.intro hf2 hf3);have HB:=Aa.mk hB;clear hM hB H0 h0 H1 h1 hw hG hF hf1 hf2 hf3 hn hf ht;cases b
 ·go_enter Tryz.func48,Tryz.ntmps48
  go_wp2_with fail
  go_region_with (first|(go_at_call 96;with_reducible refine (Ax.calls k s n _ HN.out).mono ?_;rintro e w' ⟨rfl,⟨nd,rfl⟩⟩)|(go_at_call 40;refine (Ad.calls k _ _ form n l d false _ ?s1 ?s2 HV.out).mono ?_;(case s1=>exact Zs.mvC HC.out.1);(case s2=>exact HC.out.2);rintro e w13 ⟨v13,rfl,ho,hb⟩;have HO:=Zq.lw ho;replace HB:=Zq.st hb;clear hb ho K0 K1 KF;obtain ⟨Ao,co,eo⟩:=Kd.Az HO.out;subst eo))
  all_goals
   go_wp2_with fail
   go_ret
   exact ⟨rfl,HB.out⟩
 ·obtain ⟨ht1,ht2,ht3,ht4⟩:=HT.out rfl;have HT1:=Aa.mk ht1;have HT2:=Aa.mk ht2;have hs1:t.size+(⟨#[32,47,32]⟩:ByteArray).size≤9223372036854775807:=by show t.size+3≤_;omega
  have hs2:(t++(⟨#[32,47,32]⟩:ByteArray)).size+u.size≤9223372036854775807:=by
   rw [ByteArray.size_append]
   show t.size+3+u.size≤_
   omega
  clear HT ht1 ht2 ht3 ht4
  go_enter Tryz.func48,Tryz.ntmps48
  go_wp2_with fail
  go_region_with (first|(go_at_call 96;with_reducible refine (Ax.calls k s n _ HN.out).mono ?_;rintro e w' ⟨rfl,⟨nd,rfl⟩⟩)|(go_at_call 40;refine (Ad.calls k _ _ form n l d true _ ?s1 ?s2 HV.out).mono ?_;(case s1=>exact Zs.mvC HC.out.1);(case s2=>exact HC.out.2);rintro e w13 ⟨v13,rfl,ho,hb⟩;have HO:=Zq.lw ho;replace HB:=Zq.st hb;clear hb ho K0 K1 KF;obtain ⟨Ao,co,eo⟩:=Kd.Az HO.out;subst eo))
  all_goals
   go_wp2_with (first|(go_at_call 99;refine (Bx.calls k _ _ l t _ ?s0 ?s1 ?s2 HT1.out).mono ?_;(case s0=>exact GW.below HG.out (Zs.auHB));(case s1=>exact Zs.mvC ((Kd.Ac HO.out).2.2));(case s2=>exact (Kd.Ac HO.out).2.1);rintro e w15 ⟨rfl,hb⟩;replace HB:=Zq.st hb;clear hb)|(go_at_call 49;refine (strconv_Itoa.calls d u _ ?s0 HT2.out).mono ?_;(case s0=>exact GW.below HG.out (Zs.auHB));rintro e w14 ⟨rfl,hb⟩;replace HB:=Zq.st hb;clear hb))
   go_ret
   exact ⟨rfl,HB.out⟩
def GX:ByteArray:=⟨#[112,108,97,110,101,115]⟩
theorem MQ (k base F:Nat) (A0:Option Addr) (c0:Nat) (form:List Int) (n:Int) (r:ByteArray) (w:World) (hG:GW w) (hw:Kd.C Kd.string w A0 ([GX]:List ByteArray).length [GX]) (hc:([GX]:List ByteArray).length≤c0)
  (hF:Dh base F form w) (hn:BC.f k form=some n) (hr:strconv_Itoa.f n=some r) :
  Calls Tryz.prog 48 #[.pointer (some ⟨F,0,none⟩),.slice A0 ([GX]:List ByteArray).length c0] w fun e w'=>e = .returned (.string r)∧Below w.heap.size w w':=by
 obtain ⟨ad0,e0,h0⟩:=Kd.Cr hw 0 (by omega) (by simp);cases e0;have H0:w.cell? ad0=some (.string ⟨#[112,108,97,110,101,115]⟩):=h0;have HG:=Aa.mk hG;have HF:=Aa.mk hF;have HN:=Aa.mk hn;have HR:=Aa.mk hr;obtain ⟨w1,w2,w3,w4,w5,w6,w7,w8,w9,w10,w11,r1,r2,r3,r4,r5,r6,r7,r8,r9,r10,r11,hM,hB⟩:=Ds w;have hlook:=DC hM ⟨#[112,108,97,110,101,115]⟩ 1 (by kernel_rfl) (by kernel_rfl);have hmk:(Instr.makeMap 86 none).run Tryz.prog w = .ok (.map (some w.heap.size)) (w.alloc (.map #[] 0)):=run_makeMap _ w;have K0:w11.cell? ad0=some (.string ⟨#[112,108,97,110,101,115]⟩):=(hB.cell (World.block_lt_of_cell? w _ H0)).trans H0;obtain ⟨Af,cf,hf1,hf2,hf3⟩:=(hF.below hB).parts;have KF:w11.cell? ⟨F,0,none⟩=some (.slice Af form.length cf):=cell_of_one hf1;have HC:=Aa.mk (And.intro hf2 hf3);have HB:=Aa.mk hB;clear hM hB H0 h0 hw hG hF hf1 hf2 hf3 hn hr
 go_enter Tryz.func48,Tryz.ntmps48
 go_wp2_with (first|(go_at_call 104;refine (BC.calls k _ _ form n _ ?s1 ?s2 HN.out).mono ?_;(case s1=>exact Zs.mvC HC.out.1);(case s2=>exact HC.out.2);rintro e w13 ⟨rfl,hb⟩;replace HB:=Zq.st hb;clear hb)|(go_at_call 49;refine (strconv_Itoa.calls n r _ ?s0 HR.out).mono ?_;(case s0=>exact GW.below HG.out (Zs.auHB));rintro e w14 ⟨rfl,hb⟩;replace HB:=Zq.st hb;clear hb))
 go_ret
 exact ⟨rfl,HB.out⟩
def F3:ByteArray:=⟨#[115,113,117,97,114,101,115]⟩
theorem LP (k F:Nat) (A0:Option Addr) (c0:Nat) (s r:ByteArray) (n:Int) (l:List Int) (b:Bool) (w:World) (hG:GW w) (hw:Kd.C Kd.string w A0 ([F3,s]:List ByteArray).length [F3,s]) (hc:([F3,s]:List ByteArray).length≤c0)
  (hn:Ax.f k s=some n) (hf:Da.f n=some (l,b)) (hr:CJ.f k l b=some r) :
  Calls Tryz.prog 48 #[.pointer (some ⟨F,0,none⟩),.slice A0 ([F3,s]:List ByteArray).length c0] w fun e w'=>e = .returned (.string r)∧Below w.heap.size w w':=by
 obtain ⟨ad0,e0,h0⟩:=Kd.Cr hw 0 (by omega) (by simp);obtain ⟨ad1,e1,h1⟩:=Kd.Cr hw 1 (by omega) (by simp);cases e0;cases e1;have H0:w.cell? ad0=some (.string ⟨#[115,113,117,97,114,101,115]⟩):=h0;have H1:w.cell? ⟨ad0.block,ad0.off+1,none⟩=some (.string s):=h1;have HG:=Aa.mk hG;have HN:=Aa.mk hn;have HFf:=Aa.mk hf;have HR:=Aa.mk hr;have HB:=Aa.mk (Below.refl w.heap.size w);clear hG hn hf hr h0 h1 hw;obtain ⟨w1,w2,w3,w4,w5,w6,w7,w8,w9,w10,w11,r1,r2,r3,r4,r5,r6,r7,r8,r9,r10,r11,hM,hB⟩:=Ds w;have hlook:=DC hM ⟨#[115,113,117,97,114,101,115]⟩ 2 (by kernel_rfl) (by kernel_rfl);have hmk:(Instr.makeMap 86 none).run Tryz.prog w = .ok (.map (some w.heap.size)) (w.alloc (.map #[] 0)):=run_makeMap _ w;have K0:w11.cell? ad0=some (.string ⟨#[115,113,117,97,114,101,115]⟩):=(hB.cell (World.block_lt_of_cell? w _ H0)).trans H0;have K1:w11.cell? ⟨ad0.block,ad0.off+1,none⟩=some (.string s):=(hB.cell (World.block_lt_of_cell? w _ H1)).trans H1;replace HB:=Aa.mk hB;clear hM hB H0 H1
 go_enter Tryz.func48,Tryz.ntmps48
 go_wp2_with (first|(go_at_call 96;refine (Ax.calls k s n _ HN.out).mono ?_;rintro e w' ⟨rfl,⟨nd,rfl⟩⟩)|(go_at_call 19;refine (Da.calls n l b _ HFf.out).mono ?_;rintro e w12 ⟨v,rfl,ho,hb⟩;have HO:=Aa.mk ho;replace HB:=Zq.st hb;clear hb ho K0 K1;obtain ⟨Ao,co,eo⟩:=Kd.Az HO.out;subst eo)|(go_at_call 101;refine (CJ.calls k _ _ l b r _ ?s0 ?s1 ?s2 HR.out).mono ?_;(case s0=>exact GW.below HG.out (Zs.auHB));(case s1=>exact Zs.mvC ((Kd.Ac HO.out).2.2));(case s2=>exact (Kd.Ac HO.out).2.1);rintro e w13 ⟨rfl,hb⟩;replace HB:=Zq.st hb;clear hb))
 go_ret
 exact ⟨rfl,HB.out⟩
theorem manyD_eq:OT = .map [(.string [97,116],.lit (.int .i64 2)),(.string [98,97,100],.lit (.int .i64 1)),(.string [99,111,114,101,115],.lit (.int .i64 1)),(.string [100,105,115,99],.lit (.int .i64 1)),(.string [112,108,97,110,101,115],.lit (.int .i64 1)),(.string [115,104,111,119],.lit (.int .i64 1)),(.string [115,113,117,97,114,101,115],.lit (.int .i64 2)),(.string [115,121,109,98,111,108],.lit (.int .i64 4)),(.string [116,105,109,101,115],.lit (.int .i64 2)),(.string [118,97,108,117,101],.lit (.int .i64 2)),(.string [122,101,114,111],.lit (.int .i64 1))]:=by rfl
def E3 (s:List UInt8):Int:=if [97,116]=s then 2 else if [98,97,100]=s then 1 else if [99,111,114,101,115]=s then 1 else if [100,105,115,99]=s then 1 else if [112,108,97,110,101,115]=s then 1 else if [115,104,111,119]=s then 1 else if [115,113,117,97,114,101,115]=s then 2 else if [115,121,109,98,111,108]=s then 4 else if [116,105,109,101,115]=s then 2 else if [118,97,108,117,101]=s then 2 else if [122,101,114,111]=s then 1 else 0
theorem many_at (s:List UInt8):OT.atKey (.string s) (.lit (.int .i64 0)) = .lit (.int .i64 (E3 s)):=by
 rw [manyD_eq]
 unfold DataW.atKey E3
 simp only [List.find?,Lit.sameKey]
 by_cases h0:[97,116]=s
 ·subst h0;rfl
 rw [show ([97,116]==s)=false from beq_eq_false_iff_ne.mpr h0,if_neg h0]
 dsimp only
 by_cases h1:[98,97,100]=s
 ·subst h1;rfl
 rw [show ([98,97,100]==s)=false from beq_eq_false_iff_ne.mpr h1,if_neg h1]
 dsimp only
 by_cases h2:[99,111,114,101,115]=s
 ·subst h2;rfl
 rw [show ([99,111,114,101,115]==s)=false from beq_eq_false_iff_ne.mpr h2,if_neg h2]
 dsimp only
 by_cases h3:[100,105,115,99]=s
 ·subst h3;rfl
 rw [show ([100,105,115,99]==s)=false from beq_eq_false_iff_ne.mpr h3,if_neg h3]
 dsimp only
 by_cases h4:[112,108,97,110,101,115]=s
 ·subst h4;rfl
 rw [show ([112,108,97,110,101,115]==s)=false from beq_eq_false_iff_ne.mpr h4,if_neg h4]
 dsimp only
 by_cases h5:[115,104,111,119]=s
 ·subst h5;rfl
 rw [show ([115,104,111,119]==s)=false from beq_eq_false_iff_ne.mpr h5,if_neg h5]
 dsimp only
 by_cases h6:[115,113,117,97,114,101,115]=s
 ·subst h6;rfl
 rw [show ([115,113,117,97,114,101,115]==s)=false from beq_eq_false_iff_ne.mpr h6,if_neg h6]
 dsimp only
 by_cases h7:[115,121,109,98,111,108]=s
 ·subst h7;rfl
 rw [show ([115,121,109,98,111,108]==s)=false from beq_eq_false_iff_ne.mpr h7,if_neg h7]
 dsimp only
 by_cases h8:[116,105,109,101,115]=s
 ·subst h8;rfl
 rw [show ([116,105,109,101,115]==s)=false from beq_eq_false_iff_ne.mpr h8,if_neg h8]
 dsimp only
 by_cases h9:[118,97,108,117,101]=s
 ·subst h9;rfl
 rw [show ([118,97,108,117,101]==s)=false from beq_eq_false_iff_ne.mpr h9,if_neg h9]
 dsimp only
 by_cases h10:[122,101,114,111]=s
 ·subst h10;rfl
 rw [show ([122,101,114,111]==s)=false from beq_eq_false_iff_ne.mpr h10,if_neg h10]
def GG:ByteArray:=⟨#[119,104,97,116]⟩
theorem cmd_what (F:Nat) (A0:Option Addr) (c0:Nat) (w0:ByteArray) (ws:List ByteArray) (w:World) (hw:Kd.C Kd.string w A0 (w0::ws).length (w0::ws)) (hc:(w0::ws).length≤c0) (hz:w0.size≤1000000) (hq:w0.toList≠[102,111,114,109]) (hm:E3 w0.data.toList≠((ws.length+1:Nat):Int)) :
  Calls Tryz.prog 48 #[.pointer (some ⟨F,0,none⟩),.slice A0 (w0::ws).length c0] w fun e w'=>e = .returned (.string GG)∧Below w.heap.size w w':=by
 obtain ⟨ad0,e0,h0⟩:=Kd.Cr hw 0 (by omega) (by simp);cases e0;have H0:w.cell? ad0=some (.string w0):=h0;obtain ⟨w1,w2,w3,w4,w5,w6,w7,w8,w9,w10,w11,r1,r2,r3,r4,r5,r6,r7,r8,r9,r10,r11,hM,hB⟩:=Ds w;have hlook:=DC hM w0 (E3 w0.data.toList) (Go.WideMaps.keyOf_string_mk Tryz.underlying9 (by unfold maxLen;omega)) (many_at _);have hmk:(Instr.makeMap 86 none).run Tryz.prog w = .ok (.map (some w.heap.size)) (w.alloc (.map #[] 0)):=run_makeMap _ w;have K0:w11.cell? ad0=some (.string w0):=(hB.cell (World.block_lt_of_cell? w _ H0)).trans H0;have q0:(w0.toList==([102,111,114,109]:List UInt8))=false:=beq_eq_false_iff_ne.mpr hq;have hlen:(w0::ws).length=ws.length+1:=rfl;have q1:(E3 w0.data.toList != ((ws.length+1:Nat):Int))=true:=bne_iff_ne.mpr hm;have q2:(0<ws.length+1)=True:=eq_true (by omega);rw [hlen];have HB:=Aa.mk hB;clear hM hB H0 h0 hw hc hq hm;generalize E3 w0.data.toList=m at hlook q1
 go_enter Tryz.func48,Tryz.ntmps48
 go_wp2_with fail
 go_ret
 exact ⟨rfl,HB.out⟩
theorem NM (F:Nat) (A0:Option Addr) (c0:Nat) (w:World) (hw:Kd.C Kd.string w A0 ([Fx]:List ByteArray).length [Fx]) (hc:([Fx]:List ByteArray).length≤c0) :
  Calls Tryz.prog 48 #[.pointer (some ⟨F,0,none⟩),.slice A0 ([Fx]:List ByteArray).length c0] w fun e w'=>e = .returned (.string GG)∧Below w.heap.size w w':=by
 obtain ⟨ad0,e0,h0⟩:=Kd.Cr hw 0 (by omega) (by simp);cases e0;have H0:w.cell? ad0=some (.string ⟨#[102,111,114,109]⟩):=h0;obtain ⟨w1,w2,w3,w4,w5,w6,w7,w8,w9,w10,w11,r1,r2,r3,r4,r5,r6,r7,r8,r9,r10,r11,hM,hB⟩:=Ds w;have hlook:=DC hM ⟨#[102,111,114,109]⟩ 0 (by kernel_rfl) (by kernel_rfl);have hmk:(Instr.makeMap 86 none).run Tryz.prog w = .ok (.map (some w.heap.size)) (w.alloc (.map #[] 0)):=run_makeMap _ w;have K0:w11.cell? ad0=some (.string ⟨#[102,111,114,109]⟩):=(hB.cell (World.block_lt_of_cell? w _ H0)).trans H0;have HB:=Aa.mk hB;clear hM hB H0 h0 hw hc
 go_enter Tryz.func48,Tryz.ntmps48
 go_wp2_with fail
 go_ret
 exact ⟨rfl,HB.out⟩
def FE (k:Nat) (form:List Int) (ws:List ByteArray):Option (List Int×ByteArray):=if 1≤ws.length∧ws.length≤1000000 then (Ho k ws).bind fun l=>(Am.f k l).bind fun b=>some (if b=true then l else form,if b=true then ⟨#[111,107]⟩ else ⟨#[110,111]⟩) else none
theorem FE.calls (k base F:Nat) (A0:Option Addr) (c0:Nat) (form:List Int) (ws:List ByteArray) (r1:List Int) (r2:ByteArray) (w:World) (hw:Kd.C Kd.string w A0 (Fx::ws).length (Fx::ws)) (hc:(Fx::ws).length≤c0) (hF:Dh base F form w) (hb:base≤w.heap.size) (h:FE k form ws=some (r1,r2)) :
  Calls Tryz.prog 48 #[.pointer (some ⟨F,0,none⟩),.slice A0 (Fx::ws).length c0] w fun e w'=>e = .returned (.string r2)∧Dh base F r1 w'∧FO F w w':=by
 unfold FE at h
 by_cases c:1≤ws.length∧ws.length≤1000000
 ·rw [if_pos c] at h;obtain ⟨l,hn,h⟩:=Option.bind_eq_some_iff.mp h;obtain ⟨b,hv,h⟩:=Option.bind_eq_some_iff.mp h;simp only [Option.some.injEq,Prod.mk.injEq] at h;obtain ⟨rfl,rfl⟩:=h;exact cmd_form k base F A0 c0 ws l form b w hw hc c.1 c.2 hF hb hn hv
 ·rw [if_neg c] at h;cases h
def Ip (k:Nat) (form:List Int) (s:ByteArray):Option (List Int×ByteArray):=(Ax.f k s).bind fun n=>(AU.f k form n).bind fun q=>some (if q.2=true then q.1 else form,if q.2=true then ⟨#[111,107]⟩ else ⟨#[110,111]⟩)
def Io (k:Nat) (form:List Int):Option (List Int×ByteArray):=(CX.f k form).bind fun q=>some (if q.2=true then q.1 else form,if q.2=true then ⟨#[111,107]⟩ else ⟨#[110,111]⟩)
def ask0 (k:Nat) (form:List Int) (w0:ByteArray):Option ByteArray:=if w0=MK then Bx.f k form else if w0=Nz then (C5.f k form).bind fun n=>strconv_Itoa.f n else if w0=kBad then (BM.f k form).bind fun ps=>if ps.length≤1000000 then (badL ps).bind fun ts=>strings_Join.f ts ⟨#[32]⟩ else none else if w0=NC then (BI.f k form).bind fun q=>CJ.f k q.1 q.2 else if w0=GX then (BC.f k form).bind fun n=>strconv_Itoa.f n else none
def ask1 (k:Nat) (form:List Int) (w0 s:ByteArray):Option ByteArray:=if w0=kAt then (CG.f k s).bind fun n=>(BD.f k n).bind fun v=>if v=true then (Ct.f k form n).bind fun t=>some (KQ true t) else some (KQ false false) else if w0=Jl then (Ax.f k s).bind fun n=>(Ad.f k form n).bind fun q=>if q.2.2=true then (Bx.f k q.1).bind fun t=>(strconv_Itoa.f q.2.1).bind fun u=>if t.size≤1000000∧u.size≤1000000 then some (JZ t u) else none else some ⟨#[110,111]⟩ else if w0=F3 then (Ax.f k s).bind fun n=>(Da.f n).bind fun q=>CJ.f k q.1 q.2 else none
def ask3 (k:Nat) (w0 s1 s2 s3:ByteArray):Option ByteArray:=if w0=GY then (Ax.f k s1).bind fun n1=>(Ax.f k s2).bind fun n2=>(CG.f k s3).bind fun n3=>(C8.f k n1 n2 n3).bind fun sy=>CJ.f k [sy] (sy != 0) else none
def askL (k:Nat) (form:List Int):List ByteArray→Option ByteArray
 | [w0]=>ask0 k form w0
 | [w0,s]=>ask1 k form w0 s
 | [w0,s1,s2,s3]=>ask3 k w0 s1 s2 s3
 | _=>none
theorem askL.calls (k base F:Nat) (A0:Option Addr) (c0:Nat) (form:List Int) (ws:List ByteArray) (r:ByteArray) (w:World) (hG:GW w) (hw:Kd.C Kd.string w A0 ws.length ws) (hc:ws.length≤c0) (hF:Dh base F form w) (h:askL k form ws=some r) :
  Calls Tryz.prog 48 #[.pointer (some ⟨F,0,none⟩),.slice A0 ws.length c0] w fun e w'=>e = .returned (.string r)∧Below w.heap.size w w':=by
 unfold askL at h
 split at h
 ·rename_i w0
  unfold ask0 at h
  by_cases c1:w0=MK
  ·subst c1;rw [if_pos rfl] at h;exact cmd_show k base F A0 c0 form r w hG hw hc hF h
  rw [if_neg c1] at h
  by_cases c2:w0=Nz
  ·subst c2;rw [if_pos rfl] at h;obtain ⟨n,hn,h⟩:=Option.bind_eq_some_iff.mp h;exact cmd_disc k base F A0 c0 form n r w hG hw hc hF hn h
  rw [if_neg c2] at h
  by_cases c3:w0=kBad
  ·subst c3;rw [if_pos rfl] at h;obtain ⟨ps,hn,h⟩:=Option.bind_eq_some_iff.mp h
   by_cases c:ps.length≤1000000
   ·rw [if_pos c] at h;obtain ⟨ts,ht,h⟩:=Option.bind_eq_some_iff.mp h;exact cmd_bad k base F A0 c0 form ps ts r w hG hw hc hF hn ht c h
   ·rw [if_neg c] at h;cases h
  rw [if_neg c3] at h
  by_cases c4:w0=NC
  ·subst c4;rw [if_pos rfl] at h;obtain ⟨⟨l,b⟩,hn,h⟩:=Option.bind_eq_some_iff.mp h;exact cmd_zero k base F A0 c0 form l b r w hG hw hc hF hn h
  rw [if_neg c4] at h
  by_cases c5:w0=GX
  ·subst c5;rw [if_pos rfl] at h;obtain ⟨n,hn,h⟩:=Option.bind_eq_some_iff.mp h;exact MQ k base F A0 c0 form n r w hG hw hc hF hn h
  rw [if_neg c5] at h;cases h
 ·rename_i w0 s
  unfold ask1 at h
  by_cases c1:w0=kAt
  ·subst c1;rw [if_pos rfl] at h;obtain ⟨n,hn,h⟩:=Option.bind_eq_some_iff.mp h;obtain ⟨v,hv,h⟩:=Option.bind_eq_some_iff.mp h;cases v
   ·rw [if_neg (by simp)] at h;obtain rfl:=Option.some.inj h;exact cmd_at k base F A0 c0 s form n false false w hw hc hF hn hv (fun e=>by cases e)
   ·rw [if_pos rfl] at h;obtain ⟨t,ht,h⟩:=Option.bind_eq_some_iff.mp h;obtain rfl:=Option.some.inj h;exact cmd_at k base F A0 c0 s form n true t w hw hc hF hn hv (fun _=>ht)
  rw [if_neg c1] at h
  by_cases c2:w0=Jl
  ·subst c2;rw [if_pos rfl] at h;obtain ⟨n,hn,h⟩:=Option.bind_eq_some_iff.mp h;obtain ⟨⟨l,d,b⟩,hf,h⟩:=Option.bind_eq_some_iff.mp h;cases b
   ·simp only [Bool.false_eq_true,if_false] at h;obtain rfl:=Option.some.inj h;exact KP k base F A0 c0 s form n l d false ByteArray.empty ByteArray.empty w hG hw hc hF hn hf (fun e=>by cases e)
   ·simp only [if_true] at h;obtain ⟨t,ht,h⟩:=Option.bind_eq_some_iff.mp h;obtain ⟨u,hu,h⟩:=Option.bind_eq_some_iff.mp h
    by_cases c:t.size≤1000000∧u.size≤1000000
    ·simp only [if_pos c] at h;obtain rfl:=Option.some.inj h;exact KP k base F A0 c0 s form n l d true t u w hG hw hc hF hn hf (fun _=>⟨ht,hu,c.1,c.2⟩)
    ·simp only [if_neg c] at h;cases h
  rw [if_neg c2] at h
  by_cases c3:w0=F3
  ·subst c3;rw [if_pos rfl] at h;obtain ⟨n,hn,h⟩:=Option.bind_eq_some_iff.mp h;obtain ⟨⟨l,b⟩,hf,h⟩:=Option.bind_eq_some_iff.mp h;exact LP k F A0 c0 s r n l b w hG hw hc hn hf h
  rw [if_neg c3] at h;cases h
 ·rename_i w0 s1 s2 s3
  unfold ask3 at h
  by_cases c1:w0=GY
  ·subst c1;rw [if_pos rfl] at h;obtain ⟨n1,hn1,h⟩:=Option.bind_eq_some_iff.mp h;obtain ⟨n2,hn2,h⟩:=Option.bind_eq_some_iff.mp h;obtain ⟨n3,hn3,h⟩:=Option.bind_eq_some_iff.mp h;obtain ⟨sy,hf,h⟩:=Option.bind_eq_some_iff.mp h;exact M8 k F A0 c0 s1 s2 s3 r n1 n2 n3 sy w hG hw hc hn1 hn2 hn3 hf h
  rw [if_neg c1] at h;cases h
 ·cases h
theorem toList_eq (b:ByteArray):b.toList=b.data.toList:=by
 have h : ∀l:List UInt8,(⟨l.toArray⟩:ByteArray).toList=l:=by intro l;simp
 obtain ⟨a⟩:=b;have:=h a.toList
 rwa [Array.toArray_toList] at this
def Dj.f (k:Nat) (form:List Int) (ws:List ByteArray):Option (List Int×ByteArray) :=
 match ws with
 | []=>none
 | w0::ws=>if w0=Fx then if ws=[] then some (form,GG) else FE k form ws else if E3 w0.data.toList≠((ws.length+1:Nat):Int) then if w0.size≤1000000 then some (form,GG) else none else if w0=Gf then match ws with|[s]=>Ip k form s|_=>none else if w0=Gg then match ws with|[]=>Io k form|_=>none else (askL k form (w0::ws)).bind fun r=>some (form,r)
theorem Dj.calls (k base F:Nat) (A0:Option Addr) (c0:Nat) (form:List Int) (ws:List ByteArray) (r1:List Int) (r2:ByteArray) (w:World) (hG:GW w) (hw:Kd.C Kd.string w A0 ws.length ws) (hc:ws.length≤c0) (hF:Dh base F form w) (hb:base≤w.heap.size) (h:Dj.f k form ws=some (r1,r2)) :
  Calls Tryz.prog 48 #[.pointer (some ⟨F,0,none⟩),.slice A0 ws.length c0] w fun e w'=>e = .returned (.string r2)∧Dh base F r1 w'∧FO F w w':=by
 have stay : ∀ {ws:List ByteArray} {r:ByteArray},Calls Tryz.prog 48 #[.pointer (some ⟨F,0,none⟩),.slice A0 ws.length c0] w (fun e w'=>e = .returned (.string r)∧Below w.heap.size w w')→Calls Tryz.prog 48 #[.pointer (some ⟨F,0,none⟩),.slice A0 ws.length c0] w fun e w'=>e = .returned (.string r)∧Dh base F form w'∧FO F w w':=by
  intro ws r h;refine h.mono ?_;rintro e w' ⟨rfl,hb'⟩;exact ⟨rfl,hF.below hb',FO.CV hb'⟩
 cases ws with
 | nil=>cases h
 | cons w0 ws =>
  simp only [Dj.f] at h
  by_cases c:w0=Fx
  ·subst c;rw [if_pos rfl] at h
   by_cases c0':ws=[]
   ·subst c0';rw [if_pos rfl] at h;simp only [Option.some.injEq,Prod.mk.injEq] at h;obtain ⟨rfl,rfl⟩:=h;exact stay (NM F A0 c0 w hw hc)
   ·rw [if_neg c0'] at h;exact FE.calls k base F A0 c0 form ws r1 r2 w hw hc hF hb h
  rw [if_neg c] at h
  by_cases c2:E3 w0.data.toList≠((ws.length+1:Nat):Int)
  ·rw [if_pos c2] at h
   by_cases c9:w0.size≤1000000
   ·rw [if_pos c9] at h;simp only [Option.some.injEq,Prod.mk.injEq] at h;obtain ⟨rfl,rfl⟩:=h;refine stay (cmd_what F A0 c0 w0 ws w hw hc c9 (fun e=>c ?_) c2);rw [toList_eq] at e;cases w0
    unfold Fx
    congr 1
    exact Array.ext' e
   ·rw [if_neg c9] at h;cases h
  rw [if_neg c2] at h
  by_cases c3:w0=Gf
  ·subst c3;rw [if_pos rfl] at h
   split at h
   ·unfold Ip at h
    obtain ⟨n,hn,h⟩:=Option.bind_eq_some_iff.mp h;obtain ⟨⟨l,b⟩,hf,h⟩:=Option.bind_eq_some_iff.mp h;simp only [Option.some.injEq,Prod.mk.injEq] at h;obtain ⟨rfl,rfl⟩:=h;exact NN k base F A0 c0 _ form l n b w hw hc hF hb hn hf
   ·cases h
  rw [if_neg c3] at h
  by_cases c4:w0=Gg
  ·subst c4;rw [if_pos rfl] at h
   split at h
   ·unfold Io at h
    obtain ⟨⟨l,b⟩,hf,h⟩:=Option.bind_eq_some_iff.mp h;simp only [Option.some.injEq,Prod.mk.injEq] at h;obtain ⟨rfl,rfl⟩:=h;exact OR k base F A0 c0 form l b w hG hw hc hF hb hf
   ·cases h
  rw [if_neg c4] at h;obtain ⟨r,hr,h⟩:=Option.bind_eq_some_iff.mp h;simp only [Option.some.injEq,Prod.mk.injEq] at h;obtain ⟨rfl,rfl⟩:=h;exact stay (askL.calls k base F A0 c0 form (w0::ws) r w hG hw hc hF hr)
end
end Go.Proofs.YtacfcoilmdhgnaaGreatDoor.PFnExecuteWhat
