/- A function's Lean twin and its walk, written by a program of this session. -/
import Derived.Test.YtacfcoilmdhgnaaGreatDoorYPFnExecuteWhatx10
set_option maxHeartbeats 8000000
set_option maxRecDepth 100000
namespace Go.Proofs.YtacfcoilmdhgnaaGreatDoor.PFnExecuteWhat
open Go.RowKit Go.Proofs.YtacfcoilmdhgnaaGreatDoorW.PrintWords Go.Proofs.YtacfcoilmdhgnaaGreatDoorW.PrintLast Go.Proofs.YtacfcoilmdhgnaaGreatDoorW.PrintMore
attribute [local go_sem] DN DO El En Du Dt DP DK   -- for this text's walks alone
set_option linter.unusedVariables false
set_option linter.unusedSimpArgs false
def Ck.f (k:Nat) (l0:List Int):Option (List Int×Bool):=(As.f k l0).bind fun t4=>(if t4=true then if (l0.length:Int)=2 then if 0<(l0.length:Int) then (AX.f k (rd l0 0)).bind fun bt5=>(if 1<(l0.length:Int) then (AX.f k (rd l0 1)).bind fun bt6=>(if (wrap64 (bt5.1+bt6.1))=0 then (AL.f k (([bt6.2,bt5.2]:List Int))).bind fun t7=>(some (t7,true)) else some ((([]:List Int)),false)) else none) else none else if (l0.length:Int)=3 then (B3.f k l0).bind fun bt8=>(some (bt8.1,bt8.2)) else if (l0.length:Int)=4 then (Aq.f k l0).bind fun bt9=>(some (bt9.1,bt9.2)) else some ((([]:List Int)),false) else some ((([]:List Int)),false))
theorem Ck.calls (k:Nat) (A0:Option Addr) (c0:Nat) (l0 r1:List Int) (r2:Bool) (w:World) (hr0:Kd.C (Kd.int .i64) w A0 l0.length l0) (hc0:l0.length≤c0) (h:Ck.f k l0=some (r1,r2)) :
  Calls Tryz.prog 38 #[.slice A0 l0.length c0] w fun e w' => ∃v0_:Value,e = .returned (.tuple #[v0_,.bool r2])∧Kd.R (Kd.int .i64) 3 w' w.heap.size (fun _=>True) v0_ r1∧Below w.heap.size w w':=by
 have HR0:=Aa.mk hr0;have HC0:=Aa.mk hc0;clear hr0 hc0;have HB:=Aa.mk (Below.refl w.heap.size w);unfold Ck.f at h;have H:=h;clear h;obtain ⟨t31,A2,H⟩:=Zs.be H
 cases t31
 ·replace H:=Zq.fh H;obtain ⟨y32,hyy⟩ : ∃y_:List Int,y_=(([]:List Int)):=⟨_,rfl⟩
  replace H:(some (y32,false))=some (r1,r2):=Zs.auY
  have Ny32:=Aa.mk hyy;clear hyy;obtain ⟨rfl,rfl⟩:=Zq.pi H
  go_enter Tryz.func38,Tryz.ntmps38
  go_wp2_with (first|((with_reducible refine Ab (f:=62) rfl ?_);refine Zq.gp Tryz.func62 (As.calls _ _ _ _ _ _ (Zs.mvC (HR0.out)) HC0.out A2.out) ?_;intro nd)|((with_reducible refine Bb (N:=11) rfl ?_);refine Zq.li ([]:List Int) ?_;intro v33 w29 ho30 hb;(first|rw [← Ny32.out] at ho30|(simp only [Int.reduceToNat] at ho30;rw [← Ny32.out] at ho30));have HO34:=Zq.lw ho30;replace HB:=Zq.st hb;clear hb ho30))
  go_ret2
  exact ⟨_,Zs.auR,(Zs.mvR HO34.out),Zs.auHB⟩
 ·replace H:=Zq.th H
  rcases Zq.jn H with ⟨c4b0,H⟩|⟨c4,c4b0,H⟩
  ·obtain ⟨c5b0,H⟩:=Zq.pd H;obtain ⟨t36,t37,A6,H⟩:=Zq.bp H;try dsimp only at H
   obtain ⟨c7b0,H⟩:=Zq.pd H;obtain ⟨t40,t41,A8,H⟩:=Zq.bp H;try dsimp only at H
   rcases Zq.jn H with ⟨c9b0,H⟩|⟨c9,c9b0,H⟩
   ·generalize hyy:([t41,t37]:List Int)=y42 at H;have Ny42:=Aa.mk hyy.symm;clear hyy;obtain ⟨t45,A10,H⟩:=Zs.be H;obtain ⟨rfl,rfl⟩:=Zq.pi H
    go_enter Tryz.func38,Tryz.ntmps38
    go_wp2_with (first|((with_reducible refine Ab (f:=62) rfl ?_);refine Zq.gp Tryz.func62 (As.calls _ _ _ _ _ _ (Zs.mvC (HR0.out)) HC0.out A2.out) ?_;intro nd;obtain ⟨ad35,e35,hx35_0,p35,q35,qi35⟩:=Zq.a0 HR0.out;cases e35)|((with_reducible refine Ab (f:=81) rfl ?_);refine Zq.gc (some 20) Tryz.func81 (AX.calls _ _ _ _ _ A6.out) ?_;rintro e w11 ⟨rfl,hb⟩;refine ⟨_,rfl,?_⟩;replace HB:=Zq.st hb;(try clear hb);obtain ⟨ad39,e39,hx39_0,p39,q39⟩:=Zq.an HR0.out 1 1;obtain rfl:ad35=ad39:=(by injection e39);replace hx39_0:=Zq.ce HB.out hx39_0)|((with_reducible refine Ab (f:=81) rfl ?_);refine Zq.gc (some 27) Tryz.func81 (AX.calls _ _ _ _ _ A8.out) ?_;rintro e w12 ⟨rfl,hb⟩;refine ⟨_,rfl,?_⟩;replace HB:=Zq.st hb;(try clear hb))|((with_reducible refine Bb (N:=36) rfl ?_);refine Zq.li ([t41,t37]:List Int) ?_;intro v43 w13 ho14 hb;(first|rw [← Ny42.out] at ho14|(simp only [Int.reduceToNat] at ho14;rw [← Ny42.out] at ho14));have HO44:=Zq.lw ho14;replace HB:=Zq.st hb;clear hb ho14;obtain ⟨Ao15,co15,eo15⟩:=Kd.Az HO44.out;subst eo15)|((with_reducible refine Ab (f:=82) rfl ?_);refine Zq.gc (some 37) Tryz.func82 (AL.calls _ _ _ _ _ _ (Zs.mvC ((Kd.Ac HO44.out).2.2)) ((Kd.Ac HO44.out).2.1) A10.out) ?_;rintro e w16 ⟨v46,rfl,ho0,hb⟩;refine ⟨_,rfl,?_⟩;have HO47:=Aa.mk (Kd.Bp (Kd.Br ho0 (Zq.lt HO44.out)) (Ay (Zs.auHB)));replace HO44:=Zq.el HO44.out ho0 hb;replace HB:=Zq.st hb;(try clear hb);(try clear ho0)))
    go_ret2
    exact ⟨_,Zs.auR,(Zs.mvR (Kd.AB HO47.out (fun _ hk=>trivial))),Zs.auHB⟩
   ·obtain ⟨y48,hyy⟩ : ∃y_:List Int,y_=(([]:List Int)):=⟨_,rfl⟩
    replace H:(some (y48,false))=some (r1,r2):=Zs.auY
    have Ny48:=Aa.mk hyy;clear hyy;obtain ⟨rfl,rfl⟩:=Zq.pi H
    go_enter Tryz.func38,Tryz.ntmps38
    go_wp2_with (first|((with_reducible refine Ab (f:=62) rfl ?_);refine Zq.gp Tryz.func62 (As.calls _ _ _ _ _ _ (Zs.mvC (HR0.out)) HC0.out A2.out) ?_;intro nd;obtain ⟨ad35,e35,hx35_0,p35,q35,qi35⟩:=Zq.a0 HR0.out;cases e35)|((with_reducible refine Ab (f:=81) rfl ?_);refine Zq.gc (some 20) Tryz.func81 (AX.calls _ _ _ _ _ A6.out) ?_;rintro e w17 ⟨rfl,hb⟩;refine ⟨_,rfl,?_⟩;replace HB:=Zq.st hb;(try clear hb);obtain ⟨ad39,e39,hx39_0,p39,q39⟩:=Zq.an HR0.out 1 1;obtain rfl:ad35=ad39:=(by injection e39);replace hx39_0:=Zq.ce HB.out hx39_0)|((with_reducible refine Ab (f:=81) rfl ?_);refine Zq.gc (some 27) Tryz.func81 (AX.calls _ _ _ _ _ A8.out) ?_;rintro e w18 ⟨rfl,hb⟩;refine ⟨_,rfl,?_⟩;replace HB:=Zq.st hb;(try clear hb))|((with_reducible refine Bb (N:=50) rfl ?_);refine Zq.li ([]:List Int) ?_;intro v49 w19 ho20 hb;(first|rw [← Ny48.out] at ho20|(simp only [Int.reduceToNat] at ho20;rw [← Ny48.out] at ho20));have HO50:=Zq.lw ho20;replace HB:=Zq.st hb;clear hb ho20))
    go_ret2
    exact ⟨_,Zs.auR,(Zs.mvR HO50.out),Zs.auHB⟩
  ·rcases Zq.jn H with ⟨c21b0,H⟩|⟨c21,c21b0,H⟩
   ·obtain ⟨t51,t52,A22,H⟩:=Zq.bp H;try dsimp only at H;obtain ⟨rfl,rfl⟩:=Zq.pi H
    go_enter Tryz.func38,Tryz.ntmps38
    go_wp2_with (first|((with_reducible refine Ab (f:=62) rfl ?_);refine Zq.gp Tryz.func62 (As.calls _ _ _ _ _ _ (Zs.mvC (HR0.out)) HC0.out A2.out) ?_;intro nd)|((with_reducible refine Ab (f:=83) rfl ?_);refine Zq.gc (some 41) Tryz.func83 (B3.calls _ _ _ _ _ _ _ (Zs.mvC (HR0.out)) HC0.out A22.out) ?_;rintro e w23 ⟨v53,rfl,ho0,hb⟩;refine ⟨_,rfl,?_⟩;have HO54:=Zq.lw ho0;replace HB:=Zq.st hb;(try clear hb);(try clear ho0)))
    go_ret2
    exact ⟨_,Zs.auR,(Zs.mvR HO54.out),Zs.auHB⟩
   ·rcases Zq.jn H with ⟨c24b0,H⟩|⟨c24,c24b0,H⟩
    ·obtain ⟨t55,t56,A25,H⟩:=Zq.bp H;try dsimp only at H;obtain ⟨rfl,rfl⟩:=Zq.pi H
     go_enter Tryz.func38,Tryz.ntmps38
     go_wp2_with (first|((with_reducible refine Ab (f:=62) rfl ?_);refine Zq.gp Tryz.func62 (As.calls _ _ _ _ _ _ (Zs.mvC (HR0.out)) HC0.out A2.out) ?_;intro nd)|((with_reducible refine Ab (f:=84) rfl ?_);refine Zq.gc (some 47) Tryz.func84 (Aq.calls _ _ _ _ _ _ _ (Zs.mvC (HR0.out)) HC0.out A25.out) ?_;rintro e w26 ⟨v57,rfl,ho0,hb⟩;refine ⟨_,rfl,?_⟩;have HO58:=Zq.lw ho0;replace HB:=Zq.st hb;(try clear hb);(try clear ho0)))
     go_ret2
     exact ⟨_,Zs.auR,(Zs.mvR HO58.out),Zs.auHB⟩
    ·obtain ⟨y59,hyy⟩ : ∃y_:List Int,y_=(([]:List Int)):=⟨_,rfl⟩
     replace H:(some (y59,false))=some (r1,r2):=Zs.auY
     have Ny59:=Aa.mk hyy;clear hyy;obtain ⟨rfl,rfl⟩:=Zq.pi H
     go_enter Tryz.func38,Tryz.ntmps38
     go_wp2_with (first|((with_reducible refine Ab (f:=62) rfl ?_);refine Zq.gp Tryz.func62 (As.calls _ _ _ _ _ _ (Zs.mvC (HR0.out)) HC0.out A2.out) ?_;intro nd)|((with_reducible refine Bb (N:=50) rfl ?_);refine Zq.li ([]:List Int) ?_;intro v60 w27 ho28 hb;(first|rw [← Ny59.out] at ho28|(simp only [Int.reduceToNat] at ho28;rw [← Ny59.out] at ho28));have HO61:=Zq.lw ho28;replace HB:=Zq.st hb;clear hb ho28))
     go_ret2
     exact ⟨_,Zs.auR,(Zs.mvR HO61.out),Zs.auHB⟩
def DW.f (k:Nat) (l0:List Int):Option (Bool):=(As.f k l0).bind fun t3=>(if t3=true then some (decide ((l0.length:Int)≤3)) else some false)
theorem DW.calls (k:Nat) (A0:Option Addr) (c0:Nat) (l0:List Int) (r:Bool) (w:World) (hr0:Kd.C (Kd.int .i64) w A0 l0.length l0) (hc0:l0.length≤c0) (h:DW.f k l0=some r) :
  Calls Tryz.prog 89 #[.slice A0 l0.length c0] w fun e w'=>e = .returned (.bool r)∧Bo w w':=by
 have HR0:=Aa.mk hr0;have HC0:=Aa.mk hc0;clear hr0 hc0;unfold DW.f at h;have H:=h;clear h;obtain ⟨t3,A2,H⟩:=Zs.be H
 cases t3
 ·replace H:=Zq.fh H;obtain rfl:=Option.some.inj H
  go_enter Tryz.func89,Tryz.ntmps89
  go_wp2_with (((with_reducible refine Ab (f:=62) rfl ?_);refine Zq.gp Tryz.func62 (As.calls _ _ _ _ _ _ (Zs.mvC (HR0.out)) HC0.out A2.out) ?_;intro nd))
  go_ret
  exact ⟨Zs.auS,Zq.dr⟩
 ·replace H:=Zq.th H;obtain rfl:=Option.some.inj H
  go_enter Tryz.func89,Tryz.ntmps89
  go_wp2_with (((with_reducible refine Ab (f:=62) rfl ?_);refine Zq.gp Tryz.func62 (As.calls _ _ _ _ _ _ (Zs.mvC (HR0.out)) HC0.out A2.out) ?_;intro nd))
  go_ret
  exact ⟨Zs.auS,Zq.dr⟩
def Dv.f (a0:Int):Option (Bool):=if a0=0 then some false else (CC.f a0 (-30) 30).bind fun t3=>(some t3)
theorem Dv.calls (a0:Int) (r:Bool) (w:World) (h:Dv.f a0=some r) :
  Calls Tryz.prog 90 #[.int .i64 a0] w fun e w'=>e = .returned (.bool r)∧Bo w w':=by
 unfold Dv.f at h;have H:=h;clear h
 rcases Zq.ii H with ⟨c2,H⟩|⟨c2,H⟩
 ·have c2b1:=bne_eq_false_iff_eq.mpr c2;clear c2;obtain rfl:=Option.some.inj H
  go_enter Tryz.func90,Tryz.ntmps90
  go_wp2;go_ret
  exact ⟨Zs.auS,Zq.dr⟩
 ·have c2b1:=bne_iff_ne.mpr c2;obtain ⟨t4,A3,H⟩:=Zs.be H;obtain rfl:=Option.some.inj H
  go_enter Tryz.func90,Tryz.ntmps90
  go_wp2_with ((go_at_call 111;(with_reducible refine (CC.calls a0 (-30) 30 t4 _ A3.out).mono ?_);rintro e w' ⟨rfl,⟨nd,rfl⟩⟩))
  go_ret
  exact ⟨Zs.auS,Zq.dr⟩
def Cx.l0:Nat→List Int→Int→Option (Int)
 | 0,_,_=>none
 | k+1,x0,x3=>if 0≤x3 then if x3<(x0.length:Int) then if (rd x0 x3)=0 then Cx.l0 k x0 (wrap64 (x3+1)) else some x3 else none else none
def Cx.f (k:Nat) (l0:List Int):Option (Int):=Cx.l0 k l0 0
theorem Cx.calls (k:Nat) (A0:Option Addr) (c0:Nat) (l0:List Int) (r:Int) (w:World) (hr0:Kd.C (Kd.int .i64) w A0 l0.length l0) (hc0:l0.length≤c0) (h:Cx.f k l0=some r) :
  Calls Tryz.prog 91 #[.slice A0 l0.length c0] w fun e w'=>e = .returned (.int .i64 r)∧Bo w w':=by
 have HR0:=Aa.mk hr0;have HC0:=Aa.mk hc0;clear hr0 hc0;unfold Cx.f at h;have H:=h;clear h;have H':=Aa.mk H;clear H
 go_enter Tryz.func91,Tryz.ntmps91
 go_wp2
 go_loopg [3] k (fun kq v3 w' => ∃x3_1:Int,v3 = .int .i64 x3_1∧Aa (Cx.l0 kq l0 x3_1=some r)∧Aa (kq≤k)∧Bo w w')
 case atStart=>exact ⟨(0),Zs.auS,H',⟨Nat.le_refl _⟩,Zq.dr⟩
 case round =>
  clear H';obtain ⟨x3_1,rfl,HA,HK1,⟨m1,rfl⟩⟩:=hrel;cases gk with
  | zero=>exact absurd HA.out (by simp [Cx.l0])
  | succ k1 =>
   have H:=HA.out;clear HA;simp only [Cx.l0] at H
   obtain ⟨c2b0,H⟩:=Zq.pd H
   obtain ⟨c3b0,H⟩:=Zq.pd H
   rcases Zq.jn H with ⟨c4b0,H⟩|⟨c4,c4b0,H⟩
   ·have H':=Aa.mk H;clear H;obtain ⟨ad5,e5,hx5_0,p5,q5⟩:=Zq.at_ HR0.out x3_1;cases e5;go_wp2
    go_roundg k1
    case measure=>have:=HK1.out;omega
    case rel=>exact ⟨(wrap64 (x3_1+1)),Zs.auS,H',⟨by have:=HK1.out;omega⟩,Zq.dr⟩
   ·obtain rfl:=Option.some.inj H;obtain ⟨ad5,e5,hx5_0,p5,q5⟩:=Zq.at_ HR0.out x3_1;cases e5;go_wp2;go_ret
    exact ⟨Zs.auS,Zq.dr⟩
mutual
def AO.l0:Nat→List (List Int)→Int→Int→Int→Option ((List (List Int))×Int)
 | 0,_,_,_,_=>none
 | k+1,x0,x1,x5,x6=>if x6<(x0.length:Int) then AO.l1 k x0 x1 x5 x6 0 else if x1<0 then AO.j2 k x0 x1 (wrap64 (-x5)) else AO.j2 k x0 x1 x5
def AO.l1:Nat→List (List Int)→Int→Int→Int→Int→Option ((List (List Int))×Int)
 | 0,_,_,_,_,_=>none
 | k+1,x0,x1,x5,x6,x7=>if 0≤x6 then if x6<(x0.length:Int) then if x7<((G4 x0 x6).length:Int) then if 0≤x7 then (Cd.f k x5 (rd (G4 x0 x6) x7)).bind fun t3=>(AO.l1 k x0 x1 t3 x6 (wrap64 (x7+1))) else none else AO.l0 k x0 x1 x5 (wrap64 (x6+1)) else none else none
def AO.j2:Nat→List (List Int)→Int→Int→Option ((List (List Int))×Int)
 | 0,_,_,_=>none
 | k+1,x0,x1,x5=>if x5=0 then none else (AO.l2 k x0 x5 0 (([]:List (List Int))) (wrap64 (Int.tdiv x1 x5)))
def AO.l2:Nat→List (List Int)→Int→Int→List (List Int)→Int→Option ((List (List Int))×Int)
 | 0,_,_,_,_,_=>none
 | k+1,x0,x5,x9,x4,x6=>if x9<(x0.length:Int) then AO.l3 k x0 x5 x9 (([]:List Int)) 0 x4 x6 else some (x4,x6)
def AO.l3:Nat→List (List Int)→Int→Int→List Int→Int→List (List Int)→Int→Option ((List (List Int))×Int)
 | 0,_,_,_,_,_,_,_=>none
 | k+1,x0,x5,x9,x10,x11,x6,x7=>if 0≤x9 then (if x9<(x0.length:Int) then (if x11<((G4 x0 x9).length:Int) then if 0≤x11 then if x5=0 then none else if x10.length<17592186044416 then AO.l3 k x0 x5 x9 (x10++[wrap64 (Int.tdiv (rd (G4 x0 x9) x11) x5)]) (wrap64 (x11+1)) x6 x7 else none else none else if x6.length<5864062014805 then AO.l2 k x0 x5 (wrap64 (x9+1)) (x6++[x10]) x7 else none) else none) else none
end
def AO.f (k:Nat) (l0:List (List Int)) (a1:Int):Option ((List (List Int))×Int):=AO.l0 k l0 a1 a1 0
theorem AO.calls (k:Nat) (A0:Option Addr) (c0:Nat) (l0:List (List Int)) (a1:Int) (r1:List (List Int)) (r2:Int) (w:World) (hr0:Kd.C (Kd.slice 3 (Kd.int .i64)) w A0 l0.length l0) (hc0:l0.length≤c0) (h:AO.f k l0 a1=some (r1,r2)) :
  Calls Tryz.prog 139 #[.slice A0 l0.length c0,.int .i64 a1] w fun e w' => ∃v0_:Value,e = .returned (.agg #[v0_,.int .i64 r2])∧Kd.S (Kd.slice 3 (Kd.int .i64)) 27 w' w.heap.size (fun _=>True) v0_ r1∧Below w.heap.size w w':=by
 have hu105:=Tryz.underlying105;have HR0:=Aa.mk hr0;have HC0:=Aa.mk hc0;clear hr0 hc0;have HB:=Aa.mk (Below.refl w.heap.size w);unfold AO.f at h;have H:=h;clear h;have H':=Aa.mk H;clear H
 go_enter Tryz.func139,Tryz.ntmps139
 go_wp2_with (((with_reducible refine Bb (N:=4) rfl ?_);refine GQ ?hg (N:=4) ?hd (cs:=#[.slice none 0 0,.int .i64 0]) (t:=105) ?hr ?_;(case hd=>rfl);(case hg=>rfl);(case hr=>first|(go_simp;done)|(go_simp;rfl));intro gb41 hg w3 hbox hb;have BK41:=Aa.mk (hbox);have GW593:=Aa.mk ((by rw [hg];exact (Ay (Zs.auHB)):w.heap.size≤gb41));have GE41:=Aa.mk ((by rw [hg];exact (Ay (Zs.auHB)):w.heap.size≤gb41));replace HB:=Zq.st hb;clear hb hbox hg))
 go_loopg [5,6] k (fun kq v5 v6 w' => ∃x5_1 x6_1:Int,v5 = .int .i64 x5_1∧v6 = .int .i64 x6_1∧Aa (AO.l0 kq l0 a1 x5_1 x6_1=some (r1,r2))∧Aa (kq≤k)∧Aa (w'.heap[gb41]? = some (.cells #[(.slice none 0 0),.int .i64 0] 105 (0,0)))∧Aa (Below w.heap.size w w'))
 case atStart=>exact ⟨(a1),(0),Zs.auS,Zs.auS,H',⟨Nat.le_refl _⟩,⟨by (with_reducible repeat (first|refine BG ?_ _|refine Ca ?_|refine BH ?_ _));exact BK41.out⟩,⟨by repeat (first|(with_reducible first|exact HB.out|apply Ah|apply Ag|apply Al|refine AE ?_ GE41.out)|exact HB.out)⟩⟩
 case round =>
  clear H'
  obtain ⟨x5_1,x6_1,rfl,rfl,HA,HK1,BK41,HB⟩:=hrel;cases gk with
  | zero=>exact absurd HA.out (by simp [AO.l0])
  | succ k1 =>
   have H:=HA.out;clear HA;simp only [AO.l0] at H
   rcases Zq.jd H with ⟨c4b0,H⟩|⟨c4b0,H⟩
   ·have H':=Aa.mk H;clear H;go_wp2
    go_loopg [5,7] k1 (fun kq v5 v7 w' => ∃x5_2 x7_2:Int,v5 = .int .i64 x5_2∧v7 = .int .i64 x7_2∧Aa (AO.l1 kq l0 a1 x5_2 x6_1 x7_2=some (r1,r2))∧Aa (kq≤k1)∧Aa (w'.heap[gb41]? = some (.cells #[(.slice none 0 0),.int .i64 0] 105 (0,0)))∧Aa (Below w.heap.size w w'))
    case atStart=>exact ⟨(x5_1),(0),Zs.auS,Zs.auS,H',⟨Nat.le_refl _⟩,⟨by (with_reducible repeat (first|refine BG ?_ _|refine Ca ?_|refine BH ?_ _));exact BK41.out⟩,⟨by repeat (first|(with_reducible first|exact HB.out|apply Ah|apply Ag|apply Al|refine AE ?_ GE41.out)|exact HB.out)⟩⟩
    case round =>
     clear H'
     obtain ⟨x5_2,x7_2,rfl,rfl,HA,HK2,BK41,HB⟩:=hrel;cases gk with
     | zero=>exact absurd HA.out (by simp [AO.l1])
     | succ k2 =>
      have H:=HA.out;clear HA;simp only [AO.l1] at H
      obtain ⟨c5b0,H⟩:=Zq.pd H
      obtain ⟨c6b0,H⟩:=Zq.pd H
      rcases Zq.jd H with ⟨c7b0,H⟩|⟨c7b0,H⟩
      ·obtain ⟨c8b0,H⟩:=Zq.pd H;obtain ⟨t45,A9,H⟩:=Zs.be H;have H':=Aa.mk H;clear H;have p42:0≤(x6_1:Int):=Zs.od;have q42:x6_1<(l0.length:Int):=Zs.od;obtain ⟨ad42,A42_0,c42_0,e42,hx42_0,hl42_0,hi42_0⟩:=Nt HR0.out x6_1 p42 q42;cases e42;replace hx42_0:=Zq.ce HB.out hx42_0;have HR42_0:=Aa.mk hi42_0;have HC42_0:=Aa.mk hl42_0;clear hi42_0 hl42_0;replace p42:=eq_true p42;replace q42:=eq_true q42;have p43:0≤(x6_1:Int):=Zs.od;have q43:x6_1<(l0.length:Int):=Zs.od;obtain ⟨ad43,A43_0,c43_0,e43,hx43_0,hl43_0,hi43_0⟩:=Nt HR0.out x6_1 p43 q43;obtain rfl:ad42=ad43:=(by injection e43);replace hx43_0:=Zq.ce HB.out hx43_0;have HR43_0:=Aa.mk hi43_0;have HC43_0:=Aa.mk hl43_0;clear hi43_0 hl43_0;replace p43:=eq_true p43;replace q43:=eq_true q43;have ea_:=Option.some.inj (hx42_0.symm.trans hx43_0);injection ea_ with ea_ en_ ec_
       subst ea_;subst ec_;clear en_;obtain ⟨ad44,e44,hx44_0,p44,q44⟩:=Zq.at_ HR43_0.out x7_2;cases e44;replace hx44_0:=Zq.ce HB.out hx44_0
       go_wp2_with (((with_reducible refine Ab (f:=136) rfl ?_);refine Zq.gb Tryz.func136 (Cd.calls _ _ _ _ _ A9.out) ?_;intro w10 hb;replace BK41:=Aa.mk (FY (g:=gb41) (o := .cells #[.slice none 0 0,.int .i64 0] 105 (0,0)) (by (with_reducible repeat (first|refine BG ?_ _|refine Ca ?_|refine BH ?_ _));exact BK41.out) hb);replace HB:=Aa.mk (Bj (by repeat (first|(with_reducible first|exact HB.out|apply Ah|apply Ag|apply Al|refine AE ?_ GE41.out)|exact HB.out)) hb);(try clear hb)))
       go_roundg k2
       case measure=>have:=HK1.out;have:=HK2.out;omega
       case rel=>exact ⟨(t45),(wrap64 (x7_2+1)),Zs.auS,Zs.auS,H',⟨by have:=HK1.out;have:=HK2.out;omega⟩,⟨by (with_reducible repeat (first|refine BG ?_ _|refine Ca ?_|refine BH ?_ _));exact BK41.out⟩,⟨by repeat (first|(with_reducible first|exact HB.out|apply Ah|apply Ag|apply Al|refine AE ?_ GE41.out)|exact HB.out)⟩⟩
      ·have H':=Aa.mk H;clear H;have p42:0≤(x6_1:Int):=Zs.od;have q42:x6_1<(l0.length:Int):=Zs.od;obtain ⟨ad42,A42_0,c42_0,e42,hx42_0,hl42_0,hi42_0⟩:=Nt HR0.out x6_1 p42 q42;cases e42;replace hx42_0:=Zq.ce HB.out hx42_0;have HR42_0:=Aa.mk hi42_0;have HC42_0:=Aa.mk hl42_0;clear hi42_0 hl42_0;replace p42:=eq_true p42;replace q42:=eq_true q42;go_wp2
       go_roundg k2
       case measure=>have:=HK1.out;have:=HK2.out;omega
       case rel=>exact ⟨(x5_2),(wrap64 (x6_1+1)),Zs.auS,Zs.auS,H',⟨by have:=HK1.out;have:=HK2.out;omega⟩,⟨by (with_reducible repeat (first|refine BG ?_ _|refine Ca ?_|refine BH ?_ _));exact BK41.out⟩,⟨by repeat (first|(with_reducible first|exact HB.out|apply Ah|apply Ag|apply Al|refine AE ?_ GE41.out)|exact HB.out)⟩⟩
   ·have HC11:=Aa.mk H;clear H
    go_upto_if 38 with (fail)
    go_cut [5] (fun v5 wc => ∃(kq:Nat) (x5_10:Int),v5 = .int .i64 x5_10∧Aa (AO.j2 kq l0 a1 x5_10=some (r1,r2))∧Aa (kq≤k1)∧Aa (wc.heap[gb41]? = some (.cells #[(.slice none 0 0),.int .i64 0] 105 (0,0)))∧Aa (Below w.heap.size w wc))
    case first =>
     have H:=HC11.out;clear HC11
     rcases Zq.jd H with ⟨c12b0,H⟩|⟨c12b0,H⟩
     ·rw [c12b0]
      have H':=Aa.mk H;clear H;go_wp2
      go_meet
      case rel=>exact ⟨_,(wrap64 (-x5_1)),Zs.auS,H',⟨by have:=HK1.out;first|omega|exact Nat.le_refl _⟩,⟨by (with_reducible repeat (first|refine BG ?_ _|refine Ca ?_|refine BH ?_ _));exact BK41.out⟩,⟨by repeat (first|(with_reducible first|exact HB.out|apply Ah|apply Ag|apply Al|refine AE ?_ GE41.out)|exact HB.out)⟩⟩
     ·rw [c12b0]
      have H':=Aa.mk H;clear H;go_wp2
      go_meet
      case rel=>exact ⟨_,(x5_1),Zs.auS,H',⟨by have:=HK1.out;first|omega|exact Nat.le_refl _⟩,⟨by (with_reducible repeat (first|refine BG ?_ _|refine Ca ?_|refine BH ?_ _));exact BK41.out⟩,⟨by repeat (first|(with_reducible first|exact HB.out|apply Ah|apply Ag|apply Al|refine AE ?_ GE41.out)|exact HB.out)⟩⟩
    case rest =>
     clear HC11
     obtain ⟨kq,x5_10,rfl,HA,HJ10,BK41,HB⟩:=hcut;cases kq with
     | zero=>exact absurd HA.out (by simp [AO.j2])
     | succ kj10 =>
      have H:=HA.out;clear HA;simp only [AO.j2] at H;obtain ⟨y46,hyy⟩ : ∃y_:List (List Int),y_=(([]:List (List Int))):=⟨_,rfl⟩
      replace H:(if x5_10=0 then none else AO.l2 kj10 l0 x5_10 0 y46 (wrap64 (Int.tdiv a1 x5_10)))=some (r1,r2):=Zs.auY
      have Ny46:=Aa.mk hyy;clear hyy
      rcases Zq.ii H with ⟨c13,H⟩|⟨c13,H⟩
      ·exact absurd H (by simp)
      ·have H':=Aa.mk H;clear H
       go_wp2_with (first|((with_reducible refine Bb (N:=41) rfl ?_);refine Kd.S_lit (Kd.slice 3 (Kd.int .i64)) _ 27 ?hg (N:=41) ?hd (xs:=([]:List (List Int))) (inner:=[]) (ok:=fun _=>True) (okp:=fun _=>True) ?hr ?hp (fun _ hk=>hk) trivial (Below.refl _ _) (Nat.le_refl _) (by simp) ?_;(case hd=>rfl);(case hg=>rfl);(case hr=>first|(go_simp;done)|(go_simp;rfl));(case hp=>exact (Reps.none _ _));intro v47 w14 ho15 hb hg_ hnew_;clear hg_ hnew_;(first|rw [← Ny46.out] at ho15|(simp only [Int.reduceToNat] at ho15;rw [← Ny46.out] at ho15));have HO48:=Aa.mk (Kd.S_lower ho15 (Ay (by repeat (first|(with_reducible first|exact HB.out|apply Ah|apply Ag|apply Al|refine AE ?_ GE41.out)|exact HB.out))));replace BK41:=Aa.mk (FY (g:=gb41) (o := .cells #[.slice none 0 0,.int .i64 0] 105 (0,0)) (by (with_reducible repeat (first|refine BG ?_ _|refine Ca ?_|refine BH ?_ _));exact BK41.out) hb);replace HB:=Aa.mk (Bj (by repeat (first|(with_reducible first|exact HB.out|apply Ah|apply Ag|apply Al|refine AE ?_ GE41.out)|exact HB.out)) hb);clear hb ho15;obtain ⟨Ao16,co16,eo16⟩:=Kd.L3 HO48.out;subst eo16)|((with_reducible refine Bb (N:=8) rfl ?_);refine GQ ?hg (N:=8) ?hd (cs:=#[.slice none 0 0,.int .i64 0]) (t:=105) ?hr ?_;(case hd=>rfl);(case hg=>rfl);(case hr=>first|(go_simp;done)|(go_simp;rfl));intro gb49 hg w17 hbox hb;replace HO48:=Aa.mk (Kd.JA (by (with_reducible repeat (first|apply Kd.Fy|apply Kd.FD|apply Kd.GF));exact HO48.out) hb);have BK49:=Aa.mk (hbox);have GW601:=Aa.mk ((by rw [hg];exact (Ay (by repeat (first|(with_reducible first|exact HB.out|apply Ah|apply Ag|apply Al|refine AE ?_ GE41.out)|exact HB.out))):w.heap.size≤gb49));have GE49:=Aa.mk ((by rw [hg];exact (Ay (by repeat (first|(with_reducible first|exact HB.out|apply Ah|apply Ag|apply Al|refine AE ?_ GE41.out)|exact HB.out))):w.heap.size≤gb49));replace HB:=Aa.mk (Bj (by repeat (first|(with_reducible first|exact HB.out|apply Ah|apply Ag|apply Al|refine AE ?_ GE41.out)|exact HB.out)) hb);have NB593_601:=Aa.mk ((by rw [hg];exact Nat.ne_of_lt (Hi (g:=gb41) (o := .cells #[.slice none 0 0,.int .i64 0] 105 (0,0)) (by (with_reducible repeat (first|refine BG ?_ _|refine Ca ?_|refine BH ?_ _));exact BK41.out)):gb41≠gb49));have NB601_593:=Aa.mk ((by rw [hg];exact Nat.ne_of_gt (Hi (g:=gb41) (o := .cells #[.slice none 0 0,.int .i64 0] 105 (0,0)) (by (with_reducible repeat (first|refine BG ?_ _|refine Ca ?_|refine BH ?_ _));exact BK41.out)):gb49≠gb41));replace BK41:=Aa.mk (FY (g:=gb41) (o := .cells #[.slice none 0 0,.int .i64 0] 105 (0,0)) (by (with_reducible repeat (first|refine BG ?_ _|refine Ca ?_|refine BH ?_ _));exact BK41.out) hb);clear hb hbox hg;have hnb18:=NB601_593.out;have hnc18:=NB593_601.out;have hcz19_0:w17.cell? ⟨gb49,0,none⟩=some (.slice none 0 0):=(CW BK49.out 0).trans rfl;have hcz19_1:w17.cell? ⟨gb49,1,none⟩=some (.int .i64 0):=(CW BK49.out 1).trans rfl;have hfz19_0:=C3 BK49.out 0;have hfz19_1:=C3 BK49.out 1))
       go_loopg [9] kj10 (fun kq v9 w' => ∃(x9_3:Int) (x62_3:List (List Int)) (u602000:Value),v9 = .int .i64 x9_3∧Aa (AO.l2 kq l0 x5_10 x9_3 x62_3 (wrap64 (Int.tdiv a1 x5_10))=some (r1,r2))∧Aa (kq≤kj10)∧Aa (Kd.S (Kd.slice 3 (Kd.int .i64)) 27 w' w.heap.size (fun _=>True) u602000 x62_3)∧Aa (w'.heap[gb41]? = some (.cells #[(.slice none 0 0),.int .i64 0] 105 (0,0)))∧Aa (w'.heap[gb49]? = some (.cells #[u602000,.int .i64 (wrap64 (Int.tdiv a1 x5_10))] 105 (0,0)))∧Aa (Below w.heap.size w w'))
       case atStart=>exact ⟨(0),(y46),(.slice Ao16 y46.length co16),Zs.auS,H',⟨Nat.le_refl _⟩,⟨by (with_reducible repeat (first|apply Kd.Fy|apply Kd.FD|apply Kd.GF));exact Kd.Hk (Kd.Pp (p:=⟨gb49,1,none⟩) (Kd.Pp (p:=⟨gb49,0,none⟩) (Kd.L7 HO48.out BK49.out (by decide)) Zq.tk (.slice Ao16 y46.length co16)) Zq.tk (.int .i64 (wrap64 (Int.tdiv a1 x5_10)))) (fun _ hk=>trivial)⟩,⟨by (with_reducible repeat (first|refine BG ?_ _|refine Ca ?_|refine BH ?_ _));refine LH ?_ NB593_601.out _;(with_reducible repeat (first|refine BG ?_ _|refine Ca ?_|refine BH ?_ _));refine LH ?_ NB593_601.out _;(with_reducible repeat (first|refine BG ?_ _|refine Ca ?_|refine BH ?_ _));exact BK41.out⟩,⟨by (with_reducible repeat (first|refine BG ?_ _|refine Ca ?_|refine BH ?_ _));refine Ik (cs:=#[.slice Ao16 y46.length co16,.int .i64 0]) ?_ 1 _ rfl;(with_reducible repeat (first|refine BG ?_ _|refine Ca ?_|refine BH ?_ _));refine Ik (cs:=#[.slice none 0 0,.int .i64 0]) ?_ 0 _ rfl;(with_reducible repeat (first|refine BG ?_ _|refine Ca ?_|refine BH ?_ _));exact BK49.out⟩,⟨by repeat (first|(with_reducible first|exact HB.out|apply Ah|apply Ag|apply Al|refine AE ?_ GE41.out|refine AE ?_ GE49.out)|exact HB.out)⟩⟩
       case round =>
        clear H'
        obtain ⟨x9_3,x62_3,u602000,rfl,HA,HK3,HO_62,BK41,BK49,HB⟩:=hrel;cases gk with
        | zero=>exact absurd HA.out (by simp [AO.l2])
        | succ k3 =>
         have H:=HA.out;clear HA;simp only [AO.l2] at H
         rcases Zq.jd H with ⟨c20b0,H⟩|⟨c20b0,H⟩
         ·obtain ⟨y50,hyy⟩ : ∃y_:List Int,y_=(([]:List Int)):=⟨_,rfl⟩
          replace H:(AO.l3 k3 l0 x5_10 x9_3 y50 0 x62_3 (wrap64 (Int.tdiv a1 x5_10)))=some (r1,r2):=Zs.auY
          have Ny50:=Aa.mk hyy;clear hyy;have H':=Aa.mk H;clear H
          go_wp2_with (((with_reducible refine Bb (N:=52) rfl ?_);refine Zq.li ([]:List Int) ?_;intro v51 w21 ho22 hb;(first|rw [← Ny50.out] at ho22|(simp only [Int.reduceToNat] at ho22;rw [← Ny50.out] at ho22));replace HO_62:=Aa.mk (Kd.S_elder' (by (with_reducible repeat (first|apply Kd.Fy|apply Kd.FD|apply Kd.GF));exact HO_62.out) (Kd.Mv ho22) hb);have HO52:=Aa.mk (Kd.Bp ho22 (Ay (by repeat (first|(with_reducible first|exact HB.out|apply Ah|apply Ag|apply Al|refine AE ?_ GE41.out|refine AE ?_ GE49.out)|exact HB.out))));replace BK41:=Aa.mk (FY (g:=gb41) (o := .cells #[.slice none 0 0,.int .i64 0] 105 (0,0)) (by (with_reducible repeat (first|refine BG ?_ _|refine Ca ?_|refine BH ?_ _));exact BK41.out) hb);replace BK49:=Aa.mk (FY (g:=gb49) (o := .cells #[u602000,.int .i64 (wrap64 (Int.tdiv a1 x5_10))] 105 (0,0)) (by (with_reducible repeat (first|refine BG ?_ _|refine Ca ?_|refine BH ?_ _));exact BK49.out) hb);replace HB:=Aa.mk (Bj (by repeat (first|(with_reducible first|exact HB.out|apply Ah|apply Ag|apply Al|refine AE ?_ GE41.out|refine AE ?_ GE49.out)|exact HB.out)) hb);clear hb ho22))
          go_loopg [10,11] k3 (fun kq v10 v11 w' => ∃(x10_4:List Int) (x11_4:Int),v11 = .int .i64 x11_4∧Aa (AO.l3 kq l0 x5_10 x9_3 x10_4 x11_4 x62_3 (wrap64 (Int.tdiv a1 x5_10))=some (r1,r2))∧Aa (kq≤k3)∧Aa (Kd.R (Kd.int .i64) 3 w' w.heap.size (fun _=>True) v10 x10_4)∧Aa (Kd.S (Kd.slice 3 (Kd.int .i64)) 27 w' w.heap.size (fun k_=>some k_≠(v10:Value).ownBlock) u602000 x62_3)∧Aa (w'.heap[gb41]? = some (.cells #[(.slice none 0 0),.int .i64 0] 105 (0,0)))∧Aa (w'.heap[gb49]? = some (.cells #[u602000,.int .i64 (wrap64 (Int.tdiv a1 x5_10))] 105 (0,0)))∧Aa (Below w.heap.size w w'))
          case atStart=>exact ⟨(y50),(0),Zs.auS,H',⟨Nat.le_refl _⟩,⟨(Zs.mvR HO52.out)⟩,⟨by (with_reducible repeat (first|apply Kd.Fy|apply Kd.FD|apply Kd.GF));exact Kd.Hk HO_62.out Zq.tk⟩,⟨by (with_reducible repeat (first|refine BG ?_ _|refine Ca ?_|refine BH ?_ _));exact BK41.out⟩,⟨by (with_reducible repeat (first|refine BG ?_ _|refine Ca ?_|refine BH ?_ _));exact BK49.out⟩,⟨by repeat (first|(with_reducible first|exact HB.out|apply Ah|apply Ag|apply Al|refine AE ?_ GE41.out|refine AE ?_ GE49.out)|exact HB.out)⟩⟩
          case round =>
           clear H'
           obtain ⟨x10_4,x11_4,rfl,HA,HK4,HO_10,HO_62,BK41,BK49,HB⟩:=hrel;cases gk with
           | zero=>exact absurd HA.out (by simp [AO.l3])
           | succ k4 =>
            have H:=HA.out;clear HA;simp only [AO.l3] at H
            obtain ⟨c23b0,H⟩:=Zq.pd H
            obtain ⟨c24b0,H⟩:=Zq.pd H
            rcases Zq.jd H with ⟨c25b0,H⟩|⟨c25b0,H⟩
            ·obtain ⟨c26b0,H⟩:=Zq.pd H
             rcases Zq.ii H with ⟨c27,H⟩|⟨c27,H⟩
             ·exact absurd H (by simp)
             ·obtain ⟨c28,H⟩:=Zq.ip H;have LMc28:=Aa.mk c28;clear c28;generalize hyy:(x10_4++[wrap64 (Int.tdiv (rd (G4 l0 x9_3) x11_4) x5_10)]:List Int)=y56 at H;have Ny56:=Aa.mk hyy.symm;clear hyy;have H':=Aa.mk H;clear H;have p53:0≤(x9_3:Int):=Zs.od;have q53:x9_3<(l0.length:Int):=Zs.od;obtain ⟨ad53,A53_0,c53_0,e53,hx53_0,hl53_0,hi53_0⟩:=Nt HR0.out x9_3 p53 q53;cases e53;replace hx53_0:=Zq.ce HB.out hx53_0;have HR53_0:=Aa.mk hi53_0;have HC53_0:=Aa.mk hl53_0;clear hi53_0 hl53_0;replace p53:=eq_true p53;replace q53:=eq_true q53;have p54:0≤(x9_3:Int):=Zs.od;have q54:x9_3<(l0.length:Int):=Zs.od;obtain ⟨ad54,A54_0,c54_0,e54,hx54_0,hl54_0,hi54_0⟩:=Nt HR0.out x9_3 p54 q54;obtain rfl:ad53=ad54:=(by injection e54);replace hx54_0:=Zq.ce HB.out hx54_0;have HR54_0:=Aa.mk hi54_0;have HC54_0:=Aa.mk hl54_0;clear hi54_0 hl54_0;replace p54:=eq_true p54;replace q54:=eq_true q54;have ea_:=Option.some.inj (hx53_0.symm.trans hx54_0);injection ea_ with ea_ en_ ec_
              subst ea_;subst ec_;clear en_;obtain ⟨ad55,e55,hx55_0,p55,q55⟩:=Zq.at_ HR54_0.out x11_4;cases e55;replace hx55_0:=Zq.ce HB.out hx55_0
              go_wp2_with (((with_reducible refine AY (b := .append) (xs:=#[.tmp 62,.tmp 72]) rfl ?_);at_builtin;refine Kd.Ea (Kd.int .i64) (w0:=w) w.heap.size rfl (.tmp 62) (.tmp 72) 27 3 (.int .i64 0) 8 rfl Tryz.underlying27 DS rfl (by decide) (by omega) u10 x10_4 (wrap64 (Int.tdiv (rd (G4 l0 x9_3) x11_4) x5_10)) [.int .i64 (wrap64 (Int.tdiv (rd (G4 l0 x9_3) x11_4) x5_10))] (fun _=>True) (fun _=>False) rfl rfl ?aP (fun _ hk=>hk.elim) ?aF ?aO ?aB ?aS ?aL ?_;(case aP=>exact rfl);(case aB=>exact (by repeat (first|(with_reducible first|exact HB.out|apply Ah|apply Ag|apply Al|refine AE ?_ GE41.out|refine AE ?_ GE49.out)|exact HB.out)));(case aF=>exact (fun _ _=>trivial));(case aO=>exact ((Zs.mvR HO_10.out)));(case aS=>exact (Ay (by repeat (first|(with_reducible first|exact HB.out|apply Ah|apply Ag|apply Al|refine AE ?_ GE41.out|refine AE ?_ GE49.out)|exact HB.out))));(case aL=>have:=LMc28.out;omega);intro v57 w29 ho hb hg hat;rw [← Ny56.out] at ho;replace HO_62:=Aa.mk (Kd.S_after (ok:=(fun _=>True)) (by (with_reducible repeat (first|apply Kd.Fy|apply Kd.FD|apply Kd.GF));exact Kd.Hk HO_62.out (fun _ hk=>⟨trivial,hk⟩)) hg hat);replace BK41:=Aa.mk (FU (g:=gb41) (o := .cells #[.slice none 0 0,.int .i64 0] 105 (0,0)) (by (with_reducible repeat (first|refine BG ?_ _|refine Ca ?_|refine BH ?_ _));exact BK41.out) hg (Kd.R_ne HO_10.out BK41.out (by decide)));replace BK49:=Aa.mk (FU (g:=gb49) (o := .cells #[u602000,.int .i64 (wrap64 (Int.tdiv a1 x5_10))] 105 (0,0)) (by (with_reducible repeat (first|refine BG ?_ _|refine Ca ?_|refine BH ?_ _));exact BK49.out) hg (Kd.R_ne HO_10.out BK49.out (by decide)));replace HB:=Aa.mk (hb);have HO58:=Aa.mk (ho);clear HO_10;clear ho hb hg hat))
              go_roundg k4
              case measure=>have:=HK1.out;have:=HJ10.out;have:=HK3.out;have:=HK4.out;omega
              case rel=>exact ⟨(y56),(wrap64 (x11_4+1)),Zs.auS,H',⟨by have:=HK1.out;have:=HJ10.out;have:=HK3.out;have:=HK4.out;omega⟩,⟨(Zs.mvR HO58.out)⟩,⟨by (with_reducible repeat (first|apply Kd.Fy|apply Kd.FD|apply Kd.GF));exact Kd.Hk HO_62.out Zq.tk⟩,⟨by (with_reducible repeat (first|refine BG ?_ _|refine Ca ?_|refine BH ?_ _));exact BK41.out⟩,⟨by (with_reducible repeat (first|refine BG ?_ _|refine Ca ?_|refine BH ?_ _));exact BK49.out⟩,⟨by repeat (first|(with_reducible first|exact HB.out|apply Ah|apply Ag|apply Al|refine AE ?_ GE41.out|refine AE ?_ GE49.out)|exact HB.out)⟩⟩
            ·obtain ⟨c30,H⟩:=Zq.ip H;have LMc30:=Aa.mk c30;clear c30;(try rw [Option.bind_some] at H);generalize hyy:(x62_3++[x10_4]:List (List Int))=y59 at H;have Ny59:=Aa.mk hyy.symm;clear hyy;have H':=Aa.mk H;clear H;have p53:0≤(x9_3:Int):=Zs.od;have q53:x9_3<(l0.length:Int):=Zs.od;obtain ⟨ad53,A53_0,c53_0,e53,hx53_0,hl53_0,hi53_0⟩:=Nt HR0.out x9_3 p53 q53;cases e53;replace hx53_0:=Zq.ce HB.out hx53_0;have HR53_0:=Aa.mk hi53_0;have HC53_0:=Aa.mk hl53_0;clear hi53_0 hl53_0;replace p53:=eq_true p53;replace q53:=eq_true q53;have hnb31:=NB601_593.out;have hnc31:=NB593_601.out;have hcz32_0:wr.cell? ⟨gb49,0,none⟩=some (u602000):=(CW BK49.out 0).trans rfl;have hcz32_1:wr.cell? ⟨gb49,1,none⟩=some (.int .i64 (wrap64 (Int.tdiv a1 x5_10))):=(CW BK49.out 1).trans rfl;have hfz32_0:=C3 BK49.out 0;have hfz32_1:=C3 BK49.out 1;obtain ⟨Ao34,co34,eo34⟩:=Kd.Az HO_10.out;subst eo34
             go_wp2_with (((with_reducible refine AY (b := .append) (xs:=#[.tmp 75,.tmp 77]) rfl ?_);at_builtin;refine Kd.S_append (Kd.slice 3 (Kd.int .i64)) (w0:=w) w.heap.size rfl (.tmp 75) (.tmp 77) 103 27 (.slice none 0 0) 24 rfl Tryz.underlying103 info27 rfl (by decide) (by omega) u602000 x62_3 x10_4 [.slice Ao34 x10_4.length co34] (fun _=>True) (fun k_=>some k_=(.slice Ao34 x10_4.length co34:Value).ownBlock) rfl rfl ?aP (fun k_ hk_=>((Kd.AB (ok':=fun k_=>((fun _=>True)) k_∧some k_≠(u602000:Value).ownBlock) (Kd.Gx (HO_10.out) (Kd.Pj HO_62.out) (by decide)) (fun k_ hk=>⟨trivial,hk.2⟩))).1 k_ hk_.symm) ?aF ?aO ?aB ?aS ?aL ?_;(case aP=>exact Kd.M_row (Kd.AB (Kd.Jt rfl (Kd.AB (ok':=fun k_=>((fun _=>True)) k_∧some k_≠(u602000:Value).ownBlock) (Kd.Gx (HO_10.out) (Kd.Pj HO_62.out) (by decide)) (fun k_ hk=>⟨trivial,hk.2⟩))) (fun _ h_=>h_)));(case aB=>exact (by repeat (first|(with_reducible first|exact HB.out|apply Ah|apply Ag|apply Al|refine AE ?_ GE41.out|refine AE ?_ GE49.out)|exact HB.out)));(case aF=>exact (fun _ _=>trivial));(case aO=>exact (by (with_reducible repeat (first|apply Kd.Fy|apply Kd.FD|apply Kd.GF));exact Kd.Hk HO_62.out (fun k_ hk=>⟨trivial,fun e_=>hk e_⟩)));(case aS=>exact (Ay (by repeat (first|(with_reducible first|exact HB.out|apply Ah|apply Ag|apply Al|refine AE ?_ GE41.out|refine AE ?_ GE49.out)|exact HB.out))));(case aL=>have:=LMc30.out;omega);intro v60 w33 ho hb hg hat;rw [← Ny59.out] at ho;replace BK41:=Aa.mk (FU (g:=gb41) (o := .cells #[.slice none 0 0,.int .i64 0] 105 (0,0)) (by (with_reducible repeat (first|refine BG ?_ _|refine Ca ?_|refine BH ?_ _));exact BK41.out) hg (Kd.S_ne HO_62.out BK41.out (by decide)));replace BK49:=Aa.mk (FU (g:=gb49) (o := .cells #[u602000,.int .i64 (wrap64 (Int.tdiv a1 x5_10))] 105 (0,0)) (by (with_reducible repeat (first|refine BG ?_ _|refine Ca ?_|refine BH ?_ _));exact BK49.out) hg (Kd.S_ne HO_62.out BK49.out (by decide)));replace HB:=Aa.mk (hb);have HO61:=Aa.mk (ho);clear HO_62 HO_10;clear ho hb hg hat;obtain ⟨Ao35,co35,eo35⟩:=Kd.L3 HO61.out;subst eo35;have hcz36_0:w33.cell? ⟨gb49,0,none⟩=some (u602000):=(CW BK49.out 0).trans rfl;have hcz36_1:w33.cell? ⟨gb49,1,none⟩=some (.int .i64 (wrap64 (Int.tdiv a1 x5_10))):=(CW BK49.out 1).trans rfl;have hfz36_0:=C3 BK49.out 0;have hfz36_1:=C3 BK49.out 1))
             go_roundg k4
             case measure=>have:=HK1.out;have:=HJ10.out;have:=HK3.out;have:=HK4.out;omega
             case rel=>exact ⟨(wrap64 (x9_3+1)),(y59),(.slice Ao35 y59.length co35),Zs.auS,H',⟨by have:=HK1.out;have:=HJ10.out;have:=HK3.out;have:=HK4.out;omega⟩,⟨by (with_reducible repeat (first|apply Kd.Fy|apply Kd.FD|apply Kd.GF));exact Kd.Hk (Kd.Pp (p:=⟨gb49,0,none⟩) (Kd.L7 HO61.out BK49.out (by decide)) Zq.tk (.slice Ao35 y59.length co35)) (fun _ hk=>trivial)⟩,⟨by (with_reducible repeat (first|refine BG ?_ _|refine Ca ?_|refine BH ?_ _));refine LH ?_ NB593_601.out _;(with_reducible repeat (first|refine BG ?_ _|refine Ca ?_|refine BH ?_ _));exact BK41.out⟩,⟨by (with_reducible repeat (first|refine BG ?_ _|refine Ca ?_|refine BH ?_ _));refine Ik (cs:=#[u602000,.int .i64 (wrap64 (Int.tdiv a1 x5_10))]) ?_ 0 _ rfl;(with_reducible repeat (first|refine BG ?_ _|refine Ca ?_|refine BH ?_ _));exact BK49.out⟩,⟨by repeat (first|(with_reducible first|exact HB.out|apply Ah|apply Ag|apply Al|refine AE ?_ GE41.out|refine AE ?_ GE49.out)|exact HB.out)⟩⟩
         ·obtain ⟨rfl,rfl⟩:=Zq.pi H;have hnb37:=NB601_593.out;have hnc37:=NB593_601.out;have hcz38_0:wr.cell? ⟨gb49,0,none⟩=some (u602000):=(CW BK49.out 0).trans rfl;have hcz38_1:wr.cell? ⟨gb49,1,none⟩=some (.int .i64 (wrap64 (Int.tdiv a1 x5_10))):=(CW BK49.out 1).trans rfl;have hfz38_0:=C3 BK49.out 0;have hfz38_1:=C3 BK49.out 1;obtain ⟨Ao39,co39,eo39⟩:=Kd.L3 HO_62.out;subst eo39;have hcz40_0:wr.cell? ⟨gb41,0,none⟩=some (.slice none 0 0):=(CW BK41.out 0).trans rfl;have hcz40_1:wr.cell? ⟨gb41,1,none⟩=some (.int .i64 0):=(CW BK41.out 1).trans rfl;have hfz40_0:=C3 BK41.out 0;have hfz40_1:=C3 BK41.out 1;go_wp2;refine bodyPost_ret (results_cell_row rfl _ _ gb41 105 #[.slice Ao39 x62_3.length co39,.int .i64 (wrap64 (Int.tdiv a1 x5_10))] (0,0) _ rfl (by (with_reducible repeat (first|refine BG ?_ _|refine Ca ?_|refine BH ?_ _));refine Ik (cs:=#[.slice Ao39 x62_3.length co39,.int .i64 0]) ?_ 1 _ rfl;(with_reducible repeat (first|refine BG ?_ _|refine Ca ?_|refine BH ?_ _));refine Ik (cs:=#[.slice none 0 0,.int .i64 0]) ?_ 0 _ rfl;(with_reducible repeat (first|refine BG ?_ _|refine Ca ?_|refine BH ?_ _));exact BK41.out) Tryz.underlying105 rfl (by kernel_rfl)) rfl ?_;exact ⟨_,Zs.auR,by (with_reducible repeat (first|apply Kd.Fy|apply Kd.FD|apply Kd.GF));exact Kd.Hk (Kd.Pp (p:=⟨gb41,1,none⟩) (Kd.Pp (p:=⟨gb41,0,none⟩) (Kd.L7 HO_62.out BK41.out (by decide)) Zq.tk (.slice Ao39 x62_3.length co39)) Zq.tk (.int .i64 (wrap64 (Int.tdiv a1 x5_10)))) (fun _ hk=>trivial),by repeat (first|(with_reducible first|exact HB.out|apply Ah|apply Ag|apply Al|refine AE ?_ GE41.out|refine AE ?_ GE49.out)|exact HB.out)⟩
section
open Locg
def Dk.f (k:Nat) (l0:List Int) (a1:Int):Option (List Int×Int):=(AO.f k [l0] a1).bind fun t=>if 0<t.1.length then some (t.1.getD 0 [],t.2) else none
set_option maxHeartbeats 4000000 in
theorem Dk.calls (k:Nat) (A0:Option Addr) (c0:Nat) (l0:List Int) (a1:Int) (r1:List Int) (r2:Int) (w:World) (hr0:Kd.C (Kd.int .i64) w A0 l0.length l0) (hc0:l0.length≤c0) (h:Dk.f k l0 a1=some (r1,r2)) :
  Calls Tryz.prog 92 #[.slice A0 l0.length c0,.int .i64 a1] w fun e w' => ∃v0_:Value,e = .returned (.tuple #[v0_,.int .i64 r2])∧Kd.R (Kd.int .i64) 3 w' w.heap.size (fun _=>True) v0_ r1∧Below w.heap.size w w':=by
 obtain ⟨⟨t1,t2⟩,h1,h2⟩:=Option.bind_eq_some_iff.mp h
 by_cases hp:0<t1.length
 ·rw [if_pos hp] at h2;simp only [Option.some.injEq,Prod.mk.injEq] at h2;obtain ⟨rfl,rfl⟩:=h2;have HH:=Aa.mk h1;have HR0:=Aa.mk hr0;clear h h1
  go_enter Tryz.func92,Tryz.ntmps92
  go_wp2_with fail
  refine (AO.calls k (some ⟨w.heap.size,0,none⟩) 1 [l0] a1 t1 t2 _ ?s1 (by simp) HH.out).mono ?_
  case s1 =>
   refine ⟨rfl,by simp,fun _=>⟨_,rfl,fun j p hj=>⟨[.slice A0 l0.length c0],rfl,?_,fun i u hu=>?_⟩⟩⟩
   ·match j,hj with
    | 0,hj=>simp at hj;subst hj;exact ⟨A0,c0,rfl,hc0,Kd.Gl hr0 _⟩
   ·match j,hj,i,hu with
    | 0,hj,0,hu=>simp at hu;subst hu;exact CW (heap_alloc_new w _) 0
  rintro e w1 ⟨v,rfl,hS,hb⟩
  dsimp only
  have hR:=Kd.S_R hS;obtain ⟨Ao,co,rfl⟩:=Kd.Az hR;have hlen:=(Kd.Ac hR).1;obtain ⟨g,cap,hsl,hg1,hg2,cells,hcells⟩:=Kd.E7 hR hp;cases hsl;obtain ⟨c,hcl,hM,hcc⟩:=Kd.R_getA hR [] 0 (by omega) (by omega);obtain ⟨v2,rfl,hR2⟩:=hM;have hc0':w1.cell? ⟨g,0,none⟩=some v2:=hcc 0 v2 rfl;have HR2:=Aa.mk hR2;have HB1:=Aa.mk (Jo (Ah (Below.refl _ _) _) (by simp) hb:Below w.heap.size w w1);clear hS hR hcc hR2 hb
  go_wp2_with fail
  have z0:=CW (heap_alloc_new w1 (.cells #[.slice (some ⟨g,0,none⟩) t1.length co,.int .i64 t2] 105 (0,0))) 0;have z1:=CW (heap_alloc_new w1 (.cells #[.slice (some ⟨g,0,none⟩) t1.length co,.int .i64 t2] 105 (0,0))) 1;have zg:(w1.alloc (.cells #[.slice (some ⟨g,0,none⟩) t1.length co,.int .i64 t2] 105 (0,0))).cell? ⟨g,0,none⟩=some v2:=((Ah (Below.refl w1.heap.size w1) _).cell hg2).trans hc0'
  go_quiet (fail)
  go_wp2;go_ret2
  refine ⟨v2,rfl,?_,?_⟩
  ·have h1:=Kd.FR (Kd.Gs HR2.out (.cells #[.slice (some ⟨g,0,none⟩) t1.length co,.int .i64 t2] 105 (0,0))) nq;exact Kd.AB (Kd.Bp h1 (by simp)) (fun _ _=>trivial)
  ·exact Ag (Ah HB1.out _) nq
 ·rw [if_neg hp] at h2;cases h2
end
mutual
def Ak.j0:Nat→List Int→Int→Bool→Option (List Int×Int×Bool)
 | 0,_,_,_=>none
 | k+1,x0,x1,x28=>if x28=true then some ((([]:List Int)),0,false) else (Ck.f k x0).bind fun bt3=>(if bt3.2=true then (Cx.f k bt3.1).bind fun t4=>(if 0≤t4 then if t4<(x0.length:Int) then if t4<(bt3.1.length:Int) then Ak.l0 k x0 x1 bt3.1 t4 (wrap64 ((wrap64 (2*(rd x0 t4)))*(rd bt3.1 t4))) (([]:List Int)) 0 else none else none else none) else (some (([]:List Int):List Int)).bind fun y5=>(if y5.length+x0.length<17592186044416 then (some (y5++x0:List Int)).bind fun y6=>(if y6.length<17592186044416 then (Ck.f k (y6++[wrap64 (-x1)])).bind fun bt7=>(if bt7.2=true then if 0≤(x0.length:Int) then if (x0.length:Int)≤(bt7.1.length:Int) then if (x0.length:Int)<(bt7.1.length:Int) then (Dk.f k (bt7.1.take ((x0.length:Int):Int).toNat) (rd bt7.1 (x0.length:Int))).bind fun bt8=>(some (bt8.1,bt8.2,true)) else none else none else none else some ((([]:List Int)),0,false)) else none) else none))
def Ak.l0:Nat→List Int→Int→List Int→Int→Int→List Int→Int→Option (List Int×Int×Bool)
 | 0,_,_,_,_,_,_,_=>none
 | k+1,x0,x1,x7,x9,x10,x11,x12=>if x12<(x7.length:Int) then if 0≤x12 then if 0≤x9 then if x9<(x0.length:Int) then if x12=x9 then if x11.length<17592186044416 then Ak.l0 k x0 x1 x7 x9 x10 (x11++[wrap64 ((wrap64 ((rd x7 x12)*(wrap64 (x1-(rd x0 x9)))))+x10)]) (wrap64 (x12+1)) else none else if x11.length<17592186044416 then Ak.l0 k x0 x1 x7 x9 x10 (x11++[wrap64 ((rd x7 x12)*(wrap64 (x1-(rd x0 x9))))]) (wrap64 (x12+1)) else none else none else none else none else (Dk.f k x11 x10).bind fun bt3=>(some (bt3.1,bt3.2,true))
end
def Ak.f (k:Nat) (l0:List Int) (a1:Int):Option (List Int×Int×Bool):=(DW.f k l0).bind fun t3=>(if t3=true then (Dv.f a1).bind fun t4=>(Ak.j0 k l0 a1 (!t4)) else Ak.j0 k l0 a1 true)
def Ak.T6:Bool×List (List Nat×List Nat):=(true,[([],[]),([],[]),([0,1],[0,1]),([2],[2]),([3],[3]),([],[]),([],[]),([5,6],[5,6]),([7],[7]),([4,8],[4,8]),([9,0,1,2,3,4,5,6,7,8,9],[9])])
def Ak.B6:List Nat:=[0,0,3,7,15,0,0,96,224,511,1023]
theorem Ak.tab6:rtab .any (opsOf Tryz.f41 6)=Ak.T6:=by kernel_rfl
theorem Ak.bits6:DJ Ak.T6.2 Ak.B6=true:=by kernel_rfl
def Ak.T11:Bool×List (List Nat×List Nat):=(true,[([],[]),([],[]),([0,1],[0,1]),([2],[2]),([],[]),([],[]),([],[]),([5,6],[5,6]),([7],[7]),([4,8],[4,8]),([3,9],[3,9]),([10,0,1,2,3,4,5,6,7,8,9,10],[10])])
def Ak.B11:List Nat:=[0,0,3,7,0,0,0,96,224,496,1023,2047]
theorem Ak.tab11:rtab .any (opsOf Tryz.f41 11)=Ak.T11:=by kernel_rfl
theorem Ak.bits11:DJ Ak.T11.2 Ak.B11=true:=by kernel_rfl
def Ak.T21:Bool×List (List Nat×List Nat):=(true,[([],[]),([],[]),([0,1],[0,1]),([],[]),([],[]),([3,4],[3,4]),([5],[5]),([2,6],[2,6]),([7],[7]),([8],[8]),([8],[8]),([9,7,0,1,2,3,4,5,6,7,8,9],[9]),([10,11,0,1,2,3,4,5,6,7,8,9,10,11],[10])])
def Ak.B21:List Nat:=[0,0,3,0,0,24,56,127,255,511,511,1023,4095]
theorem Ak.tab21:rtab .any (opsOf Tryz.f41 21)=Ak.T21:=by kernel_rfl
theorem Ak.bits21:DJ Ak.T21.2 Ak.B21=true:=by kernel_rfl
theorem Ak.calls (k:Nat) (A0:Option Addr) (c0:Nat) (l0:List Int) (a1:Int) (r1:List Int) (r2:Int) (r3:Bool) (w:World) (hr0:Kd.C (Kd.int .i64) w A0 l0.length l0) (hc0:l0.length≤c0) (h:Ak.f k l0 a1=some (r1,r2,r3)) :
  Calls Tryz.prog 41 #[.slice A0 l0.length c0,.int .i64 a1] w fun e w' => ∃v0_:Value,e = .returned (.tuple #[v0_,.int .i64 r2,.bool r3])∧Kd.R (Kd.int .i64) 3 w' w.heap.size (fun _=>True) v0_ r1∧Below w.heap.size w w':=by
 have HR0:=Aa.mk hr0;have HC0:=Aa.mk hc0;clear hr0 hc0;have HB:=Aa.mk (Below.refl w.heap.size w);unfold Ak.f at h;have H:=h;clear h;have HC3:=Aa.mk H;clear H
 go_enter Tryz.func41,Tryz.ntmps41
 go_upto_region 1 with (fail)
 go_cut [28] (fun v28 wc => ∃(kq:Nat) (x28_2:Bool),v28 = .bool x28_2∧Aa (Ak.j0 kq l0 a1 x28_2=some (r1,r2,r3))∧Aa (kq≤k)∧Aa (Below w.heap.size w wc))
 case first =>
  have H:=HC3.out;clear HC3;obtain ⟨t65,A4,H⟩:=Zs.be H
  cases t65
  ·replace H:=Zq.fh H;have H':=Aa.mk H;clear H
   go_wp2_with (((with_reducible refine Ab (f:=89) rfl ?_);refine Zq.gp Tryz.func89 (DW.calls _ _ _ _ _ _ (Zs.mvC ((Kd.BF HR0.out HB.out))) HC0.out A4.out) ?_;intro nd))
   go_meet
   case rel=>exact ⟨_,(true),Zs.auS,H',⟨Zs.auN⟩,⟨Zs.auHB⟩⟩
  ·replace H:=Zq.th H;obtain ⟨t66,A6,H⟩:=Zs.be H;have H':=Aa.mk H;clear H
   go_wp2_with (first|((with_reducible refine Ab (f:=89) rfl ?_);refine Zq.gp Tryz.func89 (DW.calls _ _ _ _ _ _ (Zs.mvC ((Kd.BF HR0.out HB.out))) HC0.out A4.out) ?_;intro nd)|(go_at_call 90;(with_reducible refine (Dv.calls a1 t66 _ A6.out).mono ?_);rintro e w' ⟨rfl,⟨nd,rfl⟩⟩))
   go_meet
   case rel=>exact ⟨_,(!t66),Zs.auS,H',⟨Zs.auN⟩,⟨Zs.auHB⟩⟩
 case rest =>
  clear HC3
  obtain ⟨kq,x28_2,rfl,HA,HJ2,HB⟩:=hcut;cases kq with
  | zero=>exact absurd HA.out (by simp [Ak.j0])
  | succ kj2 =>
   have H:=HA.out;clear HA;simp only [Ak.j0] at H
   cases x28_2
   ·replace H:=Zq.fh H;obtain ⟨t70,t71,A10,H⟩:=Zq.bp H;try dsimp only at H
    cases t71
    ·replace H:=Zq.fh H;obtain ⟨y95,hyy⟩ : ∃y_:List Int,y_=(([]:List Int)):=⟨_,rfl⟩
     replace H:(if y95.length+l0.length<17592186044416 then (some (y95++l0:List Int)).bind fun y98=>(if y98.length<17592186044416 then (Ck.f kj2 (y98++[wrap64 (-a1)])).bind fun bt650=>(if bt650.2=true then if 0≤(l0.length:Int) then if (l0.length:Int)≤(bt650.1.length:Int) then if (l0.length:Int)<(bt650.1.length:Int) then (Dk.f kj2 (bt650.1.take ((l0.length:Int):Int).toNat) (rd bt650.1 (l0.length:Int))).bind fun bt659=>(some (bt659.1,bt659.2,true)) else none else none else none else some ((([]:List Int)),0,false)) else none) else none)=some (r1,r2,r3):=Zs.auY
     have Ny95:=Aa.mk hyy;clear hyy
     obtain ⟨c35,H⟩:=Zq.ip H;have LMc35:=Aa.mk c35;clear c35;obtain ⟨y98,Ny98,H⟩:=Zq.bs H
     obtain ⟨c36,H⟩:=Zq.ip H;have LMc36:=Aa.mk c36;clear c36;generalize hyy:(y98++[wrap64 (-a1)]:List Int)=y647 at H;have Ny647:=Aa.mk hyy.symm;clear hyy;obtain ⟨t650,t651,A37,H⟩:=Zq.bp H;try dsimp only at H
     cases t651
     ·replace H:=Zq.fh H;obtain ⟨y663,hyy⟩ : ∃y_:List Int,y_=(([]:List Int)):=⟨_,rfl⟩
      replace H:(some (y663,0,false))=some (r1,r2,r3):=Zs.auY
      have Ny663:=Aa.mk hyy;clear hyy;simp only [Option.some.injEq,Prod.mk.injEq] at H;obtain ⟨rfl,rfl,rfl⟩:=H
      go_wp2_with (first|((with_reducible refine Ab (f:=38) rfl ?_);refine Zq.gc (some 32) Tryz.func38 (Ck.calls _ _ _ _ _ _ _ (Zs.mvC ((Kd.BF HR0.out HB.out))) HC0.out A10.out) ?_;rintro e w54 ⟨v72,rfl,ho0,hb⟩;refine ⟨_,rfl,?_⟩;have HO73:=Zq.lw ho0;replace HB:=Zq.st hb;(try clear hb);(try clear ho0))|((with_reducible refine Bb (N:=85) rfl ?_);refine Zq.li ([]:List Int) ?_;intro v96 w55 ho56 hb;(first|rw [← Ny95.out] at ho56|(simp only [Int.reduceToNat] at ho56;rw [← Ny95.out] at ho56));have HO97:=Aa.mk (Kd.Bp (Kd.Br ho56 (Zq.lt HO73.out)) (Ay (Zs.auHB)));replace HO73:=Zq.el HO73.out ho56 hb;replace HB:=Zq.st hb;clear hb ho56)|((with_reducible refine AY (b := .append) (xs:=#[.tmp 85,.tmp 86]) rfl ?_);at_builtin;refine Kd.FF (Kd.int .i64) (w0:=w) w.heap.size rfl (.tmp 85) (.tmp 86) 27 3 (.int .i64 0) 8 rfl Tryz.underlying27 DS rfl (by decide) (by omega) v96 y95 l0 _ _ _ (fun k_=>some k_≠(v72:Value).ownBlock) (fun _=>False) rfl rfl ?aO ?aR (fun _ _ h=>h) (fun _ h=>h.elim) ?aF ?aB ?aS ?aL ?_;(case aR=>exact Zs.mvC ((Kd.BF HR0.out HB.out)));(case aB=>exact (Zs.auHB));(case aF=>exact (fun k_ hk=>Kd.DF (Zq.lt HO73.out) k_ hk));(case aO=>exact ((Zs.mvR (Kd.AB HO97.out Zq.tk))));(case aS=>exact (Ay (Zs.auHB)));(case aL=>have:=LMc35.out;omega);intro v99 w57 ho hb hg hat;rw [← Ny98.out] at ho;replace HO73:=Aa.mk (Kd.BW (ok:=(fun _=>True)) ((Zs.mvR HO73.out)) hg hat);replace HB:=Aa.mk (hb);have HO646:=Aa.mk (ho);clear HO97;clear ho hb hg hat)|((with_reducible refine AY (b := .append) (xs:=#[.tmp 87,.tmp 90]) rfl ?_);at_builtin;refine Zq.ap (.tmp 87) (.tmp 90) 27 Tryz.underlying27 DS v99 y98 (wrap64 (-a1)) (fun k_=>some k_≠(v72:Value).ownBlock) (fun k_ hk=>Kd.DF (Zq.lt HO73.out) k_ hk) ((Zs.mvR HO646.out)) LMc36.out ?_;intro v648 w58 ho hb hg hat;rw [← Ny647.out] at ho;replace HO73:=Aa.mk (Kd.BW (ok:=(fun _=>True)) ((Zs.mvR HO73.out)) hg hat);replace HB:=Aa.mk (hb);have HO649:=Aa.mk (ho);clear HO646;clear ho hb hg hat;obtain ⟨Ao59,co59,eo59⟩:=Kd.Az HO649.out;subst eo59)|((with_reducible refine Ab (f:=38) rfl ?_);refine Zq.gc (some 92) Tryz.func38 (Ck.calls _ _ _ _ _ _ _ (Zs.mvC ((Kd.Ac HO649.out).2.2)) ((Kd.Ac HO649.out).2.1) A37.out) ?_;rintro e w60 ⟨v652,rfl,ho0,hb⟩;refine ⟨_,rfl,?_⟩;have HO653:=Aa.mk (Kd.Bp (Kd.Br (Kd.Br ho0 (Zq.lt HO73.out)) (Zq.lt HO649.out)) (Ay (Zs.auHB)));replace HO73:=Zq.el HO73.out ho0 hb;replace HO649:=Zq.el HO649.out ho0 hb;replace HB:=Zq.st hb;(try clear hb);(try clear ho0))|((with_reducible refine Bb (N:=97) rfl ?_);refine Zq.li ([]:List Int) ?_;intro v664 w61 ho62 hb;(first|rw [← Ny663.out] at ho62|(simp only [Int.reduceToNat] at ho62;rw [← Ny663.out] at ho62));have HO665:=Aa.mk (Kd.Bp (Kd.Br (Kd.Br (Kd.Br ho62 (Zq.lt HO73.out)) (Zq.lt HO649.out)) (Zq.lt HO653.out)) (Ay (Zs.auHB)));replace HO73:=Zq.el HO73.out ho62 hb;replace HO649:=Zq.el HO649.out ho62 hb;replace HO653:=Zq.el HO653.out ho62 hb;replace HB:=Zq.st hb;clear hb ho62))
      go_ret3
      exact ⟨_,Zs.auR,(Zs.mvR (Kd.AB HO665.out (fun _ hk=>trivial))),Zs.auHB⟩
     ·replace H:=Zq.th H
      obtain ⟨c39,H⟩:=Zq.ip H;have c39b0:=eq_true c39;have c39b1:=decide_eq_true c39;clear c39
      obtain ⟨c40,H⟩:=Zq.ip H;have c40b1:=decide_eq_true c40;clear c40;generalize hyy:(t650.take ((l0.length:Int):Int).toNat:List Int)=y654 at H;have Ny654:=Aa.mk hyy.symm;clear hyy
      obtain ⟨c41b0,H⟩:=Zq.pd H;obtain ⟨t659,t660,A42,H⟩:=Zq.bp H;try dsimp only at H;simp only [Option.some.injEq,Prod.mk.injEq] at H;obtain ⟨rfl,rfl,rfl⟩:=H
      try go_wp2_with (first|((with_reducible refine Ab (f:=38) rfl ?_);refine Zq.gc (some 32) Tryz.func38 (Ck.calls _ _ _ _ _ _ _ (Zs.mvC ((Kd.BF HR0.out HB.out))) HC0.out A10.out) ?_;rintro e w43 ⟨v72,rfl,ho0,hb⟩;refine ⟨_,rfl,?_⟩;have HO73:=Zq.lw ho0;replace HB:=Zq.st hb;(try clear hb);(try clear ho0))|((with_reducible refine Bb (N:=85) rfl ?_);refine Zq.li ([]:List Int) ?_;intro v96 w44 ho45 hb;(first|rw [← Ny95.out] at ho45|(simp only [Int.reduceToNat] at ho45;rw [← Ny95.out] at ho45));have HO97:=Aa.mk (Kd.Bp (Kd.Br ho45 (Zq.lt HO73.out)) (Ay (Zs.auHB)));replace HO73:=Zq.el HO73.out ho45 hb;replace HB:=Zq.st hb;clear hb ho45)|((with_reducible refine AY (b := .append) (xs:=#[.tmp 85,.tmp 86]) rfl ?_);at_builtin;refine Kd.FF (Kd.int .i64) (w0:=w) w.heap.size rfl (.tmp 85) (.tmp 86) 27 3 (.int .i64 0) 8 rfl Tryz.underlying27 DS rfl (by decide) (by omega) v96 y95 l0 _ _ _ (fun k_=>some k_≠(v72:Value).ownBlock) (fun _=>False) rfl rfl ?aO ?aR (fun _ _ h=>h) (fun _ h=>h.elim) ?aF ?aB ?aS ?aL ?_;(case aR=>exact Zs.mvC ((Kd.BF HR0.out HB.out)));(case aB=>exact (Zs.auHB));(case aF=>exact (fun k_ hk=>Kd.DF (Zq.lt HO73.out) k_ hk));(case aO=>exact ((Zs.mvR (Kd.AB HO97.out Zq.tk))));(case aS=>exact (Ay (Zs.auHB)));(case aL=>have:=LMc35.out;omega);intro v99 w46 ho hb hg hat;rw [← Ny98.out] at ho;replace HO73:=Aa.mk (Kd.BW (ok:=(fun _=>True)) ((Zs.mvR HO73.out)) hg hat);replace HB:=Aa.mk (hb);have HO646:=Aa.mk (ho);clear HO97;clear ho hb hg hat)|((with_reducible refine AY (b := .append) (xs:=#[.tmp 87,.tmp 90]) rfl ?_);at_builtin;refine Zq.ap (.tmp 87) (.tmp 90) 27 Tryz.underlying27 DS v99 y98 (wrap64 (-a1)) (fun k_=>some k_≠(v72:Value).ownBlock) (fun k_ hk=>Kd.DF (Zq.lt HO73.out) k_ hk) ((Zs.mvR HO646.out)) LMc36.out ?_;intro v648 w47 ho hb hg hat;rw [← Ny647.out] at ho;replace HO73:=Aa.mk (Kd.BW (ok:=(fun _=>True)) ((Zs.mvR HO73.out)) hg hat);replace HB:=Aa.mk (hb);have HO649:=Aa.mk (ho);clear HO646;clear ho hb hg hat;obtain ⟨Ao48,co48,eo48⟩:=Kd.Az HO649.out;subst eo48)|((with_reducible refine Ab (f:=38) rfl ?_);refine Zq.gc (some 92) Tryz.func38 (Ck.calls _ _ _ _ _ _ _ (Zs.mvC ((Kd.Ac HO649.out).2.2)) ((Kd.Ac HO649.out).2.1) A37.out) ?_;rintro e w49 ⟨v652,rfl,ho0,hb⟩;refine ⟨_,rfl,?_⟩;have HO653:=Aa.mk (Kd.Bp (Kd.Br (Kd.Br ho0 (Zq.lt HO73.out)) (Zq.lt HO649.out)) (Ay (Zs.auHB)));replace HO73:=Zq.el HO73.out ho0 hb;replace HO649:=Zq.el HO649.out ho0 hb;replace HB:=Zq.st hb;(try clear hb);(try clear ho0)))
      have n0_:=Aa.mk (Kd.DE HO73.out);have n1_:=Aa.mk (Kd.DE HO649.out);have n2_:=Aa.mk (Kd.DE HO653.out);have n3_:=Aa.mk (Al HB.out);clear HO73;clear HO649;clear HO653;clear HB;have HO73:=n0_;have HO649:=n1_;have HO653:=n2_;have HB:=n3_;clear n0_ n1_ n2_ n3_;obtain ⟨Ao52,co52,eo52⟩:=Kd.Az HO653.out
      (first|subst eo52|(injection eo52 with f1_ f2_ f3_;have f4_:=f1_.symm;have f5_:=f3_.symm;clear f1_ f2_ f3_;subst f4_;subst f5_))
      have q51:((l0.length:Int):Int)≤((t650.length:Int):Int):=Zs.od;obtain ⟨i051,hi63,_,hsz51,_⟩:=info_parts DS;have hroom51:t650.length≤co52:=(Kd.Ac HO653.out).2.1;have hC51:Kd.C (Kd.int .i64) _ Ao52 t650.length t650:=(Kd.Ac HO653.out).2.2;have hcut51:=Mi (P:=Tryz.prog) 27 3 .i64 Tryz.underlying27 hi63 Ao52 t650.length co52 (l0.length:Int) (Zs.od) q51 hroom51;have hr51:=Kd.NO (m:=((l0.length:Int):Int).toNat) hC51 (by omega);have hy51:y654.length=((l0.length:Int):Int).toNat:=(by rw [Ny654.out,List.length_take];omega);rw [← Ny654.out] at hr51;rw [← hy51] at hcut51;have HR657:=Aa.mk hr51;have HC657:=Aa.mk (show y654.length≤co52 from by omega);clear hr51 hC51 hroom51 hi63 hsz51;have KY51:=Aa.mk hy51;clear hy51;have KL51:=Aa.mk (show ((l0.length:Int):Int).toNat≤t650.length from by omega);replace q51:=eq_true q51;obtain ⟨ad658,e658,hx658_0,p658,q658⟩:=Zq.at_ (Kd.Ac HO653.out).2.2 (l0.length:Int);cases e658;(try simp only [Go.IntWalk.toNatUp] at hx658_0);refine D6 (n:=13) (S:=fun w'=>w'.cell? (ad658.add l0.length)=some (.int .i64 (rd t650 (l0.length:Int)))) (ds:=[]) #[false,false,false,false,false,false,false,false,false,false,false,false,false] (by kernel_rfl) rfl rfl (hx658_0) (fun hHeld=>?_);refine CP Ak.tab21 Ak.bits21 (fun HT_ HW_=>?_);generalize w49.drew=w50 at HO73 HO649 HO653 HB HR657 hx658_0 hHeld ⊢;refine Zs.pu 0 (some 101) ?_;refine Zs.pu 1 (some 102) ?_;refine Zs.pu 2 (some 103) ?_;refine Zs.pu 3 (some 104) ?_;refine Zs.pu 4 (some 105) ?_;refine Zs.pu 5 (some 106) ?_;refine Zs.ta1 6 (some 107) ?_
      refine Zq.o1 7 (some 108) (fun K hK=>?_);refine FN Tryz.func92 (by kernel_rfl) rfl #[.slice (some ad658) y654.length co52,.int .i64 (rd t650 (l0.length:Int))] (by rfl) rfl rfl Zs.auM ?_
      with_reducible refine (Dk.calls kj2 _ _ y654 (rd t650 (l0.length:Int)) t659 t660 _ ?side1 ?side2 A42.out).mono ?_
      (case side1=>repeat (first|exact (by repeat (first|(with_reducible exact HR657.out)|(with_reducible refine Kd.Gl ?_ _)|(with_reducible refine Kd.G1 ?_ _)|(with_reducible refine Kd.H5 ?_)|exact HR657.out))|(with_reducible refine Kd.Gl ?_ _)|(with_reducible refine Kd.G1 ?_ _)|(with_reducible refine Kd.H5 ?_)))
      (case side2=>exact HC657.out)
      rintro e w53 ⟨v661,rfl,ho0,hb⟩;have HS0_:=(hb.cell (World.block_lt_of_cell? _ _ (hHeld))).trans (hHeld);refine ⟨_,rfl,?_⟩;have n0_:=Zq.el HO73.out ho0 hb;have n1_:=Zq.el HO649.out ho0 hb;have n2_:=Zq.el HO653.out ho0 hb;have n3_:=Aa.mk (Kd.Bp (Kd.Br (Kd.Br (Kd.Br ho0 (Zq.lt HO73.out)) (Zq.lt HO649.out)) (Zq.lt HO653.out)) (Ay (Zs.auHB)));have n4_:=Aa.mk (Kd.BF (by repeat (first|(with_reducible exact HR657.out)|(with_reducible refine Kd.Gl ?_ _)|(with_reducible refine Kd.G1 ?_ _)|(with_reducible refine Kd.H5 ?_)|exact HR657.out)) hb);have n5_:=Zq.st hb;clear HO73;clear HO649;clear HO653;clear HR657;clear HB;have HO73:=n0_;have HO649:=n1_;have HO653:=n2_;have HO662:=n3_;have HR657:=n4_;have HB:=n5_;clear n0_ n1_ n2_ n3_ n4_ n5_;(try clear hb);(try clear hb2);(try clear hk);(try clear hi);(try clear ho0);refine hK.out _ _ (HS0_) (fun hHeld=>?_);clear hK K;refine Zq.nm (some 108) ?_
      refine Zs.pu 8 (some 100) ?_;refine Zs.pu 9 (some 109) ?_;refine Zs.pu 10 (some 110) ?_;refine Zs.pu 11 (some 19) ?_;refine Zs.pu 12 (some 20) ?_
      refine Zq.dn ?_
      try go_wp2
      go_ret3
      exact ⟨_,Zs.auR,(Zs.mvR (Kd.AB HO662.out (fun _ hk=>trivial))),Zs.auHB⟩
    ·replace H:=Zq.th H;obtain ⟨t74,A12,H⟩:=Zs.be H
     obtain ⟨c13b0,H⟩:=Zq.pd H
     obtain ⟨c14b0,H⟩:=Zq.pd H
     obtain ⟨c15b0,H⟩:=Zq.pd H;obtain ⟨y77,hyy⟩ : ∃y_:List Int,y_=(([]:List Int)):=⟨_,rfl⟩
     replace H:(Ak.l0 kj2 l0 a1 t70 t74 (wrap64 ((wrap64 (2*(rd l0 t74)))*(rd t70 t74))) y77 0)=some (r1,r2,r3):=Zs.auY
     have Ny77:=Aa.mk hyy;clear hyy;have H':=Aa.mk H;clear H
     try go_wp2_with (first|((with_reducible refine Ab (f:=38) rfl ?_);refine Zq.gc (some 32) Tryz.func38 (Ck.calls _ _ _ _ _ _ _ (Zs.mvC ((Kd.BF HR0.out HB.out))) HC0.out A10.out) ?_;rintro e w16 ⟨v72,rfl,ho0,hb⟩;refine ⟨_,rfl,?_⟩;have HO73:=Zq.lw ho0;replace HB:=Zq.st hb;(try clear hb);(try clear ho0);obtain ⟨Ao17,co17,eo17⟩:=Kd.Az HO73.out;subst eo17)|((with_reducible refine Ab (f:=91) rfl ?_);refine Zq.gp Tryz.func91 (Cx.calls _ _ _ _ _ _ (Zs.mvC ((Kd.Ac HO73.out).2.2)) ((Kd.Ac HO73.out).2.1) A12.out) ?_;intro nd))
     (try (rw [G9 w16];generalize hq_:World.drewN w16 _=w16;replace HO73:Aa (Kd.R (Kd.int .i64) 3 w16 w.heap.size (fun _=>True) (.slice Ao17 t70.length co17) t70):=⟨by rw [← hq_];exact ((Zs.mvR HO73.out))⟩;replace HB:Aa (Below w.heap.size w w16):=⟨by rw [← hq_];exact (Zs.auHB)⟩;clear hq_));have n0_:=Aa.mk (Kd.DE HO73.out);have n1_:=Aa.mk (Al HB.out);clear HO73;clear HB;have HO73:=n0_;have HB:=n1_;clear n0_ n1_;obtain ⟨ad75,e75,hx75_0,p75,q75⟩:=Zq.at_ HR0.out t74;have hw75_0:=hx75_0;cases e75;replace hx75_0:=Zq.ce HB.out hx75_0;obtain ⟨ad76,e76,hx76_0,p76,q76⟩:=Zq.at_ (Kd.Ac HO73.out).2.2 t74;cases e76;refine D6 (n:=11) (S:=fun w'=>w'.cell? (ad75.add (t74).toNat)=some (.int .i64 (rd l0 t74))∧w'.cell? (ad76.add (t74).toNat)=some (.int .i64 (rd t70 t74))) (ds:=[]) #[false,false,false,false,false,false,false,false,false,false,false] (by kernel_rfl) rfl rfl ⟨(Zq.ce HB.out hw75_0),hx76_0⟩ (fun hHeld=>?_);refine CP Ak.tab6 Ak.bits6 (fun HT_ HW_=>?_);generalize w16.drew=w18 at HO73 HB hx75_0 hx76_0 hHeld ⊢;refine Zs.pu 0 (some 38) ?_;refine Zs.pu 1 (some 39) ?_;refine Zs.pu 2 (some 40) ?_;refine Zs.pu 5 (some 43) ?_;refine Zs.pu 6 (some 44) ?_;refine Zs.pu 7 (some 45) ?_;refine Zs.ta2 3 (some 41) ?_;refine Zs.pu 4 (some 42) ?_;refine Zs.ta2 8 (some 46) ?_;refine Zs.pu 9 (some 47) ?_;refine Zs.pu 10 (some 10) ?_
     refine Zq.dn ?_
     try go_wp2_with (((with_reducible refine Bb (N:=48) rfl ?_);refine Zq.li ([]:List Int) ?_;intro v78 w19 ho20 hb;(first|rw [← Ny77.out] at ho20|(simp only [Int.reduceToNat] at ho20;rw [← Ny77.out] at ho20));have HO79:=Aa.mk (Kd.Bp (Kd.Br ho20 (Zq.lt HO73.out)) (Ay (Zs.auHB)));replace HO73:=Zq.el HO73.out ho20 hb;replace HB:=Zq.st hb;clear hb ho20))
     go_loopg [11,12] kj2 (fun kq v11 v12 w' => ∃(x11_2:List Int) (x12_2:Int),v12 = .int .i64 x12_2∧Aa (Ak.l0 kq l0 a1 t70 t74 (wrap64 ((wrap64 (2*(rd l0 t74)))*(rd t70 t74))) x11_2 x12_2=some (r1,r2,r3))∧Aa (kq≤kj2)∧Aa (Kd.R (Kd.int .i64) 3 w' w.heap.size (fun k_=>some k_≠(v11:Value).ownBlock) (.slice (some ad76) t70.length co17) t70)∧Aa (Kd.R (Kd.int .i64) 3 w' w.heap.size (fun k_=>some k_≠((.slice (some ad76) t70.length co17):Value).ownBlock) v11 x11_2)∧Aa (Below w.heap.size w w'))
     case atStart=>exact ⟨(y77),(0),Zs.auS,H',⟨Nat.le_refl _⟩,⟨(Zs.mvR (Kd.AB HO73.out Zq.tk))⟩,⟨(Zs.mvR (Kd.AB HO79.out Zq.tk))⟩,⟨Zs.auHB⟩⟩
     case round =>
      clear H'
      obtain ⟨x11_2,x12_2,rfl,HA,HK2,HO_7,HO_11,HB⟩:=hrel;cases gk with
      | zero=>exact absurd HA.out (by simp [Ak.l0])
      | succ k2 =>
       have H:=HA.out;clear HA;simp only [Ak.l0] at H
       rcases Zq.jd H with ⟨c21b0,H⟩|⟨c21b0,H⟩
       ·obtain ⟨c22b0,H⟩:=Zq.pd H
        obtain ⟨c23b0,H⟩:=Zq.pd H
        obtain ⟨c24b0,H⟩:=Zq.pd H
        rcases Zq.jn H with ⟨c25b0,H⟩|⟨c25,c25b0,H⟩
        ·obtain ⟨c26,H⟩:=Zq.ip H;have LMc26:=Aa.mk c26;clear c26;generalize hyy:(x11_2++[wrap64 ((wrap64 ((rd t70 x12_2)*(wrap64 (a1-(rd l0 t74)))))+(wrap64 ((wrap64 (2*(rd l0 t74)))*(rd t70 t74))))]:List Int)=y82 at H;have Ny82:=Aa.mk hyy.symm;clear hyy;have H':=Aa.mk H;clear H
         try go_wp2
         have n0_:=Aa.mk (Kd.DE HO_7.out);have n1_:=Aa.mk (Kd.DE HO_11.out);have n2_:=Aa.mk (Al HB.out);clear HO_7;clear HO_11;clear HB;have HO_7:=n0_;have HO_11:=n1_;have HB:=n2_;clear n0_ n1_ n2_;obtain ⟨ad80,e80,hx80_0,p80,q80⟩:=Zq.at_ (Kd.Ac HO_7.out).2.2 x12_2;obtain rfl:ad76=ad80:=(by injection e80);obtain ⟨ad81,e81,hx81_0,p81,q81⟩:=Zq.at_ HR0.out t74;have hw81_0:=hx81_0;obtain rfl:ad75=ad81:=(by injection e81);replace hx81_0:=Zq.ce HB.out hx81_0;refine D6 (n:=12) (S:=fun w'=>w'.cell? (ad76.add (x12_2).toNat)=some (.int .i64 (rd t70 x12_2))∧w'.cell? (ad75.add (t74).toNat)=some (.int .i64 (rd l0 t74))) (ds:=[]) #[false,false,false,false,false,false,false,false,false,false,false,false] (by kernel_rfl) rfl rfl ⟨hx80_0,(Zq.ce HB.out hw81_0)⟩ (fun hHeld=>?_);refine CP Ak.tab11 Ak.bits11 (fun HT_ HW_=>?_);generalize wr.drew=w27 at HO_7 HO_11 HB hx80_0 hx81_0 hHeld ⊢;refine Zs.pu 0 (some 55) ?_;refine Zs.pu 1 (some 56) ?_;refine Zs.pu 2 (some 57) ?_;refine Zs.pu 4 (some 59) ?_;refine Zs.pu 5 (some 60) ?_;refine Zs.pu 6 (some 61) ?_;refine Zs.pu 7 (some 62) ?_;refine Zs.ta2 3 (some 58) ?_;refine Zs.ta2 8 (some 63) ?_;refine Zs.pu 9 (some 64) ?_;refine Zs.pu 10 (some 65) ?_;refine Zs.pu 11 (some 13) ?_
         refine Zq.dn ?_
         try go_wp2_with (((with_reducible refine AY (b := .append) (xs:=#[.tmp 72,.tmp 74]) rfl ?_);at_builtin;refine Zq.ap (.tmp 72) (.tmp 74) 27 Tryz.underlying27 DS u11 x11_2 (wrap64 ((wrap64 ((rd t70 x12_2)*(wrap64 (a1-(rd l0 t74)))))+(wrap64 ((wrap64 (2*(rd l0 t74)))*(rd t70 t74))))) (fun k_=>some k_≠(.slice (some ad76) t70.length co17:Value).ownBlock) (fun k_ hk=>Kd.DF (Zq.lt HO_7.out) k_ hk) ((Zs.mvR HO_11.out)) LMc26.out ?_;intro v83 w28 ho hb hg hat;rw [← Ny82.out] at ho;replace HO_7:=Aa.mk (Kd.BW (ok:=(fun _=>True)) ((Zs.mvR (Kd.AB HO_7.out (fun _ hk=>⟨trivial,hk⟩)))) hg hat);replace HB:=Aa.mk (hb);have HO84:=Aa.mk (ho);clear HO_11;clear ho hb hg hat))
         go_roundg k2
         case measure=>have:=HJ2.out;have:=HK2.out;omega
         case rel=>exact ⟨(y82),(wrap64 (x12_2+1)),Zs.auS,H',⟨by have:=HJ2.out;have:=HK2.out;omega⟩,⟨(Zs.mvR (Kd.AB HO_7.out Zq.tk))⟩,⟨(Zs.mvR HO84.out)⟩,⟨Zs.auHB⟩⟩
        ·obtain ⟨c29,H⟩:=Zq.ip H;have LMc29:=Aa.mk c29;clear c29;generalize hyy:(x11_2++[wrap64 ((rd t70 x12_2)*(wrap64 (a1-(rd l0 t74))))]:List Int)=y85 at H;have Ny85:=Aa.mk hyy.symm;clear hyy;have H':=Aa.mk H;clear H
         try go_wp2
         have n0_:=Aa.mk (Kd.DE HO_7.out);have n1_:=Aa.mk (Kd.DE HO_11.out);have n2_:=Aa.mk (Al HB.out);clear HO_7;clear HO_11;clear HB;have HO_7:=n0_;have HO_11:=n1_;have HB:=n2_;clear n0_ n1_ n2_;obtain ⟨ad80,e80,hx80_0,p80,q80⟩:=Zq.at_ (Kd.Ac HO_7.out).2.2 x12_2;obtain rfl:ad76=ad80:=(by injection e80);obtain ⟨ad81,e81,hx81_0,p81,q81⟩:=Zq.at_ HR0.out t74;have hw81_0:=hx81_0;obtain rfl:ad75=ad81:=(by injection e81);replace hx81_0:=Zq.ce HB.out hx81_0;refine D6 (n:=12) (S:=fun w'=>w'.cell? (ad76.add (x12_2).toNat)=some (.int .i64 (rd t70 x12_2))∧w'.cell? (ad75.add (t74).toNat)=some (.int .i64 (rd l0 t74))) (ds:=[]) #[false,false,false,false,false,false,false,false,false,false,false,false] (by kernel_rfl) rfl rfl ⟨hx80_0,(Zq.ce HB.out hw81_0)⟩ (fun hHeld=>?_);refine CP Ak.tab11 Ak.bits11 (fun HT_ HW_=>?_);generalize wr.drew=w30 at HO_7 HO_11 HB hx80_0 hx81_0 hHeld ⊢;refine Zs.pu 0 (some 55) ?_;refine Zs.pu 1 (some 56) ?_;refine Zs.pu 2 (some 57) ?_;refine Zs.pu 4 (some 59) ?_;refine Zs.pu 5 (some 60) ?_;refine Zs.pu 6 (some 61) ?_;refine Zs.pu 7 (some 62) ?_;refine Zs.ta2 3 (some 58) ?_;refine Zs.ta2 8 (some 63) ?_;refine Zs.pu 9 (some 64) ?_;refine Zs.pu 10 (some 65) ?_;refine Zs.pu 11 (some 13) ?_
         refine Zq.dn ?_
         try go_wp2_with (((with_reducible refine AY (b := .append) (xs:=#[.tmp 72,.tmp 74]) rfl ?_);at_builtin;refine Zq.ap (.tmp 72) (.tmp 74) 27 Tryz.underlying27 DS u11 x11_2 (wrap64 ((rd t70 x12_2)*(wrap64 (a1-(rd l0 t74))))) (fun k_=>some k_≠(.slice (some ad76) t70.length co17:Value).ownBlock) (fun k_ hk=>Kd.DF (Zq.lt HO_7.out) k_ hk) ((Zs.mvR HO_11.out)) LMc29.out ?_;intro v86 w31 ho hb hg hat;rw [← Ny85.out] at ho;replace HO_7:=Aa.mk (Kd.BW (ok:=(fun _=>True)) ((Zs.mvR (Kd.AB HO_7.out (fun _ hk=>⟨trivial,hk⟩)))) hg hat);replace HB:=Aa.mk (hb);have HO87:=Aa.mk (ho);clear HO_11;clear ho hb hg hat))
         go_roundg k2
         case measure=>have:=HJ2.out;have:=HK2.out;omega
         case rel=>exact ⟨(y85),(wrap64 (x12_2+1)),Zs.auS,H',⟨by have:=HJ2.out;have:=HK2.out;omega⟩,⟨(Zs.mvR (Kd.AB HO_7.out Zq.tk))⟩,⟨(Zs.mvR HO87.out)⟩,⟨Zs.auHB⟩⟩
       ·obtain ⟨t88,t90,A32,H⟩:=Zq.bp H;try dsimp only at H;simp only [Option.some.injEq,Prod.mk.injEq] at H;obtain ⟨rfl,rfl,rfl⟩:=H;obtain ⟨Ao33,co33,eo33⟩:=Kd.Az HO_11.out;subst eo33
        go_wp2_with (((with_reducible refine Ab (f:=92) rfl ?_);refine Zq.gc (some 79) Tryz.func92 (Dk.calls _ _ _ _ _ _ _ _ (Zs.mvC ((Kd.Ac HO_11.out).2.2)) ((Kd.Ac HO_11.out).2.1) A32.out) ?_;rintro e w34 ⟨v93,rfl,ho0,hb⟩;refine ⟨_,rfl,?_⟩;have HO94:=Aa.mk (Kd.Bp (Kd.Br (Kd.Br ho0 (Zq.lt HO_7.out)) (Zq.lt HO_11.out)) (Ay (Zs.auHB)));replace HO_7:=Zq.el HO_7.out ho0 hb;replace HO_11:=Zq.el HO_11.out ho0 hb;replace HB:=Zq.st hb;(try clear hb);(try clear ho0)))
        go_ret3
        exact ⟨_,Zs.auR,(Zs.mvR (Kd.AB HO94.out (fun _ hk=>trivial))),Zs.auHB⟩
   ·replace H:=Zq.th H;obtain ⟨y67,hyy⟩ : ∃y_:List Int,y_=(([]:List Int)):=⟨_,rfl⟩
    replace H:(some (y67,0,false))=some (r1,r2,r3):=Zs.auY
    have Ny67:=Aa.mk hyy;clear hyy;simp only [Option.some.injEq,Prod.mk.injEq] at H;obtain ⟨rfl,rfl,rfl⟩:=H
    go_wp2_with (((with_reducible refine Bb (N:=29) rfl ?_);refine Zq.li ([]:List Int) ?_;intro v68 w8 ho9 hb;(first|rw [← Ny67.out] at ho9|(simp only [Int.reduceToNat] at ho9;rw [← Ny67.out] at ho9));have HO69:=Zq.lw ho9;replace HB:=Zq.st hb;clear hb ho9))
    go_ret3
    exact ⟨_,Zs.auR,(Zs.mvR HO69.out),Zs.auHB⟩
end Go.Proofs.YtacfcoilmdhgnaaGreatDoor.PFnExecuteWhat
