import Derived.Test.YtflikmojaidhhaaGreatDoorPq23
import Derived.Test.YtflikmojaidhhaaGreatDoorPq27
import Derived.Test.YtflikmojaidhhaaGreatDoorPqA
namespace Go.Proofs.YtflikmojaidhhaaGreatDoor
open Go.RowKit
def GuQ(w:World)(B:Nat)(cs:Array Value)(M:MX):Prop:=∃A c K kc L lc,(∀(j:Nat)(v:Value),(jn M A c K kc L lc)[j]? =some v->cs[17+j]? =some v)/\MV w (· <B) M (jn M A c K kc L lc)
def KyT(q:RP):Prop:=qv q=true/\qN 100 9 q
theorem BK.new(w:World):BK w.heap.size w.heap.size 0 (w.alloc (.cells #[.pointer none,.slice none 0 0] 90)):=
 ⟨[],Gr _,.inl ⟨Gr _,.slice none 0 0,qf.new w 90 _,⟨rfl,.inl ⟨rfl,rfl⟩⟩,by simp[Value.ownBlock]⟩⟩
set_option maxHeartbeats 4000000
set_option maxRecDepth 100000
theorem qjp(kd:Int)(EJ:0<=kd/\kd<=10)(pa pb pc pd:RP)(sa:KyT pa)(sb:KyT pb)(sc:KyT pc)(sd:KyT pd)(M:MX)(sM:KyM 3 M)(pcs:Array Value)(h0:pcs[0]? =some (.int .i64 kd))
 (B0:Nat)(w:World)(MD:B0<=w.heap.size)(ha:Ju w B0 pcs 1 pa)(hb:Ju w B0 pcs 5 pb)(hc:Ju w B0 pcs 9 pc)(hd:Ju w B0 pcs 13 pd)(hg:GuQ w B0 pcs M)(ht:yF w.heap.size w):
 Calls Tryz.prog 25 #[.agg pcs] w (fun e w'=>∃l:List UInt8,e= .returned (.string ⟨l.toArray⟩)/\l.length<=10000000000/\Below w.heap.size w w'):=by
 have Xb:=Gb w (.cells pcs 34);have k0:=qf.new w 34 pcs;obtain⟨Ag,cg,Kg,rg,Lg,lg,Dc,Cv⟩:=hg;obtain⟨Aa,qa,Ka,ra,a0,a1,a2,a3,F6⟩:=ha;obtain⟨Ab,qb,Kb,rb,b0,b1,b2,b3,Uy⟩:=hb;obtain⟨Ac,qc,Kc,rc,c0,c1,c2,c3,EG⟩:=hc;obtain⟨Ad,qd,Kd,rd,d0,d1,d2,d3,Xv⟩:=hd;generalize hW:w.alloc (.cells pcs 34)=W at*;have XV:w.heap.size<W.heap.size:=k0.lt;have HRM:=Gh (show MV W (· <W.heap.size) M (jn M Ag cg Kg rg Lg lg)from(Cv.below (Xb.mono MD)).more (by omega));have HRa:=Gh (show RV W (· <W.heap.size) pa (qe pa Aa qa Ka ra)from(F6.below (Xb.mono MD)).more (by omega));have B8:=Gh (fun(X:World)(n:Nat)(hX:Below W.heap.size W X)(hk:BK W.heap.size W.heap.size n X)(hn:n+Yz 5<=10000000000)(ht:yF W.heap.size X)=>yC 5 pa (by have:=zC _ sa.1;have:=qJ sa.1;omega) sa.1 sa.2 Aa qa Ka ra W.heap.size W.heap.size n X hX.size (HRa.out.below hX) hk hn ht);have HRb:=Gh (show RV W (· <W.heap.size) pb (qe pb Ab qb Kb rb)from(Uy.below (Xb.mono MD)).more (by omega));have WS:=Gh (fun(X:World)(n:Nat)(hX:Below W.heap.size W X)(hk:BK W.heap.size W.heap.size n X)(hn:n+Yz 5<=10000000000)(ht:yF W.heap.size X)=>yC 5 pb (by have:=zC _ sb.1;have:=qJ sb.1;omega) sb.1 sb.2 Ab qb Kb rb W.heap.size W.heap.size n X hX.size (HRb.out.below hX) hk hn ht);have HRc:=Gh (show RV W (· <W.heap.size) pc (qe pc Ac qc Kc rc)from(EG.below (Xb.mono MD)).more (by omega));have WR:=Gh (fun(X:World)(n:Nat)(hX:Below W.heap.size W X)(hk:BK W.heap.size W.heap.size n X)(hn:n+Yz 5<=10000000000)(ht:yF W.heap.size X)=>yC 5 pc (by have:=zC _ sc.1;have:=qJ sc.1;omega) sc.1 sc.2 Ac qc Kc rc W.heap.size W.heap.size n X hX.size (HRc.out.below hX) hk hn ht);have HRd:=Gh (show RV W (· <W.heap.size) pd (qe pd Ad qd Kd rd)from(Xv.below (Xb.mono MD)).more (by omega));have WQ:=Gh (fun(X:World)(n:Nat)(hX:Below W.heap.size W X)(hk:BK W.heap.size W.heap.size n X)(hn:n+Yz 5<=10000000000)(ht:yF W.heap.size X)=>yC 5 pd (by have:=zC _ sd.1;have:=qJ sd.1;omega) sd.1 sd.2 Ad qd Kd rd W.heap.size W.heap.size n X hX.size (HRd.out.below hX) hk hn ht);have Tj:=Gh (fun(X:World)(n:Nat)(hX:Below W.heap.size W X)(hk:BK W.heap.size W.heap.size n X)(hn:n+kmN 3<=10000000000)(ht:yF W.heap.size X)=>QG 3 M sM Ag cg Kg rg Lg lg W.heap.size W.heap.size n X hX.size (HRM.out.below hX) hk hn ht);have TF:=Gh (fun(X:World)(hX:Below W.heap.size W X)=>show yF W.heap.size X from fun X' hX'=>ht X' (Xb.trans ((hX.trans hX').mono Xb.size)));have y0:=(k0.cell 0).trans h0;have y1:=(k0.cell 1).trans a0;have y2:=(k0.cell 2).trans a1;have y3:=(k0.cell 3).trans a2;have y4:=(k0.cell 4).trans a3;have y5:=(k0.cell 5).trans b0;have y6:=(k0.cell 6).trans b1;have y7:=(k0.cell 7).trans b2;have y8:=(k0.cell 8).trans b3;have y9:=(k0.cell 9).trans c0;have y10:=(k0.cell 10).trans c1;have y11:=(k0.cell 11).trans c2;have y12:=(k0.cell 12).trans c3;have y13:=(k0.cell 13).trans d0;have y14:=(k0.cell 14).trans d1;have y15:=(k0.cell 15).trans d2;have y16:=(k0.cell 16).trans d3;have Dn:=Gh (And.intro ((k0.cell 17).trans (Dc 0 _ rfl)) (And.intro ((k0.cell 18).trans (Dc 1 _ rfl)) (And.intro ((k0.cell 19).trans (Dc 2 _ rfl)) (And.intro ((k0.cell 20).trans (Dc 3 _ rfl)) (And.intro ((k0.cell 21).trans (Dc 4 _ rfl)) (And.intro ((k0.cell 22).trans (Dc 5 _ rfl)) ((k0.cell 23).trans (Dc 6 _ rfl))))))));have Dk:=Gh (fun(W:World)=>And.intro (qcB (.int .i64 pa.lv) (.bool pa.ng) (.slice Aa pa.ds.length qa) (.slice Ka pa.ks.length ra) (.int .i64 pb.lv) (.bool pb.ng) (.slice Ab pb.ds.length qb) (.slice Kb pb.ks.length rb) (.int .i64 pc.lv) (.bool pc.ng) (.slice Ac pc.ds.length qc) (.slice Kc pc.ks.length rc) (.int .i64 pd.lv) (.bool pd.ng) (.slice Ad pd.ds.length qd) (.slice Kd pd.ks.length rd) W) (And.intro (qc7 (.int .i64 pa.lv) (.bool pa.ng) (.slice Aa pa.ds.length qa) (.slice Ka pa.ks.length ra) (.int .i64 pb.lv) (.bool pb.ng) (.slice Ab pb.ds.length qb) (.slice Kb pb.ks.length rb) (.int .i64 pc.lv) (.bool pc.ng) (.slice Ac pc.ds.length qc) (.slice Kc pc.ks.length rc) (.int .i64 pd.lv) (.bool pd.ng) (.slice Ad pd.ds.length qd) (.slice Kd pd.ks.length rd) W) (And.intro (qdA (.int .i64 pa.lv) (.bool pa.ng) (.slice Aa pa.ds.length qa) (.slice Ka pa.ks.length ra) (.int .i64 pb.lv) (.bool pb.ng) (.slice Ab pb.ds.length qb) (.slice Kb pb.ks.length rb) (.int .i64 pc.lv) (.bool pc.ng) (.slice Ac pc.ds.length qc) (.slice Kc pc.ks.length rc) (.int .i64 pd.lv) (.bool pd.ng) (.slice Ad pd.ds.length qd) (.slice Kd pd.ks.length rd) W) (qdD (.int .i64 pa.lv) (.bool pa.ng) (.slice Aa pa.ds.length qa) (.slice Ka pa.ks.length ra) (.int .i64 pb.lv) (.bool pb.ng) (.slice Ab pb.ds.length qb) (.slice Kb pb.ks.length rb) (.int .i64 pc.lv) (.bool pc.ng) (.slice Ac pc.ds.length qc) (.slice Kc pc.ks.length rc) (.int .i64 pd.lv) (.bool pd.ng) (.slice Ad pd.ds.length qd) (.slice Kd pd.ks.length rd) W))));have HY:=Gh (And.intro y0 (And.intro y1 (And.intro y2 (And.intro y3 (And.intro y4 (And.intro y5 (And.intro y6 (And.intro y7 (And.intro y8 (And.intro y9 (And.intro y10 (And.intro y11 (And.intro y12 (And.intro y13 (And.intro y14 (And.intro y15 y16))))))))))))))));have Xd:=Gh Xb;have XJ:=Gh XV;have XH:=Gh (fun(B b:Nat)(l:List UInt8)(X:World)(h:Lib.IsBuilderF 90 _ B b (Lib.byteCells l) X)(hB:B<=X.heap.size)=>Tryz.Builder_String_any_k B b l X h hB);have FO:=Gh (show Yz 5<=30000000/\kmN 3<=300000000 by decide);unfold qm at B8 WS WR WQ;unfold mxv at Tj;unfold Yv at B8 WS WR WQ Tj;clear F6 Uy EG Xv Cv Dc ht Xb k0 h0 XV sa sb sc sd sM a0 a1 a2 a3 b0 b1 b2 b3 c0 c1 c2 c3 d0 d1 d2 d3 y0 y1 y2 y3 y4 y5 y6 y7 y8 y9 y10 y11 y12 y13 y14 y15 y16 MD;generalize Yz 5=N5 at*;generalize kmN 3=M3 at*;go_enter Tryz.func25,Tryz.ntmps25
 go_upto_region 1 with(fail)
 clear hW;have BV:=Gh (Gb W (.cells #[.pointer none,.slice none 0 0] 90));have CL:=Gh (BK.new W);go_upto_region 2 with(fail)
 generalize W.alloc (.cells #[.pointer none,.slice none 0 0] 90)=V at*;have Mk:=BV.out;have y0:=(Mk.cell (p:=⟨w.heap.size,0,none⟩) XJ).trans HY.out.1;have HI:=Gh (Qo W.heap.size kd (by omega) (by omega) V (TF V Mk));clear Mk;go_wp2_with fail
 refine HI.out.mono ?_;rintro e w2 ⟨s,rfl,hs,Xf⟩;have Td:=Gh (Gt BV Xf);have XA:=Gh (CL.out.old Xf);have HS:=Gh (zc W.heap.size W.heap.size 0 30 s hs w2 XA (by omega) Td.out.size);clear hs Xf y0 HI BV CL;go_wp2_with fail
 refine HS.out.mono ?_;rintro e w3 ⟨rfl,Rz,BA⟩;have Tp:=Gh (Td.out.trans BA.1);have Uk:=Gh Rz;have TQ:=Tp.out;clear Rz BA HS Td XA;have y1:=(TQ.cell (p:=⟨w.heap.size,1,none⟩) XJ).trans HY.out.2.1;have y2:=(TQ.cell (p:=⟨w.heap.size,2,none⟩) XJ).trans HY.out.2.2.1;have y3:=(TQ.cell (p:=⟨w.heap.size,3,none⟩) XJ).trans HY.out.2.2.2.1;have y4:=(TQ.cell (p:=⟨w.heap.size,4,none⟩) XJ).trans HY.out.2.2.2.2.1;have y5:=(TQ.cell (p:=⟨w.heap.size,5,none⟩) XJ).trans HY.out.2.2.2.2.2.1;have y6:=(TQ.cell (p:=⟨w.heap.size,6,none⟩) XJ).trans HY.out.2.2.2.2.2.2.1;have y7:=(TQ.cell (p:=⟨w.heap.size,7,none⟩) XJ).trans HY.out.2.2.2.2.2.2.2.1;have y8:=(TQ.cell (p:=⟨w.heap.size,8,none⟩) XJ).trans HY.out.2.2.2.2.2.2.2.2.1;have y9:=(TQ.cell (p:=⟨w.heap.size,9,none⟩) XJ).trans HY.out.2.2.2.2.2.2.2.2.2.1;have y10:=(TQ.cell (p:=⟨w.heap.size,10,none⟩) XJ).trans HY.out.2.2.2.2.2.2.2.2.2.2.1;have y11:=(TQ.cell (p:=⟨w.heap.size,11,none⟩) XJ).trans HY.out.2.2.2.2.2.2.2.2.2.2.2.1;have y12:=(TQ.cell (p:=⟨w.heap.size,12,none⟩) XJ).trans HY.out.2.2.2.2.2.2.2.2.2.2.2.2.1;have y13:=(TQ.cell (p:=⟨w.heap.size,13,none⟩) XJ).trans HY.out.2.2.2.2.2.2.2.2.2.2.2.2.2.1;have y14:=(TQ.cell (p:=⟨w.heap.size,14,none⟩) XJ).trans HY.out.2.2.2.2.2.2.2.2.2.2.2.2.2.2.1;have y15:=(TQ.cell (p:=⟨w.heap.size,15,none⟩) XJ).trans HY.out.2.2.2.2.2.2.2.2.2.2.2.2.2.2.2.1;have y16:=(TQ.cell (p:=⟨w.heap.size,16,none⟩) XJ).trans HY.out.2.2.2.2.2.2.2.2.2.2.2.2.2.2.2.2;clear TQ;go_wp2_with fail
 clear y1 y2 y3 y4 y5 y6 y7 y8 y9 y10 y11 y12 y13 y14 y15 y16;go_loopg [19] 4 (fun gn ix wr=>∃j:Nat,j<=4/\gn=4-j/\ix= .int .i64 j/\Below W.heap.size W wr/\BK W.heap.size W.heap.size (30+N5*j) wr)
 case atStart=>exact⟨0,by omega,rfl,rfl,Tp,Uk.out.mono (by omega)⟩
 case round=>
  obtain⟨j,hj,XI,rfl,Xe,Uv⟩:=hrel;have HG:=Gh XI;have Xh:=Gh Xe;have Xm:=Gh Uv;have he5:=FO.out.1;clear XI Xe Uv;by_cases Xi:j<4
  ·have LQ:j=0∨j=1∨j=2∨j=3:=by omega
   rcases LQ with rfl|rfl|rfl|rfl
   ·have Xc:=Gb wr (.cells (Gx pa Aa qa Ka ra) 28);have UH:=qf.new wr 28 (Gx pa Aa qa Ka ra);have XR:=Gh (Gt Xh Xc);have Ud:=Gh (B8 _ (30+N5*0) XR (Xm.out.old Xc) (by omega) (TF _ XR));obtain⟨z0,z1,z2,z3⟩:=G4 UH;have Vs:=(Dk wr).1;clear Xc UH;go_wp2_with fail
    refine Ud.out.mono ?_;rintro e w4 ⟨rfl,Xj,VX⟩;have XW:=Gh (XR.out.trans VX.1);have Vd:=Gh Xj;clear Xj VX Vs z0 z1 z2 z3 Ud;go_wp2_with fail
    go_roundg 3
    case rel=>exact⟨1,by omega,rfl,rfl,XW,Vd.out.mono (by omega)⟩
    case measure=>have:=HG.out;omega
   ·have Xc:=Gb wr (.cells (Gx pb Ab qb Kb rb) 28);have UH:=qf.new wr 28 (Gx pb Ab qb Kb rb);have XR:=Gh (Gt Xh Xc);have Ud:=Gh (WS _ (30+N5*1) XR (Xm.out.old Xc) (by omega) (TF _ XR));obtain⟨z0,z1,z2,z3⟩:=G4 UH;have Vs:=(Dk wr).2.1;clear Xc UH;go_wp2_with fail
    refine Ud.out.mono ?_;rintro e w4 ⟨rfl,Xj,VX⟩;have XW:=Gh (XR.out.trans VX.1);have Vd:=Gh Xj;clear Xj VX Vs z0 z1 z2 z3 Ud;go_wp2_with fail
    go_roundg 2
    case rel=>exact⟨2,by omega,rfl,rfl,XW,Vd.out.mono (by omega)⟩
    case measure=>have:=HG.out;omega
   ·have Xc:=Gb wr (.cells (Gx pc Ac qc Kc rc) 28);have UH:=qf.new wr 28 (Gx pc Ac qc Kc rc);have XR:=Gh (Gt Xh Xc);have Ud:=Gh (WR _ (30+N5*2) XR (Xm.out.old Xc) (by omega) (TF _ XR));obtain⟨z0,z1,z2,z3⟩:=G4 UH;have Vs:=(Dk wr).2.2.1;clear Xc UH;go_wp2_with fail
    refine Ud.out.mono ?_;rintro e w4 ⟨rfl,Xj,VX⟩;have XW:=Gh (XR.out.trans VX.1);have Vd:=Gh Xj;clear Xj VX Vs z0 z1 z2 z3 Ud;go_wp2_with fail
    go_roundg 1
    case rel=>exact⟨3,by omega,rfl,rfl,XW,Vd.out.mono (by omega)⟩
    case measure=>have:=HG.out;omega
   ·have Xc:=Gb wr (.cells (Gx pd Ad qd Kd rd) 28);have UH:=qf.new wr 28 (Gx pd Ad qd Kd rd);have XR:=Gh (Gt Xh Xc);have Ud:=Gh (WQ _ (30+N5*3) XR (Xm.out.old Xc) (by omega) (TF _ XR));obtain⟨z0,z1,z2,z3⟩:=G4 UH;have Vs:=(Dk wr).2.2.2;clear Xc UH;go_wp2_with fail
    refine Ud.out.mono ?_;rintro e w4 ⟨rfl,Xj,VX⟩;have XW:=Gh (XR.out.trans VX.1);have Vd:=Gh Xj;clear Xj VX Vs z0 z1 z2 z3 Ud;go_wp2_with fail
    go_roundg 0
    case rel=>exact⟨4,by omega,rfl,rfl,XW,Vd.out.mono (by omega)⟩
    case measure=>have:=HG.out;omega
  ·obtain rfl:j=4:=by omega
   have Xe:=Xh.out;have z0:=(Xe.cell (p:=⟨w.heap.size,17,none⟩) XJ).trans Dn.out.1;have z1:=(Xe.cell (p:=⟨w.heap.size,18,none⟩) XJ).trans Dn.out.2.1;have z2:=(Xe.cell (p:=⟨w.heap.size,19,none⟩) XJ).trans Dn.out.2.2.1;have z3:=(Xe.cell (p:=⟨w.heap.size,20,none⟩) XJ).trans Dn.out.2.2.2.1;have z4:=(Xe.cell (p:=⟨w.heap.size,21,none⟩) XJ).trans Dn.out.2.2.2.2.1;have z5:=(Xe.cell (p:=⟨w.heap.size,22,none⟩) XJ).trans Dn.out.2.2.2.2.2.1;have z6:=(Xe.cell (p:=⟨w.heap.size,23,none⟩) XJ).trans Dn.out.2.2.2.2.2.2;have Ud:=Gh (Tj wr (30+N5*4) Xe Xm (by have:=FO.out.2;omega) (TF wr Xe));clear Xe;go_wp2_with fail
   refine Ud.out.mono ?_;rintro e w5 ⟨rfl,RN,S3⟩;have XZ:=Gh (Xh.out.trans S3.1);obtain⟨l,hl,XX⟩:=RN;have FL:=Gh (XH W.heap.size W.heap.size l w5 XX XZ.out.size);have Fz:=Gh (show l.length<=10000000000 by have:=FO.out;omega);clear S3 XX hl Ud z0 z1 z2 z3 z4 z5 z6;go_wp2_with fail
   refine FL.out.mono ?_;rintro e w6 ⟨rfl,-,XY,-⟩;have TL:=Gh (Xd.out.trans ((XZ.out.trans XY).mono Xd.out.size));clear XY FL;go_wp2_with fail
   go_ret
   exact⟨l,rfl,Fz,TL⟩
structure Qz where
 T:RP
 A:Oa
 c:Nat
 K:Oa
 kc:Nat
structure MV6 where
 M:MX
 A:Oa
 c:Nat
 K:Oa
 kc:Nat
 L:Oa
 lc:Nat
def Ty3(t:TypeId):Prop:=t=123∨t=28∨t=32
def OG(w:World)(gs:List Nat)(b:Nat):Prop:=b∉gs/\∃t cs,Ty3 t/\qf w b t cs
def TG(w:World)(gs:List Nat)(v:Qz):Prop:=RV w (OG w gs) v.T (qe v.T v.A v.c v.K v.kc)
def MG(w:World)(gs:List Nat)(m:MV6):Prop:=MV w (OG w gs) m.M (jn m.M m.A m.c m.K m.kc m.L m.lc)
def Kp(w w':World)(gs gs':List Nat):Prop:=∀g t cs,g∉gs->Ty3 t->qf w g t cs->qf w' g t cs/\g∉gs'
section
variable {w w' w'':World} {gs gs' gs'':List Nat} {g base:Nat} {v:Qz} {m:MV6}
theorem OG.keep(h:Kp w w' gs gs'):(∀b,OG w gs b->∀o,w'.cell? ⟨b,o,none⟩=w.cell? ⟨b,o,none⟩)/\∀b,OG w gs b->OG w' gs' b:=by
 refine⟨fun b hb o=>?_,fun b hb=>?_⟩
 ·obtain⟨h1,t,cs,h2,h3⟩:=hb;rw[(h b t cs h1 h2 h3).1.cell,h3.cell]
 ·obtain⟨h1,t,cs,h2,h3⟩:=hb;exact⟨(h b t cs h1 h2 h3).2,t,cs,h2,(h b t cs h1 h2 h3).1⟩
theorem TG.keep(h:TG w gs v)(hk:Kp w w' gs gs'):TG w' gs' v:=RV.mono (OG.keep hk).2 _ _ (RV.keep (OG.keep hk).1 _ _ h)
theorem MG.keep(h:MG w gs m)(hk:Kp w w' gs gs'):MG w' gs' m:=MV.mono (OG.keep hk).2 _ _ (MV.keep (OG.keep hk).1 _ _ h)
theorem Kp.old(hb:Below w.heap.size w w'):Kp w w' gs gs:=fun _ _ _ h1 _ h3=>⟨h3.old hb,h1⟩
theorem Kp.add(hb:Below w.heap.size w w')(hg:w.heap.size<=g):Kp w w' gs (g::gs):=fun x _ _ h1 _ h3=>⟨h3.old hb,fun e=>by
 rcases List.mem_cons.1 e with rfl|e
 ·have:=h3.lt;omega
 ·exact h1 e⟩
theorem Kp.sub(hs:∀x∈gs',x∈gs):Kp w w gs gs':=fun _ _ _ h1 _ h3=>⟨h3,fun e=>h1 (hs _ e)⟩
theorem Kp.trans(h:Kp w w' gs gs')(h':Kp w' w'' gs' gs''):Kp w w'' gs gs'':=fun x t cs h1 h2 h3=>h' x t cs (h x t cs h1 h2 h3).2 h2 (h x t cs h1 h2 h3).1
theorem Kp.set(hg:g∈gs)(o:Nat)(u:Value):Kp w (w.setCell ⟨g,o,none⟩ u) gs gs:=fun _ _ _ h1 _ h3=>⟨h3.far (p:=⟨g,o,none⟩) (fun e=>h1 (e▸hg)) u,h1⟩
theorem Kp.set4(hg:g∈gs)(a b c d:Value):Kp w (Go.Proofs.YtflikmojaidhhaaGreatDoor.set4 w g 0 a b c d) gs gs:=(((Kp.set hg _ _).trans (Kp.set hg _ _)).trans (Kp.set hg _ _)).trans (Kp.set hg _ _)
theorem Kp.set7(hg:g∈gs)(a b c d e f k:Value):Kp w (Go.Proofs.YtflikmojaidhhaaGreatDoor.set7 w g a b c d e f k) gs gs:=((((((Kp.set hg _ _).trans (Kp.set hg _ _)).trans (Kp.set hg _ _)).trans (Kp.set hg _ _)).trans (Kp.set hg _ _)).trans (Kp.set hg _ _)).trans (Kp.set hg _ _)
theorem Kp.grown{cs:Array Value}{t:TypeId}(hk:qf w g t cs)(ht:¬Ty3 t)(hg:w.grownBy w' (some g)):Kp w w' gs gs:=fun _ _ _ h1 h2 h3=>⟨h3.grown hg (by
 intro e
 injection e with e
 exact jf h3 hk (fun e'=>ht (e'▸h2)) e),h1⟩
theorem TG.of(h:RB w base v.T (qe v.T v.A v.c v.K v.kc))(UA:∀x∈gs,x<base/\∃t cs,t≠123/\qf w x t cs):TG w gs v:=by
 refine RV.mono (fun b hb=>?_) _ _ h;rcases hb with⟨cs,hb⟩|⟨h1,cs,hb⟩
 ·refine⟨fun e=>?_,_,cs,.inl rfl,hb⟩;obtain⟨-,t,cs',h2,h3⟩:=UA b e;exact jf hb h3 (Ne.symm h2) rfl
 ·exact⟨fun e=>by have:=(UA b e).1;omega,_,cs,.inr (.inl rfl),hb⟩
theorem MG.of(h:MV w (OkM w base none) m.M (jn m.M m.A m.c m.K m.kc m.L m.lc))(UA:∀x∈gs,x<base/\∃t cs,t≠123/\qf w x t cs):MG w gs m:=by
 refine MV.mono (fun b hb=>?_) _ _ h;rcases hb with(⟨cs,hb⟩|⟨h1,cs,hb⟩)|⟨h1,_,cs,hb⟩
 ·refine⟨fun e=>?_,_,cs,.inl rfl,hb⟩;obtain⟨-,t,cs',h2,h3⟩:=UA b e;exact jf hb h3 (Ne.symm h2) rfl
 ·exact⟨fun e=>by have:=(UA b e).1;omega,_,cs,.inr (.inl rfl),hb⟩
 ·exact⟨fun e=>by have:=(UA b e).1;omega,_,cs,.inr (.inr rfl),hb⟩
theorem OG.lt{b:Nat}(h:OG w gs b):b<w.heap.size:=by
 obtain⟨_,t,cs,_,h⟩:=h;exact h.lt
theorem TG.rv(h:TG w gs v):RV w (· <w.heap.size) v.T (qe v.T v.A v.c v.K v.kc):=RV.mono (fun _ hb=>hb.lt) _ _ h
theorem MG.rv(h:MG w gs m):MV w (· <w.heap.size) m.M (jn m.M m.A m.c m.K m.kc m.L m.lc):=MV.mono (fun _ hb=>hb.lt) _ _ h
end
structure zX where
 kd:Int
 a:Qz
 b:Qz
 c:Qz
 d:Qz
 m:MV6
def zX.cs(P:zX):Array Value:=#[.int .i64 P.kd,.int .i64 P.a.T.lv,.bool P.a.T.ng,.slice P.a.A P.a.T.ds.length P.a.c,.slice P.a.K P.a.T.ks.length P.a.kc,.int .i64 P.b.T.lv,.bool P.b.T.ng,.slice P.b.A P.b.T.ds.length P.b.c,.slice P.b.K P.b.T.ks.length P.b.kc,
 .int .i64 P.c.T.lv,.bool P.c.T.ng,.slice P.c.A P.c.T.ds.length P.c.c,.slice P.c.K P.c.T.ks.length P.c.kc,.int .i64 P.d.T.lv,.bool P.d.T.ng,.slice P.d.A P.d.T.ds.length P.d.c,.slice P.d.K P.d.T.ks.length P.d.kc,
 .int .i64 P.m.M.kd,.int .i64 P.m.M.rl,.int .i64 P.m.M.p.lv,.bool P.m.M.p.ng,.slice P.m.A P.m.M.p.ds.length P.m.c,.slice P.m.K P.m.M.p.ks.length P.m.kc,.slice P.m.L P.m.M.ks.length P.m.lc]
structure PtA (w:World) (gs:List Nat) (P:zX):Prop where
 kd:P.kd=2∨P.kd=3
 ka:KyT P.a.T
 kb:KyT P.b.T
 kc:KyT P.c.T
 kD:KyT P.d.T
 km:KyM 3 P.m.M
 ra:TG w gs P.a
 rb:TG w gs P.b
 rc:TG w gs P.c
 rd:TG w gs P.d
 rm:MG w gs P.m
theorem PtA.keep{w w':World}{gs gs':List Nat}{P:zX}(h:PtA w gs P)(hk:Kp w w' gs gs'):PtA w' gs' P:=⟨h.kd,h.ka,h.kb,h.kc,h.kD,h.km,h.ra.keep hk,h.rb.keep hk,h.rc.keep hk,h.rd.keep hk,h.rm.keep hk⟩
theorem Vp.ky{k:Int}{d n:Nat}{T:RP}(h:Vp k d n T)(hd:d<=100)(hn:n<=8):KyT T:=⟨h.can,qN.mono hd (by omega) _ h.lw⟩
def PtR(k:Int)(D:RP->Prop)(w:World)(e:Ending)(w':World):Prop:=∃P:zX,P.kd=k/\D P.d.T/\PtA w' [] P/\e= .returned (.agg P.cs)/\Below w.heap.size w w'
