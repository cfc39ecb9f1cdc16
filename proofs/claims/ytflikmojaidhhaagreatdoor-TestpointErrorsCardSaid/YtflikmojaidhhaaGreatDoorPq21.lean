import Derived.Test.YtflikmojaidhhaaGreatDoorPq20
import Derived.Test.YtflikmojaidhhaaGreatDoorPqA
namespace Go.Proofs.YtflikmojaidhhaaGreatDoor
open Go.RowKit
def zx(w:World)(e:Ending)(w':World):Prop:=∃(kd rl ml:Int)(mg:Bool)(MA:Oa)(mn mc:Nat)(MK:Oa)(mk mkc:Nat)(ML:Oa)(ll lc:Nat),e= .returned (.agg #[.int .i64 kd,.int .i64 rl,.int .i64 ml,.bool mg,.slice MA mn mc,.slice MK mk mkc,.slice ML ll lc])/\Below w.heap.size w w'
theorem YY{w V:World}{g:Nat}(hk:qf V g 32 #[.int .i64 0,.int .i64 0,.int .i64 0,.bool false,.slice none 0 0,.slice none 0 0,.slice none 0 0])(hw:w.heap.size<=g)(hb:Below w.heap.size w V)(kd rl ml:Int)(mg:Bool)(MA:Oa)(mn mc:Nat)(MK:Oa)(mk mkc:Nat)(ML:Oa)(ll lc:Nat):
 qf (set7 V g (.int .i64 kd) (.int .i64 rl) (.int .i64 ml) (.bool mg) (.slice MA mn mc) (.slice MK mk mkc) (.slice ML ll lc)) g 32 #[.int .i64 kd,.int .i64 rl,.int .i64 ml,.bool mg,.slice MA mn mc,.slice MK mk mkc,.slice ML ll lc]/\
 zx w (.returned (.agg #[.int .i64 kd,.int .i64 rl,.int .i64 ml,.bool mg,.slice MA mn mc,.slice MK mk mkc,.slice ML ll lc])) (set7 V g (.int .i64 kd) (.int .i64 rl) (.int .i64 ml) (.bool mg) (.slice MA mn mc) (.slice MK mk mkc) (.slice ML ll lc)):=by
 obtain⟨s1,s2,s3⟩:=Qd hk (.int .i64 kd) (.int .i64 rl) (.int .i64 ml) (.bool mg) (.slice MA mn mc) (.slice MK mk mkc) (.slice ML ll lc);exact⟨s1,_,_,_,_,_,_,_,_,_,_,_,_,_,rfl,hb.trans (s3 _ hw)⟩
theorem qf.far7{V:World}{b g:Nat}{t:TypeId}{cs:Array Value}(h:qf V b t cs)(Xl:b≠g)(x0 x1 x2 x3 x4 x5 x6:Value):qf (set7 V g x0 x1 x2 x3 x4 x5 x6) b t cs:=by
 unfold set7;exact((((((h.far (p:=⟨g,0,none⟩) Xl _).far (p:=⟨g,1,none⟩) Xl _).far (p:=⟨g,2,none⟩) Xl _).far (p:=⟨g,3,none⟩) Xl _).far (p:=⟨g,4,none⟩) Xl _).far (p:=⟨g,5,none⟩) Xl _).far (p:=⟨g,6,none⟩) Xl _
theorem yi{k:Int}{d n:Nat}{p:RP}{gs:List Nat}{V:World}{A K:Oa}{c kc:Nat}(hp:Qp k d n p)(hd:d<=1000)(hn:n<=999)(rel:Int)(h1:RV V (NB gs V) p (qe p A c K kc)):Calls Tryz.prog 22 #[qm p A c K kc,.int .i64 rel] V (zx V):=by
 refine(qaq 400 (by omega) rel p hp.fit (hp.vp.sm hd hn) A c K kc V.heap.size V (Gr _) (NB.all h1)).mono ?_;rintro e w' ⟨_,M,_,_,A2,c2,K2,kc2,rfl,_,hb⟩;exact⟨_,_,_,_,_,_,_,_,_,_,_,_,_,rfl,hb⟩
set_option maxHeartbeats 4000000
set_option maxRecDepth 100000
theorem qj6(k:Int)(Xx:0<k)(Xj:k<=4)(U V T:RP)(qU:Qp k 150 15 U)(qV:Qp k 150 15 V)(qT:Qp k 400 32 T)(gf gw gu gv:Nat)(A1:Oa)(c1:Nat)(K1:Oa)(k1:Nat)(A2:Oa)(c2:Nat)(K2:Oa)(k2:Nat)(A3:Oa)(c3:Nat)(K3:Oa)(k3:Nat)(w:World)(hf:qf w gf 57 #[.func (.func 22) #[] #[]])(bT:QI [] w gw T A1 c1 K1 k1)(bU:QI [] w gu U A2 c2 K2 k2)(bV:QI [] w gv V A3 c3 K3 k3):
 Calls Tryz.prog 68 #[.pointer (some ⟨gf,0,none⟩),.pointer (some ⟨gw,0,none⟩),.pointer (some ⟨gu,0,none⟩),.pointer (some ⟨gv,0,none⟩)] w (zx w):=by
 have Xc:=Gb w (.cells Gy 32);have Xd:=Gh Xc;have XA:=Gh (qf.new w 32 Gy);have Ns:=Gh (hf.old Xc);have VD:=Gh (bT.old Xc);have Sx:=Gh (bU.old Xc);have UX:=Gh (bV.old Xc);have NZ:=Gh (show gf≠w.heap.size from Nat.ne_of_lt hf.lt);have HNE_gw:=Gh (show gw≠w.heap.size from Nat.ne_of_lt bT.box.lt);have HNE_gu:=Gh (show gu≠w.heap.size from Nat.ne_of_lt bU.box.lt);have HNE_gv:=Gh (show gv≠w.heap.size from Nat.ne_of_lt bV.box.lt);have RW:=Gh (Gr w.heap.size);clear Xc hf bT bU bV;go_enter Tryz.func68,Tryz.ntmps68
 go_upto_region 1 with(fail)
 generalize w.alloc (.cells Gy 32)=W at*;have VE:=Gh (fun(X:World)(hX:Below W.heap.size W X)(r:Int)=>yi qT (by omega) (by omega) r (VD.out.old hX).tree);have RZ:=Gh (fun(X:World)(hX:Below W.heap.size W X)=>jQ Xx Xj qU qV (by omega) (by omega) (fun x hx=>by simp at hx) (Sx.out.old hX).tree (UX.out.old hX).tree);have TM:=Gh (fun(X:World)(T:RP)(A:Oa)(c:Nat)(K:Oa)(kc:Nat)(r:Int)(q:Qp k (150+150+4) (15+15) T)(h:RV X (NB [] X) T (qe T A c K kc))=>yi q (by omega) (by omega) r h);unfold qm at VE RZ TM;unfold zx at VE TM;have KF:=Gh (fun(X:World)(hX:Below W.heap.size W X)=>(⟨(Ns.out.old hX).cell 0,(VD.out.old hX).box.cell 0,(VD.out.old hX).box.cell 1,(VD.out.old hX).box.cell 2,(VD.out.old hX).box.cell 3,(Sx.out.old hX).box.cell 0,(Sx.out.old hX).box.cell 1,(Sx.out.old hX).box.cell 2,(Sx.out.old hX).box.cell 3,(UX.out.old hX).box.cell 0,(UX.out.old hX).box.cell 1,(UX.out.old hX).box.cell 2,(UX.out.old hX).box.cell 3⟩:X.cell? ⟨gf,0,none⟩=some (.func (.func 22) #[] #[])/\Gd X gw (.int .i64 T.lv) (.bool T.ng) (.slice A1 T.ds.length c1) (.slice K1 T.ks.length k1) (Gd X gu (.int .i64 U.lv) (.bool U.ng) (.slice A2 U.ds.length c2) (.slice K2 U.ks.length k2) (Gc X gv (.int .i64 V.lv) (.bool V.ng) (.slice A3 V.ds.length c3) (.slice K3 V.ks.length k3)))));have hz:Below W.heap.size W W.drew:=(qt.drew _).below _;refine wp_region_held_drew (S:=fun w'=>w'.cell? ⟨gf,0,none⟩=some (.func (.func 22) #[] #[])/\Gd w' gw (.int .i64 T.lv) (.bool T.ng) (.slice A1 T.ds.length c1) (.slice K1 T.ks.length k1) (Gd w' gu (.int .i64 U.lv) (.bool U.ng) (.slice A2 U.ds.length c2) (.slice K2 U.ks.length k2) (Gc w' gv (.int .i64 V.lv) (.bool V.ng) (.slice A3 V.ds.length c3) (.slice K3 V.ks.length k3)))) (by kernel_rfl) (KF _ hz) (fun Xa=>?_);refine tk 0 ?_
 refine tk 1 ?_
 refine tk 3 ?_
 refine tk 4 ?_
 refine tk 5 ?_
 simp only[Act.put,sA,sB,sC];generalize W.drew=V0 at*;refine rd1 2 (fun P hP=>?_);go_simp
 go_at_call 22
 refine(VE _ hz _).mono ?_;rintro e V2 ⟨kd1,rl1,ml1,mg1,MA1,mn1,mc1,MK1,mk1,mkc1,ML1,ll1,lc1,rfl,st⟩
 replace hz:=Gt hz st
 clear st;refine hP _ _ (KF _ hz) (fun Xa=>?_);clear hP P
 refine rd1 6 (fun P hP=>?_);go_simp
 go_at_call 44
 refine(RZ _ hz).mono ?_;rintro e V6 ⟨T9,A9,c9,K9,k9,q9,-,rfl,r9,st⟩
 replace hz:=Gt hz st
 clear st;refine hP _ _ (KF _ hz) (fun Xa=>?_);clear hP P
 refine rd1 7 (fun P hP=>?_);go_simp
 go_at_call 22
 refine(TM _ _ _ _ _ _ _ q9 r9).mono ?_;rintro e V7 ⟨kd2,rl2,ml2,mg2,MA2,mn2,mc2,MK2,mk2,mkc2,ML2,ll2,lc2,rfl,st⟩
 replace hz:=Gt hz st
 clear st;refine hP _ _ (KF _ hz) (fun Xa=>?_);clear hP P
 refine rd1 8 (fun P hP=>?_);have st:=Gb V7 (.cells #[.int .i64 kd1,.int .i64 rl1,.int .i64 ml1,.bool mg1,.slice MA1 mn1 mc1,.slice MK1 mk1 mkc1,.slice ML1 ll1 lc1,.int .i64 kd2,.int .i64 rl2,.int .i64 ml2,.bool mg2,.slice MA2 mn2 mc2,.slice MK2 mk2 mkc2,.slice ML2 ll2 lc2] 32);go_simp
 replace hz:=Gt hz st
 clear st;generalize V7.alloc (.cells #[.int .i64 kd1,.int .i64 rl1,.int .i64 ml1,.bool mg1,.slice MA1 mn1 mc1,.slice MK1 mk1 mkc1,.slice ML1 ll1 lc1,.int .i64 kd2,.int .i64 rl2,.int .i64 ml2,.bool mg2,.slice MA2 mn2 mc2,.slice MK2 mk2 mkc2,.slice ML2 ll2 lc2] 32)=V8 at*;generalize V7.heap.size=gs8 at*;refine hP _ _ (KF _ hz) (fun Xa=>?_);clear hP P
 refine rd1 9 (fun P hP=>?_);go_simp
 go_at_call 39
 refine(zN _ _ _ _).mono ?_;rintro e V9 ⟨rfl,st⟩
 replace hz:=Gt hz st
 clear st;refine hP _ _ (KF _ hz) (fun Xa=>?_);clear hP P
 refine rd1 10 (fun P hP=>?_);have Xg:=Gh (YY (XA.out.old hz) RW (Gt Xd hz) 3 0 0 false none 0 0 none 0 0 (some ⟨gs8,0,none⟩) 2 2);have UN:=Gh (⟨((Ns.out.old hz).far7 NZ (.int .i64 3) (.int .i64 0) (.int .i64 0) (.bool false) (.slice none 0 0) (.slice none 0 0) (.slice (some ⟨gs8,0,none⟩) 2 2)).cell 0,((VD.out.old hz).box.far7 HNE_gw (.int .i64 3) (.int .i64 0) (.int .i64 0) (.bool false) (.slice none 0 0) (.slice none 0 0) (.slice (some ⟨gs8,0,none⟩) 2 2)).cell 0,((VD.out.old hz).box.far7 HNE_gw (.int .i64 3) (.int .i64 0) (.int .i64 0) (.bool false) (.slice none 0 0) (.slice none 0 0) (.slice (some ⟨gs8,0,none⟩) 2 2)).cell 1,((VD.out.old hz).box.far7 HNE_gw (.int .i64 3) (.int .i64 0) (.int .i64 0) (.bool false) (.slice none 0 0) (.slice none 0 0) (.slice (some ⟨gs8,0,none⟩) 2 2)).cell 2,((VD.out.old hz).box.far7 HNE_gw (.int .i64 3) (.int .i64 0) (.int .i64 0) (.bool false) (.slice none 0 0) (.slice none 0 0) (.slice (some ⟨gs8,0,none⟩) 2 2)).cell 3,((Sx.out.old hz).box.far7 HNE_gu (.int .i64 3) (.int .i64 0) (.int .i64 0) (.bool false) (.slice none 0 0) (.slice none 0 0) (.slice (some ⟨gs8,0,none⟩) 2 2)).cell 0,((Sx.out.old hz).box.far7 HNE_gu (.int .i64 3) (.int .i64 0) (.int .i64 0) (.bool false) (.slice none 0 0) (.slice none 0 0) (.slice (some ⟨gs8,0,none⟩) 2 2)).cell 1,((Sx.out.old hz).box.far7 HNE_gu (.int .i64 3) (.int .i64 0) (.int .i64 0) (.bool false) (.slice none 0 0) (.slice none 0 0) (.slice (some ⟨gs8,0,none⟩) 2 2)).cell 2,((Sx.out.old hz).box.far7 HNE_gu (.int .i64 3) (.int .i64 0) (.int .i64 0) (.bool false) (.slice none 0 0) (.slice none 0 0) (.slice (some ⟨gs8,0,none⟩) 2 2)).cell 3,((UX.out.old hz).box.far7 HNE_gv (.int .i64 3) (.int .i64 0) (.int .i64 0) (.bool false) (.slice none 0 0) (.slice none 0 0) (.slice (some ⟨gs8,0,none⟩) 2 2)).cell 0,((UX.out.old hz).box.far7 HNE_gv (.int .i64 3) (.int .i64 0) (.int .i64 0) (.bool false) (.slice none 0 0) (.slice none 0 0) (.slice (some ⟨gs8,0,none⟩) 2 2)).cell 1,((UX.out.old hz).box.far7 HNE_gv (.int .i64 3) (.int .i64 0) (.int .i64 0) (.bool false) (.slice none 0 0) (.slice none 0 0) (.slice (some ⟨gs8,0,none⟩) 2 2)).cell 2,((UX.out.old hz).box.far7 HNE_gv (.int .i64 3) (.int .i64 0) (.int .i64 0) (.bool false) (.slice none 0 0) (.slice none 0 0) (.slice (some ⟨gs8,0,none⟩) 2 2)).cell 3⟩:(set7 V9 w.heap.size (.int .i64 3) (.int .i64 0) (.int .i64 0) (.bool false) (.slice none 0 0) (.slice none 0 0) (.slice (some ⟨gs8,0,none⟩) 2 2)).cell? ⟨gf,0,none⟩=some (.func (.func 22) #[] #[])/\(set7 V9 w.heap.size (.int .i64 3) (.int .i64 0) (.int .i64 0) (.bool false) (.slice none 0 0) (.slice none 0 0) (.slice (some ⟨gs8,0,none⟩) 2 2)).cell? ⟨gw,0,none⟩=some (.int .i64 T.lv)/\(set7 V9 w.heap.size (.int .i64 3) (.int .i64 0) (.int .i64 0) (.bool false) (.slice none 0 0) (.slice none 0 0) (.slice (some ⟨gs8,0,none⟩) 2 2)).cell? ⟨gw,1,none⟩=some (.bool T.ng)/\(set7 V9 w.heap.size (.int .i64 3) (.int .i64 0) (.int .i64 0) (.bool false) (.slice none 0 0) (.slice none 0 0) (.slice (some ⟨gs8,0,none⟩) 2 2)).cell? ⟨gw,2,none⟩=some (.slice A1 T.ds.length c1)/\(set7 V9 w.heap.size (.int .i64 3) (.int .i64 0) (.int .i64 0) (.bool false) (.slice none 0 0) (.slice none 0 0) (.slice (some ⟨gs8,0,none⟩) 2 2)).cell? ⟨gw,3,none⟩=some (.slice K1 T.ks.length k1)/\(set7 V9 w.heap.size (.int .i64 3) (.int .i64 0) (.int .i64 0) (.bool false) (.slice none 0 0) (.slice none 0 0) (.slice (some ⟨gs8,0,none⟩) 2 2)).cell? ⟨gu,0,none⟩=some (.int .i64 U.lv)/\(set7 V9 w.heap.size (.int .i64 3) (.int .i64 0) (.int .i64 0) (.bool false) (.slice none 0 0) (.slice none 0 0) (.slice (some ⟨gs8,0,none⟩) 2 2)).cell? ⟨gu,1,none⟩=some (.bool U.ng)/\(set7 V9 w.heap.size (.int .i64 3) (.int .i64 0) (.int .i64 0) (.bool false) (.slice none 0 0) (.slice none 0 0) (.slice (some ⟨gs8,0,none⟩) 2 2)).cell? ⟨gu,2,none⟩=some (.slice A2 U.ds.length c2)/\(set7 V9 w.heap.size (.int .i64 3) (.int .i64 0) (.int .i64 0) (.bool false) (.slice none 0 0) (.slice none 0 0) (.slice (some ⟨gs8,0,none⟩) 2 2)).cell? ⟨gu,3,none⟩=some (.slice K2 U.ks.length k2)/\(set7 V9 w.heap.size (.int .i64 3) (.int .i64 0) (.int .i64 0) (.bool false) (.slice none 0 0) (.slice none 0 0) (.slice (some ⟨gs8,0,none⟩) 2 2)).cell? ⟨gv,0,none⟩=some (.int .i64 V.lv)/\(set7 V9 w.heap.size (.int .i64 3) (.int .i64 0) (.int .i64 0) (.bool false) (.slice none 0 0) (.slice none 0 0) (.slice (some ⟨gs8,0,none⟩) 2 2)).cell? ⟨gv,1,none⟩=some (.bool V.ng)/\(set7 V9 w.heap.size (.int .i64 3) (.int .i64 0) (.int .i64 0) (.bool false) (.slice none 0 0) (.slice none 0 0) (.slice (some ⟨gs8,0,none⟩) 2 2)).cell? ⟨gv,2,none⟩=some (.slice A3 V.ds.length c3)/\(set7 V9 w.heap.size (.int .i64 3) (.int .i64 0) (.int .i64 0) (.bool false) (.slice none 0 0) (.slice none 0 0) (.slice (some ⟨gs8,0,none⟩) 2 2)).cell? ⟨gv,3,none⟩=some (.slice K3 V.ks.length k3));unfold set7 at Xg UN;have kk:=XA.out.old hz;obtain⟨d0,d1,d2,d3⟩:=G4 kk;have d4:=kk.cell 4;have d5:=kk.cell 5;have d6:=kk.cell 6;have f0:=kk.frozen 0;have f1:=kk.frozen 1;have f2:=kk.frozen 2;have f3:=kk.frozen 3;have f4:=kk.frozen 4;have f5:=kk.frozen 5;have f6:=kk.frozen 6;have zl:=kk.lt;clear kk;go_simp
 refine hP _ _ (UN) (fun Xa=>?_);clear hP P
 refine wpAnyH_done (by kernel_rfl) ?_ _;clear Xa d0 d1 d2 d3 d4 d5 d6 f0 f1 f2 f3 f4 f5 f6 zl KF UN;go_wp2_with fail
 exact qo Tryz.results68 rfl rfl Xg.out.1 Tryz.underlying32 rfl Tryz.sizeMat Xg.out.2
theorem qjI(k:Int)(U V T:RP)(qU:Qp k 150 15 U)(qV:Qp k 150 15 V)(qT:Qp k 400 32 T)(gf gw:Nat)(A1:Oa)(c1:Nat)(K1:Oa)(k1:Nat)(A2:Oa)(c2:Nat)(K2:Oa)(k2:Nat)(A3:Oa)(c3:Nat)(K3:Oa)(k3:Nat)(w:World)(hf:qf w gf 57 #[.func (.func 22) #[] #[]])(bT:QI [] w gw T A3 c3 K3 k3)(rU:RV w (NB [] w) U (qe U A1 c1 K1 k1))(rV:RV w (NB [] w) V (qe V A2 c2 K2 k2)):
 Calls Tryz.prog 69 #[qm U A1 c1 K1 k1,qm V A2 c2 K2 k2,.pointer (some ⟨gf,0,none⟩),.pointer (some ⟨gw,0,none⟩)] w (zx w):=by
 obtain⟨Xc,q0,q1,q2,hs⟩:=jN w 28 28 32 (Gx U A1 c1 K1 k1) (Gx V A2 c2 K2 k2) Gy;have Xd:=Gh Xc;have XA:=Gh q2;have Ns:=Gh (hf.old Xc);have VD:=Gh (bT.old Xc);have Sx:=Gh (show QI [] _ w.heap.size U A1 c1 K1 k1 from⟨q0,NB.old rU Xc⟩);have UX:=Gh (show QI [] _ (w.heap.size+1) V A2 c2 K2 k2 from⟨q1,NB.old rV Xc⟩);have NZ:=Gh (show gf≠w.heap.size+1+1 by have:=hf.lt;omega);have HNE_gw:=Gh (show gw≠w.heap.size+1+1 by have:=bT.box.lt;omega);have HNE_gu:=Gh (show w.heap.size≠w.heap.size+1+1 by omega);have HNE_gv:=Gh (show w.heap.size+1≠w.heap.size+1+1 by omega);have RW:=Gh (show w.heap.size<=w.heap.size+1+1 by omega);unfold qm;clear Xc hf bT rU rV q0 q1 q2 hs;go_enter Tryz.func69,Tryz.ntmps69
 go_upto_region 1 with(fail)
 generalize ((w.alloc (.cells (Gx U A1 c1 K1 k1) 28)).alloc (.cells (Gx V A2 c2 K2 k2) 28)).alloc (.cells Gy 32)=W at*;have VE:=Gh (fun(X:World)(hX:Below W.heap.size W X)(r:Int)=>yi qT (by omega) (by omega) r (VD.out.old hX).tree);have RZ:=Gh (fun(X:World)(hX:Below W.heap.size W X)(r:Int)=>yi qU (by omega) (by omega) r (Sx.out.old hX).tree);have TM:=Gh (fun(X:World)(hX:Below W.heap.size W X)(r:Int)=>yi qV (by omega) (by omega) r (UX.out.old hX).tree);unfold qm at VE RZ TM;unfold zx at VE RZ TM;have KF:=Gh (fun(X:World)(hX:Below W.heap.size W X)=>(⟨(Ns.out.old hX).cell 0,(VD.out.old hX).box.cell 0,(VD.out.old hX).box.cell 1,(VD.out.old hX).box.cell 2,(VD.out.old hX).box.cell 3,(Sx.out.old hX).box.cell 0,(Sx.out.old hX).box.cell 1,(Sx.out.old hX).box.cell 2,(Sx.out.old hX).box.cell 3,(UX.out.old hX).box.cell 0,(UX.out.old hX).box.cell 1,(UX.out.old hX).box.cell 2,(UX.out.old hX).box.cell 3⟩:X.cell? ⟨gf,0,none⟩=some (.func (.func 22) #[] #[])/\Gd X gw (.int .i64 T.lv) (.bool T.ng) (.slice A3 T.ds.length c3) (.slice K3 T.ks.length k3) (Gd X w.heap.size (.int .i64 U.lv) (.bool U.ng) (.slice A1 U.ds.length c1) (.slice K1 U.ks.length k1) (Gc X (w.heap.size+1) (.int .i64 V.lv) (.bool V.ng) (.slice A2 V.ds.length c2) (.slice K2 V.ks.length k2)))));have hz:Below W.heap.size W W.drew:=(qt.drew _).below _;refine wp_region_held_drew (S:=fun w'=>w'.cell? ⟨gf,0,none⟩=some (.func (.func 22) #[] #[])/\Gd w' gw (.int .i64 T.lv) (.bool T.ng) (.slice A3 T.ds.length c3) (.slice K3 T.ks.length k3) (Gd w' w.heap.size (.int .i64 U.lv) (.bool U.ng) (.slice A1 U.ds.length c1) (.slice K1 U.ks.length k1) (Gc w' (w.heap.size+1) (.int .i64 V.lv) (.bool V.ng) (.slice A2 V.ds.length c2) (.slice K2 V.ks.length k2)))) (by kernel_rfl) (KF _ hz) (fun Xa=>?_);refine tk 0 ?_
 refine tk 1 ?_
 refine tk 3 ?_
 refine tk 4 ?_
 refine tk 8 ?_
 refine tk 9 ?_
 refine tk 11 ?_
 refine tk 12 ?_
 refine tk 14 ?_
 refine tk 15 ?_
 simp only[Act.put,sA,sB,sC];generalize W.drew=V0 at*;refine rd1 2 (fun P hP=>?_);go_simp
 go_at_call 22
 refine(RZ _ hz _).mono ?_;rintro e V2 ⟨kd1,rl1,ml1,mg1,MA1,mn1,mc1,MK1,mk1,mkc1,ML1,ll1,lc1,rfl,st⟩
 replace hz:=Gt hz st
 clear st;refine hP _ _ (KF _ hz) (fun Xa=>?_);clear hP P
 refine rd1 5 (fun P hP=>?_);go_simp
 go_at_call 22
 refine(VE _ hz _).mono ?_;rintro e V5 ⟨kd2,rl2,ml2,mg2,MA2,mn2,mc2,MK2,mk2,mkc2,ML2,ll2,lc2,rfl,st⟩
 replace hz:=Gt hz st
 clear st;refine hP _ _ (KF _ hz) (fun Xa=>?_);clear hP P
 refine rd1 6 (fun P hP=>?_);have st:=Gb V5 (.cells #[.int .i64 kd1,.int .i64 rl1,.int .i64 ml1,.bool mg1,.slice MA1 mn1 mc1,.slice MK1 mk1 mkc1,.slice ML1 ll1 lc1,.int .i64 kd2,.int .i64 rl2,.int .i64 ml2,.bool mg2,.slice MA2 mn2 mc2,.slice MK2 mk2 mkc2,.slice ML2 ll2 lc2] 32);go_simp
 replace hz:=Gt hz st
 clear st;generalize V5.alloc (.cells #[.int .i64 kd1,.int .i64 rl1,.int .i64 ml1,.bool mg1,.slice MA1 mn1 mc1,.slice MK1 mk1 mkc1,.slice ML1 ll1 lc1,.int .i64 kd2,.int .i64 rl2,.int .i64 ml2,.bool mg2,.slice MA2 mn2 mc2,.slice MK2 mk2 mkc2,.slice ML2 ll2 lc2] 32)=V6 at*;generalize V5.heap.size=gs6 at*;refine hP _ _ (KF _ hz) (fun Xa=>?_);clear hP P
 refine rd1 7 (fun P hP=>?_);go_simp
 go_at_call 39
 refine(zN _ _ _ _).mono ?_;rintro e V7 ⟨rfl,st⟩
 replace hz:=Gt hz st
 clear st;refine hP _ _ (KF _ hz) (fun Xa=>?_);clear hP P
 refine rd1 10 (fun P hP=>?_);go_simp
 go_at_call 22
 refine(TM _ hz _).mono ?_;rintro e V10 ⟨kd3,rl3,ml3,mg3,MA3,mn3,mc3,MK3,mk3,mkc3,ML3,ll3,lc3,rfl,st⟩
 replace hz:=Gt hz st
 clear st;refine hP _ _ (KF _ hz) (fun Xa=>?_);clear hP P
 refine rd1 13 (fun P hP=>?_);go_simp
 go_at_call 22
 refine(RZ _ hz _).mono ?_;rintro e V13 ⟨kd4,rl4,ml4,mg4,MA4,mn4,mc4,MK4,mk4,mkc4,ML4,ll4,lc4,rfl,st⟩
 replace hz:=Gt hz st
 clear st;refine hP _ _ (KF _ hz) (fun Xa=>?_);clear hP P
 refine rd1 16 (fun P hP=>?_);go_simp
 go_at_call 22
 refine(VE _ hz _).mono ?_;rintro e V16 ⟨kd5,rl5,ml5,mg5,MA5,mn5,mc5,MK5,mk5,mkc5,ML5,ll5,lc5,rfl,st⟩
 replace hz:=Gt hz st
 clear st;refine hP _ _ (KF _ hz) (fun Xa=>?_);clear hP P
 refine rd1 17 (fun P hP=>?_);have st:=Gb V16 (.cells #[.int .i64 kd4,.int .i64 rl4,.int .i64 ml4,.bool mg4,.slice MA4 mn4 mc4,.slice MK4 mk4 mkc4,.slice ML4 ll4 lc4,.int .i64 kd5,.int .i64 rl5,.int .i64 ml5,.bool mg5,.slice MA5 mn5 mc5,.slice MK5 mk5 mkc5,.slice ML5 ll5 lc5] 32);go_simp
 replace hz:=Gt hz st
 clear st;generalize V16.alloc (.cells #[.int .i64 kd4,.int .i64 rl4,.int .i64 ml4,.bool mg4,.slice MA4 mn4 mc4,.slice MK4 mk4 mkc4,.slice ML4 ll4 lc4,.int .i64 kd5,.int .i64 rl5,.int .i64 ml5,.bool mg5,.slice MA5 mn5 mc5,.slice MK5 mk5 mkc5,.slice ML5 ll5 lc5] 32)=V17 at*;generalize V16.heap.size=gs17 at*;refine hP _ _ (KF _ hz) (fun Xa=>?_);clear hP P
 refine rd1 18 (fun P hP=>?_);go_simp
 go_at_call 65
 refine(Zx _ _ _ _).mono ?_;rintro e V18 ⟨rfl,st⟩
 replace hz:=Gt hz st
 clear st;refine hP _ _ (KF _ hz) (fun Xa=>?_);clear hP P
 refine rd1 19 (fun P hP=>?_);have st:=Gb V18 (.cells #[.int .i64 kd3,.int .i64 rl3,.int .i64 ml3,.bool mg3,.slice MA3 mn3 mc3,.slice MK3 mk3 mkc3,.slice ML3 ll3 lc3,.int .i64 4,.int .i64 0,.int .i64 0,.bool false,.slice none 0 0,.slice none 0 0,.slice (some ⟨gs17,0,none⟩) 2 2] 32);go_simp
 replace hz:=Gt hz st
 clear st;generalize V18.alloc (.cells #[.int .i64 kd3,.int .i64 rl3,.int .i64 ml3,.bool mg3,.slice MA3 mn3 mc3,.slice MK3 mk3 mkc3,.slice ML3 ll3 lc3,.int .i64 4,.int .i64 0,.int .i64 0,.bool false,.slice none 0 0,.slice none 0 0,.slice (some ⟨gs17,0,none⟩) 2 2] 32)=V19 at*;generalize V18.heap.size=gs19 at*;refine hP _ _ (KF _ hz) (fun Xa=>?_);clear hP P
 refine rd1 20 (fun P hP=>?_);go_simp
 go_at_call 39
 refine(zN _ _ _ _).mono ?_;rintro e V20 ⟨rfl,st⟩
 replace hz:=Gt hz st
 clear st;refine hP _ _ (KF _ hz) (fun Xa=>?_);clear hP P
 refine rd1 21 (fun P hP=>?_);have st:=Gb V20 (.cells #[.int .i64 3,.int .i64 0,.int .i64 0,.bool false,.slice none 0 0,.slice none 0 0,.slice (some ⟨gs6,0,none⟩) 2 2,.int .i64 3,.int .i64 0,.int .i64 0,.bool false,.slice none 0 0,.slice none 0 0,.slice (some ⟨gs19,0,none⟩) 2 2] 32);go_simp
 replace hz:=Gt hz st
 clear st;generalize V20.alloc (.cells #[.int .i64 3,.int .i64 0,.int .i64 0,.bool false,.slice none 0 0,.slice none 0 0,.slice (some ⟨gs6,0,none⟩) 2 2,.int .i64 3,.int .i64 0,.int .i64 0,.bool false,.slice none 0 0,.slice none 0 0,.slice (some ⟨gs19,0,none⟩) 2 2] 32)=V21 at*;generalize V20.heap.size=gs21 at*;refine hP _ _ (KF _ hz) (fun Xa=>?_);clear hP P
 refine rd1 22 (fun P hP=>?_);go_simp
 go_at_call 65
 refine(Zx _ _ _ _).mono ?_;rintro e V22 ⟨rfl,st⟩
 replace hz:=Gt hz st
 clear st;refine hP _ _ (KF _ hz) (fun Xa=>?_);clear hP P
 refine rd1 23 (fun P hP=>?_);have Xg:=Gh (YY (XA.out.old hz) RW (Gt Xd hz) 4 0 0 false none 0 0 none 0 0 (some ⟨gs21,0,none⟩) 2 2);have UN:=Gh (⟨((Ns.out.old hz).far7 NZ (.int .i64 4) (.int .i64 0) (.int .i64 0) (.bool false) (.slice none 0 0) (.slice none 0 0) (.slice (some ⟨gs21,0,none⟩) 2 2)).cell 0,((VD.out.old hz).box.far7 HNE_gw (.int .i64 4) (.int .i64 0) (.int .i64 0) (.bool false) (.slice none 0 0) (.slice none 0 0) (.slice (some ⟨gs21,0,none⟩) 2 2)).cell 0,((VD.out.old hz).box.far7 HNE_gw (.int .i64 4) (.int .i64 0) (.int .i64 0) (.bool false) (.slice none 0 0) (.slice none 0 0) (.slice (some ⟨gs21,0,none⟩) 2 2)).cell 1,((VD.out.old hz).box.far7 HNE_gw (.int .i64 4) (.int .i64 0) (.int .i64 0) (.bool false) (.slice none 0 0) (.slice none 0 0) (.slice (some ⟨gs21,0,none⟩) 2 2)).cell 2,((VD.out.old hz).box.far7 HNE_gw (.int .i64 4) (.int .i64 0) (.int .i64 0) (.bool false) (.slice none 0 0) (.slice none 0 0) (.slice (some ⟨gs21,0,none⟩) 2 2)).cell 3,((Sx.out.old hz).box.far7 HNE_gu (.int .i64 4) (.int .i64 0) (.int .i64 0) (.bool false) (.slice none 0 0) (.slice none 0 0) (.slice (some ⟨gs21,0,none⟩) 2 2)).cell 0,((Sx.out.old hz).box.far7 HNE_gu (.int .i64 4) (.int .i64 0) (.int .i64 0) (.bool false) (.slice none 0 0) (.slice none 0 0) (.slice (some ⟨gs21,0,none⟩) 2 2)).cell 1,((Sx.out.old hz).box.far7 HNE_gu (.int .i64 4) (.int .i64 0) (.int .i64 0) (.bool false) (.slice none 0 0) (.slice none 0 0) (.slice (some ⟨gs21,0,none⟩) 2 2)).cell 2,((Sx.out.old hz).box.far7 HNE_gu (.int .i64 4) (.int .i64 0) (.int .i64 0) (.bool false) (.slice none 0 0) (.slice none 0 0) (.slice (some ⟨gs21,0,none⟩) 2 2)).cell 3,((UX.out.old hz).box.far7 HNE_gv (.int .i64 4) (.int .i64 0) (.int .i64 0) (.bool false) (.slice none 0 0) (.slice none 0 0) (.slice (some ⟨gs21,0,none⟩) 2 2)).cell 0,((UX.out.old hz).box.far7 HNE_gv (.int .i64 4) (.int .i64 0) (.int .i64 0) (.bool false) (.slice none 0 0) (.slice none 0 0) (.slice (some ⟨gs21,0,none⟩) 2 2)).cell 1,((UX.out.old hz).box.far7 HNE_gv (.int .i64 4) (.int .i64 0) (.int .i64 0) (.bool false) (.slice none 0 0) (.slice none 0 0) (.slice (some ⟨gs21,0,none⟩) 2 2)).cell 2,((UX.out.old hz).box.far7 HNE_gv (.int .i64 4) (.int .i64 0) (.int .i64 0) (.bool false) (.slice none 0 0) (.slice none 0 0) (.slice (some ⟨gs21,0,none⟩) 2 2)).cell 3⟩:(set7 V22 (w.heap.size+1+1) (.int .i64 4) (.int .i64 0) (.int .i64 0) (.bool false) (.slice none 0 0) (.slice none 0 0) (.slice (some ⟨gs21,0,none⟩) 2 2)).cell? ⟨gf,0,none⟩=some (.func (.func 22) #[] #[])/\(set7 V22 (w.heap.size+1+1) (.int .i64 4) (.int .i64 0) (.int .i64 0) (.bool false) (.slice none 0 0) (.slice none 0 0) (.slice (some ⟨gs21,0,none⟩) 2 2)).cell? ⟨gw,0,none⟩=some (.int .i64 T.lv)/\(set7 V22 (w.heap.size+1+1) (.int .i64 4) (.int .i64 0) (.int .i64 0) (.bool false) (.slice none 0 0) (.slice none 0 0) (.slice (some ⟨gs21,0,none⟩) 2 2)).cell? ⟨gw,1,none⟩=some (.bool T.ng)/\(set7 V22 (w.heap.size+1+1) (.int .i64 4) (.int .i64 0) (.int .i64 0) (.bool false) (.slice none 0 0) (.slice none 0 0) (.slice (some ⟨gs21,0,none⟩) 2 2)).cell? ⟨gw,2,none⟩=some (.slice A3 T.ds.length c3)/\(set7 V22 (w.heap.size+1+1) (.int .i64 4) (.int .i64 0) (.int .i64 0) (.bool false) (.slice none 0 0) (.slice none 0 0) (.slice (some ⟨gs21,0,none⟩) 2 2)).cell? ⟨gw,3,none⟩=some (.slice K3 T.ks.length k3)/\(set7 V22 (w.heap.size+1+1) (.int .i64 4) (.int .i64 0) (.int .i64 0) (.bool false) (.slice none 0 0) (.slice none 0 0) (.slice (some ⟨gs21,0,none⟩) 2 2)).cell? ⟨w.heap.size,0,none⟩=some (.int .i64 U.lv)/\(set7 V22 (w.heap.size+1+1) (.int .i64 4) (.int .i64 0) (.int .i64 0) (.bool false) (.slice none 0 0) (.slice none 0 0) (.slice (some ⟨gs21,0,none⟩) 2 2)).cell? ⟨w.heap.size,1,none⟩=some (.bool U.ng)/\(set7 V22 (w.heap.size+1+1) (.int .i64 4) (.int .i64 0) (.int .i64 0) (.bool false) (.slice none 0 0) (.slice none 0 0) (.slice (some ⟨gs21,0,none⟩) 2 2)).cell? ⟨w.heap.size,2,none⟩=some (.slice A1 U.ds.length c1)/\(set7 V22 (w.heap.size+1+1) (.int .i64 4) (.int .i64 0) (.int .i64 0) (.bool false) (.slice none 0 0) (.slice none 0 0) (.slice (some ⟨gs21,0,none⟩) 2 2)).cell? ⟨w.heap.size,3,none⟩=some (.slice K1 U.ks.length k1)/\(set7 V22 (w.heap.size+1+1) (.int .i64 4) (.int .i64 0) (.int .i64 0) (.bool false) (.slice none 0 0) (.slice none 0 0) (.slice (some ⟨gs21,0,none⟩) 2 2)).cell? ⟨w.heap.size+1,0,none⟩=some (.int .i64 V.lv)/\(set7 V22 (w.heap.size+1+1) (.int .i64 4) (.int .i64 0) (.int .i64 0) (.bool false) (.slice none 0 0) (.slice none 0 0) (.slice (some ⟨gs21,0,none⟩) 2 2)).cell? ⟨w.heap.size+1,1,none⟩=some (.bool V.ng)/\(set7 V22 (w.heap.size+1+1) (.int .i64 4) (.int .i64 0) (.int .i64 0) (.bool false) (.slice none 0 0) (.slice none 0 0) (.slice (some ⟨gs21,0,none⟩) 2 2)).cell? ⟨w.heap.size+1,2,none⟩=some (.slice A2 V.ds.length c2)/\(set7 V22 (w.heap.size+1+1) (.int .i64 4) (.int .i64 0) (.int .i64 0) (.bool false) (.slice none 0 0) (.slice none 0 0) (.slice (some ⟨gs21,0,none⟩) 2 2)).cell? ⟨w.heap.size+1,3,none⟩=some (.slice K2 V.ks.length k2));unfold set7 at Xg UN;have kk:=XA.out.old hz;obtain⟨d0,d1,d2,d3⟩:=G4 kk;have d4:=kk.cell 4;have d5:=kk.cell 5;have d6:=kk.cell 6;have f0:=kk.frozen 0;have f1:=kk.frozen 1;have f2:=kk.frozen 2;have f3:=kk.frozen 3;have f4:=kk.frozen 4;have f5:=kk.frozen 5;have f6:=kk.frozen 6;have zl:=kk.lt;clear kk;go_simp
 refine hP _ _ (UN) (fun Xa=>?_);clear hP P
 refine wpAnyH_done (by kernel_rfl) ?_ _;clear Xa d0 d1 d2 d3 d4 d5 d6 f0 f1 f2 f3 f4 f5 f6 zl KF UN;go_wp2_with fail
 exact qo Tryz.results69 rfl rfl Xg.out.1 Tryz.underlying32 rfl Tryz.sizeMat Xg.out.2
structure QV (d:Nat) (M:MX):Prop where
 ks:M.ks=[]
 kd:M.kd=0∨M.kd=1∨M.kd=2
 rl:0<=M.rl/\M.rl<=6
 can:qv M.p=true
 lw:qN d 8 M.p
 dig:qF M.p
theorem qjJ{d:Nat}{t:RP}(h:qv t=true)(hw:qN d 8 t):yz d t:=by
 have h1:=qJ h;have h2:=zC t h;have h3:=qbV (n:=8) (by omega) t h hw;have h4:=Q5 (n:=8) (by omega) (show t.lv.toNat<=4 by omega);have h5:Jg 8 4=4681:=by decide
 exact⟨by omega,hw.few (by omega),by omega⟩
theorem QV.tf(d:Nat)(b:Bool):QV d (tfM b):=by
 have hz:(tfM b).p=qh:=by cases b<;>rfl
 refine⟨by cases b<;>rfl,by cases b<;>simp[tfM,MX.kd],by cases b<;>simp[tfM,MX.rl],?_,?_,?_⟩
 ·rw[hz];decide
 ·rw[hz];exact qN.zero _ _
 ·rw[hz];exact qF.zero
theorem AtM.lfg{d:Nat}{r:Int}{c:RP}{M:MX}(hc:qv c=true)(hw:qN d 8 c)(DC:qF c)(h:AtM r c M):QV (d+1) M:=by
 rcases h with⟨_,rfl⟩|⟨_,T,hT',rfl⟩
 ·exact QV.tf _ _
 ·obtain⟨h1,h2⟩:=qk8 hc hw (by omega) (qjJ hc hw) DC hT';have hb:∀b,(b=1∨b=2∨b=3∨b=4∨b=5∨b=6)->1<=QA b/\QA b<=6:=fun b hb=>⟨(JQ hb).1,(JQ hb).2.1⟩;have h3:=Jy r;have h4:1<=QA (if ldT (qn c)<0 then YQ (JU r)else JU r)/\QA (if ldT (qn c)<0 then YQ (JU r)else JU r)<=6:=by
   split
   ·exact hb _ (qbu h3)
   ·exact hb _ h3
  obtain⟨P,hP,Tl,rfl⟩:=hT';exact⟨rfl,.inr (.inr rfl),⟨by have:=h4.1;show 0<=QA _;omega,h4.2⟩,h1,h2,Yd _ _⟩
theorem qdw(b:Bool)(kd:Int)(EJ:kd=(tfM b).kd)(x1 x2 x3 x4 x5 x6:Value)(w:World):Calls Tryz.prog 38 #[.agg #[.int .i64 kd,x1,x2,x3,x4,x5,x6]] w (zM (tfM b) w):=by
 obtain⟨Xb,k0,k1,hs⟩:=qR w 32 32 #[.int .i64 kd,x1,x2,x3,x4,x5,x6] Gy;have Xd:=Gh Xb;have Xu:=Gh k1;have XH:=Gh (fun(W:World)=>ZV b W);have c0:=k0.cell 0;have DM:=Gh EJ;clear k0 k1 Xb hs EJ;go_enter Tryz.func38,Tryz.ntmps38
 go_upto_region 1 with(fail)
 generalize (w.alloc (.cells #[.int .i64 kd,x1,x2,x3,x4,x5,x6] 32)).alloc (.cells Gy 32)=W at*
 cases b
 case false=>
  obtain rfl:kd=0:=DM.out;have Uj:=Gh (show Calls Tryz.prog 49 #[.bool false] W (fun e w'=>e= .returned (.agg Gy)/\Below W.heap.size W w')from XH W);clear XH DM;go_wp2_with fail
  refine Uj.out.mono ?_;rintro e w1 ⟨rfl,Xp⟩;have k1:=Xu.out.old Xp;have XV:=k1.lt;have S8:=Gt Xd Xp;obtain⟨d0,d1,d2,d3⟩:=G4 k1;have d4:=k1.cell 4;have d5:=k1.cell 5;have d6:=k1.cell 6;have f0:=k1.frozen 0;have f1:=k1.frozen 1;have f2:=k1.frozen 2;have f3:=k1.frozen 3;have f4:=k1.frozen 4;have f5:=k1.frozen 5;have f6:=k1.frozen 6;have z0:=k1.lt;have Xg:=Gh (show qf (set7 w1 (w.heap.size+1) (.int .i64 0) (.int .i64 0) (.int .i64 0) (.bool false) (.slice none 0 0) (.slice none 0 0) (.slice none 0 0)) (w.heap.size+1) 32 Gy/\zM (tfM false) w (.returned (.agg Gy)) (set7 w1 (w.heap.size+1) (.int .i64 0) (.int .i64 0) (.int .i64 0) (.bool false) (.slice none 0 0) (.slice none 0 0) (.slice none 0 0))from Jz (w:=w) (M:=tfM false) (A:=none) (c:=0) (K:=none) (kc:=0) rfl k1 (base:=w1.heap.size+1) RT.zero (by omega) (Nat.le_succ _) S8);clear k1 Xp Xd Xu c0 XV S8 Uj;go_wp2_with fail
  exact qo Tryz.results38 rfl rfl Xg.out.1 Tryz.underlying32 rfl Tryz.sizeMat Xg.out.2
 case true=>
  obtain rfl:kd=1:=DM.out;have Uj:=Gh (show Calls Tryz.prog 49 #[.bool true] W (fun e w'=>e= .returned (.agg #[.int .i64 1,.int .i64 0,.int .i64 0,.bool false,.slice none 0 0,.slice none 0 0,.slice none 0 0])/\Below W.heap.size W w')from XH W);clear XH DM;go_wp2_with fail
  refine Uj.out.mono ?_;rintro e w1 ⟨rfl,Xp⟩;have k1:=Xu.out.old Xp;have XV:=k1.lt;have S8:=Gt Xd Xp;obtain⟨d0,d1,d2,d3⟩:=G4 k1;have d4:=k1.cell 4;have d5:=k1.cell 5;have d6:=k1.cell 6;have f0:=k1.frozen 0;have f1:=k1.frozen 1;have f2:=k1.frozen 2;have f3:=k1.frozen 3;have f4:=k1.frozen 4;have f5:=k1.frozen 5;have f6:=k1.frozen 6;have z0:=k1.lt;have Xg:=Gh (show qf (set7 w1 (w.heap.size+1) (.int .i64 1) (.int .i64 0) (.int .i64 0) (.bool false) (.slice none 0 0) (.slice none 0 0) (.slice none 0 0)) (w.heap.size+1) 32 #[.int .i64 1,.int .i64 0,.int .i64 0,.bool false,.slice none 0 0,.slice none 0 0,.slice none 0 0]/\zM (tfM true) w (.returned (.agg #[.int .i64 1,.int .i64 0,.int .i64 0,.bool false,.slice none 0 0,.slice none 0 0,.slice none 0 0])) (set7 w1 (w.heap.size+1) (.int .i64 1) (.int .i64 0) (.int .i64 0) (.bool false) (.slice none 0 0) (.slice none 0 0) (.slice none 0 0))from Jz (w:=w) (M:=tfM true) (A:=none) (c:=0) (K:=none) (kc:=0) rfl k1 (base:=w1.heap.size+1) RT.zero (by omega) (Nat.le_succ _) S8);clear k1 Xp Xd Xu c0 XV S8 Uj;go_wp2_with fail
  exact qo Tryz.results38 rfl rfl Xg.out.1 Tryz.underlying32 rfl Tryz.sizeMat Xg.out.2
theorem qke(d:Nat)(hd:d<=300)(M:MX)(hM:QV d M)(A:Oa)(c:Nat)(K:Oa)(kc:Nat)(B:Nat)(w:World)(hB:B<=w.heap.size)(h:RV w (· <B) M.p (qe M.p A c K kc)):
 Calls Tryz.prog 38 #[.agg #[.int .i64 M.kd,.int .i64 M.rl,.int .i64 M.p.lv,.bool M.p.ng,.slice A M.p.ds.length c,.slice K M.p.ks.length kc,.slice none 0 0]] w fun e w'=>∃M',QV (d+1) M'/\zM M' w e w':=by
 rcases hM.kd with h0|h1|h2
 ·refine(qdw false M.kd h0 _ _ _ _ _ _ w).mono ?_;rintro e w' hr;exact⟨_,QV.tf _ _,hr⟩
 ·refine(qdw true M.kd h1 _ _ _ _ _ _ w).mono ?_;rintro e w' hr;exact⟨_,QV.tf _ _,hr⟩
 ·rw[h2];have hs:qn M.p=M.p:=qQ hM.can;refine(qjD d (by omega) M.rl M.p (qjJ hM.can hM.lw) (by rw[hs];exact qN.sm (by omega) (by omega) _ hM.lw) A c K kc B w hB h).mono ?_;rintro e w' ⟨M',hA,hr⟩;exact⟨M',hA.lfg hM.can hM.lw hM.dig,hr⟩
theorem qG.join{w:World}{S:Nat->Prop}:∀{ts us:List RP} {rows rows':List (List Value)},qG w S ts rows->qG w S us rows'->qG w S (ts++us) (rows++rows')
 |[],us,rows,rows',h,h'=>by
  unfold qG at h;subst h;exact h'
 |t::ts,us,rows,rows',h,h'=>by
  unfold qG at h;obtain⟨vs,r,rfl,h1,h2⟩:=h;rw[List.cons_append,List.cons_append];unfold qG;exact⟨vs,_,rfl,h1,qG.join h2 h'⟩
def NO(v:Value)(gs:List Nat)(W:World)(b:Nat):Prop:=(b<W.heap.size/\b∉gs)/\v.ownBlock≠some b
theorem qfZ{w w':World}{b:Nat}(h:w'.heap[b]? =w.heap[b]?)(o:Nat):w'.cell? ⟨b,o,none⟩=w.cell? ⟨b,o,none⟩:=by
 unfold World.cell?;simp[h]
section
variable {w W W' W2:World} {gs:List Nat} {g g0 gT gR base b0 B n:Nat} {T T':RP} {ts:List RP} {v v':Value} {vs us:List Value} {pcs:Array Value} {A K A' K':Oa} {c kc c' kc':Nat} {rows:List (List Value)}
theorem NO.nb(h:RV W (NO v gs W) T vs):RV W (NB gs W) T vs:=RV.mono (fun _ k=>k.1) _ _ h
theorem NO.keep(hb:Below W.heap.size W W'):(∀b,NO v gs W b->∀o,W'.cell? ⟨b,o,none⟩=W.cell? ⟨b,o,none⟩)/\∀b,NO v gs W b->NO v gs W' b:=
 ⟨fun b k o=>hb.cell (p:=⟨b,o,none⟩) k.1.1,fun _ k=>⟨⟨Gm k.1.1 hb.size,k.1.2⟩,k.2⟩⟩
theorem NO.keep4(hg:g∈gs)(x y z u:Value):(∀b,NO v gs W b->∀o,(set4 W g 0 x y z u).cell? ⟨b,o,none⟩=W.cell? ⟨b,o,none⟩)/\∀b,NO v gs W b->NO v gs (set4 W g 0 x y z u) b:=
 ⟨fun b k o=>set4_far W (fun(e:g=b)=>k.1.2 (by rw[<-e];exact hg)) 0 o x y z u,fun _ k=>⟨⟨by rw[jP];exact k.1.1,k.1.2⟩,k.2⟩⟩
theorem NO.keepG(hg:W.grownBy W2 v.ownBlock)(VI:v'.ownBlock=v.ownBlock∨∃g,v'.ownBlock=some g/\W.heap.size<=g):(∀b,NO v gs W b->∀o,W2.cell? ⟨b,o,none⟩=W.cell? ⟨b,o,none⟩)/\∀b,NO v gs W b->NO v' gs W2 b:=by
 refine⟨fun b k o=>qfZ (hg.block b k.1.1 fun e=>k.2 e.symm) o,fun b k=>⟨⟨Gm k.1.1 hg.size,k.1.2⟩,fun e=>?_⟩⟩;rcases VI with h|⟨g,h,Vo⟩
 ·exact k.2 (h▸e)
 ·rw[h]at e
  injection e with e
  have:=k.1.1;omega
theorem NO.of_rb(h:RB W b0 T vs)(UA:∀x∈gs,x<b0/\∃cs,qf W x 28 cs)(hv:∀x,v.ownBlock=some x->x<b0/\∃cs,qf W x 28 cs):RV W (NO v gs W) T vs:=
 RV.mono (fun b k=>⟨⟨k.lt,fun e=>by
  obtain⟨h1,cs,h2⟩:=UA _ e;exact yB.ne (W:=W) (k.mono h1) h2 rfl⟩,fun e=>by
  obtain⟨h1,cs,h2⟩:=hv _ e;exact yB.ne (W:=W) (k.mono h1) h2 rfl⟩) _ _ h
theorem NO.low(h:RV W (· <B) T vs)(hB:∀x∈gs,B<=x)(hv:∀x,v.ownBlock=some x->B<=x)(hW:B<=W.heap.size):RV W (NO v gs W) T vs:=
 RV.mono (fun b (k:b<B)=>⟨⟨Gm k hW,fun e=>by have:=hB _ e;omega⟩,fun e=>by have:=hv _ e;omega⟩) _ _ h
structure AfI (w W:World) (g0 gT gR base:Nat) (pcs:Array Value) (v:Value) (ts:List RP) (T:RP) (A:Oa) (c:Nat) (K:Oa) (kc:Nat):Prop where
 bel:Below w.heap.size w W
 lo:w.heap.size<=g0/\g0<base/\gT<base/\gR<base/\gT≠g0/\gR≠g0
 pt:qf W gT 34 pcs
 re:qf W gR 32 #[.int .i64 0,.int .i64 0,.int .i64 0,.bool false,.slice none 0 0,.slice none 0 0,.slice none 0 0]
 box:qf W g0 28 #[.int .i64 T.lv,.bool T.ng,.slice A T.ds.length c,.slice K T.ks.length kc]
 tree:RV W (NO v [g0] W) T (qe T A c K kc)
 row:∃rows,W.ownsRow base 28 4 v ts.length rows.flatten/\qG W (NO v [g0] W) ts rows
theorem AfI.old(h:AfI w W g0 gT gR base pcs v ts T A c K kc)(hb:Below W.heap.size W W'):AfI w W' g0 gT gR base pcs v ts T A c K kc:=by
 obtain⟨rows,h1,h2⟩:=h.row;obtain⟨k1,k2⟩:=NO.keep (v:=v) (gs:=[g0]) hb;exact⟨Gt h.bel hb,h.lo,h.pt.old hb,h.re.old hb,h.box.old hb,RV.mono k2 _ _ (RV.keep k1 _ _ h.tree),rows,jB h1 hb,qG.mono k2 _ _ (qG.keep k1 _ _ h2)⟩
theorem qiL{xs:List Value}{e:TypeId}{size:Nat}(h:W.ownsRow base e size v n xs)(hg:g<base)(x y z u:Value):(set4 W g 0 x y z u).ownsRow base e size v n xs:=by
 unfold set4;exact ze (ze (ze (ze h hg _) hg _) hg _) hg _
theorem AfI.put(h:AfI w W g0 gT gR base pcs v ts T A c K kc)(ht:RB W b0 T' (qe T' A' c' K' kc'))(h0:g0<b0)(hv:∀x,v.ownBlock=some x->x<b0):AfI w (set4 W g0 0 (.int .i64 T'.lv) (.bool T'.ng) (.slice A' T'.ds.length c') (.slice K' T'.ks.length kc')) g0 gT gR base pcs v ts T' A' c' K' kc':=by
 obtain⟨rows,h1,h2⟩:=h.row;obtain⟨k1,k2⟩:=NO.keep4 (v:=v) (gs:=[g0]) (W:=W) (g:=g0) (by simp) (.int .i64 T'.lv) (.bool T'.ng) (.slice A' T'.ds.length c') (.slice K' T'.ks.length kc');obtain⟨l1,l2,l3,l4,l5,l6⟩:=h.lo;obtain⟨s1,_,_⟩:=jm (k:=0) h.box (.int .i64 T'.lv) (.bool T'.ng) (.slice A' T'.ds.length c') (.slice K' T'.ks.length kc');have hn:RV W (NO v [g0] W) T' (qe T' A' c' K' kc'):=NO.of_rb ht (fun x hx=>by rw[List.mem_singleton]at hx;subst hx;exact⟨h0,_,h.box⟩) fun x hx=>by
  refine⟨hv x hx,?_⟩;rcases h1.2 with⟨rfl,_⟩|⟨g,cap,cur,rfl,_,hh,_⟩
  ·cases hx
  ·injection hx with hx;subst hx;exact⟨cur,hh⟩
 exact⟨qy h.bel l1 _ _ _ _,h.lo,h.pt.set4_far l5 0 _ _ _ _,h.re.set4_far l6 0 _ _ _ _,s1,RV.mono k2 _ _ (RV.keep k1 _ _ hn),rows,qiL h1 l2 _ _ _ _,qG.mono k2 _ _ (qG.keep k1 _ _ h2)⟩
theorem AfI.push(h:AfI w W g0 gT gR base pcs v ts T A c K kc)(hr:W.ownsRow base 28 4 v ts.length rows.flatten)(hm:qG W (NO v [g0] W) ts rows)(hg:W.grownBy W2 v.ownBlock)(ho:W2.ownsRow base 28 4 v' (ts.length+1) (rows.flatten++qe T A c K kc))
 (VI:v'.ownBlock=v.ownBlock∨∃g,v'.ownBlock=some g/\W.heap.size<=g):AfI w W2 g0 gT gR base pcs v' (ts++[T]) T A c K kc:=by
 obtain⟨l1,l2,l3,l4,l5,l6⟩:=h.lo;obtain⟨k1,k2⟩:=NO.keepG (v:=v) (v':=v') (gs:=[g0]) hg VI;have DA:∀b,v.ownBlock=some b->base<=b:=fun b e=>jY hr e;refine⟨h.bel.trans ⟨hg.os,hg.tape,hg.output,hg.size,fun k hk=>hg.block k (by have:=h.bel.size;omega) (fun e=>by have:=DA k e.symm;omega)⟩,h.lo,h.pt.grown hg (fun e=>by have:=DA _ e.symm;omega),h.re.grown hg (fun e=>by have:=DA _ e.symm;omega),h.box.grown hg (fun e=>by have:=DA _ e.symm;omega),RV.mono k2 _ _ (RV.keep k1 _ _ h.tree),rows++[qe T A c K kc],?_,?_⟩
 ·rw[List.flatten_append,List.length_append,List.flatten_singleton];exact ho
 ·exact qG.mono k2 _ _ (qG.keep k1 _ _ (qG.join hm (by unfold qG;exact⟨_,[],rfl,h.tree,by unfold qG;rfl⟩)))
theorem AfI.ins(h:AfI w W g0 gT gR base pcs v ts T A c K kc):∃P cp,v= .slice P ts.length cp/\ts.length<=cp/\jT W W.heap.size P ts:=by
 obtain⟨rows,h1,h2⟩:=h.row;have hm:qG W (· <W.heap.size) ts rows:=qG.mono (fun b k=>k.1.1) _ _ h2;by_cases h0:ts.length=0
 ·obtain⟨A,c,rfl⟩:=jd h1;exact⟨A,c,rfl,by omega,rows,⟨h1.1,fun hp=>absurd hp (by omega)⟩,hm⟩
 ·obtain⟨g',lc,rfl,hb,Xi⟩:=h1.form (by omega);obtain⟨cur,hk,_,hc,hx⟩:=own_blk h1;exact⟨_,lc,rfl,hc,rows,⟨h1.1,fun _=>⟨g',0,rfl,hk.lt,fun j x hj=>by rw[Nat.zero_add,hk.cell];exact hx j x hj⟩⟩,hm⟩
end
