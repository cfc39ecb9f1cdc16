import Derived.Laws.EntriesVeiled
import Derived.Test.YtflikmojaidhhaaGreatDoorPq21
import Derived.Test.YtflikmojaidhhaaGreatDoorPq24
import Derived.Test.YtflikmojaidhhaaGreatDoorPqA
namespace Go.Proofs.YtflikmojaidhhaaGreatDoor
open Go.RowKit
theorem yG{X:World}{g:Nat}{cs:Array Value}(h:qf X g 28 cs):∀x∈[g],∃cs,qf X x 28 cs:=fun x hx=>by
 rw[List.mem_singleton]at hx;subst hx;exact⟨_,h⟩
theorem qf4{F:World->Nat->RP->Oa->Nat->Oa->Nat->RP->Oa->Nat->Oa->Nat->RP->Oa->Nat->Oa->Nat->RP->Oa->Nat->Oa->Nat->Prop}{G:Prop}(I:World->Nat->RP->Oa->Nat->Oa->Nat->Prop)
 (h1:(∀V g T1 A1 c1 K1 k1 T2 A2 c2 K2 k2 T3 A3 c3 K3 k3 T4 A4 c4 K4 k4,I V g T4 A4 c4 K4 k4->F V g T1 A1 c1 K1 k1 T2 A2 c2 K2 k2 T3 A3 c3 K3 k3 T4 A4 c4 K4 k4)->G)(h2:∀V g T1 A1 c1 K1 k1 T2 A2 c2 K2 k2 T3 A3 c3 K3 k3 T4 A4 c4 K4 k4,I V g T4 A4 c4 K4 k4->F V g T1 A1 c1 K1 k1 T2 A2 c2 K2 k2 T3 A3 c3 K3 k3 T4 A4 c4 K4 k4):G:=h1 h2
set_option maxHeartbeats 4000000
set_option maxRecDepth 100000
theorem qie(k:Int)(Xx:0<k)(Xj:k<=4)(rel:Int)(hrel:rel=1∨rel=3)(t:RP)(hf:yz 400 t)(Ul:yz 400 (qn t))(XE:∀c∈qD k t,Vp k 20 3 c)(XM:(qD k t).length<=4)(pa pb pc pd:RP)(qa:Qp k 5 2 pa)(qb:Qp k 5 2 pb)(qc:Qp k 5 2 pc)(qd:Qp k 5 2 pd)(pcs:Array Value)(Sc:pcs.size=24)
 (A:Oa)(c:Nat)(K:Oa)(kc B:Nat)(w:World)(hB:B<=w.heap.size)(h:RV w (· <B) t (qe t A c K kc))(ha:Ju w B pcs 1 pa)(hb:Ju w B pcs 5 pb)(hc:Ju w B pcs 9 pc)(hd:Ju w B pcs 13 pd):
 Calls Tryz.prog 27 #[qm t A c K kc,.int .i64 rel,.int .i64 k,.agg pcs] w (zx w):=by
 obtain⟨Xb,k0,k1,k2,hs⟩:=jN w 28 34 32 (Gx t A c K kc) pcs Gy;have Va:∀(o:Nat)(q:RP)(W:World),Below w.heap.size w W->Ju w B pcs o q->Ju W W.heap.size pcs o q:=fun o q W hW h=>by
  obtain⟨A,c,K,kc,h0,h1,h2,h3,h4⟩:=h;exact⟨A,c,K,kc,h0,h1,h2,h3,(h4.below (hW.mono hB)).more (Gl hB hW.size)⟩
 have Ea:=Gh (fun(W:World)(hW:Below w.heap.size w W)=>qgr k Xx Xj t hf Ul XE XM pa pb pc pd qa qb qc qd pcs A c K kc W.heap.size W (Gr _) ((h.below (hW.mono hB)).more (Gl hB hW.size)) (Va _ _ W hW ha) (Va _ _ W hW hb) (Va _ _ W hW hc) (Va _ _ W hW hd));obtain⟨Ac,cc,Kc,kcc,c0,c1,c2,c3,EG⟩:=hc;have VC:=Gh (And.intro c0 (And.intro c1 (And.intro c2 c3)));have Ba:=Gh (fun(gs:List Nat)(W:World)(hW:Below w.heap.size w W)(UA:∀x∈gs,w.heap.size<=x)=>NB.low (EG.below (hW.mono hB)) (fun x hx=>Gl hB (UA x hx)) (Gl hB hW.size));have Xd:=Gh Xb;have Xo:=Gh k0;have Xu:=Gh k1;have XA:=Gh (show qf _ (w.heap.size+1+1) 32 _ from k2);have VF:=Gh Sc;unfold qm at Ea ⊢;clear EG c0 c1 c2 c3 h hf Ul hB Xb k2 XE XM ha hb hd Va hs Sc;go_enter Tryz.func27,Tryz.ntmps27
 go_upto_region 1 with(fail)
 generalize ((w.alloc (.cells (Gx t A c K kc) 28)).alloc (.cells pcs 34)).alloc (.cells Gy 32)=W at*;apply wp_region_lit;refine wpList_load_row rfl _ _ rfl w.heap.size rfl _ _ (0,0) _ k0 Tryz.underlying28 rfl (by kernel_rfl) ?_;simp only[Act.put,sA,sB,sC];refine wpList_plain rfl fun K hK=>?_;go_simp
 refine hK _ _ ?_;clear hK K;refine wpList_load_row rfl _ _ rfl (w.heap.size+1) rfl _ _ (0,0) _ k1 Tryz.underlying34 rfl (by rw[VF.out];kernel_rfl) ?_;simp only[Act.put,sA,sB,sC];refine wpList_plain rfl fun K hK=>?_;go_simp
 go_at_call 67
 refine(Ea W Xd).mono ?_;rintro e w1 ⟨U,V,A5,c5,K5,k5,A6,c6,K6,k6,qU,qV,rfl,rU,rV,Xp⟩;clear k0 k1 Ea;refine hK _ _ ?_;clear hK K;unfold qm;go_upto_region 2 with(fail)
 have HS:=Gh (show Below w1.heap.size w1 ((w1.alloc (.cells (Gx U A5 c5 K5 k5) 28)).alloc (.cells (Gx V A6 c6 K6 k6) 28))/\qf ((w1.alloc (.cells (Gx U A5 c5 K5 k5) 28)).alloc (.cells (Gx V A6 c6 K6 k6) 28)) w1.heap.size 28 (Gx U A5 c5 K5 k5)/\qf ((w1.alloc (.cells (Gx U A5 c5 K5 k5) 28)).alloc (.cells (Gx V A6 c6 K6 k6) 28)) (w1.heap.size+1) 28 (Gx V A6 c6 K6 k6)from⟨(qR w1 28 28 (Gx U A5 c5 K5 k5) (Gx V A6 c6 K6 k6)).1,(qR w1 28 28 (Gx U A5 c5 K5 k5) (Gx V A6 c6 K6 k6)).2.1,(qR w1 28 28 (Gx U A5 c5 K5 k5) (Gx V A6 c6 K6 k6)).2.2.1⟩);generalize (w1.alloc (.cells (Gx U A5 c5 K5 k5) 28)).alloc (.cells (Gx V A6 c6 K6 k6) 28)=W2 at*;obtain⟨Xf,u0,v0⟩:=HS.out;have OW:=Gt Xp Xf;have nU:RV W2 (NB [] W2) U (qe U A5 c5 K5 k5):=NB.low (rU.below Xf) (fun x hx=>by simp at hx) Xf.size;have nV:RV W2 (NB [] W2) V (qe V A6 c6 K6 k6):=NB.low (rV.below Xf) (fun x hx=>by simp at hx) Xf.size;have HU:=Gh (show QI [] W2 w1.heap.size U A5 c5 K5 k5 from⟨u0,nU⟩);have HV:=Gh (show QI [] W2 (w1.heap.size+1) V A6 c6 K6 k6 from⟨v0,nV⟩);have Xh:=Gh (Gt Xd OW);have HT:=Gh (Xu.out.old OW);have HR:=Gh (XA.out.old OW);have TE:w.heap.size+1+1<w1.heap.size:=by have:=(XA.out.old Xp).lt;omega
 have HZ:=Gh (JJ 400 (by omega) V qV.fit A6 c6 K6 k6 W2.heap.size W2 (Gr _) (NB.all nV));obtain⟨y0,y1,y2,y3⟩:=G4 v0;unfold qm at HZ;clear HS Xf u0 v0 OW nU nV rU rV Xp Xo Xu XA Xd;generalize EM:w1.heap.size=gu at*;generalize LS:gu+1=gv at*;generalize EN:w.heap.size+1=gT at*;generalize hgr':gT+1=gR at*;have VL:=Gh (show gu≠gR/\gv≠gR/\gT≠gR/\w.heap.size<=gR by omega);clear EM LS EN hgr' TE;go_wp2_with fail
 refine HZ.out.mono ?_;rintro e W3 ⟨rfl,-,Xz⟩;have Rf:=Gh (Gt Xh Xz);have Rj:=Gh (HU.out.old Xz);have Tp:=Gh (HV.out.old Xz);have Ec:=Gh (HT.out.old Xz);have FN:=Gh (HR.out.old Xz);clear y0 y1 y2 y3 Xz Xh HU HV HT HR HZ;generalize qI (qn V)=bz at*
 cases bz with
 |true=>
  have HA:=Gh (yi qU (by omega) (by omega) rel Rj.out.tree);obtain⟨y0,y1,y2,y3⟩:=G4 Rj.out.box;unfold qm zx at HA;go_wp2_with fail
  refine HA.out.mono ?_;rintro e W4 ⟨kd1,rl1,ml1,mg1,MA1,mn1,mc1,MK1,mk1,mkc1,ML1,ll1,lc1,rfl,st⟩;have Xg:=Gh (YY (FN.out.old st) VL.out.2.2.2 (Gt Rf st) kd1 rl1 ml1 mg1 MA1 mn1 mc1 MK1 mk1 mkc1 ML1 ll1 lc1);clear y0 y1 y2 y3;have kk:=FN.out.old st;obtain⟨d0,d1,d2,d3⟩:=G4 kk;have d4:=kk.cell 4;have d5:=kk.cell 5;have d6:=kk.cell 6;have f0:=kk.frozen 0;have f1:=kk.frozen 1;have f2:=kk.frozen 2;have f3:=kk.frozen 3;have f4:=kk.frozen 4;have f5:=kk.frozen 5;have f6:=kk.frozen 6;have zl:=kk.lt;clear kk;clear st;go_wp2_with fail
  exact qo Tryz.results27 rfl rfl Xg.out.1 Tryz.underlying32 rfl Tryz.sizeMat Xg.out.2
 |false=>
  have Eg:=Gh (fun(gs:List Nat)(X:World)(hg:∀x∈gs,∃cs,qf X x 28 cs)(h:RV X (NB gs X) U (qe U A5 c5 K5 k5))=>jQ Xx Xj qU qU (by omega) (by omega) hg h h);have Fy:=Gh (fun(gs:List Nat)(X:World)(hg:∀x∈gs,∃cs,qf X x 28 cs)(h:RV X (NB gs X) V (qe V A6 c6 K6 k6))=>jQ Xx Xj qV qV (by omega) (by omega) hg h h);have MZ:=Gh (fun(gs:List Nat)(X:World)(hX:Below W3.heap.size W3 X)(DA:∀x∈gs,w.heap.size<=x)(hg:∀x∈gs,∃cs,qf X x 28 cs)(T:RP)(A:Oa)(c:Nat)(K:Oa)(kc:Nat)(q:Qp k (150+150+4) (15+15) T)(h:RV X (NB gs X) T (qe T A c K kc))=>jQ Xx Xj q qc (by omega) (by omega) hg h (Ba gs X (Gt Rf hX) DA));have EZ:=Gh (fun(gs:List Nat)(X:World)(hg:∀x∈gs,∃cs,qf X x 28 cs)(T:RP)(A:Oa)(c:Nat)(K:Oa)(kc:Nat)(T':RP)(A':Oa)(c':Nat)(K':Oa)(kc':Nat)(q:Qp k (150+150+4) (15+15) T)(q':Qp k (150+150+4+5+4) (15+15+2) T')(h:RV X (NB gs X) T (qe T A c K kc))(h':RV X (NB gs X) T' (qe T' A' c' K' kc'))=>qiz Xx Xj (q.mono (show _<=150+150+4+5+4 by omega) (show _<=15+15+2 by omega)) q' (by omega) (by omega) hg h h');unfold qm at Eg Fy MZ EZ;have Em:∀(X:World),∀x∈([]:List Nat),∃cs,qf X x 28 cs:=fun X x hx=>by simp at hx
  go_upto_region 4 with(fail)
  have KF:=Gh (fun(X:World)(hX:Below W3.heap.size W3 X)=>(⟨(Rj.out.old hX).box.cell 0,(Rj.out.old hX).box.cell 1,(Rj.out.old hX).box.cell 2,(Rj.out.old hX).box.cell 3,(Tp.out.old hX).box.cell 0,(Tp.out.old hX).box.cell 1,(Tp.out.old hX).box.cell 2,(Tp.out.old hX).box.cell 3,((Ec.out.old hX).cell 9).trans VC.out.1,((Ec.out.old hX).cell 10).trans VC.out.2.1,((Ec.out.old hX).cell 11).trans VC.out.2.2.1,((Ec.out.old hX).cell 12).trans VC.out.2.2.2⟩:Gd X gu (.int .i64 U.lv) (.bool U.ng) (.slice A5 U.ds.length c5) (.slice K5 U.ks.length k5) (Gd X gv (.int .i64 V.lv) (.bool V.ng) (.slice A6 V.ds.length c6) (.slice K6 V.ks.length k6) (X.cell? ⟨gT,9,none⟩=some (.int .i64 pc.lv)/\X.cell? ⟨gT,10,none⟩=some (.bool pc.ng)/\X.cell? ⟨gT,11,none⟩=some (.slice Ac pc.ds.length cc)/\X.cell? ⟨gT,12,none⟩=some (.slice Kc pc.ks.length kcc)))));have hz:Below W3.heap.size W3 W3.drew:=(qt.drew _).below _;refine wp_region_held_drew (S:=fun w'=>Gd w' gu (.int .i64 U.lv) (.bool U.ng) (.slice A5 U.ds.length c5) (.slice K5 U.ks.length k5) (Gd w' gv (.int .i64 V.lv) (.bool V.ng) (.slice A6 V.ds.length c6) (.slice K6 V.ks.length k6) (w'.cell? ⟨gT,9,none⟩=some (.int .i64 pc.lv)/\w'.cell? ⟨gT,10,none⟩=some (.bool pc.ng)/\w'.cell? ⟨gT,11,none⟩=some (.slice Ac pc.ds.length cc)/\w'.cell? ⟨gT,12,none⟩=some (.slice Kc pc.ks.length kcc)))) (by kernel_rfl) (KF _ hz) (fun Xa=>?_);refine tk 0 ?_
  refine tk 1 ?_
  refine tk 3 ?_
  refine tk 4 ?_
  refine tk 6 ?_
  refine tk 7 ?_
  simp only[Act.put,sA,sB,sC];generalize W3.drew=X at*;apply qf4 (fun X gw T A c K kc=>Below W3.heap.size W3 X/\W3.heap.size<=gw/\qf X gw 28 Gz/\Qp k 400 32 T/\RV X (NB [gw] X) T (qe T A c K kc))
  case h1=>
   intro HJ
   iterate 5
    all_goals first
     |refine rd2 2 10 (fun P hP=>?_) (fun P hP=>?_) (by decide+kernel)
     |refine rd2 5 10 (fun P hP=>?_) (fun P hP=>?_) (by decide+kernel)
     |refine rd2 8 10 (fun P hP=>?_) (fun P hP=>?_) (by decide+kernel)
     |refine rd2 9 10 (fun P hP=>?_) (fun P hP=>?_) (by decide+kernel)
     |refine rd1 2 (fun P hP=>?_) (by decide+kernel)
     |refine rd1 5 (fun P hP=>?_) (by decide+kernel)
     |refine rd1 8 (fun P hP=>?_) (by decide+kernel)
     |refine rd1 9 (fun P hP=>?_) (by decide+kernel)
     |refine rd1 10 (fun P hP=>?_) (by decide+kernel)
    all_goals first
     |(have hg:=T2
       clear hg;go_simp
       go_at_call 44
       first
        |refine(MZ.out [gw] _ hz (fun x hx=>by rw[List.mem_singleton]at hx;subst hx;exact Gl Rf.out.size VG) (yG X8) _ _ _ _ _ q2 r2).mono ?_
        |refine(MZ.out [] _ hz (fun x hx=>by simp at hx) (Em _) _ _ _ _ _ q2 r2).mono ?_
       rintro e X ⟨T3,A3,c3,K3,k3,q3,-,rfl,r3,st⟩
       replace hz:=Gt hz st
       replace r1:=NB.old r1 st
       (try replace X8:=X8.old st)
       clear st r2;refine hP _ _ (KF _ hz) (fun Xa=>?_);clear hP P
       (try simp only[Act.put,sA,sB,sC]))
     |(have hg:=T1
       clear hg;go_simp
       go_at_call 44
       first
        |refine(Fy.out [gw] _ (yG X8) (NB.add Tp.out.tree hz VG)).mono ?_
        |refine(Fy.out [] _ (Em _) (Tp.out.old hz).tree).mono ?_
       rintro e X ⟨T2,A2,c2,K2,k2,q2,-,rfl,r2,st⟩
       replace hz:=Gt hz st
       replace r1:=NB.old r1 st
       (try replace X8:=X8.old st)
       clear st;refine hP _ _ (KF _ hz) (fun Xa=>?_);clear hP P
       (try simp only[Act.put,sA,sB,sC]))
     |(go_simp
       go_at_call 44
       first
        |refine(Eg.out [gw] _ (yG X8) (NB.add Rj.out.tree hz VG)).mono ?_
        |refine(Eg.out [] _ (Em _) (Rj.out.old hz).tree).mono ?_
       rintro e X ⟨T1,A1,c1,K1,k1,q1,-,rfl,r1,st⟩
       replace hz:=Gt hz st
       (try replace X8:=X8.old st)
       clear st;refine hP _ _ (KF _ hz) (fun Xa=>?_);clear hP P
       (try simp only[Act.put,sA,sB,sC]))
     |(go_simp
       go_at_call 43
       first
        |refine(EZ.out [gw] _ (yG X8) _ _ _ _ _ _ _ _ _ _ q1 q3 r1 r3).mono ?_
        |refine(EZ.out [] _ (Em _) _ _ _ _ _ _ _ _ _ _ q1 q3 r1 r3).mono ?_
       rintro e X ⟨T4,A4,c4,K4,k4,q4,-,rfl,r4,st⟩
       replace hz:=Gt hz st
       (try replace X8:=X8.old st)
       clear st r1 r3;refine hP _ _ (KF _ hz) (fun Xa=>?_);clear hP P
       (try simp only[Act.put,sA,sB,sC]))
     |(go_simp
       have st:=Gb X (.cells Gz 28);refine hP _ (X.alloc (.cells Gz 28)) (KF _ (Gt hz st)) (fun Xa=>?_);clear hP P
       have X8:=qf.new X 28 Gz;have VG:=hz.size
       (try replace r1:=NB.add r1 st (Gr _))
       (try replace r2:=NB.add r2 st (Gr _))
       (try replace r3:=NB.add r3 st (Gr _))
       (try replace r4:=NB.add r4 st (Gr _))
       replace hz:=Gt hz st
       clear st;generalize X.heap.size=gw at*;generalize X.alloc (.cells Gz 28)=X at*)
   all_goals first
    |exact HJ X gw T1 A1 c1 K1 k1 T2 A2 c2 K2 k2 T3 A3 c3 K3 k3 T4 A4 c4 K4 k4 ⟨hz,VG,X8,q4.mono (by omega) (by omega),r4⟩
  case h2=>
   clear hz;intro X gw T1 A1 c1 K1 k1 T2 A2 c2 K2 k2 T3 A3 c3 K3 k3 T4 A4 c4 K4 k4 ⟨hz,VG,X8,q4,r4⟩;refine rd1 11 (fun P hP=>?_);have kk:=X8;obtain⟨d0,d1,d2,d3⟩:=G4 kk;obtain⟨f0,f1,f2,f3,zl⟩:=G5 kk;clear kk;have Sd:=Gh (show QI [] (Go.Proofs.YtflikmojaidhhaaGreatDoor.set4 X gw 0 (.int .i64 T4.lv) (.bool T4.ng) (.slice A4 T4.ds.length c4) (.slice K4 T4.ks.length k4)) gw T4 A4 c4 K4 k4 from QI.sub (gs:=[gw]) ⟨(jm (k:=0) X8 _ _ _ _).1,NB.set4 r4 (by simp) _ _ _ _⟩ (by simp));have C3:=Gh (((Rj.out.add hz VG).far (g':=gw) (by simp) (Nat.ne_of_lt (Gm Rj.out.box.lt VG)) (.int .i64 T4.lv) (.bool T4.ng) (.slice A4 T4.ds.length c4) (.slice K4 T4.ks.length k4)).sub (gs':=[]) (by simp));have EU:=Gh (((Tp.out.add hz VG).far (g':=gw) (by simp) (Nat.ne_of_lt (Gm Tp.out.box.lt VG)) (.int .i64 T4.lv) (.bool T4.ng) (.slice A4 T4.ds.length c4) (.slice K4 T4.ks.length k4)).sub (gs':=[]) (by simp));have WC:=Gh ((FN.out.old hz).set4_far (Nat.ne_of_lt (Gm FN.out.lt VG)) 0 (.int .i64 T4.lv) (.bool T4.ng) (.slice A4 T4.ds.length c4) (.slice K4 T4.ks.length k4));have XW:=Gh (qy (o:=0) (Gt Rf hz) (Gl Rf.out.size VG) (.int .i64 T4.lv) (.bool T4.ng) (.slice A4 T4.ds.length c4) (.slice K4 T4.ks.length k4));have UN:=Gh (⟨((Rj.out.old hz).box.set4_far (Nat.ne_of_lt (Gm Rj.out.box.lt VG)) 0 _ _ _ _).cell 0,((Rj.out.old hz).box.set4_far (Nat.ne_of_lt (Gm Rj.out.box.lt VG)) 0 _ _ _ _).cell 1,((Rj.out.old hz).box.set4_far (Nat.ne_of_lt (Gm Rj.out.box.lt VG)) 0 _ _ _ _).cell 2,((Rj.out.old hz).box.set4_far (Nat.ne_of_lt (Gm Rj.out.box.lt VG)) 0 _ _ _ _).cell 3,((Tp.out.old hz).box.set4_far (Nat.ne_of_lt (Gm Tp.out.box.lt VG)) 0 _ _ _ _).cell 0,((Tp.out.old hz).box.set4_far (Nat.ne_of_lt (Gm Tp.out.box.lt VG)) 0 _ _ _ _).cell 1,((Tp.out.old hz).box.set4_far (Nat.ne_of_lt (Gm Tp.out.box.lt VG)) 0 _ _ _ _).cell 2,((Tp.out.old hz).box.set4_far (Nat.ne_of_lt (Gm Tp.out.box.lt VG)) 0 _ _ _ _).cell 3,(((Ec.out.old hz).set4_far (Nat.ne_of_lt (Gm Ec.out.lt VG)) 0 _ _ _ _).cell 9).trans VC.out.1,(((Ec.out.old hz).set4_far (Nat.ne_of_lt (Gm Ec.out.lt VG)) 0 _ _ _ _).cell 10).trans VC.out.2.1,(((Ec.out.old hz).set4_far (Nat.ne_of_lt (Gm Ec.out.lt VG)) 0 _ _ _ _).cell 11).trans VC.out.2.2.1,(((Ec.out.old hz).set4_far (Nat.ne_of_lt (Gm Ec.out.lt VG)) 0 _ _ _ _).cell 12).trans VC.out.2.2.2⟩:(set4 X gw 0 (.int .i64 T4.lv) (.bool T4.ng) (.slice A4 T4.ds.length c4) (.slice K4 T4.ks.length k4)).cell? ⟨gu,0,none⟩=some (.int .i64 U.lv)/\(set4 X gw 0 (.int .i64 T4.lv) (.bool T4.ng) (.slice A4 T4.ds.length c4) (.slice K4 T4.ks.length k4)).cell? ⟨gu,1,none⟩=some (.bool U.ng)/\(set4 X gw 0 (.int .i64 T4.lv) (.bool T4.ng) (.slice A4 T4.ds.length c4) (.slice K4 T4.ks.length k4)).cell? ⟨gu,2,none⟩=some (.slice A5 U.ds.length c5)/\(set4 X gw 0 (.int .i64 T4.lv) (.bool T4.ng) (.slice A4 T4.ds.length c4) (.slice K4 T4.ks.length k4)).cell? ⟨gu,3,none⟩=some (.slice K5 U.ks.length k5)/\(set4 X gw 0 (.int .i64 T4.lv) (.bool T4.ng) (.slice A4 T4.ds.length c4) (.slice K4 T4.ks.length k4)).cell? ⟨gv,0,none⟩=some (.int .i64 V.lv)/\(set4 X gw 0 (.int .i64 T4.lv) (.bool T4.ng) (.slice A4 T4.ds.length c4) (.slice K4 T4.ks.length k4)).cell? ⟨gv,1,none⟩=some (.bool V.ng)/\(set4 X gw 0 (.int .i64 T4.lv) (.bool T4.ng) (.slice A4 T4.ds.length c4) (.slice K4 T4.ks.length k4)).cell? ⟨gv,2,none⟩=some (.slice A6 V.ds.length c6)/\(set4 X gw 0 (.int .i64 T4.lv) (.bool T4.ng) (.slice A4 T4.ds.length c4) (.slice K4 T4.ks.length k4)).cell? ⟨gv,3,none⟩=some (.slice K6 V.ks.length k6)/\(set4 X gw 0 (.int .i64 T4.lv) (.bool T4.ng) (.slice A4 T4.ds.length c4) (.slice K4 T4.ks.length k4)).cell? ⟨gT,9,none⟩=some (.int .i64 pc.lv)/\(set4 X gw 0 (.int .i64 T4.lv) (.bool T4.ng) (.slice A4 T4.ds.length c4) (.slice K4 T4.ks.length k4)).cell? ⟨gT,10,none⟩=some (.bool pc.ng)/\(set4 X gw 0 (.int .i64 T4.lv) (.bool T4.ng) (.slice A4 T4.ds.length c4) (.slice K4 T4.ks.length k4)).cell? ⟨gT,11,none⟩=some (.slice Ac pc.ds.length cc)/\(set4 X gw 0 (.int .i64 T4.lv) (.bool T4.ng) (.slice A4 T4.ds.length c4) (.slice K4 T4.ks.length k4)).cell? ⟨gT,12,none⟩=some (.slice Kc pc.ks.length kcc));unfold set4 at UN;go_simp
   refine hP _ _ (UN) (fun Xa=>?_);clear hP P
   clear d0 d1 d2 d3 f0 f1 f2 f3 zl r4 UN KF X8;unfold set4 at Sd C3 EU WC XW;generalize ((((X.setCell ⟨gw,0,none⟩ (.int .i64 T4.lv)).setCell ⟨gw,1,none⟩ (.bool T4.ng)).setCell ⟨gw,2,none⟩ (.slice A4 T4.ds.length c4)).setCell ⟨gw,3,none⟩ (.slice K4 T4.ks.length k4))=X4 at*;refine wpAnyH_done (by kernel_rfl) ?_ _;clear Xa Eg Fy MZ EZ hz VG Rj Tp FN Rf Ec;go_upto_region 9 with(fail)
   have Xc:=Gb X4 (.cells #[.func (.func 22) #[] #[]] 57);have HF5:=Gh (qf.new X4 57 #[.func (.func 22) #[] #[]]);have Ev:=Gh (Sd.out.old Xc);have EV:=Gh (C3.out.old Xc);have De:=Gh (EU.out.old Xc);have O8:=Gh (WC.out.old Xc);have XZ:=Gh (Gt XW Xc);clear Xc Sd C3 EU WC XW;generalize X4.alloc (.cells #[.func (.func 22) #[] #[]] 57)=X5 at*;generalize X4.heap.size=gf at*;rcases hrel with rfl|rfl
   ·have HA:=Gh (qjI k U V T4 qU qV q4 gf gw A5 c5 K5 k5 A6 c6 K6 k6 A4 c4 K4 k4 X5 HF5 Ev EV.out.tree De.out.tree);obtain⟨y0,y1,y2,y3⟩:=G4 EV.out.box;obtain⟨z0,z1,z2,z3⟩:=G4 De.out.box;unfold qm zx at HA;go_wp2_with fail
    refine HA.out.mono ?_;rintro e X6 ⟨kd1,rl1,ml1,mg1,MA1,mn1,mc1,MK1,mk1,mkc1,ML1,ll1,lc1,rfl,st⟩;have Xg:=Gh (YY (O8.out.old st) VL.out.2.2.2 (Gt XZ st) kd1 rl1 ml1 mg1 MA1 mn1 mc1 MK1 mk1 mkc1 ML1 ll1 lc1);clear y0 y1 y2 y3 z0 z1 z2 z3;have kk:=O8.out.old st;obtain⟨d0,d1,d2,d3⟩:=G4 kk;have d4:=kk.cell 4;have d5:=kk.cell 5;have d6:=kk.cell 6;have f0:=kk.frozen 0;have f1:=kk.frozen 1;have f2:=kk.frozen 2;have f3:=kk.frozen 3;have f4:=kk.frozen 4;have f5:=kk.frozen 5;have f6:=kk.frozen 6;have zl:=kk.lt;clear kk;clear st;go_wp2_with fail
    exact qo Tryz.results27 rfl rfl Xg.out.1 Tryz.underlying32 rfl Tryz.sizeMat Xg.out.2
   ·have HA:=Gh (qj6 k Xx Xj U V T4 qU qV q4 gf gw gu gv A4 c4 K4 k4 A5 c5 K5 k5 A6 c6 K6 k6 X5 HF5 Ev EV De);unfold zx at HA;go_wp2_with fail
    refine HA.out.mono ?_;rintro e X6 ⟨kd1,rl1,ml1,mg1,MA1,mn1,mc1,MK1,mk1,mkc1,ML1,ll1,lc1,rfl,st⟩;have Xg:=Gh (YY (O8.out.old st) VL.out.2.2.2 (Gt XZ st) kd1 rl1 ml1 mg1 MA1 mn1 mc1 MK1 mk1 mkc1 ML1 ll1 lc1);have kk:=O8.out.old st;obtain⟨d0,d1,d2,d3⟩:=G4 kk;have d4:=kk.cell 4;have d5:=kk.cell 5;have d6:=kk.cell 6;have f0:=kk.frozen 0;have f1:=kk.frozen 1;have f2:=kk.frozen 2;have f3:=kk.frozen 3;have f4:=kk.frozen 4;have f5:=kk.frozen 5;have f6:=kk.frozen 6;have zl:=kk.lt;clear kk;clear st;go_wp2_with fail
    exact qo Tryz.results27 rfl rfl Xg.out.1 Tryz.underlying32 rfl Tryz.sizeMat Xg.out.2
