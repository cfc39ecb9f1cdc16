import Derived.Test.YtflikmojaidhhaaGreatDoorPq18
import Derived.Test.YtflikmojaidhhaaGreatDoorPqA
namespace Go.Proofs.YtflikmojaidhhaaGreatDoor
open Go.RowKit
set_option maxHeartbeats 4000000
set_option maxRecDepth 100000
theorem qdK(dg:Nat)(Xr:dg<=500)(p q:RP)(hp:yz dg p)(hq:yz dg q)(Fk:qN 1000 60 (qn p))(ED:qN 1000 60 (qn q))(A:Oa)(c:Nat)(K:Oa)(kc:Nat)(Aq:Oa)(cq:Nat)(Kq:Oa)(kq B:Nat)(w:World)(hB:B<=w.heap.size)(h:RV w (· <B) p (qe p A c K kc))(TS:RV w (· <B) q (qe q Aq cq Kq kq)):
 Calls Tryz.prog 44 #[qm p A c K kc,qm q Aq cq Kq kq] w fun e w'=>∃T,jZ (qn p) (qn q) T/\jb p (qn p)/\jb q (qn q)/\qS T w e w':=by
 have HX:=Gh (jN w 28 28 28 #[.int .i64 p.lv,.bool p.ng,.slice A p.ds.length c,.slice K p.ks.length kc] #[.int .i64 q.lv,.bool q.ng,.slice Aq q.ds.length cq,.slice Kq q.ks.length kq] Gz);have XQ:=Gh (fun(W:World)(hW:Below w.heap.size w W)=>jO dg Xr p hp.dep hp.few hp.cnt A c K kc B W (Gl hB hW.size) (h.below (hW.mono hB)));have UF:=Gh (fun(W:World)(hW:Below w.heap.size w W)=>jO dg Xr q hq.dep hq.few hq.cnt Aq cq Kq kq B W (Gl hB hW.size) (TS.below (hW.mono hB)));unfold qcS at XQ UF;have UC:=Gh (fun(W:World)(h1:jb p (qn p))(h2:jb q (qn q))(A1:Oa)(c1:Nat)(K1:Oa)(k1:Nat)(A2:Oa)(c2:Nat)(K2:Oa)(k2:Nat)(x1:RV W (· <W.heap.size) (qn p) (qe (qn p) A1 c1 K1 k1))(x2:RV W (· <W.heap.size) (qn q) (qe (qn q) A2 c2 K2 k2))=>qdm _ (qn p) (qn q) (Gr _) h1.can.1 h2.can.1 Fk ED A1 c1 K1 k1 A2 c2 K2 k2 W.heap.size W (Gr _) x1 x2);have Vj:=Gh (fun(T:RP)(hT:jZ (qn p) (qn q) T)(h1:jb p (qn p))(h2:jb q (qn q))(A:Oa)(c:Nat)(K:Oa)(kc:Nat)(W:World)(h:RV W (· <W.heap.size) T (qe T A c K kc))=>Qt T hT.can (qN.sm (d:=3000) (n:=1000) (by omega) (by omega) _ (qN.mono (by have:=(qJ h1.can.1).2;have:=(qJ h2.can.1).2;omega) (by omega) _ (hT.lw 1000 1000 59 59 Fk ED (by omega)))) A c K kc W h);unfold qcu qS at UC;unfold qS at Vj;unfold qS;unfold qm at XQ UF UC Vj ⊢;have S2:=Gh (fun(T:RP)(hT:jb p T)=>zi hT);have Ej:=Gh (fun(T:RP)(hT:jb q T)=>zi hT);clear h TS hp hq Fk ED hB;generalize qn p=U at*;generalize qn q=U2 at*;generalize p.ds.length=pd at*;generalize p.ks.length=pk at*;generalize p.lv=pl at*;generalize p.ng=pg at*;generalize q.ds.length=qd at*;generalize q.ks.length=qk at*;generalize q.lv=ql at*;generalize q.ng=qg at*;go_enter Tryz.func44,Tryz.ntmps44
 go_wp2_with fail
 obtain⟨Xb,k0,k1,k2,hs⟩:=HX.out;generalize ((w.alloc (.cells #[.int .i64 pl,.bool pg,.slice A pd c,.slice K pk kc] 28)).alloc (.cells #[.int .i64 ql,.bool qg,.slice Aq qd cq,.slice Kq qk kq] 28)).alloc (.cells Gz 28)=W at*;have Xd:=Gh Xb;have KF:=Gh (fun(V:World)(hV:Below W.heap.size W V)=>(⟨(k0.old hV).cell 0,(k0.old hV).cell 1,(k0.old hV).cell 2,(k0.old hV).cell 3,(k1.old hV).cell 0,(k1.old hV).cell 1,(k1.old hV).cell 2,(k1.old hV).cell 3⟩:Gd V w.heap.size (.int .i64 pl) (.bool pg) (.slice A pd c) (.slice K pk kc) (Gc V (w.heap.size+1) (.int .i64 ql) (.bool qg) (.slice Aq qd cq) (.slice Kq qk kq))));have KS:=Gh (fun(V:World)(hV:Below W.heap.size W V)(x0 x1 x2 x3:Value)=>(⟨((k0.old hV).set4_far (Nat.ne_of_lt (by omega)) 0 x0 x1 x2 x3).cell 0,((k0.old hV).set4_far (Nat.ne_of_lt (by omega)) 0 x0 x1 x2 x3).cell 1,((k0.old hV).set4_far (Nat.ne_of_lt (by omega)) 0 x0 x1 x2 x3).cell 2,((k0.old hV).set4_far (Nat.ne_of_lt (by omega)) 0 x0 x1 x2 x3).cell 3,((k1.old hV).set4_far (Nat.ne_of_lt (by omega)) 0 x0 x1 x2 x3).cell 0,((k1.old hV).set4_far (Nat.ne_of_lt (by omega)) 0 x0 x1 x2 x3).cell 1,((k1.old hV).set4_far (Nat.ne_of_lt (by omega)) 0 x0 x1 x2 x3).cell 2,((k1.old hV).set4_far (Nat.ne_of_lt (by omega)) 0 x0 x1 x2 x3).cell 3⟩:((((V.setCell ⟨w.heap.size+1+1,0,none⟩ x0).setCell ⟨w.heap.size+1+1,1,none⟩ x1).setCell ⟨w.heap.size+1+1,2,none⟩ x2).setCell ⟨w.heap.size+1+1,3,none⟩ x3).cell? ⟨w.heap.size,0,none⟩=some (.int .i64 pl)/\((((V.setCell ⟨w.heap.size+1+1,0,none⟩ x0).setCell ⟨w.heap.size+1+1,1,none⟩ x1).setCell ⟨w.heap.size+1+1,2,none⟩ x2).setCell ⟨w.heap.size+1+1,3,none⟩ x3).cell? ⟨w.heap.size,1,none⟩=some (.bool pg)/\((((V.setCell ⟨w.heap.size+1+1,0,none⟩ x0).setCell ⟨w.heap.size+1+1,1,none⟩ x1).setCell ⟨w.heap.size+1+1,2,none⟩ x2).setCell ⟨w.heap.size+1+1,3,none⟩ x3).cell? ⟨w.heap.size,2,none⟩=some (.slice A pd c)/\((((V.setCell ⟨w.heap.size+1+1,0,none⟩ x0).setCell ⟨w.heap.size+1+1,1,none⟩ x1).setCell ⟨w.heap.size+1+1,2,none⟩ x2).setCell ⟨w.heap.size+1+1,3,none⟩ x3).cell? ⟨w.heap.size,3,none⟩=some (.slice K pk kc)/\((((V.setCell ⟨w.heap.size+1+1,0,none⟩ x0).setCell ⟨w.heap.size+1+1,1,none⟩ x1).setCell ⟨w.heap.size+1+1,2,none⟩ x2).setCell ⟨w.heap.size+1+1,3,none⟩ x3).cell? ⟨w.heap.size+1,0,none⟩=some (.int .i64 ql)/\((((V.setCell ⟨w.heap.size+1+1,0,none⟩ x0).setCell ⟨w.heap.size+1+1,1,none⟩ x1).setCell ⟨w.heap.size+1+1,2,none⟩ x2).setCell ⟨w.heap.size+1+1,3,none⟩ x3).cell? ⟨w.heap.size+1,1,none⟩=some (.bool qg)/\((((V.setCell ⟨w.heap.size+1+1,0,none⟩ x0).setCell ⟨w.heap.size+1+1,1,none⟩ x1).setCell ⟨w.heap.size+1+1,2,none⟩ x2).setCell ⟨w.heap.size+1+1,3,none⟩ x3).cell? ⟨w.heap.size+1,2,none⟩=some (.slice Aq qd cq)/\((((V.setCell ⟨w.heap.size+1+1,0,none⟩ x0).setCell ⟨w.heap.size+1+1,1,none⟩ x1).setCell ⟨w.heap.size+1+1,2,none⟩ x2).setCell ⟨w.heap.size+1+1,3,none⟩ x3).cell? ⟨w.heap.size+1,3,none⟩=some (.slice Kq qk kq)));have KR:=Gh (fun(V:World)(hV:Below W.heap.size W V)=>(⟨(k2.old hV).cell 0,(k2.old hV).cell 1,(k2.old hV).cell 2,(k2.old hV).cell 3,(k2.old hV).frozen 0,(k2.old hV).frozen 1,(k2.old hV).frozen 2,(k2.old hV).frozen 3,(k2.old hV).lt⟩:
  Gd V (w.heap.size+1+1) (.int .i64 0) (.bool false) (.slice none 0 0) (.slice none 0 0) (V.frozen? ⟨w.heap.size+1+1,0,none⟩=false/\V.frozen? ⟨w.heap.size+1+1,1,none⟩=false/\V.frozen? ⟨w.heap.size+1+1,2,none⟩=false/\V.frozen? ⟨w.heap.size+1+1,3,none⟩=false/\w.heap.size+1+1<V.heap.size)))
 have RS:=Gh k2;have hb:Below W.heap.size W W.drew:=(qt.drew _).below _;have Tb:Below W.heap.size W W:=Below.refl _ _;have Tf:=Gh (fun(V:World)(hV:Below W.heap.size W V)=>XQ V (Gt Xd hV));have Ru:=Gh (fun(V:World)(hV:Below W.heap.size W V)=>UF V (Gt Xd hV));clear HX XQ UF Xb k0 k1 k2 hs;go_region_held3 (fun w'=>Gd w' w.heap.size (.int .i64 pl) (.bool pg) (.slice A pd c) (.slice K pk kc) (Gc w' (w.heap.size+1) (.int .i64 ql) (.bool qg) (.slice Aq qd cq) (.slice Kq qk kq)))
  (first|(with_reducible exact KF.out _ hb)|(with_reducible exact KF.out _ Tb)|(with_reducible exact KS.out _ hb _ _ _ _))
  (first
    |(go_at_call 31;(with_reducible refine(Tf.out _ hb).mono ?_);rintro e v0 ⟨T1,A1,c1,K1,kc1,VU,rfl,U9,_,hk⟩;obtain rfl:=S2.out T1 VU;replace hb:=Gt hb hk;(try replace XK:=(XK.below hk).more hk.size);have Sn:=hb.size)
    |(go_at_call 31;(with_reducible refine(Ru.out _ hb).mono ?_);rintro e v1 ⟨T2,A2,c2,K2,kc2,Ri,rfl,XK,_,hk⟩;obtain rfl:=Ej.out T2 Ri;replace hb:=Gt hb hk;(try replace U9:=(U9.below hk).more hk.size);have Rg:=hb.size)
    |(go_at_call 83;(with_reducible refine(UC.out _ VU Ri A1 c1 K1 kc1 A2 c2 K2 kc2 U9 XK).mono ?_);rintro e v2 ⟨T3,Wc,A3,c3,K3,kc3,rfl,UL,hk⟩;replace hb:=Gt hb hk;have RL:=hb.size)
    |(go_at_call 30;(with_reducible refine(Vj.out T3 Wc VU Ri A3 c3 K3 kc3 _ UL.rv).mono ?_);rintro e v3 ⟨A4,c4,K4,kc4,rfl,TR,hk⟩;replace hb:=Gt hb hk;obtain⟨d0,d1,d2,d3,f0,f1,f2,f3,z0⟩:=KR.out _ hb))
 all_goals
  have k2:=RS.out.old hb;have EI:=RS.out.lt;have Xg:=Gh (jj (w:=w) k2 rfl TR (by omega) (by omega) (Gt Xd hb));have Ew:=Gh VU;have BZ:=Gh Ri;have Ec:=Gh Wc;clear TR UL XK U9 hb Tb KF KS KR Tf Ru k2 VU Ri Wc S2 Ej UC Vj;go_wp2_with fail
  exact qo Tryz.results44 rfl rfl Xg.out.1 Tryz.underlying28 rfl Tryz.sizeRec ⟨_,Ec,Ew,BZ,Xg.out.2⟩
theorem yM.two{V:World}{U U2:RP}{A1 K1 A2 K2:Oa}{c1 k1 c2 k2:Nat}(x1:RV V (· <V.heap.size) U (qe U A1 c1 K1 k1))(x2:RV V (· <V.heap.size) U2 (qe U2 A2 c2 K2 k2))(cs:Array Value)(XE:cs=(qe U A1 c1 K1 k1++qe U2 A2 c2 K2 k2).toArray):
 yM (V.alloc (.cells cs 28)) (· <(V.alloc (.cells cs 28)).heap.size) (· <V.heap.size) (some ⟨V.heap.size,0,none⟩) [U,U2]:=by
 have Xc:=Gb V (.cells cs 28);refine⟨[qe U A1 c1 K1 k1,qe U2 A2 c2 K2 k2],⟨rfl,fun _=>⟨V.heap.size,0,rfl,by simp,fun j u hj=>?_⟩⟩,?_⟩
 ·rw[Nat.zero_add,(qf.new V 28 cs).cell,XE];simpa using hj
 ·have y1:=x1.below Xc;have y2:=x2.below Xc;unfold qG;refine⟨_,_,rfl,y1,?_⟩;unfold qG;exact⟨_,_,rfl,y2,by unfold qG;rfl⟩
theorem qiG(dg:Nat)(Xr:dg<=500)(p q:RP)(hp:yz dg p)(hq:yz dg q)(Fk:qN 1000 60 (qn p))(ED:qN 1000 60 (qn q))(A:Oa)(c:Nat)(K:Oa)(kc:Nat)(Aq:Oa)(cq:Nat)(Kq:Oa)(kq B:Nat)(w:World)(hB:B<=w.heap.size)(h:RV w (· <B) p (qe p A c K kc))(TS:RV w (· <B) q (qe q Aq cq Kq kq)):
 Calls Tryz.prog 96 #[qm p A c K kc,qm q Aq cq Kq kq] w fun e w'=>jb p (qn p)/\jb q (qn q)/\qS (jl 5 [qn p,qn q]) w e w':=by
 have HX:=Gh (jN w 28 28 28 #[.int .i64 p.lv,.bool p.ng,.slice A p.ds.length c,.slice K p.ks.length kc] #[.int .i64 q.lv,.bool q.ng,.slice Aq q.ds.length cq,.slice Kq q.ks.length kq] Gz);have XQ:=Gh (fun(W:World)(hW:Below w.heap.size w W)=>jO dg Xr p hp.dep hp.few hp.cnt A c K kc B W (Gl hB hW.size) (h.below (hW.mono hB)));have UF:=Gh (fun(W:World)(hW:Below w.heap.size w W)=>jO dg Xr q hq.dep hq.few hq.cnt Aq cq Kq kq B W (Gl hB hW.size) (TS.below (hW.mono hB)));unfold qcS at XQ UF;have Ez:=Gh (fun(h1:jb p (qn p))(h2:jb q (qn q))=>show yX 5 [qn p,qn q]from fun x hx=>by
  rcases List.mem_cons.1 hx with rfl|hx
  ·have:=(qJ h1.can.1).2;exact⟨h1.can.1,by omega⟩
  ·rw[List.mem_singleton]at hx;subst hx;have:=(qJ h2.can.1).2;exact⟨h2.can.1,by omega⟩)
 have Ui:=Gh (show∀x∈[qn p,qn q],qN 1000 60 x from fun x hx=>by
  rcases List.mem_cons.1 hx with rfl|hx
  ·exact Fk
  ·rw[List.mem_singleton]at hx;subst hx;exact ED)
 have UC:=Gh (fun(V:World)(h1:jb p (qn p))(h2:jb q (qn q))(A1:Oa)(c1:Nat)(K1:Oa)(k1:Nat)(A2:Oa)(c2:Nat)(K2:Oa)(k2:Nat)(x1:RV V (· <V.heap.size) (qn p) (qe (qn p) A1 c1 K1 k1))(x2:RV V (· <V.heap.size) (qn q) (qe (qn q) A2 c2 K2 k2))=>
  Yn (· <V.heap.size) V.heap.size 1000 (fun _ h=>h) (by omega) 4 [qn p,qn q] (Ez h1 h2) (by simp) (fun x hx=>(Ui x hx).sm (by omega) (by omega)) (some ⟨V.heap.size,0,none⟩) 2 (V.alloc (.cells #[.int .i64 (qn p).lv,.bool (qn p).ng,.slice A1 (qn p).ds.length c1,.slice K1 (qn p).ks.length k1,.int .i64 (qn q).lv,.bool (qn q).ng,.slice A2 (qn q).ds.length c2,.slice K2 (qn q).ks.length k2] 28)) (by simp) (yM.two x1 x2 _ rfl) (by simp))
 have Vj:=Gh (fun(h1:jb p (qn p))(h2:jb q (qn q))(d1:qF (qn p))(d2:qF (qn q))(A:Oa)(c:Nat)(K:Oa)(kc:Nat)(W:World)(h:RV W (· <W.heap.size) (jl 5 [qn p,qn q]) (qe (jl 5 [qn p,qn q]) A c K kc))=>Qt (jl 5 [qn p,qn q]) (Jn 5 _ (Ez h1 h2)).1 (qN.sm (d:=1001) (n:=60) (by omega) (by omega) _ (Ya 5 _ (by simp) fun x hx=>⟨Ui x hx,by
  rcases List.mem_cons.1 hx with rfl|hx
  ·exact d1
  ·rw[List.mem_singleton]at hx;subst hx;exact d2⟩)) A c K kc W h)
 unfold J5 at UC;simp only[List.length_cons,List.length_nil,Nat.zero_add,Nat.reduceAdd]at UC;unfold qS at Vj;unfold qS;unfold qm at XQ UF UC Vj ⊢;have S2:=Gh (fun(T:RP)(hT:jb p T)=>zi hT);have Ej:=Gh (fun(T:RP)(hT:jb q T)=>zi hT);clear h TS hp hq Fk ED hB;clear Ui Ez;generalize jl 5 [qn p,qn q]=T3 at*;generalize I9:qn p=U at*;generalize I8:qn q=U2 at*;clear I9 I8;generalize p.ds.length=pd at*;generalize p.ks.length=pk at*;generalize p.lv=pl at*;generalize p.ng=pg at*;generalize q.ds.length=qd at*;generalize q.ks.length=qk at*;generalize q.lv=ql at*;generalize q.ng=qg at*;go_enter Tryz.func96,Tryz.ntmps96
 go_wp2_with fail
 obtain⟨Xb,k0,k1,k2,hs⟩:=HX.out;generalize ((w.alloc (.cells #[.int .i64 pl,.bool pg,.slice A pd c,.slice K pk kc] 28)).alloc (.cells #[.int .i64 ql,.bool qg,.slice Aq qd cq,.slice Kq qk kq] 28)).alloc (.cells Gz 28)=W at*;have Xd:=Gh Xb;have KF:=Gh (fun(V:World)(hV:Below W.heap.size W V)=>(⟨(k0.old hV).cell 0,(k0.old hV).cell 1,(k0.old hV).cell 2,(k0.old hV).cell 3,(k1.old hV).cell 0,(k1.old hV).cell 1,(k1.old hV).cell 2,(k1.old hV).cell 3⟩:Gd V w.heap.size (.int .i64 pl) (.bool pg) (.slice A pd c) (.slice K pk kc) (Gc V (w.heap.size+1) (.int .i64 ql) (.bool qg) (.slice Aq qd cq) (.slice Kq qk kq))));have KS:=Gh (fun(V:World)(hV:Below W.heap.size W V)(x0 x1 x2 x3:Value)=>(⟨((k0.old hV).set4_far (Nat.ne_of_lt (by omega)) 0 x0 x1 x2 x3).cell 0,((k0.old hV).set4_far (Nat.ne_of_lt (by omega)) 0 x0 x1 x2 x3).cell 1,((k0.old hV).set4_far (Nat.ne_of_lt (by omega)) 0 x0 x1 x2 x3).cell 2,((k0.old hV).set4_far (Nat.ne_of_lt (by omega)) 0 x0 x1 x2 x3).cell 3,((k1.old hV).set4_far (Nat.ne_of_lt (by omega)) 0 x0 x1 x2 x3).cell 0,((k1.old hV).set4_far (Nat.ne_of_lt (by omega)) 0 x0 x1 x2 x3).cell 1,((k1.old hV).set4_far (Nat.ne_of_lt (by omega)) 0 x0 x1 x2 x3).cell 2,((k1.old hV).set4_far (Nat.ne_of_lt (by omega)) 0 x0 x1 x2 x3).cell 3⟩:((((V.setCell ⟨w.heap.size+1+1,0,none⟩ x0).setCell ⟨w.heap.size+1+1,1,none⟩ x1).setCell ⟨w.heap.size+1+1,2,none⟩ x2).setCell ⟨w.heap.size+1+1,3,none⟩ x3).cell? ⟨w.heap.size,0,none⟩=some (.int .i64 pl)/\((((V.setCell ⟨w.heap.size+1+1,0,none⟩ x0).setCell ⟨w.heap.size+1+1,1,none⟩ x1).setCell ⟨w.heap.size+1+1,2,none⟩ x2).setCell ⟨w.heap.size+1+1,3,none⟩ x3).cell? ⟨w.heap.size,1,none⟩=some (.bool pg)/\((((V.setCell ⟨w.heap.size+1+1,0,none⟩ x0).setCell ⟨w.heap.size+1+1,1,none⟩ x1).setCell ⟨w.heap.size+1+1,2,none⟩ x2).setCell ⟨w.heap.size+1+1,3,none⟩ x3).cell? ⟨w.heap.size,2,none⟩=some (.slice A pd c)/\((((V.setCell ⟨w.heap.size+1+1,0,none⟩ x0).setCell ⟨w.heap.size+1+1,1,none⟩ x1).setCell ⟨w.heap.size+1+1,2,none⟩ x2).setCell ⟨w.heap.size+1+1,3,none⟩ x3).cell? ⟨w.heap.size,3,none⟩=some (.slice K pk kc)/\((((V.setCell ⟨w.heap.size+1+1,0,none⟩ x0).setCell ⟨w.heap.size+1+1,1,none⟩ x1).setCell ⟨w.heap.size+1+1,2,none⟩ x2).setCell ⟨w.heap.size+1+1,3,none⟩ x3).cell? ⟨w.heap.size+1,0,none⟩=some (.int .i64 ql)/\((((V.setCell ⟨w.heap.size+1+1,0,none⟩ x0).setCell ⟨w.heap.size+1+1,1,none⟩ x1).setCell ⟨w.heap.size+1+1,2,none⟩ x2).setCell ⟨w.heap.size+1+1,3,none⟩ x3).cell? ⟨w.heap.size+1,1,none⟩=some (.bool qg)/\((((V.setCell ⟨w.heap.size+1+1,0,none⟩ x0).setCell ⟨w.heap.size+1+1,1,none⟩ x1).setCell ⟨w.heap.size+1+1,2,none⟩ x2).setCell ⟨w.heap.size+1+1,3,none⟩ x3).cell? ⟨w.heap.size+1,2,none⟩=some (.slice Aq qd cq)/\((((V.setCell ⟨w.heap.size+1+1,0,none⟩ x0).setCell ⟨w.heap.size+1+1,1,none⟩ x1).setCell ⟨w.heap.size+1+1,2,none⟩ x2).setCell ⟨w.heap.size+1+1,3,none⟩ x3).cell? ⟨w.heap.size+1,3,none⟩=some (.slice Kq qk kq)));have KR:=Gh (fun(V:World)(hV:Below W.heap.size W V)=>(⟨(k2.old hV).cell 0,(k2.old hV).cell 1,(k2.old hV).cell 2,(k2.old hV).cell 3,(k2.old hV).frozen 0,(k2.old hV).frozen 1,(k2.old hV).frozen 2,(k2.old hV).frozen 3,(k2.old hV).lt⟩:
  Gd V (w.heap.size+1+1) (.int .i64 0) (.bool false) (.slice none 0 0) (.slice none 0 0) (V.frozen? ⟨w.heap.size+1+1,0,none⟩=false/\V.frozen? ⟨w.heap.size+1+1,1,none⟩=false/\V.frozen? ⟨w.heap.size+1+1,2,none⟩=false/\V.frozen? ⟨w.heap.size+1+1,3,none⟩=false/\w.heap.size+1+1<V.heap.size)))
 have RS:=Gh k2;have hb:Below W.heap.size W W.drew:=(qt.drew _).below _;have Tb:Below W.heap.size W W:=Below.refl _ _;have Tf:=Gh (fun(V:World)(hV:Below W.heap.size W V)=>XQ V (Gt Xd hV));have Ru:=Gh (fun(V:World)(hV:Below W.heap.size W V)=>UF V (Gt Xd hV));clear HX XQ UF Xb k0 k1 k2 hs;go_region_held3 (fun w'=>Gd w' w.heap.size (.int .i64 pl) (.bool pg) (.slice A pd c) (.slice K pk kc) (Gc w' (w.heap.size+1) (.int .i64 ql) (.bool qg) (.slice Aq qd cq) (.slice Kq qk kq)))
  (first|(with_reducible exact KF.out _ hb)|(with_reducible exact KF.out _ Tb)|(with_reducible exact KF.out _ (hb.alloc hb.size _))|(with_reducible exact KS.out _ hb _ _ _ _))
  (first
    |(go_at_call 31;(with_reducible refine(Tf.out _ hb).mono ?_);rintro e v0 ⟨T1,A1,c1,K1,kc1,VU,rfl,U9,_,hk⟩;obtain rfl:=S2.out T1 VU;replace hb:=Gt hb hk;(try replace XK:=(XK.below hk).more hk.size);have Sn:=hb.size)
    |(go_at_call 31;(with_reducible refine(Ru.out _ hb).mono ?_);rintro e v1 ⟨T2,A2,c2,K2,kc2,Ri,rfl,XK,_,hk⟩;obtain rfl:=Ej.out T2 Ri;replace hb:=Gt hb hk;(try replace U9:=(U9.below hk).more hk.size);have Rg:=hb.size)
    |(go_at_call 81;(with_reducible refine(UC.out _ VU Ri A1 c1 K1 kc1 A2 c2 K2 kc2 U9 XK).mono ?_);rintro e v2 ⟨A3,c3,K3,kc3,rfl,UL,hk⟩;replace hb:=(hb.alloc hb.size _).trans (hk.mono (hb.alloc hb.size _).size);have RL:=hb.size;have TR:=RV.mono (S':=(· <v2.heap.size)) (fun b h=>ZL.lt h (fun b hb=>Gm hb (Gl (by simp) hk.size))) _ _ UL)
    |(go_at_call 30;(with_reducible refine(Vj.out VU Ri (RV.digT _ _ U9) (RV.digT _ _ XK) A3 c3 K3 kc3 _ TR).mono ?_);rintro e v3 ⟨A4,c4,K4,kc4,rfl,Fl,hk⟩;replace hb:=Gt hb hk;obtain⟨d0,d1,d2,d3,f0,f1,f2,f3,z0⟩:=KR.out _ hb))
 all_goals
  have k2:=RS.out.old hb;have EI:=RS.out.lt;have Xg:=Gh (jj (w:=w) k2 rfl Fl (by omega) (by omega) (Gt Xd hb));have Ew:=Gh VU;have BZ:=Gh Ri;clear Fl TR UL XK U9 hb Tb KF KS KR Tf Ru k2 VU Ri S2 Ej UC Vj;go_wp2_with fail
  exact qo Tryz.results96 rfl rfl Xg.out.1 Tryz.underlying28 rfl Tryz.sizeRec ⟨Ew,BZ,Xg.out.2⟩
theorem qcM(dg:Nat)(Xr:dg<=500)(p q:RP)(hp:yz dg p)(hq:yz dg q)(Fk:qN 1000 60 (qn p))(ED:qN 1000 60 (qn q))(A:Oa)(c:Nat)(K:Oa)(kc:Nat)(Aq:Oa)(cq:Nat)(Kq:Oa)(kq B:Nat)(w:World)(hB:B<=w.heap.size)(h:RV w (· <B) p (qe p A c K kc))(TS:RV w (· <B) q (qe q Aq cq Kq kq)):
 Calls Tryz.prog 43 #[qm p A c K kc,qm q Aq cq Kq kq] w fun e w'=>jb p (qn p)/\jb q (qn q)/\qS (jl 5 [qn p,yN (-1) (qn q)]) w e w':=by
 have HX:=Gh (jN w 28 28 28 #[.int .i64 p.lv,.bool p.ng,.slice A p.ds.length c,.slice K p.ks.length kc] #[.int .i64 q.lv,.bool q.ng,.slice Aq q.ds.length cq,.slice Kq q.ks.length kq] Gz);have XQ:=Gh (fun(W:World)(hW:Below w.heap.size w W)=>jO dg Xr p hp.dep hp.few hp.cnt A c K kc B W (Gl hB hW.size) (h.below (hW.mono hB)));have UF:=Gh (fun(W:World)(hW:Below w.heap.size w W)=>jO dg Xr q hq.dep hq.few hq.cnt Aq cq Kq kq B W (Gl hB hW.size) (TS.below (hW.mono hB)));unfold qcS at XQ UF;have Ez:=Gh (fun(h1:jb p (qn p))(h2:jb q (qn q))=>show yX 5 [qn p,yN (-1) (qn q)]from fun x hx=>by
  rcases List.mem_cons.1 hx with rfl|hx
  ·have:=(qJ h1.can.1).2;exact⟨h1.can.1,by omega⟩
  ·rw[List.mem_singleton]at hx;subst hx;have h3:=ZH (-1) (qn q) h2.can.1;have:=(qJ h2.can.1).2;exact⟨h3.1,by omega⟩)
 have Ui:=Gh (fun(OL:qF (qn q))=>show∀x∈[qn p,yN (-1) (qn q)],qN 1001 60 x from fun x hx=>by
  rcases List.mem_cons.1 hx with rfl|hx
  ·exact qN.mono (by omega) (Gr _) _ Fk
  ·rw[List.mem_singleton]at hx;subst hx;exact qbo (d:=1000) (e:=1) (by decide) _ ED OL)
 have UC:=Gh (fun(V:World)(h1:jb p (qn p))(h2:jb q (qn q))(A1:Oa)(c1:Nat)(K1:Oa)(k1:Nat)(A2:Oa)(c2:Nat)(K2:Oa)(k2:Nat)(x1:RV V (· <V.heap.size) (qn p) (qe (qn p) A1 c1 K1 k1))(x2:RV V (· <V.heap.size) (yN (-1) (qn q)) (qe (yN (-1) (qn q)) A2 c2 K2 k2))(OL:qF (qn q))=>
  Yn (· <V.heap.size) V.heap.size 1001 (fun _ h=>h) (by omega) 4 [qn p,yN (-1) (qn q)] (Ez h1 h2) (by simp) (fun x hx=>(Ui OL x hx).sm (by omega) (by omega)) (some ⟨V.heap.size,0,none⟩) 2 (V.alloc (.cells #[.int .i64 (qn p).lv,.bool (qn p).ng,.slice A1 (qn p).ds.length c1,.slice K1 (qn p).ks.length k1,.int .i64 (yN (-1) (qn q)).lv,.bool (yN (-1) (qn q)).ng,.slice A2 (yN (-1) (qn q)).ds.length c2,.slice K2 (yN (-1) (qn q)).ks.length k2] 28)) (by simp) (yM.two x1 x2 _ rfl) (by simp))
 have Vj:=Gh (fun(h1:jb p (qn p))(h2:jb q (qn q))(d1:qF (qn p))(d2:qF (qn q))(A:Oa)(c:Nat)(K:Oa)(kc:Nat)(W:World)(h:RV W (· <W.heap.size) (jl 5 [qn p,yN (-1) (qn q)]) (qe (jl 5 [qn p,yN (-1) (qn q)]) A c K kc))=>Qt (jl 5 [qn p,yN (-1) (qn q)]) (Jn 5 _ (Ez h1 h2)).1 (qN.sm (d:=1002) (n:=60) (by omega) (by omega) _ (Ya 5 _ (by simp) fun x hx=>⟨Ui d2 x hx,by
  rcases List.mem_cons.1 hx with rfl|hx
  ·exact d1
  ·rw[List.mem_singleton]at hx;subst hx;exact ZO _ _⟩)) A c K kc W h)
 have TX:=Gh (fun(W:World)=>Jc (-1) (by omega) (by omega) W);unfold qX at TX;have TH:=Gh (fun(W:World)(h2:jb q (qn q))(A2:Oa)(c2:Nat)(K2:Oa)(k2:Nat)(x2:RV W (· <W.heap.size) (qn q) (qe (qn q) A2 c2 K2 k2))(D:Oa)(cd:Nat)(hn:qx W W.heap.size D cd (dig (-1:Int).natAbs))=>qbd 1000 (by omega) (qn q) h2.can.1 (ED.sm (by omega) (by omega)) A2 c2 K2 k2 true (dig (-1:Int).natAbs) D cd W.heap.size W (Gr _) x2 hn (Gl (qK (n:=1) (show(-1:Int).natAbs<4294967296^1 by decide)) (by omega)));rw[show qj true (dig (-1:Int).natAbs)=-1 by have h:=jM (-1);rwa[show decide ((-1:Int)<0)=true from rfl]at h]at TH;unfold qS at TH;rw[show decide ((-1:Int)<0)=true from rfl]at TX;unfold J5 at UC;simp only[List.length_cons,List.length_nil,Nat.zero_add,Nat.reduceAdd]at UC;unfold qS at Vj;unfold qS;unfold qm at XQ UF UC Vj TH ⊢;have S2:=Gh (fun(T:RP)(hT:jb p T)=>zi hT);have Ej:=Gh (fun(T:RP)(hT:jb q T)=>zi hT);clear h TS hp hq Fk ED hB;have TK:=Gh (show jg (dig (-1:Int).natAbs)from qA _);clear Ui Ez;generalize jl 5 [qn p,yN (-1) (qn q)]=T3 at*;generalize yN (-1) (qn q)=U3 at*;generalize I9:qn p=U at*;generalize I8:qn q=U2 at*;clear I9 I8;generalize dig (-1:Int).natAbs=d1 at*;generalize p.ds.length=pd at*;generalize p.ks.length=pk at*;generalize p.lv=pl at*;generalize p.ng=pg at*;generalize q.ds.length=qd at*;generalize q.ks.length=qk at*;generalize q.lv=ql at*;generalize q.ng=qg at*;go_enter Tryz.func43,Tryz.ntmps43
 go_wp2_with fail
 obtain⟨Xb,k0,k1,k2,hs⟩:=HX.out;generalize ((w.alloc (.cells #[.int .i64 pl,.bool pg,.slice A pd c,.slice K pk kc] 28)).alloc (.cells #[.int .i64 ql,.bool qg,.slice Aq qd cq,.slice Kq qk kq] 28)).alloc (.cells Gz 28)=W at*;have Xd:=Gh Xb;have KF:=Gh (fun(V:World)(hV:Below W.heap.size W V)=>(⟨(k0.old hV).cell 0,(k0.old hV).cell 1,(k0.old hV).cell 2,(k0.old hV).cell 3,(k1.old hV).cell 0,(k1.old hV).cell 1,(k1.old hV).cell 2,(k1.old hV).cell 3⟩:Gd V w.heap.size (.int .i64 pl) (.bool pg) (.slice A pd c) (.slice K pk kc) (Gc V (w.heap.size+1) (.int .i64 ql) (.bool qg) (.slice Aq qd cq) (.slice Kq qk kq))));have KS:=Gh (fun(V:World)(hV:Below W.heap.size W V)(x0 x1 x2 x3:Value)=>(⟨((k0.old hV).set4_far (Nat.ne_of_lt (by omega)) 0 x0 x1 x2 x3).cell 0,((k0.old hV).set4_far (Nat.ne_of_lt (by omega)) 0 x0 x1 x2 x3).cell 1,((k0.old hV).set4_far (Nat.ne_of_lt (by omega)) 0 x0 x1 x2 x3).cell 2,((k0.old hV).set4_far (Nat.ne_of_lt (by omega)) 0 x0 x1 x2 x3).cell 3,((k1.old hV).set4_far (Nat.ne_of_lt (by omega)) 0 x0 x1 x2 x3).cell 0,((k1.old hV).set4_far (Nat.ne_of_lt (by omega)) 0 x0 x1 x2 x3).cell 1,((k1.old hV).set4_far (Nat.ne_of_lt (by omega)) 0 x0 x1 x2 x3).cell 2,((k1.old hV).set4_far (Nat.ne_of_lt (by omega)) 0 x0 x1 x2 x3).cell 3⟩:((((V.setCell ⟨w.heap.size+1+1,0,none⟩ x0).setCell ⟨w.heap.size+1+1,1,none⟩ x1).setCell ⟨w.heap.size+1+1,2,none⟩ x2).setCell ⟨w.heap.size+1+1,3,none⟩ x3).cell? ⟨w.heap.size,0,none⟩=some (.int .i64 pl)/\((((V.setCell ⟨w.heap.size+1+1,0,none⟩ x0).setCell ⟨w.heap.size+1+1,1,none⟩ x1).setCell ⟨w.heap.size+1+1,2,none⟩ x2).setCell ⟨w.heap.size+1+1,3,none⟩ x3).cell? ⟨w.heap.size,1,none⟩=some (.bool pg)/\((((V.setCell ⟨w.heap.size+1+1,0,none⟩ x0).setCell ⟨w.heap.size+1+1,1,none⟩ x1).setCell ⟨w.heap.size+1+1,2,none⟩ x2).setCell ⟨w.heap.size+1+1,3,none⟩ x3).cell? ⟨w.heap.size,2,none⟩=some (.slice A pd c)/\((((V.setCell ⟨w.heap.size+1+1,0,none⟩ x0).setCell ⟨w.heap.size+1+1,1,none⟩ x1).setCell ⟨w.heap.size+1+1,2,none⟩ x2).setCell ⟨w.heap.size+1+1,3,none⟩ x3).cell? ⟨w.heap.size,3,none⟩=some (.slice K pk kc)/\((((V.setCell ⟨w.heap.size+1+1,0,none⟩ x0).setCell ⟨w.heap.size+1+1,1,none⟩ x1).setCell ⟨w.heap.size+1+1,2,none⟩ x2).setCell ⟨w.heap.size+1+1,3,none⟩ x3).cell? ⟨w.heap.size+1,0,none⟩=some (.int .i64 ql)/\((((V.setCell ⟨w.heap.size+1+1,0,none⟩ x0).setCell ⟨w.heap.size+1+1,1,none⟩ x1).setCell ⟨w.heap.size+1+1,2,none⟩ x2).setCell ⟨w.heap.size+1+1,3,none⟩ x3).cell? ⟨w.heap.size+1,1,none⟩=some (.bool qg)/\((((V.setCell ⟨w.heap.size+1+1,0,none⟩ x0).setCell ⟨w.heap.size+1+1,1,none⟩ x1).setCell ⟨w.heap.size+1+1,2,none⟩ x2).setCell ⟨w.heap.size+1+1,3,none⟩ x3).cell? ⟨w.heap.size+1,2,none⟩=some (.slice Aq qd cq)/\((((V.setCell ⟨w.heap.size+1+1,0,none⟩ x0).setCell ⟨w.heap.size+1+1,1,none⟩ x1).setCell ⟨w.heap.size+1+1,2,none⟩ x2).setCell ⟨w.heap.size+1+1,3,none⟩ x3).cell? ⟨w.heap.size+1,3,none⟩=some (.slice Kq qk kq)));have KR:=Gh (fun(V:World)(hV:Below W.heap.size W V)=>(⟨(k2.old hV).cell 0,(k2.old hV).cell 1,(k2.old hV).cell 2,(k2.old hV).cell 3,(k2.old hV).frozen 0,(k2.old hV).frozen 1,(k2.old hV).frozen 2,(k2.old hV).frozen 3,(k2.old hV).lt⟩:
  Gd V (w.heap.size+1+1) (.int .i64 0) (.bool false) (.slice none 0 0) (.slice none 0 0) (V.frozen? ⟨w.heap.size+1+1,0,none⟩=false/\V.frozen? ⟨w.heap.size+1+1,1,none⟩=false/\V.frozen? ⟨w.heap.size+1+1,2,none⟩=false/\V.frozen? ⟨w.heap.size+1+1,3,none⟩=false/\w.heap.size+1+1<V.heap.size)))
 have RS:=Gh k2;have hb:Below W.heap.size W W.drew:=(qt.drew _).below _;have Tb:Below W.heap.size W W:=Below.refl _ _;have Tf:=Gh (fun(V:World)(hV:Below W.heap.size W V)=>XQ V (Gt Xd hV));have Ru:=Gh (fun(V:World)(hV:Below W.heap.size W V)=>UF V (Gt Xd hV));clear HX XQ UF Xb k0 k1 k2 hs;go_region_held3 (fun w'=>Gd w' w.heap.size (.int .i64 pl) (.bool pg) (.slice A pd c) (.slice K pk kc) (Gc w' (w.heap.size+1) (.int .i64 ql) (.bool qg) (.slice Aq qd cq) (.slice Kq qk kq)))
  (first|(with_reducible exact KF.out _ hb)|(with_reducible exact KF.out _ Tb)|(with_reducible exact KF.out _ (hb.alloc hb.size _))|(with_reducible exact KS.out _ hb _ _ _ _))
  (first
    |(go_at_call 31;(with_reducible refine(Tf.out _ hb).mono ?_);rintro e v0 ⟨T1,A1,c1,K1,kc1,VU,rfl,U9,_,hk⟩;obtain rfl:=S2.out T1 VU;replace hb:=Gt hb hk;(try replace U9:=(U9.below hk).more hk.size);(try replace XK:=(XK.below hk).more hk.size);(try replace CU:=(CU.below hk).more hk.size);(try replace n6:=n6.old hk);have Sn:=hb.size)
    |(go_at_call 31;(with_reducible refine(Ru.out _ hb).mono ?_);rintro e v1 ⟨T2,A2,c2,K2,kc2,Ri,rfl,XK,_,hk⟩;obtain rfl:=Ej.out T2 Ri;have Lf:=RV.digT _ _ XK;replace hb:=Gt hb hk;(try replace U9:=(U9.below hk).more hk.size);(try replace XK:=(XK.below hk).more hk.size);(try replace CU:=(CU.below hk).more hk.size);(try replace n6:=n6.old hk);have Rg:=hb.size)
    |(go_at_call 35;(with_reducible refine(TX.out _).mono ?_);rintro e v6 ⟨A6,c6,rfl,l6,n6,hk⟩;replace hb:=Gt hb hk;(try replace U9:=(U9.below hk).more hk.size);(try replace XK:=(XK.below hk).more hk.size);have IG:=hb.size)
    |(go_at_call 82;(with_reducible refine(TH.out _ Ri A2 c2 K2 kc2 XK A6 c6 ⟨n6.reads,TK.out,l6⟩).mono ?_);rintro e v7 ⟨A7,c7,K7,kc7,rfl,hr70,hk⟩;replace hb:=Gt hb hk;(try replace U9:=(U9.below hk).more hk.size);have CU:=hr70.rv;have hs7:=hb.size)
    |(go_at_call 81;(with_reducible refine(UC.out _ VU Ri A1 c1 K1 kc1 A7 c7 K7 kc7 U9 CU Lf).mono ?_);rintro e v2 ⟨A3,c3,K3,kc3,rfl,UL,hk⟩;replace hb:=(hb.alloc hb.size _).trans (hk.mono (hb.alloc hb.size _).size);have RL:=hb.size;have TR:=RV.mono (S':=(· <v2.heap.size)) (fun b h=>ZL.lt h (fun b hb=>Gm hb (Gl (by simp) hk.size))) _ _ UL)
    |(go_at_call 30;(with_reducible refine(Vj.out VU Ri (RV.digT _ _ U9) Lf A3 c3 K3 kc3 _ TR).mono ?_);rintro e v3 ⟨A4,c4,K4,kc4,rfl,Fl,hk⟩;replace hb:=Gt hb hk;obtain⟨d0,d1,d2,d3,f0,f1,f2,f3,z0⟩:=KR.out _ hb))
 all_goals
  have k2:=RS.out.old hb;have EI:=RS.out.lt;have Xg:=Gh (jj (w:=w) k2 rfl Fl (by omega) (by omega) (Gt Xd hb));have Ew:=Gh VU;have BZ:=Gh Ri;clear Fl TR UL U9 hb Tb KF KS KR Tf Ru k2 VU Ri S2 Ej UC Vj;go_wp2_with fail
  exact qo Tryz.results43 rfl rfl Xg.out.1 Tryz.underlying28 rfl Tryz.sizeRec ⟨Ew,BZ,Xg.out.2⟩
section
variable {k:Int} {d1 d2 n1 n2 d n:Nat} {p q:RP} {gs:List Nat} {V:World} {A K Aq Kq:Oa} {c kc cq kq:Nat}
theorem jQ(hk:0<k)(Xj:k<=4)(hp:Qp k d1 n1 p)(hq:Qp k d2 n2 q)(hd:d1+d2+4<=400)(hn:n1+n2<=32)(UA:∀x∈gs,∃cs,qf V x 28 cs)(h1:RV V (NB gs V) p (qe p A c K kc))(h2:RV V (NB gs V) q (qe q Aq cq Kq kq)):
 Calls Tryz.prog 44 #[qm p A c K kc,qm q Aq cq Kq kq] V (qf3 k (d1+d2+4) (n1+n2) gs V):=by
 refine(qdK 400 (by omega) p q hp.fit hq.fit (hp.vp.big (by omega) (by omega)) (hq.vp.big (by omega) (by omega)) A c K kc Aq cq Kq kq V.heap.size V (Gr _) (NB.all h1) (NB.all h2)).mono ?_;rintro e w' ⟨T,hT,_,_,hr⟩;exact hr.q (hp.vp.mul hk hq.vp hT (by omega)) hk Xj hd hn UA
theorem qaG(hk:0<k)(Xj:k<=4)(hp:Qp k d n p)(hq:Qp k d n q)(hd:d+1<=400)(hn:n<=32)(UA:∀x∈gs,∃cs,qf V x 28 cs)(h1:RV V (NB gs V) p (qe p A c K kc))(h2:RV V (NB gs V) q (qe q Aq cq Kq kq)):
 Calls Tryz.prog 96 #[qm p A c K kc,qm q Aq cq Kq kq] V (qf3 k (d+1) n gs V):=by
 refine(qiG 400 (by omega) p q hp.fit hq.fit (hp.vp.big (by omega) (by omega)) (hq.vp.big (by omega) (by omega)) A c K kc Aq cq Kq kq V.heap.size V (Gr _) (NB.all h1) (NB.all h2)).mono ?_;rintro e w' ⟨_,_,hr⟩;exact hr.q (hp.vp.add hk hq.vp) hk Xj hd hn UA
theorem qiz(hk:0<k)(Xj:k<=4)(hp:Qp k d n p)(hq:Qp k d n q)(hd:d+2<=400)(hn:n<=32)(UA:∀x∈gs,∃cs,qf V x 28 cs)(h1:RV V (NB gs V) p (qe p A c K kc))(h2:RV V (NB gs V) q (qe q Aq cq Kq kq)):
 Calls Tryz.prog 43 #[qm p A c K kc,qm q Aq cq Kq kq] V (qf3 k (d+2) n gs V):=by
 refine(qcM 400 (by omega) p q hp.fit hq.fit (hp.vp.big (by omega) (by omega)) (hq.vp.big (by omega) (by omega)) A c K kc Aq cq Kq kq V.heap.size V (Gr _) (NB.all h1) (NB.all h2)).mono ?_;rintro e w' ⟨_,_,hr⟩;exact hr.q (hp.vp.sub hk hq.vp) hk Xj hd hn UA
end
theorem qjD(dg:Nat)(Xr:dg<=500)(rel:Int)(t:RP)(hf:yz dg t)(Ul:yP 1000 (qn t))(A:Oa)(c:Nat)(K:Oa)(kc B:Nat)(w:World)(hB:B<=w.heap.size)(h:RV w (· <B) t (qe t A c K kc)):
 Calls Tryz.prog 38 #[.agg #[.int .i64 2,.int .i64 rel,.int .i64 t.lv,.bool t.ng,.slice A t.ds.length c,.slice K t.ks.length kc,.slice none 0 0]] w fun e w'=>∃M,AtM rel t M/\zM M w e w':=by
 obtain⟨Xb,k0,k1,hs⟩:=qR w 32 32 #[.int .i64 2,.int .i64 rel,.int .i64 t.lv,.bool t.ng,.slice A t.ds.length c,.slice K t.ks.length kc,.slice none 0 0] Gy;have Xd:=Gh Xb;have Xu:=Gh k1;have Sz:=Gh (fun(W:World)(hW:Below w.heap.size w W)=>qaq dg Xr rel t hf Ul A c K kc B W (Gl hB hW.size) (h.below (hW.mono hB)));unfold zM qm lfv at Sz;obtain⟨c0,c1,c2,c3⟩:=G4 k0;have c4:=k0.cell 4;have c5:=k0.cell 5;clear k0 k1 Xb hs h hf Ul hB;go_enter Tryz.func38,Tryz.ntmps38
 go_upto_region 1 with(fail)
 generalize (w.alloc (.cells #[.int .i64 2,.int .i64 rel,.int .i64 t.lv,.bool t.ng,.slice A t.ds.length c,.slice K t.ks.length kc,.slice none 0 0] 32)).alloc (.cells Gy 32)=W at*;go_wp2_with fail
 refine(Sz W Xd).mono ?_;rintro e w1 ⟨_,M,hM,SN,A5,c5',K5,kc5,rfl,Fl,Xp⟩;have k1:=Xu.out.old Xp;have Xg:=Gh (Jz (w:=w) SN k1 Fl Xu.out.lt (Nat.le_succ _) (Gt Xd Xp));have HM:=Gh hM;obtain⟨d0,d1,d2,d3⟩:=G4 k1;have d4:=k1.cell 4;have d5:=k1.cell 5;have d6:=k1.cell 6;have f0:=k1.frozen 0;have f1:=k1.frozen 1;have f2:=k1.frozen 2;have f3:=k1.frozen 3;have f4:=k1.frozen 4;have f5:=k1.frozen 5;have f6:=k1.frozen 6;have z0:=k1.lt;clear k1 Xp Fl SN hM Xd Xu Sz c0 c1 c2 c3 c4 c5;go_wp2_with fail
 exact qo Tryz.results38 rfl rfl Xg.out.1 Tryz.underlying32 rfl Tryz.sizeMat ⟨M,HM,Xg.out.2⟩
def YP(t:Tm):List Tm->List Tm
 |[]=>[t]
 |s::r=>if Zc s.2 t.2 then t::s::r else if s.2=t.2 then(if s.1+t.1=0 then r else(s.1+t.1,s.2)::r)else s::YP t r
theorem qdx{t:Tm}:∀{l:List Tm} {x:Tm},x∈YP t l->x.2=t.2∨∃y∈l,y.2=x.2
 |[],x,h=>by
  simp only[YP,List.mem_singleton]at h;exact .inl (by rw[h])
 |s::r,x,h=>by
  rw[YP]at h
  split at h
  ·rcases List.mem_cons.1 h with rfl|h
   ·exact .inl rfl
   ·exact .inr ⟨x,h,rfl⟩
  ·split at h
   ·split at h
    ·exact .inr ⟨x,List.mem_cons_of_mem _ h,rfl⟩
    ·rcases List.mem_cons.1 h with rfl|h
     ·exact .inr ⟨s,List.mem_cons_self,rfl⟩
     ·exact .inr ⟨x,List.mem_cons_of_mem _ h,rfl⟩
   ·rcases List.mem_cons.1 h with rfl|h
    ·exact .inr ⟨x,List.mem_cons_self,rfl⟩
    ·rcases qdx h with h|⟨y,hy,e⟩
     ·exact .inl h
     ·exact .inr ⟨y,List.mem_cons_of_mem _ hy,e⟩
theorem qdQ{t:Tm}(h0:t.1≠0)(hv:zD t.2=true):∀{l:List Tm},qW l->qW (YP t l)
 |[],_=>⟨by simp[YP,h0],by simp[YP,hv],by simp[YP]⟩
 |s::r,h=>by
  have hp:=List.pairwise_cons.1 h.so;rw[YP]
  split
  ·rename_i Xi;refine⟨fun x hx=>?_,fun x hx=>?_,List.pairwise_cons.2 ⟨fun x hx=>?_,h.so⟩⟩
   ·rcases List.mem_cons.1 hx with rfl|hx
    ·exact h0
    ·exact h.ne x hx
   ·rcases List.mem_cons.1 hx with rfl|hx
    ·exact hv
    ·exact h.vl x hx
   ·rcases List.mem_cons.1 hx with rfl|hx
    ·exact Xi
    ·exact Qr (hp.1 x hx) Xi
  ·split
   ·split
    ·exact h.tail
    ·rename_i Xl;refine⟨fun x hx=>?_,fun x hx=>?_,List.pairwise_cons.2 ⟨fun x hx=>hp.1 x hx,hp.2⟩⟩
     ·rcases List.mem_cons.1 hx with rfl|hx
      ·exact Xl
      ·exact h.tail.ne x hx
     ·rcases List.mem_cons.1 hx with rfl|hx
      ·exact h.vl s List.mem_cons_self
      ·exact h.tail.vl x hx
   ·rename_i Xi Xl;have ih:=qdQ h0 hv h.tail;refine⟨fun x hx=>?_,fun x hx=>?_,List.pairwise_cons.2 ⟨fun x hx=>?_,ih.so⟩⟩
    ·rcases List.mem_cons.1 hx with rfl|hx
     ·exact h.ne x List.mem_cons_self
     ·exact ih.ne x hx
    ·rcases List.mem_cons.1 hx with rfl|hx
     ·exact h.vl x List.mem_cons_self
     ·exact ih.vl x hx
    ·rcases qdx hx with e|⟨y,hy,e⟩
     ·rw[e];rcases ZD s.2 t.2 with k|k|k
      ·exact absurd k Xi
      ·exact absurd k Xl
      ·exact k
     ·rw[<-e];exact hp.1 y hy
theorem qdy(f:Mo->Int){t:Tm}:∀{l:List Tm},yE f (YP t l)=yE f l+yE f [t]
 |[]=>by simp[YP,yE]
 |s::r=>by
  rw[YP]
  split
  ·simp only[yE];omega
  ·split
   ·rename_i he
    split
    ·rename_i h0;have e:s.1*f s.2+t.1*f t.2=0:=by
      rw[he,<-Int.add_mul,h0,Int.zero_mul]
     simp only[yE,he]at e ⊢
     split<;>omega
    ·have e:(s.1+t.1)*f s.2=s.1*f s.2+t.1*f s.2:=Int.add_mul ..;simp only[yE,he]at e ⊢
     split<;>omega
   ·simp only[yE];have ih:=qdy f (t:=t) (l:=r);simp only[yE]at ih;omega
theorem qdR:∀l:List Tm,∃P,qW P/\∀m,cf P m=cf l m
 |[]=>⟨[],qW.nil,fun _=>rfl⟩
 |t::l=>by
  obtain⟨P,hP,h⟩:=qdR l;by_cases h0:t.1≠0/\zD t.2=true
  ·refine⟨YP t P,qdQ h0.1 h0.2 hP,fun m=>?_⟩;have h1:=h m;unfold cf at h1 ⊢;rw[qdy,h1];simp only[yE];omega
  ·refine⟨P,hP,fun m=>?_⟩;rw[h m];unfold cf;simp only[yE];by_cases hv:zD t.2=true
   ·have:t.1=0:=by
     apply Classical.byContradiction;intro e;exact h0 ⟨e,hv⟩
    rw[this,Int.zero_mul];simp
   ·rw[if_neg hv];omega
theorem jS(t:RP):jb t (qn t):=by
 have h:∃T,jb t T:=by
  cases hc:qv t with
  |true=>exact⟨t,.inl ⟨hc,rfl⟩⟩
  |false=>
   obtain⟨P,hP,h⟩:=qdR (JA t);exact⟨qZ 4 P,.inr ⟨hc,P,hP,h,rfl⟩⟩
 obtain⟨T,hT⟩:=h;rw[zi hT];exact hT
theorem qjc{c:RP}(hw:qN 2 40 c)(hf:ym 2 c)(hd:qF c)(hn:jW c<=1000)(FI:qC c<=6):qN 3 241 (qn c):=by
 rcases jS c with⟨_,e⟩|⟨_,P,hP,Tl,e⟩
 ·rw[e];exact qN.mono (by omega) (by omega) _ hw
 ·rw[e];refine qaP (by omega) 4 _ (by omega) fun s hs=>?_;refine⟨zL ?_,fun i hi=>?_⟩
  ·have h2:=Qu hs;have h3:=hP.nrm_le Tl;have h4:nrm (JA c)<=1000*pw 2:=by
    refine Gl (Qx _ (pw 2) fun t ht=>?_) (Nat.mul_le_mul_right _ ?_)
    ·obtain⟨x,hx,rfl⟩:=List.mem_map.1 (show t∈(jH c (0,0,0,0)).map YN from ht);have h1:=(J8 c (0,0,0,0) 0 hf (by simp[zh]) x hx).1;show(qj x.1.1 x.1.2).natAbs<=_;rw[je];exact Nat.le_of_lt (qcm (ZI c _ hd x hx) h1)
    ·rw[ZN,List.length_map];exact Gl (Yi c _) hn
   have h5:=qcA 2;rw[show pw (2+1)=pw 3 from rfl]at h5;omega
  ·obtain⟨x,hx,e⟩:=Yh hP Tl hs;have h1:=(J8 c (0,0,0,0) 0 hf (by simp[zh]) x hx).2;have h2:=(h1.at_ i).2;rw[Yw _ hi]at h2;rw[<-e];omega
theorem yJ{t:RP}(h:0<=jX 2 t 30 6)(hd:qF t):yz 400 t/\qN 3 241 (qn t):=by
 obtain⟨h1,h2,h3⟩:=YV 2 t 30 6 h;have hw:=qaJ _ h3;exact⟨⟨by omega,qN.few (n:=40) (by omega) _ (qN.mono (by omega) (Gr _) _ hw),by omega⟩,qjc hw h3 hd (by omega) h2⟩
theorem jT.nodeC{w:World}{B:Nat}{A:Oa}{ts:List RP}(h:jT w B A ts){c:Nat}(hc:ts.length<=c)(l:Int):RV w (· <B) (.mk l false [] ts) (qe (.mk l false [] ts) none 0 A c):=by
 obtain⟨rows,h6,h7⟩:=h;unfold RV;exact⟨none,0,A,c,rfl,⟨rfl,fun hp=>absurd hp (Nat.lt_irrefl 0)⟩,by simp[jg],Nat.zero_le _,hc,rows,h6,h7⟩
theorem qdz(dg:Nat)(Xr:dg<=500)(k:Int)(Xx:0<k)(Xj:k<=4)(ts:List RP)(hf:yz dg (.mk k false [] ts))(A:Oa)(c B:Nat)(w:World)(hB:B<=w.heap.size)(h:jT w B A ts)(hc:ts.length<=c):
 Calls Tryz.prog 48 #[.slice A ts.length c,.int .i64 k] w fun e w'=>jb (.mk k false [] ts) (qn (.mk k false [] ts))/\qS (qn (.mk k false [] ts)) w e w':=by
 have Xb:=Gb w (.cells Gz 28);have Ty:=qf.new w 28 Gz;have HN:=Gh (fun(W:World)(hW:Below w.heap.size w W)=>yh dg Xr (.mk k false [] ts) hf none 0 A c B W (Gl hB hW.size) ((h.below (hW.mono hB)).nodeC hc k));have HL:=Gh (fun(W:World)=>Qi k W);have DX:(decide (1<=k)&&decide (k<=4))=true:=by simp;omega
 rw[DX]at HL;unfold J0 at HN;unfold qS;unfold qm at HN ⊢;have UW:=Gh Ty;have Xd:=Gh Xb;clear h hf hB Xb Ty DX;generalize qn (.mk k false [] ts)=T at*;rw[show(RP.mk k false [] ts).lv=k from rfl,show(RP.mk k false [] ts).ng=false from rfl,show(RP.mk k false [] ts).ds.length=0 from rfl,show(RP.mk k false [] ts).ks.length=ts.length from rfl]at HN;generalize ts.length=n at*;go_enter Tryz.func48,Tryz.ntmps48
 go_wp2_with fail
 generalize w.alloc (.cells Gz 28)=W at*;refine(HL W).mono ?_;rintro e w2 ⟨rfl,rfl⟩;clear HL;go_wp2_with fail
 refine(HN W Xd).mono ?_;rintro e w3 ⟨A3,c3,K3,kc3,rfl,U0,UL,Xz⟩;have kk:=UW.out.old Xz;have Xg:=Gh (jj (w:=w) (g:=w.heap.size) kk rfl UL UW.out.lt (Gr _) (Gt Xd Xz));have Tk:=Gh U0;obtain⟨d0,d1,d2,d3⟩:=G4 kk;obtain⟨f0,f1,f2,f3,z0⟩:=G5 kk;clear kk UL Xz U0 HN;go_wp2_with fail
 exact qo Tryz.results48 rfl rfl Xg.out.1 Tryz.underlying28 rfl Tryz.sizeRec ⟨Tk,Xg.out.2⟩
theorem jT.take{w:World}{B:Nat}{A:Oa}{ts:List RP}(h:jT w B A ts){n:Nat}(hn:n<=ts.length):jT w B A (ts.take n):=by
 obtain⟨rows,h6,h7⟩:=h;obtain⟨a1,a2,_⟩:=qG.at_ ts rows h7;have hl:(ts.take n).length=n:=by rw[List.length_take];omega
 have SI:(rows.take n).length=n:=by rw[List.length_take];omega
 have hf:(rows.take n).flatten.length=n*4:=by
  rw[jt (fun r hr=>a1 r (List.mem_of_mem_take hr)),SI]
 refine⟨rows.take n,⟨by rw[hl];exact hf,fun hp=>?_⟩,qG.takeR n _ _ h7⟩;obtain⟨b,o,e,hb,hc⟩:=h6.2 (by omega);refine⟨b,o,e,hb,fun j u hu=>hc j u ?_⟩;have BG:rows.flatten=(rows.take n).flatten++(rows.drop n).flatten:=by rw[<-List.flatten_append,List.take_append_drop]
 rw[BG,List.getElem?_append_left (by have:=(Gi.1 hu).1;exact this)];exact hu
theorem Tryz.slice_to(b o n c a:Nat)(h:a<=c)(W:World):(Instr.slice 26 (.slice (some ⟨b,o,none⟩) n c) none (some (.int .i64 (a:Int))) none).run Tryz.prog W= .ok (.slice (some ⟨b,o,none⟩) a c) W:=by
 simp[Instr.slice,run_underlying Tryz.underlying26,go_sem];intro hh;omega
noncomputable def Y8(k:Int)(t:RP):RP:=if qI (qn t)=true then qh else qn (.mk k false [] ((qD k t).take ((qD k t).length-1)))
theorem qd2(dg:Nat)(Xr:dg<=500)(k:Int)(Xx:0<k)(Xj:k<=4)(t:RP)(hf:yz dg t)(Ul:yz dg (qn t))(BM:qI (qn t)=false->yz dg (.mk k false [] ((qD k t).take ((qD k t).length-1))))(XC:(qD k t).length<=1000)(SC:qI (qn t)=false->0<(qD k t).length)
 (A:Oa)(c:Nat)(K:Oa)(kc B:Nat)(w:World)(hB:B<=w.heap.size)(h:RV w (· <B) t (qe t A c K kc)):
 Calls Tryz.prog 21 #[qm t A c K kc,.int .i64 k] w (qS (Y8 k t) w):=by
 obtain⟨Xb,k0,k1,hs⟩:=qR w 28 28 (Gx t A c K kc) Gz;have HC:=Gh (fun(W:World)(hW:Below w.heap.size w W)=>qf8 dg Xr k Xx Xj t hf Ul A c K kc B W (Gl hB hW.size) (h.below (hW.mono hB)));have HJ:=Gh (fun(hz:qI (qn t)=false)(A:Oa)(c B:Nat)(W:World)(hB:B<=W.heap.size)(h:jT W B A ((qD k t).take ((qD k t).length-1)))(hc:((qD k t).take ((qD k t).length-1)).length<=c)=>qdz dg Xr k Xx Xj _ (BM hz) A c B W hB h hc);have Ep:=Gh SC;have Fw:=Gh (fun(hz:qI (qn t)=true)=>show Y8 k t=qh by unfold Y8;rw[if_pos hz]);have Tq:=Gh (fun(hz:qI (qn t)=false)=>show Y8 k t=qn (.mk k false [] ((qD k t).take ((qD k t).length-1)))by unfold Y8;rw[if_neg (by rw[hz];decide)]);unfold qeF at HC;unfold qS at HJ ⊢;unfold qm at HC HJ ⊢;have Xo:=Gh k0;have Xu:=Gh k1;have Xd:=Gh Xb;clear h hf Ul BM hB SC Xb k0 k1 hs;generalize Y8 k t=R at*;go_enter Tryz.func21,Tryz.ntmps21
 go_upto_region 1 with(fail)
 generalize (w.alloc (.cells (Gx t A c K kc) 28)).alloc (.cells Gz 28)=W at*;obtain⟨x0,x1,x2,x3⟩:=G4 Xo.out;go_wp2_with fail
 refine(HC W Xd).mono ?_;rintro e w2 ⟨U0,Xf,Ry⟩;clear x0 x1 x2 x3 HC;have kk:=Xu.out.old Xf;have Xw:=Gh (Gt Xd Xf);have AM:w.heap.size+1<W.heap.size:=Xu.out.lt;obtain⟨d0,d1,d2,d3⟩:=G4 kk;obtain⟨f0,f1,f2,f3,z0⟩:=G5 kk;rcases Ry with⟨hz,rfl⟩|⟨hz,-,g,cur,rows,hg,rfl,Ua⟩
 ·have HT:=Gh (Fw hz);have Xg:=Gh (jj kk rfl (RB.zero (base:=w.heap.size+1+1)) (Nat.lt_succ_self _) (by omega) Xw);clear hz kk Xf U0;go_wp2_with fail
  have hT:=HT.out;subst hT;exact qo Tryz.results21 rfl rfl Xg.out.1 Tryz.underlying28 rfl Tryz.sizeRec Xg.out.2
 ·have hp:=Ep.out hz;have UG:=(jT.of_row Ua Ua.row.lt).take (n:=(qD k t).length-1) (by omega);have DN:=Gh (HJ hz (some ⟨g,0,none⟩) (qD k t).length w2.heap.size w2 (Gr _) UG (by rw[List.length_take];omega));rw[List.length_take,Nat.min_eq_left (by omega)]at DN;have HT:=Gh (Tq hz);rw[<-HT.out]at DN;have Tt:=Gh kk;clear d0 d1 d2 d3 f0 f1 f2 f3 z0 kk UG Ua Xf U0 hz HJ Fw Tq HT;obtain⟨m,hm⟩:∃m,(qD k t).length=m+1:=⟨(qD k t).length-1,by omega⟩;rw[hm,show m+1-1=m by omega]at DN;rw[hm]at XC ⊢;have EE:=Tryz.slice_to g 0 (m+1) (m+1) m (by omega) w2;have X7:(((m+1:Nat):Int)==0)=false:=Qk _ (by omega);have TC:((m+1:Nat):Int)-1=(m:Int):=by omega
  have e9:IntKind.i64.wrap (m:Int)=(m:Int):=IntWalk.i64_in _ (by omega);clear hm hp Ep;generalize hM:m+1=M at*;clear hM;go_wp2_with fail
  refine DN.out.mono ?_;rintro e w3 ⟨-,A3,c3,K3,kc3,rfl,UL,Xz⟩;have kk:=Tt.out.old Xz;have RL:=Xw.out.size;have Xg:=Gh (jj (w:=w) kk rfl UL Tt.out.lt (by omega) (Gt Xw Xz));obtain⟨d0,d1,d2,d3⟩:=G4 kk;obtain⟨f0,f1,f2,f3,z0⟩:=G5 kk;clear kk UL Xz;go_wp2_with fail
  exact qo Tryz.results21 rfl rfl Xg.out.1 Tryz.underlying28 rfl Tryz.sizeRec Xg.out.2
