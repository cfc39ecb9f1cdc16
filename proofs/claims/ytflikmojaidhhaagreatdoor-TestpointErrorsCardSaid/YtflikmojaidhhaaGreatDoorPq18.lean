import Derived.Test.YtflikmojaidhhaaGreatDoorPq17
import Derived.Test.YtflikmojaidhhaaGreatDoorPqA
namespace Go.Proofs.YtflikmojaidhhaaGreatDoor
open Go.RowKit
def qcu(p q:RP)(w:World)(e:Ending)(w':World):Prop:=∃T,jZ p q T/\qS T w e w'
theorem QC.more{w:World}{base base':Nat}{v:Value}{is:List Nat}(h:QC w base v is)(hb:base'<=base):QC w base' v is:=
 ⟨h.1,h.2.imp id fun⟨g,cap,cur,h1,h2,h3⟩=>⟨g,cap,cur,h1,Gl hb h2,h3⟩⟩
theorem QC.lit{w:World}{base n c:Nat}{A:Oa}{is:List Nat}(h:QC w base (.slice A n c) is):n=is.length/\∀(k:Nat)(i:Nat),is[k]? =some i->∃b o,A=some ⟨b,o,none⟩/\b<w.heap.size/\base<=b/\w.cell? ⟨b,o+k,none⟩=some (.int .i64 (i:Int)):=by
 obtain⟨A',c',e,_,h2⟩:=h.at_
 injection e with e1 e2 e3
 subst e1;subst e2;exact⟨rfl,h2⟩
def qgK(w3 W:World)(gT:Nat)(t s:RP)(N:Nat)(pr:List (Nat×Nat))(vp vq:Value)(Ip Iq:List Nat):Prop:=
 Below w3.heap.size w3 W/\QC W (gT+1) vp Ip/\QC W (gT+1) vq Iq/\∃vs Ps,vs.length=N/\JW t s N pr Ps/\Z9 W gT vs Ps
structure qlt (D B:Nat) (p q t s:RP) (A:Oa) (c:Nat) (K:Oa) (kc:Nat) (A':Oa) (c':Nat) (K':Oa) (kc':Nat) (w wc:World):Prop where
 lv:s.lv<=t.lv
 dep:qC t+qC s<=D
 ct:qv t=true
 cs:qv s=true
 wt:qN 1000 60 t
 ws:qN 1000 60 s
 un:∀T,jZ t s T->jZ p q T
 rt:RV w (· <B) t (qe t A c K kc)
 rs:RV w (· <B) s (qe s A' c' K' kc')
 bel:Below w.heap.size w wc
 k0:qf wc w.heap.size 28 #[.int .i64 t.lv,.bool t.ng,.slice A t.ds.length c,.slice K t.ks.length kc]
 k1:qf wc (w.heap.size+1) 28 #[.int .i64 s.lv,.bool s.ng,.slice A' s.ds.length c',.slice K' s.ks.length kc']
 k2:qf wc (w.heap.size+1+1) 28 #[.int .i64 0,.bool false,.slice none 0 0,.slice none 0 0]
theorem qeG{Ps:List (List RP)}{N:Nat}(h:Ps.length=N):(List.range N).map (fun k=>jl 4 (Ps.getD k []))=Ps.map (jl 4):=by
 apply List.ext_getElem?;intro k;rw[List.getElem?_map,List.getElem?_map];by_cases hk:k<N
 ·rw[List.getElem?_range hk,Gn (by omega)];show some (jl 4 (Ps.getD k []))=_;rw[List.getD_eq_getElem?_getD,Gn (by omega)];rfl
 ·rw[List.getElem?_eq_none (by rw[List.length_range];omega),List.getElem?_eq_none (by omega)];rfl
theorem qcc{W W1:World}{base base' b:Nat}(h:yB W base b)(hb:Below W.heap.size W W1)(Vo:base'<=base:=by exact Gr _):yB W1 base' b:=
 (yB.keep (w:=W) (w':=W1) (base:=base) (base':=base') (fun _ _ k=>k.old hb) (fun _ _ _ k=>k.old hb) Vo).2 b h
theorem qc3(js:List Nat):∀is:List Nat,(is.flatMap fun i=>js.map fun j=>(i,j)).length=is.length*js.length
 |[]=>by simp
 |i::is=>by rw[List.flatMap_cons,List.length_append,List.length_map,qc3 js is,List.length_cons,Nat.succ_mul,Nat.add_comm]
structure YB (w3:World) (gT:Nat) (vp vq:Value) (Ip Iq:List Nat) (vs:List Value) (Ps:List (List RP)) (V:World):Prop where
 bel:Below gT w3 V
 ip:QC V (gT+1) vp Ip
 iq:QC V (gT+1) vq Iq
 m:Z9 V gT vs Ps
theorem YB.old{w3 V V':World}{gT:Nat}{vp vq:Value}{Ip Iq:List Nat}{vs:List Value}{Ps:List (List RP)}(h:YB w3 gT vp vq Ip Iq vs Ps V)(hb:Below V.heap.size V V'):YB w3 gT vp vq Ip Iq vs Ps V':=
 ⟨h.bel.trans (hb.mono (Nat.le_of_lt h.m.tab.lt)),h.ip.old hb,h.iq.old hb,h.m.old hb⟩
theorem QP{W:World}{base base' n n' size size':Nat}{e e':TypeId}{v v':Value}{xs xs':List Value}(h:W.ownsRow base e size v n xs)(h':W.ownsRow base' e' size' v' n' xs')(Xl:e≠e'):v.ownBlock=none∨v.ownBlock≠v'.ownBlock:=by
 rcases h.2 with⟨rfl,_⟩|⟨g,cap,cur,rfl,_,hh,_⟩
 ·exact .inl rfl
 ·exact .inr fun e1=>yx (t:=e) (cs:=cur) h' hh (Ne.symm Xl) e1
theorem YB.push{w3 V V2:World}{gT k:Nat}{vp vq v v':Value}{Ip Iq:List Nat}{vs:List Value}{Ps:List (List RP)}{ts:List RP}{rows:List (List Value)}{x:RP}{us:List Value}(h:YB w3 gT vp vq Ip Iq vs Ps V)(hk:vs[k]? =some v)(hp:Ps[k]? =some ts)
 (hr:V.ownsRow (gT+1) 28 4 v ts.length rows.flatten)(hm:qG V (Qn vs V (gT+1)) ts rows)(hg:V.grownBy V2 v.ownBlock)(ho:V2.ownsRow (gT+1) 28 4 v' (ts.length+1) (rows.flatten++us))(VI:v'.ownBlock=v.ownBlock∨∃g,v'.ownBlock=some g/\V.heap.size<=g)
 (hx:RV V2 (Qn (vs.set k v') V2 (gT+1)) x us):YB w3 gT vp vq Ip Iq (vs.set k v') (Ps.set k (ts++[x])) (V2.setCell ⟨gT,k,none⟩ v') where
 bel:=(h.bel.grown hg (Nat.le_of_lt h.m.tab.lt) (fun j e=>by have:=jY hr e;omega)).setCell (p:=⟨gT,k,none⟩) (Gr _) v'
 ip:=ze (h.ip.kept hg (QP h.ip hr (by decide))) (Nat.lt_succ_self gT) v'
 iq:=ze (h.iq.kept hg (QP h.iq hr (by decide))) (Nat.lt_succ_self gT) v'
 m:=h.m.push hk hp hr hm hg ho VI hx
theorem YB.put{w3 V:World}{gT k:Nat}{vp vq v:Value}{Ip Iq:List Nat}{vs:List Value}{Ps:List (List RP)}{ts:List RP}{x:RP}(h:YB w3 gT vp vq Ip Iq vs (Ps.set k (ts++[qh])) V)(hk:vs[k]? =some v){A K:Oa}{c kc:Nat}(hx:RV V (Qn vs V (gT+1)) x (qe x A c K kc)):
 ∃g cap,v= .slice (some ⟨g,0,none⟩) (ts.length+1) cap/\ts.length+1<=cap/\YB w3 gT vp vq Ip Iq vs (Ps.set k (ts++[x])) (set4 V g (ts.length*4) (.int .i64 x.lv) (.bool x.ng) (.slice A x.ds.length c) (.slice K x.ks.length kc))/\∃cur,qf V g 28 cur/\(ts.length+1)*4<=cur.size:=by
 have LF:k<Ps.length:=by have:=h.m.pl;rw[List.length_set]at this;have:=(Gi.1 hk).1;omega
 obtain⟨rows,Xk,_⟩:=h.m.row k v _ hk (List.getElem?_set_self LF);rw[List.length_append,List.length_singleton]at Xk;obtain⟨g,cap,hv,DA,hm,cur,XS,XV⟩:=h.m.put hk hx;subst hv;have Xl:∀{vq':Value} {n:Nat} {xs:List Value},V.ownsRow (gT+1) 3 1 vq' n xs->vq'.ownBlock=none∨vq'.ownBlock≠some g:=fun q=>QP q Xk (by decide);have hg:V.grownBy (set4 V g (ts.length*4) (.int .i64 x.lv) (.bool x.ng) (.slice A x.ds.length c) (.slice K x.ks.length kc)) (some g):=
  ⟨rfl,rfl,rfl,Nat.le_of_eq (jP _ _ _ _ _ _ _).symm,fun j hj hn=>by
    have OD:j≠g:=fun e=>hn (by rw[e]);unfold set4;rw[Below.heap_setCell _ ⟨g,_,none⟩ _ j OD,Below.heap_setCell _ ⟨g,_,none⟩ _ j OD,Below.heap_setCell _ ⟨g,_,none⟩ _ j OD,Below.heap_setCell _ ⟨g,_,none⟩ _ j OD]⟩
 exact⟨g,cap,rfl,qcx Xk,⟨qy h.bel (by omega) _ _ _ _,h.ip.kept hg (Xl h.ip),h.iq.kept hg (Xl h.iq),hm⟩,cur,XS,XV⟩
theorem Qn.setT{W:World}{gT base:Nat}{cs:Array Value}{vs:List Value}{x:RP}{us:List Value}(hk:qf W gT 26 cs)(o:Nat)(u:Value)(h:RV W (Qn vs W base) x us):RV (W.setCell ⟨gT,o,none⟩ u) (Qn vs (W.setCell ⟨gT,o,none⟩ u) base) x us:=by
 obtain⟨t1,t2⟩:=Qn.turn (vs:=vs) (vs':=vs) (base:=base) (Trn.set (o:=o) hk u none) (fun _ e=>by cases e) (fun b hb=>hb.2);exact RV.mono t2 _ _ (RV.keep t1 _ _ h)
theorem qcT{F:World->RP->Oa->Nat->Oa->Nat->Nat->Prop}{G:Prop}(I:World->RP->Oa->Nat->Oa->Nat->Nat->Prop)(h1:(∀V T A c K k g,I V T A c K k g->F V T A c K k g)->G)(h2:∀V T A c K k g,I V T A c K k g->F V T A c K k g):G:=h1 h2
theorem RV.trsIn{w:World}{B:Nat}{t:RP}{A K:Oa}{c kc:Nat}(h:RV w (· <B) t (qe t A c K kc)):jT w B K t.ks/\t.ks.length<=kc:=by
 cases t with
 |mk l g ds ks=>
  unfold RV at h;obtain⟨A',c',K',kc',h1,h2,h3,h4,h5,rows,h6,h7⟩:=h;have h1:[Value.int .i64 l,.bool g,.slice A ds.length c,.slice K ks.length kc]=[Value.int .i64 l,.bool g,.slice A' ds.length c',.slice K' ks.length kc']:=h1;simp only[List.cons.injEq,Value.slice.injEq,true_and,and_true]at h1;obtain⟨⟨rfl,rfl⟩,rfl,rfl⟩:=h1;exact⟨⟨rows,h6,h7⟩,h5⟩
theorem Tryz.infoRecsS:(Tryz.prog.info? 26).map (fun i=>(i.zero,i.size,i.bytes))=some (some (.slice none 0 0),1,24):=by kernel_rfl
theorem Tryz.make_recs(n:Nat)(hn:n<=1000000)(w:World):(Instr.makeSlice 141 (.int .i64 (n:Int)) (.int .i64 (n:Int))).run Tryz.prog w= .ok (.slice (some ⟨w.heap.size,0,none⟩) n n) (w.alloc (.cells (madeCells #[.slice none 0 0] n) 26)):=by
 obtain⟨i0,Uw,XU,X7,Xy⟩:=qO Tryz.infoRecsS;have hr:=run_make (P:=Tryz.prog) w 141 26 i0 _ Tryz.underlying141 Uw XU .i64 .i64 n n (by omega) (by omega) (by rw[Xy];omega) (by omega);simp only[Int.toNat_natCast,X7,Value.cells,Nat.mul_one]at hr;exact hr
theorem qbc(n:Nat):madeCells #[Value.slice none 0 0] n=(List.replicate n (Value.slice none 0 0)).toArray:=by
 apply Array.ext';apply List.ext_getElem?;intro j;have hs:=size_madeCells #[Value.slice none 0 0] n;by_cases hj:j<n
 ·rw[Array.getElem?_toList,Ym _ _ _ hj];simp only[];rw[List.getElem?_replicate,if_pos (by omega)];rw[show j%#[Value.slice none 0 0].size=0 from Nat.mod_one j];rfl
 ·rw[List.getElem?_eq_none (by rw[Array.length_toList,hs];omega),List.getElem?_eq_none (by simp only[];rw[List.length_replicate];omega)]
set_option maxHeartbeats 8000000
set_option maxRecDepth 100000
theorem qgq(D:Nat)(hI:∀(p q:RP),qC p+qC q<=D->qv p=true->qv q=true->qN 1000 60 p->qN 1000 60 q->∀(A:Oa)(c:Nat)(K:Oa)(kc:Nat)(Aq:Oa)(cq:Nat)(Kq:Oa)(kq B:Nat)(w:World),B<=w.heap.size->RV w (· <B) p (qe p A c K kc)->RV w (· <B) q (qe q Aq cq Kq kq)->
 Calls Tryz.prog 83 #[qm p A c K kc,qm q Aq cq Kq kq] w (qcu p q w))
 (p q:RP)(hD:qC p+qC q<=D+1)(Fr:qv p=true)(FJ:qv q=true)(Fk:qN 1000 60 p)(ED:qN 1000 60 q)(A:Oa)(c:Nat)(K:Oa)(kc:Nat)(Aq:Oa)(cq:Nat)(Kq:Oa)(kq B:Nat)(w:World)(hB:B<=w.heap.size)(h:RV w (· <B) p (qe p A c K kc))(TS:RV w (· <B) q (qe q Aq cq Kq kq)):
 Calls Tryz.prog 83 #[qm p A c K kc,qm q Aq cq Kq kq] w (qcu p q w):=by
 have IH:=Gh hI;have HX:=Gh (jN w 28 28 28 (Gx p A c K kc) (Gx q Aq cq Kq kq) Gz);have HB:=Gh hB;have HH:=Gh (And.intro h TS);have HC:=Gh (show qv p=true/\qv q=true/\qN 1000 60 p/\qN 1000 60 q/\qC p+qC q<=D+1 from⟨Fr,FJ,Fk,ED,hD⟩);unfold qcu qS at IH ⊢;unfold qm at IH ⊢;clear h hD hB TS Fr FJ Fk ED hI;go_enter Tryz.func83,Tryz.ntmps83
 go_upto_if 21 with(fail)
 generalize ((w.alloc (.cells (Gx p A c K kc) 28)).alloc (.cells (Gx q Aq cq Kq kq) 28)).alloc (.cells Gz 28)=W at*;obtain⟨Xb,k0,k1,k2,hs⟩:=HX.out;clear HX;have K0:=Gh k0;have K1:=Gh k1;have K2:=Gh k2;have Xd:=Gh Xb;clear k0 k1 k2 hs Xb;go_cut [] (fun wc=>∃t s A c K kc A' c' K' kc',qlt (D+1) B p q t s A c K kc A' c' K' kc' w wc)
 case first=>
  obtain⟨c0,c1,c2,c3⟩:=G4 K0.out;obtain⟨d0,d1,d2,d3⟩:=G4 K1.out;by_cases Va:p.lv<q.lv
  ·have e1:decide (p.lv<q.lv)=true:=decide_eq_true Va;obtain⟨f0,f1,f2,f3,z0⟩:=G5 K0.out;obtain⟨g0,g1,g2,g3,z1⟩:=G5 K1.out;go_wp2_with fail
   go_meet
   obtain⟨x1,x2,x3,x4,x5⟩:=HC.out;obtain⟨s1,s2,s3⟩:=jm (k:=0) K0 (.int .i64 q.lv) (.bool q.ng) (.slice Aq q.ds.length cq) (.slice Kq q.ks.length kq);have y1:=s3 _ _ (Gr _) K1.out;have y2:=s3 _ _ (Nat.le_succ _) K2.out;obtain⟨r1,r2,r3⟩:=jm (k:=0) y1 (.int .i64 p.lv) (.bool p.ng) (.slice A p.ds.length c) (.slice K p.ks.length kc);exact⟨q,p,Aq,cq,Kq,kq,A,c,K,kc,by omega,by omega,x2,x1,x4,x3,fun T hT=>hT.comm,HH.out.2,HH.out.1,qy (o:=0) (qy (o:=0) Xd (Gr _) _ _ _ _) (Nat.le_succ _) _ _ _ _,s1.set4_far (Nat.ne_of_lt (Nat.lt_succ_self _)) _ _ _ _ _,r1,r3 _ _ (Gr _) y2⟩
  ·have e1:decide (p.lv<q.lv)=false:=decide_eq_false Va;go_wp2_with fail
   go_meet
   obtain⟨x1,x2,x3,x4,x5⟩:=HC.out;exact⟨p,q,A,c,K,kc,Aq,cq,Kq,kq,by omega,x5,x1,x2,x3,x4,fun T hT=>hT,HH.out.1,HH.out.2,Xd,K0,K1,K2⟩
 case rest=>
  obtain⟨t,s,A1,c1,Kt,kc1,A2,c2,Ks,kc2,hm⟩:=hcut;have HM:=Gh hm;clear hm K0 K1 K2 Xd HC HH;have VD:=Gh (HM.out.bel);have HR:=Gh (fun(W:World)(hW:Below w.heap.size w W)=>HM.out.rt.below (hW.mono HB));have HQ:=Gh (fun(W:World)(hW:Below w.heap.size w W)=>HM.out.rs.below (hW.mono HB));have KI:=Gh (fun(W:World)(hW:Below w.heap.size w W)=>(HR W hW).trsIn);have M6:=Gh (fun(W:World)(hW:Below w.heap.size w W)=>(HQ W hW).trsIn);have hlt1:=HM.out.wt.at_.1;have E9:=HM.out.wt.at_.2.1;have hls1:=HM.out.ws.at_.1;have hls2:=HM.out.ws.at_.2.1;have SM:=HM.out.lv;have Ra:=Gh (show qF t/\qF s from⟨HM.out.rt.digT _ _,HM.out.rs.digT _ _⟩);have UC:=Gh (fun(W:World)(hW:Below w.heap.size w W)=>qdo t.ng s.ng A1 A2 c1 c2 B t.ds s.ds W (Gl HB hW.size) (HR W hW).natIn (HQ W hW).natIn (by omega));unfold qX at UC;have Vc:=Gh (fun(W:World)=>zf t A1 c1 Kt kc1 W);have ER:=Gh (fun(W:World)=>zf s A2 c2 Ks kc2 W);unfold qm at Vc ER;have KF:=Gh (fun(V:World)(hV:Below wc.heap.size wc V)=>And.intro (HM.out.k0.old hV) (And.intro (HM.out.k1.old hV) (HM.out.k2.old hV)));have k0:=HM.out.k0;have k1:=HM.out.k1;obtain⟨x0,x1,x2,x3⟩:=G4 k0;obtain⟨q0,q1,q2,q3⟩:=G4 k1;clear k0 k1;go_wp2_with fail
  refine(Vc wc).mono ?_;rintro e w2 ⟨rfl,Xf⟩;have hb:=Xf;clear x0 x1 x2 x3 q0 q1 q2 q3 Xf Vc;obtain⟨k0,k1,k2⟩:=KF.out _ hb;have Xh:=Gh (Gt VD hb)
  cases hz:qI t with
  |true=>
   have HT:=Gh (HM.out.un _ (jZ.zero s HM.out.ct HM.out.cs hz));have Xg:=Gh (jj k2 rfl (RB.zero (base:=w.heap.size+1+1+1)) (Nat.lt_succ_self _) (by omega) Xh);obtain⟨d0,d1,d2,d3⟩:=G4 k2;obtain⟨f0,f1,f2,f3,z0⟩:=G5 k2;clear hz k0 k1 k2 KF ER;go_wp2_with fail
   exact qo Tryz.results83 rfl rfl Xg.out.1 Tryz.underlying28 rfl Tryz.sizeRec ⟨_,HT,Xg.out.2⟩
  |false=>
   have Ke:=Gh hz;obtain⟨x0,x1,x2,x3⟩:=G4 k0;obtain⟨q0,q1,q2,q3⟩:=G4 k1;clear hz k0 k1 k2;go_wp2_with fail
   refine(ER _).mono ?_;rintro e w3 ⟨rfl,Xz⟩
   replace hb:=Gt hb Xz
   clear x0 x1 x2 x3 q0 q1 q2 q3 Xz ER Xh;obtain⟨k0,k1,k2⟩:=KF.out _ hb;have Xh:=Gh (Gt VD hb);obtain⟨d0,d1,d2,d3⟩:=G4 k2;obtain⟨f0,f1,f2,f3,z0⟩:=G5 k2
   cases F2:qI s with
   |true=>
    have HT:=Gh (HM.out.un _ (jZ.zero t HM.out.cs HM.out.ct F2).comm);have Xg:=Gh (jj k2 rfl (RB.zero (base:=w.heap.size+1+1+1)) (Nat.lt_succ_self _) (by omega) Xh);clear F2 k0 k1 k2 KF;go_wp2_with fail
    exact qo Tryz.results83 rfl rfl Xg.out.1 Tryz.underlying28 rfl Tryz.sizeRec ⟨_,HT,Xg.out.2⟩
   |false=>
    have HZS:=Gh F2;obtain⟨x0,x1,x2,x3⟩:=G4 k0;obtain⟨q0,q1,q2,q3⟩:=G4 k1;clear F2 k0 k1 k2;by_cases h0:t.lv=0
    ·
     have Sn:s.lv=0:=by have:=(qJ HM.out.cs).1;omega
     have HT:=Gh (HM.out.un _ (jZ.const HM.out.ct HM.out.cs h0 Sn Ra.out.1 Ra.out.2));have e2:(t.lv==0)=true:=by simpa using h0
     have B4:=Gh (UC _ Xh);clear h0 Sn UC d0 d1 d2 d3 f0 f1 f2 f3 z0;generalize qj t.ng t.ds*qj s.ng s.ds=z at*;go_wp2_with fail
     refine B4.out.mono ?_;rintro e w4 ⟨A4,c4,rfl,l4,n4,XB⟩
     replace hb:=Gt hb XB
     obtain⟨_,_,k2⟩:=KF.out _ hb;have XW:=Gh (Gt VD hb);have Xg:=Gh (jj (T:=jy z) k2 rfl (RB.const (base:=w.heap.size+1+1+1) n4 (qA _) l4) (Nat.lt_succ_self _) (by omega) XW);obtain⟨d0,d1,d2,d3⟩:=G4 k2;obtain⟨f0,f1,f2,f3,z0⟩:=G5 k2;clear x0 x1 x2 x3 q0 q1 q2 q3 XB l4 n4 k2 B4 KF;go_wp2_with fail
     exact qo Tryz.results83 rfl rfl Xg.out.1 Tryz.underlying28 rfl Tryz.sizeRec ⟨_,HT,Xg.out.2⟩
    ·have e2:(t.lv==0)=false:=by simpa using h0
     have hlv0:=(qJ HM.out.ct).1;have CN:=Gh (show(∀u∈t.ks,qv u=true/\u.lv<t.lv/\qN 1000 60 u/\qC u<qC t)/\1<=t.lv by
      rcases qz HM.out.ct with⟨a,b,_⟩|⟨a,_,_,_,_,b,_⟩
      ·exact absurd a h0
      ·exact⟨fun u hu=>⟨(b u hu).2,(b u hu).1,HM.out.wt.at_.2.2 u hu,qY hu⟩,a⟩)
     clear UC d0 d1 d2 d3 f0 f1 f2 f3 z0;by_cases EN:s.lv<t.lv
     ·have e3:decide (s.lv<t.lv)=true:=decide_eq_true EN;have Uz:=fun(W:World)=>Tryz.make_rec t.ks.length (by omega) W;have Bb:=Gh (fun(ts:List RP)(h:Jh s t.ks ts)=>HM.out.un _ (jZ.node HM.out.ct HM.out.cs EN HZS h));have Id:=Gh (fun(W:World)(hW:Below w.heap.size w W)=>(KI W hW).2);generalize Vx:t.ks.length=nk at*;have UB:=Gh Vx;clear Vx;generalize RC:w3.heap.size=g at*;have E8:=Uz w3;rw[RC]at E8;have I6:wc.heap.size<=g:=by have:=hb.size;omega
      have Xc:=Gb w3 (.cells (madeCells Gz (nk*4)) 28);have AJ:=qf.new w3 28 (madeCells Gz (nk*4));rw[RC]at AJ;have U7:=Gh (jh.zeros (S:=yB (w3.alloc (.cells (madeCells Gz (nk*4)) 28)) (g+1)) nk AJ);have XR:=Gh (Gt hb Xc);have UT:=Id.out w3 Xh.out;have Kr:=Gh (show w.heap.size+1+1<wc.heap.size from(KF wc (Below.refl _ _)).2.2.lt);have c3a:=fun o=>((KF w3 hb).1.alloc o).cell 3;clear Xc AJ hb Uz Id h0 EN;go_wp2_with fail
      clear c3a;generalize w3.alloc (.cells (madeCells Gz (nk*4)) 28)=W3 at*;clear x0 x1 x2 x3 q0 q1 q2 q3 Xh E8 Ke HZS;go_loopg [6,55] nk (fun gn _ ix wr=>∃(j:Nat)(ts:List RP)(cur:Array Value)(rows:List (List Value)),j<=nk/\gn=nk-j/\ix= .int .i64 j/\Below wc.heap.size wc wr/\Jh s (t.ks.take j) ts/\jh wr g nk (yB wr (g+1)) (ts++List.replicate (nk-j) qh) cur rows)
      case atStart=>exact⟨0,[],_,_,Nat.zero_le _,rfl,rfl,XR,by rw[List.take_zero];exact trivial,by rw[List.nil_append,Nat.sub_zero];exact U7⟩
      case round=>
       clear XR U7;obtain⟨j,ts,cur,rows,hj,XI,rfl,Xe,Fn,Xk⟩:=hrel;have HG:=Gh XI;have CI:=Gh Fn;clear XI Fn;have Xh:=Gh (Gt VD Xe);by_cases Xi:j<nk
       ·obtain⟨u,hu⟩:∃u,t.ks[j]? =some u:=⟨_,Gn (by rw[UB.out];exact Xi)⟩;obtain⟨b,o,A3,q3,K3,r3,rfl,Tn,x0,x1,x2,x3,XN⟩:=(HR wr Xh).kid hu;have US:=Gk hu;have Xc:=Gb wr (.cells #[.int .i64 u.lv,.bool u.ng,.slice A3 u.ds.length q3,.slice K3 u.ks.length r3] 28);have Vy:=qf.new wr 28 #[.int .i64 u.lv,.bool u.ng,.slice A3 u.ds.length q3,.slice K3 u.ks.length r3];have RD:=Gt Xe Xc;have Vh:B<=wr.heap.size:=Gl HB Xh.out.size;have I0:=CN.out.1 u US;have VC:=Gh (IH u s (by have:=HM.out.dep;omega) I0.1 HM.out.cs I0.2.2.1 HM.out.ws A3 q3 K3 r3 A2 c2 Ks kc2 B _ (Gl Vh Xc.size) (XN.below (Xc.mono Vh)) (HQ _ (Gt VD RD)));have Pz:=CI.out.len;have S6:ts.length=j:=by
         rw[List.length_take,UB.out]at Pz;omega
        have Vu:=Gh (fun(T:RP)=>show(ts++List.replicate (nk-j) qh).set j T=(ts++[T])++List.replicate (nk-(j+1)) qh by
         obtain⟨r,hr⟩:∃r,nk-j=r+1:=⟨nk-j-1,by omega⟩;rw[List.set_append_right _ _ (by omega),S6,Nat.sub_self,hr,List.replicate_succ,List.set_cons_zero,List.append_assoc,show nk-(j+1)=r by omega];rfl)
        have C5:=Gh (fun(T:RP)(hT:jZ u s T)=>show Jh s (t.ks.take (j+1)) (ts++[T])by
         obtain⟨Fp,e⟩:=Gi.1 hu;rw[List.take_succ_eq_append_getElem Fp,e];exact CI.out.snoc hT)
        have C6:=Gh (Xk.oldS Xc);have UV:=Gh Vy;have XR:=Gh RD;have EF:=Xk.siz;have i3:(0:Int)<=(j:Int):=by omega
        have i4:(j:Int)<(nk:Int):=by omega
        have i5:(nk:Int)<=(kc1:Int):=by omega
        have Tu:=Gh (show g+1<=(wr.alloc (.cells #[.int .i64 u.lv,.bool u.ng,.slice A3 u.ds.length q3,.slice K3 u.ks.length r3] 28)).heap.size from Gl Xk.row.lt Xc.size);have c3:wr.cell? ⟨w.heap.size,3,none⟩=some (.slice (some ⟨b,o,none⟩) nk kc1):=(KF wr Xe).1.cell 3;clear US XN Xc Vy RD Vh Xk Xe hu Xh I0 Pz S6;generalize u.ds.length=ud at*;generalize u.ks.length=uk at*;generalize u.ng=ug at*;generalize u.lv=ul at*;go_upto_region 12 with(fail)
        generalize wr.alloc (.cells #[.int .i64 ul,.bool ug,.slice A3 ud q3,.slice K3 uk r3] 28)=V at*;obtain⟨_,k1,_⟩:=KF.out _ XR.out;obtain⟨q0,q1,q2,q3'⟩:=G4 k1;obtain⟨y0,y1,y2,y3⟩:=G4 UV.out;clear c3 x0 x1 x2 x3 k1;go_wp2_with fail
        refine VC.out.mono ?_;rintro e w4 ⟨T,hT,A4,c4,K4,kc4,rfl,TR,XB⟩;have hr:=C6.out.oldS XB;have ex:∀i,i<4->∃v,cur[j*4+i]? =some v:=fun j hj=>⟨_,Array.getElem?_eq_getElem (by omega)⟩;obtain⟨p0,s0⟩:=ex 0 (by omega);obtain⟨p1,s1⟩:=ex 1 (by omega);obtain⟨p2,s2⟩:=ex 2 (by omega);obtain⟨p3,s3⟩:=ex 3 (by omega);have d0:w4.cell? ⟨g,j*4,none⟩=some p0:=(hr.row.cell _).trans s0;have d1:w4.cell? ⟨g,j*4+1,none⟩=some p1:=(hr.row.cell _).trans s1;have d2:w4.cell? ⟨g,j*4+2,none⟩=some p2:=(hr.row.cell _).trans s2;have d3:w4.cell? ⟨g,j*4+3,none⟩=some p3:=(hr.row.cell _).trans s3;have f0:=hr.row.frozen (j*4);have f1:=hr.row.frozen (j*4+1);have f2:=hr.row.frozen (j*4+2);have f3:=hr.row.frozen (j*4+3);have z4:=hr.row.lt;have HP:=Gh (hr.putS Xi (TR.mono Tu));rw[Vu.out]at HP;have Ui:=Gh (C5 T hT);have XZ:=Gh (qy (o:=j*4) (Gt XR XB) I6 (.int .i64 T.lv) (.bool T.ng) (.slice A4 T.ds.length c4) (.slice K4 T.ks.length kc4));clear hr ex s0 s1 s2 s3 TR XB EF VC C6 UV XR Tu Vu q0 q1 q2 q3' y0 y1 y2 y3 hT C5 CI;generalize T.ds.length=vd at*;generalize T.ks.length=vk at*;generalize T.ng=vg at*;generalize T.lv=vl at*;go_wp2_with fail
        obtain⟨cur',rows',hp⟩:=HP.out;go_roundg (nk-(j+1))
        case rel=>exact⟨j+1,ts++[T],cur',rows',by omega,rfl,by go_num,XZ,Ui,hp⟩
        case measure=>have:=HG.out;omega
       ·obtain rfl:j=nk:=by omega
        have hr:=Xk;rw[Nat.sub_self,List.replicate_zero,List.append_nil]at hr;have Ox:=CI.out;rw[List.take_of_length_le (by rw[UB.out];exact Gr _)]at Ox;have XC:ts.length=j:=by rw[<-Ox.len,UB.out]
        obtain⟨k0,_,k2⟩:=KF.out _ Xe;have c0:=k0.cell 0;obtain⟨d0,d1,d2,d3⟩:=G4 k2;obtain⟨f0,f1,f2,f3,z0⟩:=G5 k2;have Ly:=Kr.out;have HT:=Gh (Bb ts Ox);have Xg:=Gh (jj (w:=w) k2 rfl (hr.nodeS t.lv) (by omega) (by omega) Xh);rw[show(RP.mk t.lv false [] ts).ks.length=j from XC,show(RP.mk t.lv false [] ts).lv=t.lv from rfl,show(RP.mk t.lv false [] ts).ng=false from rfl,show(RP.mk t.lv false [] ts).ds.length=0 from rfl]at Xg;have CK:=Gh XC;clear Xk hr Xe k0 k2 Xi Ox XC;go_wp2_with fail
        refine qo Tryz.results83 rfl rfl Xg.out.1 Tryz.underlying28 rfl Tryz.sizeRec ⟨_,HT,?_⟩;have:=Xg.out.2;unfold qS qm at this;rw[show(RP.mk t.lv false [] ts).ks.length=j from CK.out]at this ⊢;exact this
     ·have e3:decide (s.lv<t.lv)=false:=decide_eq_false EN;have OK:t.lv=s.lv:=by omega
      have Rm:=Gh (show(∀u∈s.ks,qv u=true/\u.lv<s.lv/\qN 1000 60 u/\qC u<qC s)/\2<=s.ks.length by
       rcases qz HM.out.cs with⟨a,b,_⟩|⟨_,_,_,_,c2,b,_⟩
       ·omega
       ·exact⟨fun u hu=>⟨(b u hu).2,(b u hu).1,HM.out.ws.at_.2.2 u hu,qY hu⟩,c2⟩)
      have R3:2<=t.ks.length:=by
       rcases qz HM.out.ct with⟨a,b,_⟩|⟨_,_,_,_,c2,b,_⟩
       ·exact absurd a h0
       ·exact c2
      have HFU:=Gh (fun(Ps:List (List RP))(h:JW t s (t.ks.length+s.ks.length-1) (prT t.ks s.ks) Ps)=>And.intro (HM.out.un _ (jZ.full HM.out.ct HM.out.cs CN.out.2 OK h (by omega) (by omega))) (show∀ts∈Ps,yX 4 ts/\ts.length<=10000/\∀x∈ts,yP 3000 x from fun ts Vq=>by
       obtain⟨h1,h2⟩:=h.el ts Vq;have h3:=qfB t.ks s.ks;have h4:t.ks.length*s.ks.length<=60*60:=Nat.mul_le_mul E9 hls2;have ht4:=(qJ HM.out.ct).2;refine⟨fun x hx=>?_,by omega,fun x hx=>?_⟩
       ·obtain⟨u,hu,v,hv,hr⟩:=h1 x hx;have:=hr.lv;have:=(CN.out.1 u hu).2.1;have:=(Rm.out.1 v hv).2.1;exact⟨hr.can,by show x.lv<4;omega⟩
       ·obtain⟨u,hu,v,hv,hr⟩:=h1 x hx;have h5:=(qJ (CN.out.1 u hu).1).2;have h6:=(qJ (Rm.out.1 v hv).1).2;exact qN.sm (by omega) (by omega) _ (hr.lw 1000 1000 59 59 (CN.out.1 u hu).2.2.1 (Rm.out.1 v hv).2.2.1 (by omega))))
      have Rk:=Gh (fun(W:World)(hW:Below w.heap.size w W)=>Zk t.ks (by omega) Kt kc1 B W (Gl HB hW.size) (KI W hW).1 (KI W hW).2);have Se:=Gh (fun(W:World)(hW:Below w.heap.size w W)=>Zk s.ks (by omega) Ks kc2 B W (Gl HB hW.size) (M6 W hW).1 (M6 W hW).2);have HLP:=Gh (Ye t.ks t.ks.length);have M4:=Gh (Ye s.ks s.ks.length);have U6:=JC t.ks t.ks.length;have Cr:=JC s.ks s.ks.length;have Np:=Gh (show prT t.ks s.ks=(yk t.ks t.ks.length).flatMap fun i=>(yk s.ks s.ks.length).map fun j=>(i,j)from rfl);have Vj:=Gh (fun(W:World)(hW:Below w.heap.size w W)=>And.intro (KI W hW).2 (M6 W hW).2);have Fr:=Vj.out w3 Xh.out;have hns2:=Rm.out.2;generalize yk t.ks t.ks.length=Ip at*;generalize yk s.ks s.ks.length=Iq at*;generalize BI:t.ks.length=np at*;generalize Fm:s.ks.length=nq at*;have MU:=Gh BI;have B1:=Gh Fm;clear BI Fm Vj;have Uz:=fun(W:World)=>Tryz.make_recs (np+nq-1) (by omega) W;have BQ:(np:Int)+(nq:Int)-1=((np+nq-1:Nat):Int):=by omega
      generalize AY:np+nq-1=N at*;have UO:=Gh AY;have hN:N<=120:=by omega
      clear AY;generalize RC:w3.heap.size=gT at*;have E4:=Gh RC;have E8:=Uz w3;rw[RC]at E8;have Xc:=Gb w3 (.cells (madeCells #[.slice none 0 0] N) 26);have NH:=qf.new w3 26 (madeCells #[.slice none 0 0] N);rw[qbc,RC]at NH;have RU:=Gh (Z9.start NH);rw[<-qbc]at RU;have XR:=Gh (Gt Xh Xc);have Uq:=Gh Xc;have e8:IntKind.i64.wrap ((np:Int)+(nq:Int))=(np:Int)+(nq:Int):=IntWalk.i64_in _ (by omega);have e9:IntKind.i64.wrap (N:Int)=(N:Int):=IntWalk.i64_in _ (by omega);have k1a:=(KF w3 hb).2.1.alloc (.cells (madeCells #[.slice none 0 0] N) 26);have y3:=k1a.cell 3;clear Xc NH Uz RC h0 EN k1a;go_wp2_with fail
      clear y3;generalize w3.alloc (.cells (madeCells #[.slice none 0 0] N) 26)=W4 at*;refine(Se W4 XR).mono ?_;rintro e w5 ⟨vq,rfl,CW,XL⟩;obtain⟨A5,c5,rfl,hc5,-⟩:=CW.at_;have XZ:=Gh (Gt XR XL);have KH:=Gh (Gt Uq XL);have B5:=Gh (RU.out.old XL);have HIQ:=Gh (CW.more (base':=gT+1) RU.out.tab.lt);have y3:=(KF w5 (Gt hb KH)).1.cell 3;clear XL CW RU x0 x1 x2 x3 q0 q1 q2 q3;go_wp2_with fail
      refine(Rk w5 XZ).mono ?_;rintro e w6 ⟨vp,rfl,CX,XY⟩;obtain⟨A6,c6,rfl,hc6,-⟩:=CX.at_;have Dl:=Gh (show qgK w3 w6 gT t s N [] (.slice A6 Ip.length c6) (.slice A5 Iq.length c5) Ip Iq from⟨Gt KH XY,CX.more B5.out.tab.lt,HIQ.out.old XY,_,_,List.length_replicate,.start,B5.out.old XY⟩);clear CX XY HIQ B5 Uq Rk Se XR y3 XZ KH;generalize hlp:Ip.length=lp at*;generalize Oy:Iq.length=lq at*;have N6:=Gh hlp;have Cc:=Gh Oy;clear hlp Oy;go_wp2_with fail
      refine QN [false,false,false,false,false,false,false,false,false,false,false,true,false,true,false,false,false,false,false,false,false,false,false,false,false,false,false,false,false,false,false,false,false,false,false,false,false,false,false,false,false,false,false,false,false,false,false,false,false,false,false,false,false,false,false,false,false,false,false,false,false,false,false,false,false,false,false,false,false,false,false,false,false,false,false,false,false,false,false,false,false,false,false,false,false,false,false,true,true,true,true,true,true,true,true,true,true,true,true,true,true,true,true,true,true,true,true,true,true,true,true,true,true,true,true,true,true,true,true,true,true,true,true,true,true,true,true,true,true,true,true,true,true,true,true,true,true,true,true,true,true,true,true,true,true,true,true,true,true,true,true] (fun k us wr=>∃a:Nat,a<=lp/\k=lp-a/\us 87= .int .i64 a/\qgK w3 wr gT t s N ((Ip.take a).flatMap fun i=>Iq.map fun j=>(i,j)) (.slice A6 lp c6) (.slice A5 lq c5) Ip Iq) lp ⟨0,Nat.zero_le _,rfl,rfl,Dl⟩ ?_;rintro gk us wr ⟨a,ha,AP,Vs,BJ⟩ J2 K2 hJ2 hK2;simp only[ZW,Vs];clear Dl Vs;have Nt:=Gh AP;have TY:=Gh BJ;clear AP BJ;by_cases hla:a<lp
      ·obtain⟨i,hi⟩:∃i,Ip[a]? =some i:=⟨_,Gn (by rw[N6.out];exact hla)⟩;obtain⟨Xe,CX,CW,-⟩:=TY.out;obtain⟨b6,o6,rfl,-,-,x6⟩:=CX.lit.2 a i hi;have HI:=Gh hi;have Un:i<np:=HLP.out i (Gk hi);have i1:(0:Int)<=(a:Int):=by omega
       have i2:(a:Int)<(lp:Int):=by omega
       have i3:(lp:Int)<=(c6:Int):=by omega
       clear Xe CX CW hi;go_wp2_with fail
       clear x6 i1 i2 i3;refine QN [false,false,false,false,false,false,false,false,false,false,false,false,false,true,false,false,false,false,false,false,false,false,false,false,false,false,false,false,false,false,false,false,false,false,false,false,false,false,false,false,false,false,false,false,false,false,false,false,false,false,false,false,false,false,false,false,false,false,false,false,false,false,false,false,false,false,false,false,false,false,false,false,false,false,false,false,false,false,false,false,false,false,false,false,false,false,false,false,false,false,false,false,false,true,true,true,true,true,true,true,true,true,true,true,true,true,true,true,true,true,true,true,true,true,true,true,true,true,true,true,true,true,true,true,true,true,true,true,true,true,true,true,true,true,true,true,true,true,true,true,true,true,true,true,true,true,true,true,true,true] (fun k us wq=>∃b:Nat,b<=lq/\k=lq-b/\us 93= .int .i64 b/\qgK w3 wq gT t s N (((Ip.take a).flatMap fun i=>Iq.map fun j=>(i,j))++(Iq.take b).map fun j=>(i,j)) (.slice (some ⟨b6,o6,none⟩) lp c6) (.slice A5 lq c5) Ip Iq) lq ⟨0,Nat.zero_le _,rfl,rfl,by rw[List.take_zero,List.map_nil,List.append_nil];exact TY⟩ ?_;rintro gk us wr ⟨b,Ux,Fq,Vs,BJ⟩ J3 K3 MC hK3;simp only[ZW,Vs];clear TY Vs;have DO:=Gh Fq;have TY:=Gh BJ;clear Fq BJ;by_cases RM:b<lq
       ·obtain⟨j,hj⟩:∃j,Iq[b]? =some j:=⟨_,Gn (by rw[Cc.out];exact RM)⟩;obtain⟨Xe,CX,CW,vs,Ps,S5,VR,U4⟩:=TY.out;obtain⟨b5,o5,rfl,-,-,x5⟩:=CW.lit.2 b j hj;have AO:j<nq:=M4.out j (Gk hj);have Ny:=Gh (Gt hb Xe);have Rb:=Gh (Gt VD Ny);rw[E4.out]at Xe;obtain⟨u,hu⟩:∃u,t.ks[i]? =some u:=⟨_,Gn (by rw[MU.out];exact Un)⟩;obtain⟨v,hv⟩:∃v,s.ks[j]? =some v:=⟨_,Gn (by rw[B1.out];exact AO)⟩;obtain⟨bA,oA,A3,q3,K3,r3,rfl,RD,y0,y1,y2,y3,XN⟩:=(HR wr Rb).kid hu;obtain⟨bB,oB,A4,q4,K4,r4,rfl,Tn,z0,z1,z2,z3,LL⟩:=(HQ wr Rb).kid hv;have hijN:i+j<N:=by have:=UO.out;omega
        obtain⟨vk0,Iz⟩:∃x,vs[i+j]? =some x:=⟨_,Gn (by omega)⟩;obtain⟨ts,Vq⟩:∃x,Ps[i+j]? =some x:=⟨_,Gn (by rw[VR.len];exact hijN)⟩;have S6:ts.length<=10000:=by
         have h1:=(VR.el ts (Gk Vq)).2;rw[List.length_append,qc3,List.length_map]at h1;have h2:(Ip.take a).length*Iq.length<=60*60:=Nat.mul_le_mul (by rw[List.length_take];omega) (by have:=Cc.out;omega);have h3:(Iq.take b).length<=60:=by rw[List.length_take];have:=Cc.out;omega
         omega
        have IB:=CN.out.1 u (Gk hu);have IA:=Rm.out.1 v (Gk hv);have DE:B<=gT:=by have h1:=HB.out;have h2:=VD.out.size;have h3:=hb.size;have:=E4.out;omega
        have Ud:=Gh (fun(V:World)(hV:Below gT wr V)=>IH u v (by have:=HM.out.dep;omega) IB.1 IA.1 IB.2.2.1 IA.2.2.1 A3 q3 K3 r3 A4 q4 K4 r4 B V (Gl DE (Gl (Nat.le_of_lt U4.tab.lt) hV.size)) (XN.below (hV.mono DE)) (LL.below (hV.mono DE)));have kk:=KF.out wr Ny.out;have hk0l:w.heap.size+1+1<gT:=by have:=(KF _ hb).2.2.lt;have:=E4.out;omega
        have c3:=kk.1.cell 3;have d3:=kk.2.1.cell 3;have Bq:=Gh (fun(T:RP)(hT:jZ u v T)=>show JW t s N (((Ip.take a).flatMap fun i=>Iq.map fun j=>(i,j))++(Iq.take (b+1)).map fun j=>(i,j)) (Ps.set (i+j) (ts++[T]))by
         obtain⟨h1,h2⟩:=Gi.1 hj;rw[List.take_succ_eq_append_getElem h1,h2,List.map_append,<-List.append_assoc];exact .push VR hu hv hT Vq)
        have KFI:=Gh (fun(V:World)(hV:Below gT wr V)=>(⟨(hV.cell (p:=⟨w.heap.size,3,none⟩) (by show w.heap.size<gT;omega)).trans c3,(hV.cell (p:=⟨w.heap.size+1,3,none⟩) (by show w.heap.size+1<gT;omega)).trans d3,(hV.cell (p:=⟨bA,oA+i*4,none⟩) (Gm RD DE)).trans y0,(hV.cell (p:=⟨bA,oA+i*4+1,none⟩) (Gm RD DE)).trans y1,(hV.cell (p:=⟨bA,oA+i*4+2,none⟩) (Gm RD DE)).trans y2,(hV.cell (p:=⟨bA,oA+i*4+3,none⟩) (Gm RD DE)).trans y3,(hV.cell (p:=⟨bB,oB+j*4,none⟩) (Gm Tn DE)).trans z0,(hV.cell (p:=⟨bB,oB+j*4+1,none⟩) (Gm Tn DE)).trans z1,(hV.cell (p:=⟨bB,oB+j*4+2,none⟩) (Gm Tn DE)).trans z2,(hV.cell (p:=⟨bB,oB+j*4+3,none⟩) (Gm Tn DE)).trans z3⟩:V.cell? ⟨w.heap.size,3,none⟩=some (.slice (some ⟨bA,oA,none⟩) np kc1)/\V.cell? ⟨w.heap.size+1,3,none⟩=some (.slice (some ⟨bB,oB,none⟩) nq kc2)/\V.cell? ⟨bA,oA+i*4,none⟩=some (.int .i64 u.lv)/\V.cell? ⟨bA,oA+i*4+1,none⟩=some (.bool u.ng)/\V.cell? ⟨bA,oA+i*4+2,none⟩=some (.slice A3 u.ds.length q3)/\V.cell? ⟨bA,oA+i*4+3,none⟩=some (.slice K3 u.ks.length r3)/\V.cell? ⟨bB,oB+j*4,none⟩=some (.int .i64 v.lv)/\V.cell? ⟨bB,oB+j*4+1,none⟩=some (.bool v.ng)/\V.cell? ⟨bB,oB+j*4+2,none⟩=some (.slice A4 v.ds.length q4)/\V.cell? ⟨bB,oB+j*4+3,none⟩=some (.slice K4 v.ks.length r4)));have Rp:=Gh Iz;have Ni:=Gh Vq;have Fv:=Gh S5;have MY:=Gh (show YB w3 gT (.slice (some ⟨b6,o6,none⟩) lp c6) (.slice (some ⟨b5,o5,none⟩) lq c5) Ip Iq vs Ps wr from⟨Xe,CX,CW,U4⟩);have i1:(0:Int)<=(b:Int):=by omega
        have i2:(b:Int)<(lq:Int):=by omega
        have i3:(lq:Int)<=(c5:Int):=by omega
        have j1:(0:Int)<=(i:Int):=by omega
        have j2:(i:Int)<(np:Int):=by omega
        have j3:(np:Int)<=(kc1:Int):=by have:=(KI wr Rb).2;have:=MU.out;omega
        have j4:(0:Int)<=(j:Int):=by omega
        have j5:(j:Int)<(nq:Int):=by omega
        have j6:(nq:Int)<=(kc2:Int):=by have:=(M6 wr Rb).2;have:=B1.out;omega
        have j7:(0:Int)<=(i:Int)+(j:Int):=by omega
        have j8:(i:Int)+(j:Int)<(N:Int):=by omega
        have j9:((i:Int)+(j:Int)).toNat=i+j:=by omega
        have e10:IntKind.i64.wrap ((i:Int)+(j:Int))=(i:Int)+(j:Int):=IntWalk.i64_in _ (by omega);obtain⟨rows0,Pl,-⟩:=U4.row (i+j) vk0 ts Iz Vq;obtain⟨Ak,ck,rfl⟩:=jd Pl;clear Pl XN LL VR U4 CX CW hu hv kk c3 d3 y0 y1 y2 y3 z0 z1 z2 z3 IB IA Iz Vq S5 hj TY;clear rows0;generalize u.lv=ul at*;generalize u.ng=ug at*;generalize u.ds.length=ud at*;generalize u.ks.length=uk at*;generalize v.lv=vl at*;generalize v.ng=vg at*;generalize v.ds.length=vd at*;generalize v.ks.length=vk at*;have XU:Below gT wr wr:=Below.refl _ _;go_upto_region 23 with(fail)
        clear x5 i1 i2 i3;go_cut [98]from 97 to 98 (fun x wc2=>(x= .bool true∨x= .bool false)/\Below wr.heap.size wr wc2)
        case first=>
         go_region
         all_goals
          go_wp2_with fail
          go_meet
          exact⟨by simp,(Gb wr _).trans ((qt.drew _).below _)⟩
        case rest=>
         obtain⟨hbit,ON⟩:=hcut;have UX:=Gh ON;clear ON;generalize wc=V at*;rcases hbit with rfl|rfl
         ·
          go_upto_region 24 with(fail)
          go_cut [119,120,122]from 99 to 123 (fun x y z wc2=>∃(L4:Oa)(lc4:Nat)(T:RP)(A8:Oa)(c8:Nat)(K8:Oa)(kc8:Nat),x= .agg #[.int .i64 T.lv,.bool T.ng,.slice A8 T.ds.length c8,.slice K8 T.ks.length kc8]/\y= .int .i64 (ts.length:Int)/\z= .slice L4 (ts.length+1) lc4/\jZ u v T/\YB w3 gT (.slice (some ⟨b6,o6,none⟩) lp c6) (.slice (some ⟨b5,o5,none⟩) lq c5) Ip Iq (vs.set (i+j) (.slice L4 (ts.length+1) lc4)) (Ps.set (i+j) (ts++[qh])) wc2/\RV wc2 (Qn (vs.set (i+j) (.slice L4 (ts.length+1) lc4)) wc2 (gT+1)) T (qe T A8 c8 K8 kc8))
          case first=>
           have hG:gT+1<=wr.heap.size:=MY.out.m.tab.lt;have hz:=UX.out.mono (Nat.le_of_lt hG);have hm:=MY.out.old UX.out
           replace hG:=Gl hG UX.out.size
           have stE:Below V.heap.size V V.drew:=(qt.drew _).below _
           replace hz:=hz.trans (stE.mono (Nat.le_of_lt hG))
           replace hm:=hm.old stE
           replace hG:=Gl hG stE.size
           clear stE;refine wp_region_held_drew (S:=fun w'=>w'.cell? ⟨w.heap.size,3,none⟩=some (.slice (some ⟨bA,oA,none⟩) np kc1)/\w'.cell? ⟨w.heap.size+1,3,none⟩=some (.slice (some ⟨bB,oB,none⟩) nq kc2)/\w'.cell? ⟨bA,oA+i*4,none⟩=some (.int .i64 ul)/\w'.cell? ⟨bA,oA+i*4+1,none⟩=some (.bool ug)/\w'.cell? ⟨bA,oA+i*4+2,none⟩=some (.slice A3 ud q3)/\w'.cell? ⟨bA,oA+i*4+3,none⟩=some (.slice K3 uk r3)/\w'.cell? ⟨bB,oB+j*4,none⟩=some (.int .i64 vl)/\w'.cell? ⟨bB,oB+j*4+1,none⟩=some (.bool vg)/\w'.cell? ⟨bB,oB+j*4+2,none⟩=some (.slice A4 vd q4)/\w'.cell? ⟨bB,oB+j*4+3,none⟩=some (.slice K4 vk r4)) (by kernel_rfl) (KFI _ hz) (fun Xa=>?_);refine tk 0 ?_
           simp only[Act.put,sA,sB,sC];refine tk 1 ?_
           simp only[Act.put,sA,sB,sC];refine tk 2 ?_
           simp only[Act.put,sA,sB,sC];refine tk 3 ?_
           simp only[Act.put,sA,sB,sC];refine tk 4 ?_
           simp only[Act.put,sA,sB,sC];refine tk 5 ?_
           simp only[Act.put,sA,sB,sC];refine tk 6 ?_
           simp only[Act.put,sA,sB,sC];refine tk 7 ?_
           simp only[Act.put,sA,sB,sC];refine tk 8 ?_
           simp only[Act.put,sA,sB,sC];refine tk 10 ?_
           simp only[Act.put,sA,sB,sC];refine tk 11 ?_
           simp only[Act.put,sA,sB,sC];refine tk 12 ?_
           simp only[Act.put,sA,sB,sC];refine tk 13 ?_
           simp only[Act.put,sA,sB,sC];refine tk 14 ?_
           simp only[Act.put,sA,sB,sC];refine tk 15 ?_
           simp only[Act.put,sA,sB,sC];refine tk 16 ?_
           simp only[Act.put,sA,sB,sC];refine tk 17 ?_
           simp only[Act.put,sA,sB,sC];refine tk 18 ?_
           simp only[Act.put,sA,sB,sC];refine tk 19 ?_
           simp only[Act.put,sA,sB,sC];generalize V.drew=V0 at*;apply qcT (fun V T A8 c8 K8 kc8 gB=>Below gT wr V/\gT+1<=V.heap.size/\YB w3 gT (.slice (some ⟨b6,o6,none⟩) lp c6) (.slice (some ⟨b5,o5,none⟩) lq c5) Ip Iq vs Ps V/\qu V (gB+1) 4 (some ⟨gB,0,none⟩) 1 [.int .i64 0,.bool false,.slice none 0 0,.slice none 0 0]/\gB+1<=V.heap.size/\jZ u v T/\∃b0,RB V b0 T (qe T A8 c8 K8 kc8)/\(∀x∈vs,∀g,x.ownBlock=some g->g<b0)/\gT+1<=b0)
           case h1=>
            intro HJ;refine rd3 9 20 22 (fun P hP=>?kx24L) (fun P hP=>?kx24C) (fun P hP=>?kx24B)
            case kx24L=>
             have tb:=(hm.m.tab.cell (i+j)).trans (show _=some _ by simpa using Rp.out);go_simp
             refine hP _ _ (KFI _ hz) (fun Xa=>?_);clear hP P
             clear tb;refine tk 21 ?_
             simp only[Act.put,sA,sB,sC];refine rd2 20 22 (fun P hP=>?kLx24C) (fun P hP=>?kLx24B)
             case kLx24C=>
              go_simp
              go_at_call 83
              refine(Ud _ hz).mono ?_;rintro e V2 ⟨T,hT,A8,c8,K8,kc8,rfl,hx,st⟩;have Su:=hG
              replace hz:=hz.trans (st.mono (Nat.le_of_lt hG))
              replace hG:=Gl hG st.size
              have Xb:=fun(x:Value)(hx:x∈vs)(g:Nat)(hg:x.ownBlock=some g)=>(hm.m.own_lt hx hg).2
              replace hm:=hm.old st
              clear st;refine hP _ _ (KFI _ hz) (fun Xa=>?_);clear hP P
              refine rd1 22 (fun P hP=>?kLCx24B)
              case kLCx24B=>
               have st:=Gb V2 (.cells Gz 28);have Xv:=qu.four_newA V2 [.int .i64 0,.bool false,.slice none 0 0,.slice none 0 0] rfl 28;have VJ:V2.heap.size+1<=(V2.alloc (.cells Gz 28)).heap.size:=by simp
               go_simp
               replace hz:=hz.trans (st.mono (Nat.le_of_lt hG))
               replace hG:=Gl hG st.size
               replace hm:=hm.old st
               replace hx:=RB.old hx st
               clear st;generalize V2.alloc (.cells Gz 28)=V3 at*;generalize SO:V2.heap.size=gB at*;clear SO;refine hP _ _ (KFI _ hz) (fun Xa=>?_);clear hP P
               exact HJ V3 T A8 c8 K8 kc8 gB ⟨hz,hG,hm,Xv,VJ,hT,_,hx,Xb,Su⟩
             case kLx24B=>
              have st:=Gb V0 (.cells Gz 28);have Xv:=qu.four_newA V0 [.int .i64 0,.bool false,.slice none 0 0,.slice none 0 0] rfl 28;have VJ:V0.heap.size+1<=(V0.alloc (.cells Gz 28)).heap.size:=by simp
              go_simp
              replace hz:=hz.trans (st.mono (Nat.le_of_lt hG))
              replace hG:=Gl hG st.size
              replace hm:=hm.old st
              clear st;generalize V0.alloc (.cells Gz 28)=V2 at*;generalize SO:V0.heap.size=gB at*;clear SO;refine hP _ _ (KFI _ hz) (fun Xa=>?_);clear hP P
              refine rd1 20 (fun P hP=>?kLBx24C)
              case kLBx24C=>
               go_simp
               go_at_call 83
               refine(Ud _ hz).mono ?_;rintro e V3 ⟨T,hT,A8,c8,K8,kc8,rfl,hx,st⟩;have Su:=hG
               replace hz:=hz.trans (st.mono (Nat.le_of_lt hG))
               replace hG:=Gl hG st.size
               have Xb:=fun(x:Value)(hx:x∈vs)(g:Nat)(hg:x.ownBlock=some g)=>(hm.m.own_lt hx hg).2
               replace hm:=hm.old st
               replace Xv:=Xv.below (st.mono VJ)
               replace VJ:=Gl VJ st.size
               clear st;refine hP _ _ (KFI _ hz) (fun Xa=>?_);clear hP P
               exact HJ V3 T A8 c8 K8 kc8 gB ⟨hz,hG,hm,Xv,VJ,hT,_,hx,Xb,Su⟩
            case kx24C=>
             go_simp
             go_at_call 83
             refine(Ud _ hz).mono ?_;rintro e V1 ⟨T,hT,A8,c8,K8,kc8,rfl,hx,st⟩;have Su:=hG
             replace hz:=hz.trans (st.mono (Nat.le_of_lt hG))
             replace hG:=Gl hG st.size
             have Xb:=fun(x:Value)(hx:x∈vs)(g:Nat)(hg:x.ownBlock=some g)=>(hm.m.own_lt hx hg).2
             replace hm:=hm.old st
             clear st;refine hP _ _ (KFI _ hz) (fun Xa=>?_);clear hP P
             refine rd2 9 22 (fun P hP=>?kCx24L) (fun P hP=>?kCx24B)
             case kCx24L=>
              have tb:=(hm.m.tab.cell (i+j)).trans (show _=some _ by simpa using Rp.out);go_simp
              refine hP _ _ (KFI _ hz) (fun Xa=>?_);clear hP P
              clear tb;refine tk 21 ?_
              simp only[Act.put,sA,sB,sC];refine rd1 22 (fun P hP=>?kCLx24B)
              case kCLx24B=>
               have st:=Gb V1 (.cells Gz 28);have Xv:=qu.four_newA V1 [.int .i64 0,.bool false,.slice none 0 0,.slice none 0 0] rfl 28;have VJ:V1.heap.size+1<=(V1.alloc (.cells Gz 28)).heap.size:=by simp
               go_simp
               replace hz:=hz.trans (st.mono (Nat.le_of_lt hG))
               replace hG:=Gl hG st.size
               replace hm:=hm.old st
               replace hx:=RB.old hx st
               clear st;generalize V1.alloc (.cells Gz 28)=V3 at*;generalize SO:V1.heap.size=gB at*;clear SO;refine hP _ _ (KFI _ hz) (fun Xa=>?_);clear hP P
               exact HJ V3 T A8 c8 K8 kc8 gB ⟨hz,hG,hm,Xv,VJ,hT,_,hx,Xb,Su⟩
             case kCx24B=>
              have st:=Gb V1 (.cells Gz 28);have Xv:=qu.four_newA V1 [.int .i64 0,.bool false,.slice none 0 0,.slice none 0 0] rfl 28;have VJ:V1.heap.size+1<=(V1.alloc (.cells Gz 28)).heap.size:=by simp
              go_simp
              replace hz:=hz.trans (st.mono (Nat.le_of_lt hG))
              replace hG:=Gl hG st.size
              replace hm:=hm.old st
              replace hx:=RB.old hx st
              clear st;generalize V1.alloc (.cells Gz 28)=V2 at*;generalize SO:V1.heap.size=gB at*;clear SO;refine hP _ _ (KFI _ hz) (fun Xa=>?_);clear hP P
              refine rd1 9 (fun P hP=>?kCBx24L)
              case kCBx24L=>
               have tb:=(hm.m.tab.cell (i+j)).trans (show _=some _ by simpa using Rp.out);go_simp
               refine hP _ _ (KFI _ hz) (fun Xa=>?_);clear hP P
               clear tb;refine tk 21 ?_
               simp only[Act.put,sA,sB,sC];exact HJ V2 T A8 c8 K8 kc8 gB ⟨hz,hG,hm,Xv,VJ,hT,_,hx,Xb,Su⟩
            case kx24B=>
             have st:=Gb V0 (.cells Gz 28);have Xv:=qu.four_newA V0 [.int .i64 0,.bool false,.slice none 0 0,.slice none 0 0] rfl 28;have VJ:V0.heap.size+1<=(V0.alloc (.cells Gz 28)).heap.size:=by simp
             go_simp
             replace hz:=hz.trans (st.mono (Nat.le_of_lt hG))
             replace hG:=Gl hG st.size
             replace hm:=hm.old st
             clear st;generalize V0.alloc (.cells Gz 28)=V1 at*;generalize SO:V0.heap.size=gB at*;clear SO;refine hP _ _ (KFI _ hz) (fun Xa=>?_);clear hP P
             refine rd2 9 20 (fun P hP=>?kBx24L) (fun P hP=>?kBx24C)
             case kBx24L=>
              have tb:=(hm.m.tab.cell (i+j)).trans (show _=some _ by simpa using Rp.out);go_simp
              refine hP _ _ (KFI _ hz) (fun Xa=>?_);clear hP P
              clear tb;refine tk 21 ?_
              simp only[Act.put,sA,sB,sC];refine rd1 20 (fun P hP=>?kBLx24C)
              case kBLx24C=>
               go_simp
               go_at_call 83
               refine(Ud _ hz).mono ?_;rintro e V3 ⟨T,hT,A8,c8,K8,kc8,rfl,hx,st⟩;have Su:=hG
               replace hz:=hz.trans (st.mono (Nat.le_of_lt hG))
               replace hG:=Gl hG st.size
               have Xb:=fun(x:Value)(hx:x∈vs)(g:Nat)(hg:x.ownBlock=some g)=>(hm.m.own_lt hx hg).2
               replace hm:=hm.old st
               replace Xv:=Xv.below (st.mono VJ)
               replace VJ:=Gl VJ st.size
               clear st;refine hP _ _ (KFI _ hz) (fun Xa=>?_);clear hP P
               exact HJ V3 T A8 c8 K8 kc8 gB ⟨hz,hG,hm,Xv,VJ,hT,_,hx,Xb,Su⟩
             case kBx24C=>
              go_simp
              go_at_call 83
              refine(Ud _ hz).mono ?_;rintro e V2 ⟨T,hT,A8,c8,K8,kc8,rfl,hx,st⟩;have Su:=hG
              replace hz:=hz.trans (st.mono (Nat.le_of_lt hG))
              replace hG:=Gl hG st.size
              have Xb:=fun(x:Value)(hx:x∈vs)(g:Nat)(hg:x.ownBlock=some g)=>(hm.m.own_lt hx hg).2
              replace hm:=hm.old st
              replace Xv:=Xv.below (st.mono VJ)
              replace VJ:=Gl VJ st.size
              clear st;refine hP _ _ (KFI _ hz) (fun Xa=>?_);clear hP P
              refine rd1 9 (fun P hP=>?kBCx24L)
              case kBCx24L=>
               have tb:=(hm.m.tab.cell (i+j)).trans (show _=some _ by simpa using Rp.out);go_simp
               refine hP _ _ (KFI _ hz) (fun Xa=>?_);clear hP P
               clear tb;refine tk 21 ?_
               simp only[Act.put,sA,sB,sC];exact HJ V2 T A8 c8 K8 kc8 gB ⟨hz,hG,hm,Xv,VJ,hT,_,hx,Xb,Su⟩
           case h2=>
            clear hz hG hm;intro V3 T A8 c8 K8 kc8 gB ⟨hz,hG,hm,Xv,VJ,hT,b0,hx,Xb,Su⟩;refine rd1 23 (fun P hP=>?kLCBx24P)
            case kLCBx24P=>
             obtain⟨rows,Xk,CT⟩:=hm.m.row (i+j) _ ts Rp Ni.out;obtain⟨i0,Uw,Sr,Ti,R3⟩:=qO Tryz.infoRec;have VK:ts.length+1<=maxLen:=by unfold maxLen;omega
             have VH:(ts.length+1)*64<=140737488355328:=by omega
             refine yt _ rfl (.tmp 108) (.tmp 121) 26 (by rfl) (gT+1) 28 i0 _ 4 64 Tryz.underlying26 Uw Sr Ti R3 rfl (by decide) (.slice Ak ts.length ck) ts.length rows.flatten (by rfl) Xk (gB+1) (some ⟨gB,0,none⟩) 1 1 [.int .i64 0,.bool false,.slice none 0 0,.slice none 0 0] (by rfl) Xv (by intro x hx;simp at hx;rcases hx with rfl|rfl|rfl|rfl<;>rfl) VK VH hG ?_;intro v4 V4 Ub hg4 Re;obtain⟨L4,lc4,rfl⟩:=jd Ub;have VI:=Re.imp id fun e=>(⟨_,e,Gr _⟩:∃g,_=some g/\V3.heap.size<=g)
             replace hz:=hz.grown hg4 (Nat.le_of_lt hG) (fun q e=>by have:=jY Xk e;omega)
             replace hG:=Gl hG hg4.size
             have Bz:=Zm (k:=i+j) (vs:=vs) Xk hx Xb (Gk Rp) Su (fun x hx g hg=>hm.m.own_blk hx hg) hg4 VI;clear Re Xv VJ;refine hP _ _ (KFI _ hz) (fun Xa=>?_);clear hP P
             refine tk 24 ?_
             simp only[Act.put,sA,sB,sC];refine rd1 25 (fun P hP=>?kLCBPx24T)
             case kLCBPx24T=>
              have Co:=hm.m.tab.grown hg4 (fun e=>by have:=jY Xk e.symm;omega);have d0:=(Co.cell (i+j)).trans (show _=some _ by simpa using Rp.out);have f0:=Co.frozen (i+j);have zl:=Co.lt;go_simp
              replace hz:=hz.setCell (p:=⟨gT,i+j,none⟩) (Gr _) (.slice L4 (ts.length+1) lc4)
              replace Bz:=Qn.setT Co (i+j) (.slice L4 (ts.length+1) lc4) Bz
              replace hm:=hm.push (x:=qh) (us:=[.int .i64 0,.bool false,.slice none 0 0,.slice none 0 0]) Rp Ni Xk CT hg4 Ub VI RT.zero
              clear Co d0 f0 zl Xk CT hg4 Ub VI;generalize LX:V4.setCell ⟨gT,i+j,none⟩ (.slice L4 (ts.length+1) lc4)=V5 at*
              replace hG:gT+1<=V5.heap.size:=by rw[<-LX];simpa using hG
              clear LX;refine hP _ _ (KFI _ hz) (fun Xa=>?_);clear hP P
              refine wpAnyH_done (by kernel_rfl) ?_ _;go_wp2_with fail
              go_meet
              exact⟨L4,lc4,T,A8,c8,K8,kc8,rfl,rfl,rfl,hT,hm,Bz⟩
          case rest=>
           obtain⟨L4,lc4,T,A8,c8,K8,kc8,rfl,rfl,rfl,hT,hm,Bz⟩:=hcut;have Iy:=List.getElem?_set_self (a:=Value.slice L4 (ts.length+1) lc4) (Gi.1 Rp).1;obtain⟨g4,cap4,LS,Fr,hm,cur,XS,XV⟩:=hm.put Iy Bz
           injection LS with e1 e2 e3
           subst e1;subst e3;have ex:∀x,x<4->∃y,cur[ts.length*4+x]? =some y:=fun x hx=>⟨_,Array.getElem?_eq_getElem (by omega)⟩;obtain⟨p0,s0⟩:=ex 0 (by omega);obtain⟨p1,s1⟩:=ex 1 (by omega);obtain⟨p2,s2⟩:=ex 2 (by omega);obtain⟨p3,s3⟩:=ex 3 (by omega);have d0:wc.cell? ⟨g4,ts.length*4,none⟩=some p0:=(XS.cell _).trans s0;have d1:wc.cell? ⟨g4,ts.length*4+1,none⟩=some p1:=(XS.cell _).trans s1;have d2:wc.cell? ⟨g4,ts.length*4+2,none⟩=some p2:=(XS.cell _).trans s2;have d3:wc.cell? ⟨g4,ts.length*4+3,none⟩=some p3:=(XS.cell _).trans s3;have f0:=XS.frozen (ts.length*4);have f1:=XS.frozen (ts.length*4+1);have f2:=XS.frozen (ts.length*4+2);have f3:=XS.frozen (ts.length*4+3);have zl:=XS.lt;have k1:(0:Int)<=(ts.length:Int):=by omega
           have k2:(ts.length:Int)<(ts.length:Int)+1:=by omega
           have k3:(ts.length:Int)+1<=(lc4:Int):=by omega
           clear XS XV ex s0 s1 s2 s3 Bz Iy;have Nx:=Gh (show qgK w3 _ gT t s N (((Ip.take a).flatMap fun i=>Iq.map fun j=>(i,j))++(Iq.take (b+1)).map fun j=>(i,j)) (.slice (some ⟨b6,o6,none⟩) lp c6) (.slice (some ⟨b5,o5,none⟩) lq c5) Ip Iq from⟨by rw[E4.out];exact hm.bel,hm.ip,hm.iq,_,_,by rw[List.length_set];exact Fv,Bq T hT,hm.m⟩);unfold set4 at Nx;clear hm MY KFI Ud Bq hT;generalize T.lv=el at*;generalize T.ng=eg at*;generalize T.ds.length=ed at*;generalize T.ks.length=ek at*;go_wp2_with fail
           refine Zt MC (lq-(b+1)) (by have:=DO.out;omega) ⟨b+1,by omega,rfl,?_,Nx⟩ rfl;show Value.int .i64 ((b:Int)+1)=_;go_num
         ·
          go_upto_region 26 with(fail)
          have hG:gT+1<=wr.heap.size:=MY.out.m.tab.lt;have hz:=UX.out.mono (Nat.le_of_lt hG);have hm:=MY.out.old UX.out
          replace hG:=Gl hG UX.out.size
          have stE:Below V.heap.size V V.drew:=(qt.drew _).below _
          replace hz:=hz.trans (stE.mono (Nat.le_of_lt hG))
          replace hm:=hm.old stE
          replace hG:=Gl hG stE.size
          clear stE;refine wp_region_held_drew (S:=fun w'=>w'.cell? ⟨w.heap.size,3,none⟩=some (.slice (some ⟨bA,oA,none⟩) np kc1)/\w'.cell? ⟨w.heap.size+1,3,none⟩=some (.slice (some ⟨bB,oB,none⟩) nq kc2)/\w'.cell? ⟨bA,oA+i*4,none⟩=some (.int .i64 ul)/\w'.cell? ⟨bA,oA+i*4+1,none⟩=some (.bool ug)/\w'.cell? ⟨bA,oA+i*4+2,none⟩=some (.slice A3 ud q3)/\w'.cell? ⟨bA,oA+i*4+3,none⟩=some (.slice K3 uk r3)/\w'.cell? ⟨bB,oB+j*4,none⟩=some (.int .i64 vl)/\w'.cell? ⟨bB,oB+j*4+1,none⟩=some (.bool vg)/\w'.cell? ⟨bB,oB+j*4+2,none⟩=some (.slice A4 vd q4)/\w'.cell? ⟨bB,oB+j*4+3,none⟩=some (.slice K4 vk r4)) (by kernel_rfl) (KFI _ hz) (fun Xa=>?_);refine tk 0 ?_
          simp only[Act.put,sA,sB,sC];refine tk 1 ?_
          simp only[Act.put,sA,sB,sC];refine tk 2 ?_
          simp only[Act.put,sA,sB,sC];refine tk 3 ?_
          simp only[Act.put,sA,sB,sC];refine tk 4 ?_
          simp only[Act.put,sA,sB,sC];refine tk 5 ?_
          simp only[Act.put,sA,sB,sC];refine tk 6 ?_
          simp only[Act.put,sA,sB,sC];refine tk 7 ?_
          simp only[Act.put,sA,sB,sC];refine tk 8 ?_
          simp only[Act.put,sA,sB,sC];refine tk 10 ?_
          simp only[Act.put,sA,sB,sC];refine tk 11 ?_
          simp only[Act.put,sA,sB,sC];refine tk 12 ?_
          simp only[Act.put,sA,sB,sC];refine tk 13 ?_
          simp only[Act.put,sA,sB,sC];refine tk 14 ?_
          simp only[Act.put,sA,sB,sC];refine tk 15 ?_
          simp only[Act.put,sA,sB,sC];refine tk 16 ?_
          simp only[Act.put,sA,sB,sC];refine tk 17 ?_
          simp only[Act.put,sA,sB,sC];refine tk 18 ?_
          simp only[Act.put,sA,sB,sC];refine tk 19 ?_
          simp only[Act.put,sA,sB,sC];generalize V.drew=V0 at*;apply qcT (fun V T A8 c8 K8 kc8 gB=>Below gT wr V/\gT+1<=V.heap.size/\YB w3 gT (.slice (some ⟨b6,o6,none⟩) lp c6) (.slice (some ⟨b5,o5,none⟩) lq c5) Ip Iq vs Ps V/\qu V (gB+1) 4 (some ⟨gB,0,none⟩) 1 [.int .i64 T.lv,.bool T.ng,.slice A8 T.ds.length c8,.slice K8 T.ks.length kc8]/\gB+1<=V.heap.size/\jZ u v T/\∃b0,RB V b0 T (qe T A8 c8 K8 kc8)/\(∀x∈vs,∀g,x.ownBlock=some g->g<b0)/\gT+1<=b0)
          case h1=>
           intro HJ;refine rd2 9 20 (fun P hP=>?kx26L) (fun P hP=>?kx26C)
           case kx26L=>
            have tb:=(hm.m.tab.cell (i+j)).trans (show _=some _ by simpa using Rp.out);go_simp
            refine hP _ _ (KFI _ hz) (fun Xa=>?_);clear hP P
            clear tb;refine rd1 20 (fun P hP=>?kLx26C)
            case kLx26C=>
             go_simp
             go_at_call 83
             refine(Ud _ hz).mono ?_;rintro e V2 ⟨T,hT,A8,c8,K8,kc8,rfl,hx,st⟩;have Su:=hG
             replace hz:=hz.trans (st.mono (Nat.le_of_lt hG))
             replace hG:=Gl hG st.size
             have Xb:=fun(x:Value)(hx:x∈vs)(g:Nat)(hg:x.ownBlock=some g)=>(hm.m.own_lt hx hg).2
             replace hm:=hm.old st
             clear st;refine hP _ _ (KFI _ hz) (fun Xa=>?_);clear hP P
             refine rd1 21 (fun P hP=>?kLCx26B)
             case kLCx26B=>
              have st:=Gb V2 (.cells #[.int .i64 T.lv,.bool T.ng,.slice A8 T.ds.length c8,.slice K8 T.ks.length kc8] 28);have Xv:=qu.four_newA V2 [.int .i64 T.lv,.bool T.ng,.slice A8 T.ds.length c8,.slice K8 T.ks.length kc8] rfl 28;have VJ:V2.heap.size+1<=(V2.alloc (.cells #[.int .i64 T.lv,.bool T.ng,.slice A8 T.ds.length c8,.slice K8 T.ks.length kc8] 28)).heap.size:=by simp
              go_simp
              replace hz:=hz.trans (st.mono (Nat.le_of_lt hG))
              replace hG:=Gl hG st.size
              replace hm:=hm.old st
              replace hx:=RB.old hx st
              clear st;generalize V2.alloc (.cells #[.int .i64 T.lv,.bool T.ng,.slice A8 T.ds.length c8,.slice K8 T.ks.length kc8] 28)=V3 at*;generalize SO:V2.heap.size=gB at*;clear SO;refine hP _ _ (KFI _ hz) (fun Xa=>?_);clear hP P
              exact HJ V3 T A8 c8 K8 kc8 gB ⟨hz,hG,hm,Xv,VJ,hT,_,hx,Xb,Su⟩
           case kx26C=>
            go_simp
            go_at_call 83
            refine(Ud _ hz).mono ?_;rintro e V1 ⟨T,hT,A8,c8,K8,kc8,rfl,hx,st⟩;have Su:=hG
            replace hz:=hz.trans (st.mono (Nat.le_of_lt hG))
            replace hG:=Gl hG st.size
            have Xb:=fun(x:Value)(hx:x∈vs)(g:Nat)(hg:x.ownBlock=some g)=>(hm.m.own_lt hx hg).2
            replace hm:=hm.old st
            clear st;refine hP _ _ (KFI _ hz) (fun Xa=>?_);clear hP P
            refine rd2 9 21 (fun P hP=>?kCx26L) (fun P hP=>?kCx26B)
            case kCx26L=>
             have tb:=(hm.m.tab.cell (i+j)).trans (show _=some _ by simpa using Rp.out);go_simp
             refine hP _ _ (KFI _ hz) (fun Xa=>?_);clear hP P
             clear tb;refine rd1 21 (fun P hP=>?kCLx26B)
             case kCLx26B=>
              have st:=Gb V1 (.cells #[.int .i64 T.lv,.bool T.ng,.slice A8 T.ds.length c8,.slice K8 T.ks.length kc8] 28);have Xv:=qu.four_newA V1 [.int .i64 T.lv,.bool T.ng,.slice A8 T.ds.length c8,.slice K8 T.ks.length kc8] rfl 28;have VJ:V1.heap.size+1<=(V1.alloc (.cells #[.int .i64 T.lv,.bool T.ng,.slice A8 T.ds.length c8,.slice K8 T.ks.length kc8] 28)).heap.size:=by simp
              go_simp
              replace hz:=hz.trans (st.mono (Nat.le_of_lt hG))
              replace hG:=Gl hG st.size
              replace hm:=hm.old st
              replace hx:=RB.old hx st
              clear st;generalize V1.alloc (.cells #[.int .i64 T.lv,.bool T.ng,.slice A8 T.ds.length c8,.slice K8 T.ks.length kc8] 28)=V3 at*;generalize SO:V1.heap.size=gB at*;clear SO;refine hP _ _ (KFI _ hz) (fun Xa=>?_);clear hP P
              exact HJ V3 T A8 c8 K8 kc8 gB ⟨hz,hG,hm,Xv,VJ,hT,_,hx,Xb,Su⟩
            case kCx26B=>
             have st:=Gb V1 (.cells #[.int .i64 T.lv,.bool T.ng,.slice A8 T.ds.length c8,.slice K8 T.ks.length kc8] 28);have Xv:=qu.four_newA V1 [.int .i64 T.lv,.bool T.ng,.slice A8 T.ds.length c8,.slice K8 T.ks.length kc8] rfl 28;have VJ:V1.heap.size+1<=(V1.alloc (.cells #[.int .i64 T.lv,.bool T.ng,.slice A8 T.ds.length c8,.slice K8 T.ks.length kc8] 28)).heap.size:=by simp
             go_simp
             replace hz:=hz.trans (st.mono (Nat.le_of_lt hG))
             replace hG:=Gl hG st.size
             replace hm:=hm.old st
             replace hx:=RB.old hx st
             clear st;generalize V1.alloc (.cells #[.int .i64 T.lv,.bool T.ng,.slice A8 T.ds.length c8,.slice K8 T.ks.length kc8] 28)=V2 at*;generalize SO:V1.heap.size=gB at*;clear SO;refine hP _ _ (KFI _ hz) (fun Xa=>?_);clear hP P
             refine rd1 9 (fun P hP=>?kCBx26L)
             case kCBx26L=>
              have tb:=(hm.m.tab.cell (i+j)).trans (show _=some _ by simpa using Rp.out);go_simp
              refine hP _ _ (KFI _ hz) (fun Xa=>?_);clear hP P
              clear tb;exact HJ V2 T A8 c8 K8 kc8 gB ⟨hz,hG,hm,Xv,VJ,hT,_,hx,Xb,Su⟩
          case h2=>
           clear hz hG hm;intro V3 T A8 c8 K8 kc8 gB ⟨hz,hG,hm,Xv,VJ,hT,b0,hx,Xb,Su⟩;refine rd1 22 (fun P hP=>?kLCBx26P)
           case kLCBx26P=>
            obtain⟨rows,Xk,CT⟩:=hm.m.row (i+j) _ ts Rp Ni.out;obtain⟨i0,Uw,Sr,Ti,R3⟩:=qO Tryz.infoRec;have VK:ts.length+1<=maxLen:=by unfold maxLen;omega
            have VH:(ts.length+1)*64<=140737488355328:=by omega
            refine yt _ rfl (.tmp 134) (.tmp 146) 26 (by rfl) (gT+1) 28 i0 _ 4 64 Tryz.underlying26 Uw Sr Ti R3 rfl (by decide) (.slice Ak ts.length ck) ts.length rows.flatten (by rfl) Xk (gB+1) (some ⟨gB,0,none⟩) 1 1 [.int .i64 T.lv,.bool T.ng,.slice A8 T.ds.length c8,.slice K8 T.ks.length kc8] (by rfl) Xv (by intro x hx;simp at hx;rcases hx with rfl|rfl|rfl|rfl<;>rfl) VK VH hG ?_;intro v4 V4 Ub hg4 Re;obtain⟨L4,lc4,rfl⟩:=jd Ub;have VI:=Re.imp id fun e=>(⟨_,e,Gr _⟩:∃g,_=some g/\V3.heap.size<=g)
            replace hz:=hz.grown hg4 (Nat.le_of_lt hG) (fun q e=>by have:=jY Xk e;omega)
            replace hG:=Gl hG hg4.size
            have Bz:=Zm (k:=i+j) (vs:=vs) Xk hx Xb (Gk Rp) Su (fun x hx g hg=>hm.m.own_blk hx hg) hg4 VI;clear Re Xv VJ;refine hP _ _ (KFI _ hz) (fun Xa=>?_);clear hP P
            refine tk 23 ?_
            simp only[Act.put,sA,sB,sC];refine rd1 24 (fun P hP=>?kLCBPx26T)
            case kLCBPx26T=>
             have Co:=hm.m.tab.grown hg4 (fun e=>by have:=jY Xk e.symm;omega);have d0:=(Co.cell (i+j)).trans (show _=some _ by simpa using Rp.out);have f0:=Co.frozen (i+j);have zl:=Co.lt;go_simp
             replace hz:=hz.setCell (p:=⟨gT,i+j,none⟩) (Gr _) (.slice L4 (ts.length+1) lc4)
             replace hm:=hm.push Rp Ni Xk CT hg4 Ub VI Bz
             clear Co d0 f0 zl Xk CT hg4 Ub VI;generalize LX:V4.setCell ⟨gT,i+j,none⟩ (.slice L4 (ts.length+1) lc4)=V5 at*
             replace hG:gT+1<=V5.heap.size:=by rw[<-LX];simpa using hG
             clear LX;refine hP _ _ (KFI _ hz) (fun Xa=>?_);clear hP P
             refine wpAnyH_done (by kernel_rfl) ?_ _;have Nx:=Gh (show qgK w3 _ gT t s N (((Ip.take a).flatMap fun i=>Iq.map fun j=>(i,j))++(Iq.take (b+1)).map fun j=>(i,j)) (.slice (some ⟨b6,o6,none⟩) lp c6) (.slice (some ⟨b5,o5,none⟩) lq c5) Ip Iq from⟨by rw[E4.out];exact hm.bel,hm.ip,hm.iq,_,_,by rw[List.length_set];exact Fv,Bq T hT,hm.m⟩);clear hm hz MY KFI Ud Bq;go_wp2_with fail
             refine Zt MC (lq-(b+1)) (by have:=DO.out;omega) ⟨b+1,by omega,rfl,?_,Nx⟩ rfl;show Value.int .i64 ((b:Int)+1)=_;go_num
       ·obtain rfl:b=lq:=by omega
        have HMN:=Gh (show qgK w3 wr gT t s N ((Ip.take (a+1)).flatMap fun i=>Iq.map fun j=>(i,j)) (.slice (some ⟨b6,o6,none⟩) lp c6) (.slice A5 b c5) Ip Iq by
         have h1:=TY.out;rw[List.take_of_length_le (l:=Iq) (by rw[Cc.out];exact Gr _)]at h1;obtain⟨h2,h3⟩:=Gi.1 HI.out;rw[List.take_succ_eq_append_getElem h2,List.flatMap_append,h3,List.flatMap_singleton];exact h1)
        go_wp2_with fail
        refine Zt hJ2 (lp-(a+1)) (by have:=Nt.out;omega) ⟨a+1,by omega,rfl,?_,HMN⟩ rfl;show Value.int .i64 ((a:Int)+1)=_;go_num
      ·obtain rfl:a=lp:=by omega
       obtain⟨Xe,-,-,vs,Ps,S5,VR,U4⟩:=TY.out;rw[List.take_of_length_le (l:=Ip) (by rw[N6.out];exact Gr _),<-Np.out]at VR;obtain⟨PJ,PI⟩:=HFU.out Ps VR;have NG:Ps.length=N:=VR.len;obtain⟨F,hF⟩:∃F:Nat->RP,F=fun k=>jl 4 (Ps.getD k []):=⟨_,rfl⟩;have Lc:=Gh (show jZ p q (jI t.lv ((List.range N).map F))by rw[hF,qeG NG];exact PJ);have HFE:=Gh (fun(k:Nat)=>show F k=jl 4 (Ps.getD k [])by rw[hF]);have Ez:=Gh PI;have RU:=Gh U4;have Fv:=Gh S5;have Tr:=Gh NG;have Ny:=Gh (Gt hb Xe);have Rb:=Gh (Gt VD Ny);have EX:=Gh (fun(b:Nat)(h:Qn vs wr (gT+1) b)=>h.lt);have VV:=Gh (fun(S:Nat->Prop)(l:Int)(ts:List RP)(h:ts.length<=100000)(A:Oa)(W:World)(hS:∀b,S b->b<W.heap.size)(h':yM W S S A ts)=>qa3 S l ts h A ts.length W hS h' (Gr _));have Uz:=Tryz.make_rec N (by omega) wr;have P9:=Gh (qaj.start (S:=Qn vs wr (gT+1)) (w:=wr) (W:=wr) (n:=N) (f:=F) (Below.refl _ _));have AY:N+N=2*N:=by omega
       clear hF PJ PI NG VR U4 S5 Xe TY HFU Np N6 Cc hla AY;go_wp2_with fail
       generalize wr.alloc (.cells (madeCells Gz (N*4)) 28)=W7 at*;clear Uz;refine QN [false,false,false,false,false,false,false,false,false,false,false,false,false,false,false,true,true,false,false,false,false,false,false,false,false,false,false,false,false,false,false,false,false,false,false,false,false,false,false,false,false,false,false,false,false,false,false,false,false,false,false,false,false,false,false,false,false,false,false,false,false,false,false,false,false,false,false,false,false,false,false,false,false,false,false,false,false,false,false,false,false,false,false,false,false,false,false,false,false,false,false,false,false,false,false,false,false,false,false,false,false,false,false,false,false,false,false,false,false,false,false,false,false,false,false,false,false,false,false,false,false,false,false,false,false,false,false,false,false,false,false,false,false,false,false,false,false,false,false,false,false,false,false,false,false,false,false,false,false,false,false,false,false,false,false,false,true,true,true,true,true,true,true,true,true,true,true] (fun k us wq=>∃j:Nat,j<=N/\k=N-j/\us 156= .int .i64 j/\qaj (Qn vs wr (gT+1)) wr wq wr.heap.size N F j) N ⟨0,Nat.zero_le _,rfl,rfl,P9⟩ ?_;rintro gk us wq ⟨j,hj,XI,Vs,Mw⟩ J4 K4 hJ4 hK4;simp only[ZW,Vs];clear P9 Vs;have SZ:=Gh XI;have Uc:=Gh Mw;clear XI Mw;by_cases Dx:j<N
       ·obtain⟨v,hv⟩:∃v,vs[j]? =some v:=⟨_,Gn (by rw[Fv.out];exact Dx)⟩;obtain⟨ts,Vq⟩:∃ts,Ps[j]? =some ts:=⟨_,Gn (by rw[Tr.out];exact Dx)⟩;obtain⟨A7,c7,rfl,LV,UG⟩:=RU.out.arg hv Vq;have Fs:=Uc.out.bel;have tabj:wq.cell? ⟨gT,j,none⟩=some (.slice A7 ts.length c7):=((RU.out.tab.old Fs).cell j).trans (by simpa using hv);have Pe:yM wq (· <wq.heap.size) (Qn vs wr (gT+1)) A7 ts:=(UG.old Fs (fun _ h=>h) EX).mono (fun b h=>Gm h Fs.size) (fun _ h=>h);obtain⟨ok1,ok2,ok3⟩:=Ez.out ts (Gk Vq);have XT:=Gh (Yn (Qn vs wr (gT+1)) wr.heap.size 3000 EX (by omega) 3 ts ok1 ok2 ok3 A7 c7 wq Fs.size Pe LV);rw[show jl (3+1) ts=F j by rw[HFE,getD_some [] Vq]]at XT;have Tu:=Gh (show wr.heap.size+1<=wq.heap.size by obtain⟨cur,rows,hr⟩:=Uc.out.row;exact hr.row.lt);unfold J5 qm at XT;have i3:(0:Int)<=(j:Int):=by omega
        have i4:(j:Int)<(N:Int):=by omega
        clear UG Pe ok1 ok2 ok3 hv Vq LV Fs;generalize ts.length=tl at*;go_wp2_with fail
        refine XT.out.mono ?_;rintro e w8 ⟨A8,c8,K8,kc8,rfl,LD,Sb⟩;have Vu:=Gh (Uc.out.put EX (Gr _) Dx Sb LD Tu);obtain⟨v0,v1,v2,v3,d0,d1,d2,d3,f0,f1,f2,f3,zl⟩:=Uc.out.cell Sb Dx;clear Sb LD XT Uc tabj;generalize (F j).lv=fl at*;generalize (F j).ng=fg at*;generalize (F j).ds.length=fd at*;generalize (F j).ks.length=fk at*;go_wp2_with fail
        refine Zt hJ4 (N-(j+1)) (by have:=SZ.out;omega) ⟨j+1,by omega,rfl,?_,Vu⟩ rfl;show Value.int .i64 ((j:Int)+1)=_;go_num
       ·obtain rfl:j=N:=by omega
        obtain⟨cur,rows,hr⟩:=Uc.out.row;have Fs:=Uc.out.bel;have XM:(cfA F j j).length=j:=by simp[cfA]
        have LY:∀b,Qn vs wr (gT+1) b->b<wq.heap.size:=fun b hb=>Gm (EX b hb) Fs.size;have hgt1:=RU.out.tab.lt;have HT:=Gh (VV (ZL (Qn vs wr (gT+1)) wq (gT+1)) t.lv (cfA F j j) (by omega) (some ⟨wr.heap.size,0,none⟩) wq (fun b hb=>hb.lt LY) (hr.trsSh hgt1));rw[XM]at HT;have HFM2:=Gh (show jZ p q (jI t.lv (cfA F j j))by rw[qfM];exact Lc);have FB:=Gh (Gt Ny Fs);have Is:=Gh Fs;obtain⟨k0,_,_⟩:=KF.out _ FB.out;have z0:=k0.cell 0;have HK2L:=Gh (show w.heap.size+1+1<gT by have:=(KF _ hb).2.2.lt;have:=E4.out;omega);unfold qm at HT;clear hr XM Dx Uc Lc Fs k0 LY;generalize jI t.lv (cfA F j j)=TT at*;rw[OK]at HT;go_wp2_with fail
        refine HT.out.mono ?_;rintro e w9 ⟨A9,c9,K9,kc9,rfl,hr9,To⟩;have Cy:=(KF _ (Gt FB To)).2.2;have Uy:RB w9 (w.heap.size+1+1+1) TT (qe TT A9 c9 K9 kc9):=RV.mono (fun b h=>by
         have Vo:w.heap.size+1+1+1<=gT+1:=by have:=HK2L.out;omega
         rcases h with h|h
         ·exact qcc (qcc h.1 Is) To Vo
         ·exact qcc h To Vo) _ _ hr9
        have Rr:=VD.out.trans ((Gt FB To).mono VD.out.size);have Xg:=Gh (jj Cy rfl Uy (Nat.lt_succ_self _) (by omega) Rr);obtain⟨d0,d1,d2,d3⟩:=G4 Cy;obtain⟨f0,f1,f2,f3,zl⟩:=G5 Cy;clear Cy Uy hr9 To Rr z0 HT;go_wp2_with fail
        exact qo Tryz.results83 rfl rfl Xg.out.1 Tryz.underlying28 rfl Tryz.sizeRec ⟨_,HFM2,Xg.out.2⟩
theorem qdm:∀(D:Nat),∀(p q:RP),qC p+qC q<=D->qv p=true->qv q=true->qN 1000 60 p->qN 1000 60 q->∀(A:Oa)(c:Nat)(K:Oa)(kc:Nat)(Aq:Oa)(cq:Nat)(Kq:Oa)(kq B:Nat)(w:World),B<=w.heap.size->RV w (· <B) p (qe p A c K kc)->RV w (· <B) q (qe q Aq cq Kq kq)->
 Calls Tryz.prog 83 #[qm p A c K kc,qm q Aq cq Kq kq] w (qcu p q w)
 |0,p,q,hD,_,_,_,_,_,_,_,_,_,_,_,_,_,_,_,_,_=>by cases p;simp only[qC]at hD;omega
 |D+1,p,q,hD,Fr,FJ,Fk,ED,A,c,K,kc,Aq,cq,Kq,kq,B,w,hB,h,TS=>qgq D (qdm D) p q hD Fr FJ Fk ED A c K kc Aq cq Kq kq B w hB h TS
