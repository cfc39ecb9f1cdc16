import Derived.Test.YtflikmojaidhhaaGreatDoorPq12
import Derived.Test.YtflikmojaidhhaaGreatDoorPqA
namespace Go.Proofs.YtflikmojaidhhaaGreatDoor
open Go.RowKit
mutual
def yN(z:Int):RP->RP
 | .mk l g ds ks=>if(qI (.mk l g ds ks)||decide (z=0))=true then qh else if l=0 then jy (qj g ds*z)else .mk l false [] (mcL z ks)
def mcL(z:Int):List RP->List RP
 |[]=>[]
 |t::ts=>yN z t::mcL z ts
end
theorem qkd(z:Int)(ts:List RP):mcL z ts=ts.map (yN z):=by
 induction ts with
 |nil=>simp[mcL]
 |cons t ts ih=>simp[mcL,ih]
theorem YW(z:Int)(t:RP):yN z t=if(qI t||decide (z=0))=true then qh else if t.lv=0 then jy (qj t.ng t.ds*z)else .mk t.lv false [] (t.ks.map (yN z)):=by
 cases t
 rw[yN,qkd];rfl
theorem Qv{t:RP}(h:qv t=true)(hz:qI t=true):t=qh:=by
 cases t with
 |mk l g ds ks=>
  have hz:(decide (l=0)&&decide (ds.length=0))=true:=hz;rw[Bool.and_eq_true,decide_eq_true_eq,decide_eq_true_eq]at hz;obtain⟨rfl,hd⟩:=hz;obtain rfl:ds=[]:=List.eq_nil_of_length_eq_zero hd;rw[qv,if_pos rfl]at h;by_cases hk:0<ks.length
  ·rw[if_pos hk]at h;cases h
  ·rw[if_neg hk]at h;obtain rfl:ks=[]:=List.eq_nil_of_length_eq_zero (by omega);unfold YC at h;simp at h;subst h;rfl
theorem ZF{z:Int}(hz:z≠0):qv (jy z)=true/\qI (jy z)=false:=by
 refine⟨?_,?_⟩
 ·unfold jy;rw[qv,if_pos rfl,if_neg (by simp)];exact qcJ hz
 ·unfold jy qI;have h:(dig z.natAbs).length≠0:=fun e=>by rw[Jw]at e;omega
  simp only[RP.lv,RP.ds,h,decide_false,Bool.and_false]
theorem qe4{l:Int}:∀{ks:List RP},(∀u∈ks,u.lv<l/\qv u=true)->zT l ks=true
 |[],_=>by rw[zT]
 |k::ks,h=>by
  have h1:=h k List.mem_cons_self;rw[zT,qe4 fun u hu=>h u (List.mem_cons_of_mem _ hu),h1.2,decide_eq_true h1.1];rfl
theorem YL{l:Int}{ks:List RP}(h1:1<=l)(h4:l<=4)(h2:2<=ks.length)(hk:∀u∈ks,u.lv<l/\qv u=true){u:RP}(hu:ks[ks.length-1]? =some u)(hz:qI u=false):qv (.mk l false [] ks)=true:=by
 rw[qv,if_neg (by omega),qe4 hk,decide_eq_true h1,decide_eq_true h4,decide_eq_true h2];simp only[List.length_nil,decide_true,Bool.not_false,Bool.and_true,Bool.true_eq_false,if_false];unfold Zi;rw[hu];simp[hz]
theorem qaF{l:Int}{ks:List RP}(h:l≠0):qI (.mk l false [] ks)=false:=by
 unfold qI;rw[decide_eq_false (by exact h)];rfl
theorem qb0{z:Int}(hz:z≠0):∀(t:RP),qv t=true->qv (yN z t)=true/\(yN z t).lv=t.lv/\qI (yN z t)=qI t
 |t,hc=>by
  rw[YW]
  cases h0:qI t with
  |true=>
   obtain rfl:=Qv hc h0;simp only[Bool.true_or,if_true];exact⟨by decide,trivial,by decide⟩
  |false=>
   simp only[Bool.false_or,decide_eq_true_eq,if_neg hz];rcases qz hc with⟨a,b,c⟩|⟨a,a4,b,b',c2,c,u,hu,BF⟩
   ·rw[if_pos a];have hd:t.ds.length≠0:=fun e=>by
     unfold qI at h0;rw[a,e]at h0
     cases h0
    have Xl:=Int.mul_ne_zero (ZG c hd) hz;obtain⟨k1,k2⟩:=ZF Xl;exact⟨k1,a.symm,k2⟩
   ·rw[if_neg (by omega)];have hk:∀u∈t.ks.map (yN z),u.lv<t.lv/\qv u=true:=fun u hu=>by
     obtain⟨x,hx,rfl⟩:=List.mem_map.1 hu;obtain⟨k1,k2,_⟩:=qb0 hz x (c x hx).2;exact⟨by rw[k2];exact(c x hx).1,k1⟩
    refine⟨YL a a4 (by rw[List.length_map];exact c2) hk (u:=yN z u) (by rw[List.length_map,List.getElem?_map,hu];rfl) ?_,rfl,qaF (by omega)⟩;rw[(qb0 hz u (c u (Gk hu)).2).2.2];exact BF
termination_by t=>qC t
decreasing_by all_goals first|exact qY hx|exact qY (Gk hu)
theorem qjb(t:RP):yN 0 t=qh:=by
 rw[YW];simp
theorem qhe(pt:Nat->Rat)(z:Int):vT pt (jy z)=(z:Rat):=by
 unfold jy;rw[vT,if_pos (by omega),jM]
theorem qfI{k:Int}(hk:0<k)(z:Int):∀(t:RP),zo k t=false->zo k (yN z t)=false
 |t,h=>by
  rw[YW]
  split
  ·exact zy hk
  ·split
   ·rw[jc];exact⟨by show(0:Int)≠k;omega,by simp[jy,RP.ks]⟩
   ·rw[jc]at h ⊢;refine⟨h.1,fun u hu=>?_⟩;obtain⟨x,hx,rfl⟩:=List.mem_map.1 hu;exact qfI hk z x (h.2 x hx)
termination_by t=>qC t
decreasing_by exact qY hx
mutual
def qF:RP->Prop
 | .mk _ _ ds ks=>jg ds/\zd ks
def zd:List RP->Prop
 |[]=>True
 |t::ts=>qF t/\zd ts
end
theorem zd.mem{ts:List RP}:zd ts↔∀u∈ts,qF u:=by
 induction ts with
 |nil=>simp[zd]
 |cons t ts ih=>simp[zd,ih]
theorem qF.at_{t:RP}(h:qF t):jg t.ds/\∀u∈t.ks,qF u:=by
 cases t
 simp only[qF]at h;exact⟨h.1,zd.mem.1 h.2⟩
mutual
theorem RV.digT{w:World}{S:Nat->Prop}:∀(t:RP)(vs:List Value),RV w S t vs->qF t
 | .mk l g ds ks,vs,h=>by
   unfold RV at h;obtain⟨A,c,K,kc,_,_,h3,_,_,rows,_,h7⟩:=h;simp only[qF];exact⟨h3,qG.digT ks rows h7⟩
theorem qG.digT{w:World}{S:Nat->Prop}:∀(ts:List RP)(rows:List (List Value)),qG w S ts rows->zd ts
 |[],_,_=>by simp[zd]
 |t::ts,rows,h=>by
  unfold qG at h;obtain⟨r,rs,_,h2,h3⟩:=h;simp only[zd];exact⟨RV.digT t r h2,qG.digT ts rs h3⟩
end
theorem qbo{d e n:Nat}{z:Int}(hz:z.natAbs<4294967296^e):∀(t:RP),qN d n t->qF t->qN (d+e) n (yN z t)
 |t,h,hd=>by
  rw[YW]
  split
  ·exact qN.zero _ _
  ·split
   ·refine qN.mk ?_ (Nat.zero_le _) (by simp);refine qK ?_;rw[Int.natAbs_mul,je,Nat.pow_add];have h1:=Gm (jr hd.at_.1) (Nat.pow_le_pow_right (n:=4294967296) (by decide) h.at_.1);exact Nat.mul_lt_mul'' h1 hz
   ·refine qN.mk (Nat.zero_le _) (by rw[List.length_map];exact h.at_.2.1) fun u hu=>?_;obtain⟨x,hx,rfl⟩:=List.mem_map.1 hu;exact qbo hz x (h.at_.2.2 x hx) (hd.at_.2 x hx)
termination_by t=>qC t
decreasing_by exact qY hx
def qS(T:RP)(w:World)(e:Ending)(w':World):Prop:=∃A c K kc,e= .returned (qm T A c K kc)/\RB w' w.heap.size T (qe T A c K kc)/\Below w.heap.size w w'
theorem RB.zero{w:World}{base:Nat}:RB w base qh (qe qh none 0 none 0):=RT.zero
section
variable {W W1:World} {g m b0:Nat} {ts:List RP} {cur:Array Value} {rows:List (List Value)}
theorem jh.oldS(h:jh W g m (yB W b0) ts cur rows)(hb:Below W.heap.size W W1):jh W1 g m (yB W1 b0) ts cur rows:=by
 obtain⟨k1,k2⟩:=yB.keep (base:=b0) (fun _ _ k=>k.old hb) (fun _ _ _ k=>k.old hb) (Gr _);exact(h.keep (h.row.old hb) k1).mono k2
theorem yB.ne{bb:Nat}(h:yB W (g+1) bb)(hk:qf W g 28 cur):bb≠g:=by
 rintro rfl;rcases h with⟨ds,hb⟩|⟨hb,_⟩
 ·unfold qf at hb hk;rw[hb]at hk
  injection hk with hk
  injection hk with _ h2
  exact absurd h2 (by decide)
 ·omega
theorem jh.putS(h:jh W g m (yB W (g+1)) ts cur rows){e:Nat}(he:e<m){t:RP}{A K:Oa}{c kc:Nat}(ht:RB W (g+1) t (qe t A c K kc)):
 ∃cur' rows',jh (set4 W g (e*4) (.int .i64 t.lv) (.bool t.ng) (.slice A t.ds.length c) (.slice K t.ks.length kc)) g m (yB (set4 W g (e*4) (.int .i64 t.lv) (.bool t.ng) (.slice A t.ds.length c) (.slice K t.ks.length kc)) (g+1)) (ts.set e t) cur' rows':=by
 obtain⟨cur',hp⟩:=h.put (fun b hb=>hb.ne h.row) he ht;obtain⟨_,s2,s3⟩:=jm (k:=e*4) h.row (.int .i64 t.lv) (.bool t.ng) (.slice A t.ds.length c) (.slice K t.ks.length kc);exact⟨cur',_,hp.mono (yB.keep (base:=g+1) (base':=g+1) s2 (fun j ds hg hj=>s3 j ds hg hj) (Gr _)).2⟩
theorem jh.nodeS(h:jh W g m (yB W (g+1)) ts cur rows)(l:Int):RB W g (.mk l false [] ts) (qe (.mk l false [] ts) none 0 (some ⟨g,0,none⟩) m):=
 (h.mono fun _ hb=>hb.mono (Nat.le_succ g)).node (.inr ⟨Gr _,cur,h.row⟩) l
end
theorem jj{w V:World}{g base:Nat}{T:RP}{A K:Oa}{c kc:Nat}{cs:Array Value}(hk:qf V g 28 cs)(XE:cs.size=4)(hr:RB V base T (qe T A c K kc))(hg:g<base)(hw:w.heap.size<=g)(hb:Below w.heap.size w V):
 qf ((((V.setCell ⟨g,0,none⟩ (.int .i64 T.lv)).setCell ⟨g,1,none⟩ (.bool T.ng)).setCell ⟨g,2,none⟩ (.slice A T.ds.length c)).setCell ⟨g,3,none⟩ (.slice K T.ks.length kc)) g 28 #[.int .i64 T.lv,.bool T.ng,.slice A T.ds.length c,.slice K T.ks.length kc]/\
 qS T w (.returned (qm T A c K kc)) ((((V.setCell ⟨g,0,none⟩ (.int .i64 T.lv)).setCell ⟨g,1,none⟩ (.bool T.ng)).setCell ⟨g,2,none⟩ (.slice A T.ds.length c)).setCell ⟨g,3,none⟩ (.slice K T.ks.length kc)):=by
 obtain⟨s1,s2,s3⟩:=jm (k:=0) hk (.int .i64 T.lv) (.bool T.ng) (.slice A T.ds.length c) (.slice K T.ks.length kc);have e:(((cs.setIfInBounds 0 (Value.int .i64 T.lv)).setIfInBounds (0+1) (.bool T.ng)).setIfInBounds (0+2) (.slice A T.ds.length c)).setIfInBounds (0+3) (.slice K T.ks.length kc)=(Gx T A c K kc):=by
  obtain⟨l⟩:=cs
  match l,XE with
  |[_,_,_,_],_=>rfl
 rw[e]at s1;exact⟨s1,A,c,K,kc,rfl,RB.keep hr s2 (fun j ds EO hj=>s3 j ds (by omega) hj) (by omega),qy (o:=0) hb hw _ _ _ _⟩
set_option maxHeartbeats 4000000
set_option maxRecDepth 100000
theorem qfm(X:Nat)(hX:X<=100000)(q:RP)(hq:qv q=true)(Ds:q.lv=0)(II:yP X q):∀(D:Nat)(t:RP),qC t<=D->qv t=true->yP X t->∀(A:Oa)(c:Nat)(K:Oa)(kc:Nat)(Aq:Oa)(cq:Nat)(Kq:Oa)(kq B:Nat)(w:World),B<=w.heap.size->RV w (· <B) t (qe t A c K kc)->RV w (· <B) q (qe q Aq cq Kq kq)->
 Calls Tryz.prog 83 #[qm t A c K kc,qm q Aq cq Kq kq] w (qS (yN (qj q.ng q.ds) t) w)
 |0,t,hD,_,_,_,_,_,_,_,_,_,_,_,_,_,_,_=>by cases t;simp only[qC]at hD;omega
 |D+1,t,hD,hc,hf,A,c,K,kc,Aq,cq,Kq,kq,B,w,hB,h,TS=>by
  have IH:=Gh (qfm X hX q hq Ds II D);have HR:=Gh (fun(W:World)(hW:Below w.heap.size w W)=>h.below (hW.mono hB));have HQ:=Gh (fun(W:World)(hW:Below w.heap.size w W)=>TS.below (hW.mono hB));have HD:=Gh (fun(u:RP)(hu:u∈t.ks)=>show qC u<=D by have:=qY hu;omega);have HF:=Gh hf.at_.2.2;have HB:=Gh hB;have Uo:=hf.at_.1;have TU:=hf.at_.2.1;have OL:=II.at_.1;have EA:=Gh h.node.2.2.2;have SM:=qJ hc;have Rk:=Gh (qz hc);have Wn:=Gh (show qI q=decide (qj q.ng q.ds=0)by
   cases hz:qI q with
   |true=>rw[Qv hq hz];decide
   |false=>
    rcases qz hq with⟨_,_,k⟩|⟨a,_⟩
    ·have hd:q.ds.length≠0:=fun e=>by
      unfold qI at hz;rw[Ds,e]at hz
      cases hz
     exact(decide_eq_false (ZG k hd)).symm
    ·omega)
  have Ut:=Gh (YW (qj q.ng q.ds) t);have HX:=Gh (jN w 28 28 28 #[.int .i64 t.lv,.bool t.ng,.slice A t.ds.length c,.slice K t.ks.length kc] (Gx q Aq cq Kq kq) Gz);have UC:=Gh (fun(W:World)(hW:Below w.heap.size w W)=>qdo t.ng q.ng A Aq c cq B t.ds q.ds W (Gl hB hW.size) (h.below (hW.mono hB)).natIn (TS.below (hW.mono hB)).natIn (by omega));unfold qX at UC;have Vc:=Gh (fun(W:World)=>zf t A c K kc W);have ER:=Gh (fun(W:World)=>zf q Aq cq Kq kq W);have e1:decide (t.lv<q.lv)=false:=by simp;omega
  have Di:=Gh Ds;have HQC:=Gh hq;generalize IR:yN (qj q.ng q.ds) t=T at*;unfold qS at IH ⊢;unfold qm at IH Vc ER ⊢;clear h hD hf hB hc TS II IR hq Ds SM;go_enter Tryz.func83,Tryz.ntmps83
  go_upto_region 1 with(fail)
  generalize ((w.alloc (.cells #[.int .i64 t.lv,.bool t.ng,.slice A t.ds.length c,.slice K t.ks.length kc] 28)).alloc (.cells (Gx q Aq cq Kq kq) 28)).alloc (.cells Gz 28)=W at*;obtain⟨Xb,k0,k1,k2,hs⟩:=HX.out;clear HX;have KF:=Gh (fun(V:World)(hV:Below W.heap.size W V)=>And.intro (k0.old hV) (And.intro (k1.old hV) (k2.old hV)));have Xd:=Gh Xb;obtain⟨c0,c1,c2,c3⟩:=G4 k0;obtain⟨q0,q1,q2,q3⟩:=G4 k1;have hb:Below W.heap.size W W:=Below.refl _ _;clear k0 k1 k2 hs Xb;go_wp2_with fail
  refine(Vc W).mono ?_;rintro e w2 ⟨rfl,Xf⟩;have hb:=Xf;clear c0 c1 c2 c3 q0 q1 q2 q3 Xf Vc;obtain⟨k0,k1,k2⟩:=KF.out _ hb;have Xh:=Gh (Gt Xd hb)
  cases hz:qI t with
  |true=>
   have HT:=Gh (show T=qh by rw[Ut,hz];rfl);have Xg:=Gh (jj k2 rfl (RB.zero (base:=w.heap.size+1+1+1)) (Nat.lt_succ_self _) (by omega) Xh);obtain⟨d0,d1,d2,d3⟩:=G4 k2;obtain⟨f0,f1,f2,f3,z0⟩:=G5 k2;clear hz k0 k1 k2 KF Ut ER;go_wp2_with fail
   have hT:=HT.out;subst hT;exact qo Tryz.results83 rfl rfl Xg.out.1 Tryz.underlying28 rfl Tryz.sizeRec Xg.out.2
  |false=>
   have Ke:=Gh hz;obtain⟨c0,c1,c2,c3⟩:=G4 k0;obtain⟨q0,q1,q2,q3⟩:=G4 k1;clear hz k0 k1 k2;go_wp2_with fail
   refine(ER _).mono ?_;rintro e w3 ⟨rfl,Xz⟩
   replace hb:=Gt hb Xz
   clear c0 c1 c2 c3 q0 q1 q2 q3 Xz ER Xh;obtain⟨k0,k1,k2⟩:=KF.out _ hb;have Xh:=Gh (Gt Xd hb);obtain⟨d0,d1,d2,d3⟩:=G4 k2;obtain⟨f0,f1,f2,f3,z0⟩:=G5 k2
   cases Oj:qI q with
   |true=>
    have HT:=Gh (show T=qh by rw[Ut,Ke,<-Wn,Oj];rfl);have Xg:=Gh (jj k2 rfl (RB.zero (base:=w.heap.size+1+1+1)) (Nat.lt_succ_self _) (by omega) Xh);clear Oj k0 k1 k2 KF Ut;go_wp2_with fail
    have hT:=HT.out;subst hT;exact qo Tryz.results83 rfl rfl Xg.out.1 Tryz.underlying28 rfl Tryz.sizeRec Xg.out.2
   |false=>
    have Io:=Gh (show T=if t.lv=0 then jy (qj t.ng t.ds*qj q.ng q.ds)else .mk t.lv false [] (t.ks.map (yN (qj q.ng q.ds)))by rw[Ut,Ke,<-Wn,Oj];rfl);obtain⟨c0,c1,c2,c3⟩:=G4 k0;obtain⟨q0,q1,q2,q3⟩:=G4 k1;clear Oj k0 k1 k2 Ut Wn;by_cases h0:t.lv=0
    ·have HT:=Gh (show T=jy (qj t.ng t.ds*qj q.ng q.ds)by rw[Io,if_pos h0]);have e2:(t.lv==0)=true:=by simpa using h0
     have HM:=Gh (UC _ Xh);clear h0 Io UC d0 d1 d2 d3 f0 f1 f2 f3 z0;generalize qj t.ng t.ds*qj q.ng q.ds=z at*;go_wp2_with fail
     refine HM.out.mono ?_;rintro e w4 ⟨A4,c4,rfl,l4,n4,XB⟩
     replace hb:=Gt hb XB
     obtain⟨_,_,k2⟩:=KF.out _ hb;have XW:=Gh (Gt Xd hb);have Xg:=Gh (jj (T:=jy z) k2 rfl (RB.const (base:=w.heap.size+1+1+1) n4 (qA _) l4) (Nat.lt_succ_self _) (by omega) XW);obtain⟨d0,d1,d2,d3⟩:=G4 k2;obtain⟨f0,f1,f2,f3,z0⟩:=G5 k2;clear c0 c1 c2 c3 q0 q1 q2 q3 XB l4 n4 k2 HM KF;go_wp2_with fail
     have hT:=HT.out;subst hT;exact qo Tryz.results83 rfl rfl Xg.out.1 Tryz.underlying28 rfl Tryz.sizeRec Xg.out.2
    ·have HT:=Gh (show T= .mk t.lv false [] (t.ks.map (yN (qj q.ng q.ds)))by rw[Io,if_neg h0]);have e2:(t.lv==0)=false:=by simpa using h0
     have e3:decide (q.lv<t.lv)=true:=by
      have:=Di.out;rcases Rk.out with⟨a,_⟩|⟨a,_⟩
      ·exact absurd a h0
      ·simp;omega
     have Uz:=fun(W:World)=>Tryz.make_rec t.ks.length (by omega) W;have CN:=Gh (show∀u∈t.ks,qv u=true by
      rcases Rk.out with⟨a,b,_⟩|⟨_,_,_,_,_,a,_⟩
      ·intro u hu;rw[b]at hu;cases hu
      ·exact fun u hu=>(a u hu).2)
     clear h0 Io UC d0 d1 d2 d3 f0 f1 f2 f3 z0 Rk;generalize Vx:t.ks.length=nk at*;have UB:=Gh Vx;clear Vx;generalize RC:w3.heap.size=g at*;have E8:=Uz w3;rw[RC]at E8;have I6:W.heap.size<=g:=by have:=hb.size;omega
     have Xc:=Gb w3 (.cells (madeCells Gz (nk*4)) 28);have AJ:=qf.new w3 28 (madeCells Gz (nk*4));rw[RC]at AJ;have U7:=Gh (jh.zeros (S:=yB (w3.alloc (.cells (madeCells Gz (nk*4)) 28)) (g+1)) nk AJ);have XR:=Gh (Gt hb Xc);have UT:=EA.out;have Kr:=Gh (show w.heap.size+1+1<W.heap.size from(KF W (Below.refl _ _)).2.2.lt);have c3a:=fun o=>((KF w3 hb).1.alloc o).cell 3;clear Xc AJ hb Uz;go_wp2_with fail
     clear c3a;generalize w3.alloc (.cells (madeCells Gz (nk*4)) 28)=W3 at*;clear c0 c1 c2 c3 q0 q1 q2 q3 Xh E8 Ke Di;go_loopg [6,55] nk (fun gn _ ix wr=>∃(j:Nat)(cur:Array Value)(rows:List (List Value)),j<=nk/\gn=nk-j/\ix= .int .i64 j/\Below W.heap.size W wr/\jh wr g nk (yB wr (g+1)) ((t.ks.take j).map (yN (qj q.ng q.ds))++List.replicate (nk-j) qh) cur rows)
     case atStart=>exact⟨0,_,_,Nat.zero_le _,rfl,rfl,XR,by rw[List.take_zero,List.map_nil,List.nil_append,Nat.sub_zero];exact U7⟩
     case round=>
      clear XR U7;obtain⟨j,cur,rows,hj,XI,rfl,Xe,Xk⟩:=hrel;have HG:=Gh XI;clear XI;have Xh:=Gh (Gt Xd Xe);by_cases Xi:j<nk
      ·obtain⟨u,hu⟩:∃u,t.ks[j]? =some u:=⟨_,Gn (by rw[UB.out];exact Xi)⟩;obtain⟨b,o,A3,q3,K3,r3,rfl,Tn,x0,x1,x2,x3,XN⟩:=(HR wr Xh).kid hu;have US:=Gk hu;have Xc:=Gb wr (.cells #[.int .i64 u.lv,.bool u.ng,.slice A3 u.ds.length q3,.slice K3 u.ks.length r3] 28);have Vy:=qf.new wr 28 #[.int .i64 u.lv,.bool u.ng,.slice A3 u.ds.length q3,.slice K3 u.ks.length r3];have RD:=Gt Xe Xc;have Vh:B<=wr.heap.size:=Gl HB Xh.out.size;have VC:=Gh (IH u (HD u US) (CN u US) (HF u US) A3 q3 K3 r3 Aq cq Kq kq B _ (Gl Vh Xc.size) (XN.below (Xc.mono Vh)) (HQ _ (Gt Xd RD)));have Vu:=Gh (show((t.ks.take j).map (yN (qj q.ng q.ds))++List.replicate (nk-j) qh).set j (yN (qj q.ng q.ds) u)=(t.ks.take (j+1)).map (yN (qj q.ng q.ds))++List.replicate (nk-(j+1)) qh by
        obtain⟨Fp,e⟩:=Gi.1 hu;have hl:((t.ks.take j).map (yN (qj q.ng q.ds))).length=j:=by rw[List.length_map,List.length_take];omega
        obtain⟨r,hr⟩:∃r,nk-j=r+1:=⟨nk-j-1,by omega⟩;rw[List.set_append_right _ _ (by omega),hl,Nat.sub_self,hr,List.replicate_succ,List.set_cons_zero,List.take_succ_eq_append_getElem Fp,List.map_append,List.append_assoc,e,show nk-(j+1)=r by omega];rfl)
       have C6:=Gh (Xk.oldS Xc);have UV:=Gh Vy;have XR:=Gh RD;have EF:=Xk.siz;have i3:(0:Int)<=(j:Int):=by omega
       have i4:(j:Int)<(nk:Int):=by omega
       have i5:(nk:Int)<=(kc:Int):=by omega
       have Tu:=Gh (show g+1<=(wr.alloc (.cells #[.int .i64 u.lv,.bool u.ng,.slice A3 u.ds.length q3,.slice K3 u.ks.length r3] 28)).heap.size from Gl Xk.row.lt Xc.size);have c3:wr.cell? ⟨w.heap.size,3,none⟩=some (.slice (some ⟨b,o,none⟩) nk kc):=(KF wr Xe).1.cell 3;clear US XN Xc Vy RD Vh Xk Xe hu Xh;generalize yN (qj q.ng q.ds) u=tu at*;generalize u.ds.length=ud at*;generalize u.ks.length=uk at*;generalize u.ng=ug at*;generalize u.lv=ul at*;go_upto_region 12 with(fail)
       generalize wr.alloc (.cells #[.int .i64 ul,.bool ug,.slice A3 ud q3,.slice K3 uk r3] 28)=V at*;obtain⟨_,k1,_⟩:=KF.out _ XR.out;obtain⟨q0,q1,q2,q3'⟩:=G4 k1;obtain⟨y0,y1,y2,y3⟩:=G4 UV.out;clear c3 x0 x1 x2 x3 k1;go_wp2_with fail
       refine VC.out.mono ?_;rintro e w4 ⟨A4,c4,K4,kc4,rfl,TR,XB⟩;have hr:=C6.out.oldS XB;have ex:∀i,i<4->∃v,cur[j*4+i]? =some v:=fun j hj=>⟨_,Array.getElem?_eq_getElem (by omega)⟩;obtain⟨p0,s0⟩:=ex 0 (by omega);obtain⟨p1,s1⟩:=ex 1 (by omega);obtain⟨p2,s2⟩:=ex 2 (by omega);obtain⟨p3,s3⟩:=ex 3 (by omega);have d0:w4.cell? ⟨g,j*4,none⟩=some p0:=(hr.row.cell _).trans s0;have d1:w4.cell? ⟨g,j*4+1,none⟩=some p1:=(hr.row.cell _).trans s1;have d2:w4.cell? ⟨g,j*4+2,none⟩=some p2:=(hr.row.cell _).trans s2;have d3:w4.cell? ⟨g,j*4+3,none⟩=some p3:=(hr.row.cell _).trans s3;have f0:=hr.row.frozen (j*4);have f1:=hr.row.frozen (j*4+1);have f2:=hr.row.frozen (j*4+2);have f3:=hr.row.frozen (j*4+3);have z4:=hr.row.lt;have HP:=Gh (hr.putS Xi (TR.mono Tu));rw[Vu.out]at HP;have XZ:=Gh (qy (o:=j*4) (Gt XR XB) I6 (.int .i64 tu.lv) (.bool tu.ng) (.slice A4 tu.ds.length c4) (.slice K4 tu.ks.length kc4));clear hr ex s0 s1 s2 s3 TR XB EF VC C6 UV XR Tu Vu q0 q1 q2 q3' y0 y1 y2 y3;generalize tu.ds.length=vd at*;generalize tu.ks.length=vk at*;generalize tu.ng=vg at*;generalize tu.lv=vl at*;go_wp2_with fail
       obtain⟨cur',rows',hp⟩:=HP.out;go_roundg (nk-(j+1))
       case rel=>exact⟨j+1,cur',rows',by omega,rfl,by go_num,XZ,hp⟩
       case measure=>have:=HG.out;omega
      ·obtain rfl:j=nk:=by omega
       have hr:=Xk;rw[List.take_of_length_le (by rw[UB.out];exact Gr _),Nat.sub_self,List.replicate_zero,List.append_nil]at hr;obtain⟨k0,_,k2⟩:=KF.out _ Xe;have c0:=k0.cell 0;obtain⟨d0,d1,d2,d3⟩:=G4 k2;obtain⟨f0,f1,f2,f3,z0⟩:=G5 k2;have Ly:=Kr.out;have Xg:=Gh (jj (w:=w) k2 rfl (hr.nodeS t.lv) (by omega) (by omega) Xh);have NK:(t.ks.map (yN (qj q.ng q.ds))).length=j:=by rw[List.length_map,UB.out]
       rw[show(RP.mk t.lv false [] (t.ks.map (yN (qj q.ng q.ds)))).ks.length=j from NK,<-HT.out]at Xg;have FO:=Gh (show T.lv=t.lv/\T.ng=false/\T.ds.length=0 by rw[HT.out];exact⟨rfl,rfl,rfl⟩);rw[FO.out.1,FO.out.2.1,FO.out.2.2]at Xg;have HE6:=Gh (show T.ks.length=j by rw[HT.out];exact NK);clear Xk hr Xe k0 k2 NK Xi;go_wp2_with fail
       refine qo Tryz.results83 rfl rfl Xg.out.1 Tryz.underlying28 rfl Tryz.sizeRec ?_;have:=Xg.out.2;unfold qS qm at this;have hTk:T.ks.length=j:=HE6.out;rw[FO.out.1,FO.out.2.1,FO.out.2.2,hTk]at this;rw[FO.out.1,FO.out.2.1,FO.out.2.2,hTk];exact this
mutual
theorem qN.sm{d n X:Nat}(h1:d<=X)(h2:n<=X):∀(t:RP),qN d n t->yP X t
 | .mk l g ds ks,h=>by
   simp only[qN]at h;simp only[yP];exact⟨by omega,by omega,zO.sm h1 h2 ks h.2.2⟩
theorem zO.sm{d n X:Nat}(h1:d<=X)(h2:n<=X):∀(ts:List RP),zO d n ts->SmL X ts
 |[],_=>by simp[SmL]
 |t::ts,h=>by
  simp only[zO]at h;simp only[SmL];exact⟨qN.sm h1 h2 t h.1,zO.sm h1 h2 ts h.2⟩
end
theorem Qb(z:Int):qv (jy z)=true:=by
 by_cases hz:z=0
 ·subst hz;unfold jy;rw[show Int.natAbs 0=0 from rfl,qH]
  decide
 ·exact(ZF hz).1
theorem QQ(g:Bool)(A:Oa)(c B:Nat)(ds:List Nat)(w:World)(hB:B<=w.heap.size)(h:qx w B A c ds)(hm:ds.length<=1000000):
 Calls Tryz.prog 79 #[.agg #[.bool g,.slice A ds.length c]] w (qS (jy (qj g ds)) w):=by
 have HX:=Gh (qR w 25 28 #[.bool g,.slice A ds.length c] Gz);have HN:=Gh (fun(W:World)(hW:Below w.heap.size w W)=>yZ g A c B ds W (Gl hB hW.size) (h.below (hW.mono hB)) hm);unfold qX at HN;clear h hB hm;generalize qj g ds=z at*;generalize ds.length=nd at*;go_enter Tryz.func79,Tryz.ntmps79
 go_wp2_with fail
 obtain⟨Xb,k0,k1,hs⟩:=HX.out;generalize (w.alloc (.cells #[.bool g,.slice A nd c] 25)).alloc (.cells Gz 28)=W at*;have Ts:=Gh (HN W Xb);have Xd:=Gh Xb;have Xu:=Gh k1;clear HX HN Xb k0 k1 hs;refine Ts.out.mono ?_;rintro e w2 ⟨A2,c2,rfl,l2,n2,Xf⟩;have k1:=Xu.out.old Xf;have Xg:=Gh (jj (w:=w) (T:=jy z) k1 rfl (RB.const (base:=w.heap.size+1+1) n2 (qA _) l2) (Nat.lt_succ_self _) (Nat.le_succ _) (Gt Xd Xf));obtain⟨d0,d1,d2,d3⟩:=G4 k1;obtain⟨f0,f1,f2,f3,z0⟩:=G5 k1;clear k1 l2 n2 Xf Ts Xd Xu;go_wp2_with fail
 exact qo Tryz.results79 rfl rfl Xg.out.1 Tryz.underlying28 rfl Tryz.sizeRec Xg.out.2
theorem qbd(X:Nat)(hX:X<=100000)(t:RP)(hc:qv t=true)(hf:yP X t)(A:Oa)(c:Nat)(K:Oa)(kc:Nat)(g:Bool)(ds:List Nat)(D:Oa)(cd B:Nat)(w:World)(hB:B<=w.heap.size)(h:RV w (· <B) t (qe t A c K kc))(hn:qx w B D cd ds)(hm:ds.length<=X):
 Calls Tryz.prog 82 #[qm t A c K kc,.agg #[.bool g,.slice D ds.length cd]] w (qS (yN (qj g ds) t) w):=by
 have HX:=Gh (jN w 28 25 28 #[.int .i64 t.lv,.bool t.ng,.slice A t.ds.length c,.slice K t.ks.length kc] #[.bool g,.slice D ds.length cd] Gz);have Tk:=Gh (fun(W:World)(hW:Below w.heap.size w W)=>QQ g D cd B ds W (Gl hB hW.size) (hn.below (hW.mono hB)) (by omega));have Ur:(dig (qj g ds).natAbs).length<=X:=by
  rw[je];exact Gl (qw hn.dg) hm
 have UC:=Gh (fun(W:World)(hW:Below w.heap.size w W)(Aq:Oa)(cq:Nat)(Kq:Oa)(kq:Nat)(hq:RV W (· <W.heap.size) (jy (qj g ds)) (qe (jy (qj g ds)) Aq cq Kq kq))=>qfm X hX (jy (qj g ds)) (Qb _) rfl (yP.mk Ur (Nat.zero_le _) (by simp)) (qC t) t (Gr _) hc hf A c K kc Aq cq Kq kq W.heap.size W (Gr _) ((h.below (hW.mono hB)).more (Gl hB hW.size)) hq);have hiv:qj (jy (qj g ds)).ng (jy (qj g ds)).ds=qj g ds:=jM _;rw[hiv]at UC;unfold qS at Tk UC;unfold qm at Tk UC ⊢;clear h hn hm hc hf hB Ur hiv;generalize yN (qj g ds) t=T at*;generalize jy (qj g ds)=q at*;generalize t.ds.length=nd at*;generalize t.ks.length=nk at*;generalize ds.length=dl at*;generalize t.lv=lv at*;generalize t.ng=ng at*;go_enter Tryz.func82,Tryz.ntmps82
 go_wp2_with fail
 obtain⟨Xb,k0,k1,k2,hs⟩:=HX.out;generalize ((w.alloc (.cells #[.int .i64 lv,.bool ng,.slice A nd c,.slice K nk kc] 28)).alloc (.cells #[.bool g,.slice D dl cd] 25)).alloc (.cells Gz 28)=W at*;have Xd:=Gh Xb;have XA:=Gh k2;have KF:=Gh (fun(V:World)(hV:Below W.heap.size W V)=>(⟨(k0.old hV).cell 0,(k0.old hV).cell 1,(k0.old hV).cell 2,(k0.old hV).cell 3,(k1.old hV).cell 0,(k1.old hV).cell 1⟩:
  Gd V w.heap.size (.int .i64 lv) (.bool ng) (.slice A nd c) (.slice K nk kc) (V.cell? ⟨w.heap.size+1,0,none⟩=some (.bool g)/\V.cell? ⟨w.heap.size+1,1,none⟩=some (.slice D dl cd))))
 have KS:=Gh (fun(V:World)(hV:Below W.heap.size W V)(x0 x1 x2 x3:Value)=>(⟨((k0.old hV).set4_far (Nat.ne_of_lt (by omega)) 0 x0 x1 x2 x3).cell 0,((k0.old hV).set4_far (Nat.ne_of_lt (by omega)) 0 x0 x1 x2 x3).cell 1,((k0.old hV).set4_far (Nat.ne_of_lt (by omega)) 0 x0 x1 x2 x3).cell 2,((k0.old hV).set4_far (Nat.ne_of_lt (by omega)) 0 x0 x1 x2 x3).cell 3,((k1.old hV).set4_far (Nat.ne_of_lt (by omega)) 0 x0 x1 x2 x3).cell 0,((k1.old hV).set4_far (Nat.ne_of_lt (by omega)) 0 x0 x1 x2 x3).cell 1⟩:
  ((((V.setCell ⟨w.heap.size+1+1,0,none⟩ x0).setCell ⟨w.heap.size+1+1,1,none⟩ x1).setCell ⟨w.heap.size+1+1,2,none⟩ x2).setCell ⟨w.heap.size+1+1,3,none⟩ x3).cell? ⟨w.heap.size,0,none⟩=some (.int .i64 lv)/\((((V.setCell ⟨w.heap.size+1+1,0,none⟩ x0).setCell ⟨w.heap.size+1+1,1,none⟩ x1).setCell ⟨w.heap.size+1+1,2,none⟩ x2).setCell ⟨w.heap.size+1+1,3,none⟩ x3).cell? ⟨w.heap.size,1,none⟩=some (.bool ng)/\((((V.setCell ⟨w.heap.size+1+1,0,none⟩ x0).setCell ⟨w.heap.size+1+1,1,none⟩ x1).setCell ⟨w.heap.size+1+1,2,none⟩ x2).setCell ⟨w.heap.size+1+1,3,none⟩ x3).cell? ⟨w.heap.size,2,none⟩=some (.slice A nd c)/\((((V.setCell ⟨w.heap.size+1+1,0,none⟩ x0).setCell ⟨w.heap.size+1+1,1,none⟩ x1).setCell ⟨w.heap.size+1+1,2,none⟩ x2).setCell ⟨w.heap.size+1+1,3,none⟩ x3).cell? ⟨w.heap.size,3,none⟩=some (.slice K nk kc)/\((((V.setCell ⟨w.heap.size+1+1,0,none⟩ x0).setCell ⟨w.heap.size+1+1,1,none⟩ x1).setCell ⟨w.heap.size+1+1,2,none⟩ x2).setCell ⟨w.heap.size+1+1,3,none⟩ x3).cell? ⟨w.heap.size+1,0,none⟩=some (.bool g)/\((((V.setCell ⟨w.heap.size+1+1,0,none⟩ x0).setCell ⟨w.heap.size+1+1,1,none⟩ x1).setCell ⟨w.heap.size+1+1,2,none⟩ x2).setCell ⟨w.heap.size+1+1,3,none⟩ x3).cell? ⟨w.heap.size+1,1,none⟩=some (.slice D dl cd)))
 have KR:=Gh (fun(V:World)(hV:Below W.heap.size W V)=>(⟨(k2.old hV).cell 0,(k2.old hV).cell 1,(k2.old hV).cell 2,(k2.old hV).cell 3,(k2.old hV).frozen 0,(k2.old hV).frozen 1,(k2.old hV).frozen 2,(k2.old hV).frozen 3,(k2.old hV).lt⟩:
  Gd V (w.heap.size+1+1) (.int .i64 0) (.bool false) (.slice none 0 0) (.slice none 0 0) (
  V.frozen? ⟨w.heap.size+1+1,0,none⟩=false/\V.frozen? ⟨w.heap.size+1+1,1,none⟩=false/\V.frozen? ⟨w.heap.size+1+1,2,none⟩=false/\V.frozen? ⟨w.heap.size+1+1,3,none⟩=false/\w.heap.size+1+1<V.heap.size)))
 have hb:Below W.heap.size W W.drew:=(qt.drew _).below _;have Tb:Below W.heap.size W W:=Below.refl _ _;have Ob:=Gh (fun(V:World)(hV:Below W.heap.size W V)=>Tk V (Gt Xd hV));have P0:=Gh (fun(V:World)(hV:Below W.heap.size W V)=>UC V (Gt Xd hV));clear HX Tk UC Xb k0 k1 k2 hs;go_region_held3 (fun w'=>Gd w' w.heap.size (.int .i64 lv) (.bool ng) (.slice A nd c) (.slice K nk kc) (w'.cell? ⟨w.heap.size+1,0,none⟩=some (.bool g)/\w'.cell? ⟨w.heap.size+1,1,none⟩=some (.slice D dl cd)))
  (first|(with_reducible exact KF.out _ hb)|(with_reducible exact KF.out _ Tb)|(with_reducible exact KS.out _ hb _ _ _ _))
  (first
    |(go_at_call 79;(with_reducible refine(Ob.out _ hb).mono ?_);rintro e w5 ⟨A5,c5,K5,kc5,rfl,Fl,hk⟩;replace hb:=Gt hb hk;have On:=hb.size)
    |(go_at_call 83;(with_reducible refine(P0.out _ hb A5 c5 K5 kc5 Fl.rv).mono ?_);rintro e w6 ⟨A6,c6,K6,kc6,rfl,Eq,hk⟩;replace hb:=Gt hb hk;obtain⟨d0,d1,d2,d3,f0,f1,f2,f3,z0⟩:=KR.out _ hb))
 have k2:=XA.out.old hb;have EI:=XA.out.lt;have Xg:=Gh (jj (w:=w) k2 rfl Eq (by omega) (by omega) (Gt Xd hb));clear Eq Fl hb Tb KF KS KR Ob P0 k2;go_wp2_with fail
 exact qo Tryz.results82 rfl rfl Xg.out.1 Tryz.underlying28 rfl Tryz.sizeRec Xg.out.2
theorem Qt(T:RP)(hc:qv T=true)(hs:yP 100000 T)(A:Oa)(c:Nat)(K:Oa)(kc:Nat)(W:World)(h:RV W (· <W.heap.size) T (qe T A c K kc)):Calls Tryz.prog 30 #[qm T A c K kc] W (qS T W):=by
 refine(QY 100000 (by omega) (qC T) T (Gr _) hs A c K kc W.heap.size W (Gr _) h).mono ?_;rintro e w' ⟨A1,c1,K1,kc1,he,hr,hb⟩;rw[qbH T _ h hc]at he hr;exact⟨A1,c1,K1,kc1,he,hr,hb⟩
theorem QM(dg:Nat)(Xr:dg<=500)(t:RP)(hf:yz dg t)(Ul:yP 1000 (qn t))(z:Int)(hz:z≠0)(A:Oa)(c:Nat)(K:Oa)(kc:Nat)(g:Bool)(ds:List Nat)(RK:qj g ds=z)(D:Oa)(cd B:Nat)(w:World)(hB:B<=w.heap.size)(h:RV w (· <B) t (qe t A c K kc))(hn:qx w B D cd ds)(hm:ds.length<=1000):
 Calls Tryz.prog 45 #[qm t A c K kc,.agg #[.bool g,.slice D ds.length cd]] w fun e w'=>qS (yN z (qn t)) w e w'/\jb t (qn t):=by
 have HX:=Gh (jN w 28 25 28 #[.int .i64 t.lv,.bool t.ng,.slice A t.ds.length c,.slice K t.ks.length kc] #[.bool g,.slice D ds.length cd] Gz);have XQ:=Gh (fun(W:World)(hW:Below w.heap.size w W)=>jO dg Xr t hf.dep hf.few hf.cnt A c K kc B W (Gl hB hW.size) (h.below (hW.mono hB)));unfold qcS at XQ;have TH:=Gh (fun(W:World)(hW:Below w.heap.size w W)(Vz:jb t (qn t))(Aq:Oa)(cq:Nat)(Kq:Oa)(kq:Nat)(hq:RV W (· <W.heap.size) (qn t) (qe (qn t) Aq cq Kq kq))=>qbd 1000 (by omega) (qn t) Vz.can.1 Ul Aq cq Kq kq g ds D cd W.heap.size W (Gr _) hq ((hn.below (hW.mono hB)).more (Gl hB hW.size)) hm);have HMC:=Gh (fun(Vz:jb t (qn t))=>(qb0 hz (qn t) Vz.can.1).1);have Vj:=Gh (fun(T:RP)(hc:qv T=true)(A:Oa)(c:Nat)(K:Oa)(kc:Nat)(W:World)(h:RV W (· <W.heap.size) T (qe T A c K kc))(hs:yP 100000 T)=>Qt T hc hs A c K kc W h);obtain⟨E,hE⟩:∃E,E=1000:=⟨_,rfl⟩;have Ui:=Gh (show qF (qn t)->yP 100000 (yN z (qn t))from fun hd=>(qbo (d:=1000) (e:=E) (n:=1000) (by
  rw[<-RK,je];exact Gm (jr hn.dg) (Nat.pow_le_pow_right (n:=4294967296) (by decide) (by omega))) _ (qh2 1000 _ Ul) hd).sm (by omega) (by omega))
 rw[RK]at TH;unfold qS at TH Vj;unfold qm at XQ TH Vj ⊢;have S2:=Gh (fun(T:RP)(hT:jb t T)=>zi hT);clear h hn hm hf Ul hB RK;generalize qn t=U at*;generalize yN z U=T at*;generalize t.ds.length=nd at*;generalize t.ks.length=nk at*;generalize ds.length=dl at*;generalize t.lv=lv at*;generalize t.ng=ng at*;go_enter Tryz.func45,Tryz.ntmps45
 go_wp2_with fail
 obtain⟨Xb,k0,k1,k2,hs⟩:=HX.out;generalize ((w.alloc (.cells #[.int .i64 lv,.bool ng,.slice A nd c,.slice K nk kc] 28)).alloc (.cells #[.bool g,.slice D dl cd] 25)).alloc (.cells Gz 28)=W at*;have Xd:=Gh Xb;have KF:=Gh (fun(V:World)(hV:Below W.heap.size W V)=>(⟨(k0.old hV).cell 0,(k0.old hV).cell 1,(k0.old hV).cell 2,(k0.old hV).cell 3,(k1.old hV).cell 0,(k1.old hV).cell 1⟩:
  Gd V w.heap.size (.int .i64 lv) (.bool ng) (.slice A nd c) (.slice K nk kc) (V.cell? ⟨w.heap.size+1,0,none⟩=some (.bool g)/\V.cell? ⟨w.heap.size+1,1,none⟩=some (.slice D dl cd))))
 have KS:=Gh (fun(V:World)(hV:Below W.heap.size W V)(x0 x1 x2 x3:Value)=>(⟨((k0.old hV).set4_far (Nat.ne_of_lt (by omega)) 0 x0 x1 x2 x3).cell 0,((k0.old hV).set4_far (Nat.ne_of_lt (by omega)) 0 x0 x1 x2 x3).cell 1,((k0.old hV).set4_far (Nat.ne_of_lt (by omega)) 0 x0 x1 x2 x3).cell 2,((k0.old hV).set4_far (Nat.ne_of_lt (by omega)) 0 x0 x1 x2 x3).cell 3,((k1.old hV).set4_far (Nat.ne_of_lt (by omega)) 0 x0 x1 x2 x3).cell 0,((k1.old hV).set4_far (Nat.ne_of_lt (by omega)) 0 x0 x1 x2 x3).cell 1⟩:
  ((((V.setCell ⟨w.heap.size+1+1,0,none⟩ x0).setCell ⟨w.heap.size+1+1,1,none⟩ x1).setCell ⟨w.heap.size+1+1,2,none⟩ x2).setCell ⟨w.heap.size+1+1,3,none⟩ x3).cell? ⟨w.heap.size,0,none⟩=some (.int .i64 lv)/\((((V.setCell ⟨w.heap.size+1+1,0,none⟩ x0).setCell ⟨w.heap.size+1+1,1,none⟩ x1).setCell ⟨w.heap.size+1+1,2,none⟩ x2).setCell ⟨w.heap.size+1+1,3,none⟩ x3).cell? ⟨w.heap.size,1,none⟩=some (.bool ng)/\((((V.setCell ⟨w.heap.size+1+1,0,none⟩ x0).setCell ⟨w.heap.size+1+1,1,none⟩ x1).setCell ⟨w.heap.size+1+1,2,none⟩ x2).setCell ⟨w.heap.size+1+1,3,none⟩ x3).cell? ⟨w.heap.size,2,none⟩=some (.slice A nd c)/\((((V.setCell ⟨w.heap.size+1+1,0,none⟩ x0).setCell ⟨w.heap.size+1+1,1,none⟩ x1).setCell ⟨w.heap.size+1+1,2,none⟩ x2).setCell ⟨w.heap.size+1+1,3,none⟩ x3).cell? ⟨w.heap.size,3,none⟩=some (.slice K nk kc)/\((((V.setCell ⟨w.heap.size+1+1,0,none⟩ x0).setCell ⟨w.heap.size+1+1,1,none⟩ x1).setCell ⟨w.heap.size+1+1,2,none⟩ x2).setCell ⟨w.heap.size+1+1,3,none⟩ x3).cell? ⟨w.heap.size+1,0,none⟩=some (.bool g)/\((((V.setCell ⟨w.heap.size+1+1,0,none⟩ x0).setCell ⟨w.heap.size+1+1,1,none⟩ x1).setCell ⟨w.heap.size+1+1,2,none⟩ x2).setCell ⟨w.heap.size+1+1,3,none⟩ x3).cell? ⟨w.heap.size+1,1,none⟩=some (.slice D dl cd)))
 have KR:=Gh (fun(V:World)(hV:Below W.heap.size W V)=>(⟨(k2.old hV).cell 0,(k2.old hV).cell 1,(k2.old hV).cell 2,(k2.old hV).cell 3,(k2.old hV).frozen 0,(k2.old hV).frozen 1,(k2.old hV).frozen 2,(k2.old hV).frozen 3,(k2.old hV).lt⟩:
  Gd V (w.heap.size+1+1) (.int .i64 0) (.bool false) (.slice none 0 0) (.slice none 0 0) (V.frozen? ⟨w.heap.size+1+1,0,none⟩=false/\V.frozen? ⟨w.heap.size+1+1,1,none⟩=false/\V.frozen? ⟨w.heap.size+1+1,2,none⟩=false/\V.frozen? ⟨w.heap.size+1+1,3,none⟩=false/\w.heap.size+1+1<V.heap.size)))
 have RS:=Gh k2;have hb:Below W.heap.size W W.drew:=(qt.drew _).below _;have Tb:Below W.heap.size W W:=Below.refl _ _;have Tf:=Gh (fun(V:World)(hV:Below W.heap.size W V)=>XQ V (Gt Xd hV));have D6:=Gh (fun(V:World)(hV:Below W.heap.size W V)=>TH V (Gt Xd hV));clear HX XQ TH Xb k0 k1 k2 hs;go_region_held3 (fun w'=>Gd w' w.heap.size (.int .i64 lv) (.bool ng) (.slice A nd c) (.slice K nk kc) (w'.cell? ⟨w.heap.size+1,0,none⟩=some (.bool g)/\w'.cell? ⟨w.heap.size+1,1,none⟩=some (.slice D dl cd)))
  (first|(with_reducible exact KF.out _ hb)|(with_reducible exact KF.out _ Tb)|(with_reducible exact KS.out _ hb _ _ _ _))
  (first
    |(go_at_call 31;(with_reducible refine(Tf.out _ hb).mono ?_);rintro e v0 ⟨T1,A1,c1,K1,kc1,VU,rfl,U9,_,hk⟩;obtain rfl:=S2.out T1 VU;replace hb:=Gt hb hk;have Sn:=hb.size)
    |(go_at_call 82;(with_reducible refine(D6.out _ hb VU A1 c1 K1 kc1 U9).mono ?_);rintro e v1 ⟨A2,c2,K2,kc2,rfl,XK,hk⟩;replace hb:=Gt hb hk;have Rg:=hb.size)
    |(go_at_call 30;(with_reducible refine(Vj.out T (HMC.out VU) A2 c2 K2 kc2 _ XK.rv (Ui.out (RV.digT _ _ U9))).mono ?_);rintro e v2 ⟨A3,c3,K3,kc3,rfl,UL,hk⟩;replace hb:=Gt hb hk;obtain⟨d0,d1,d2,d3,f0,f1,f2,f3,z0⟩:=KR.out _ hb))
 have k2:=RS.out.old hb;have EI:=RS.out.lt;have Xg:=Gh (jj (w:=w) k2 rfl UL (by omega) (by omega) (Gt Xd hb));have Ew:=Gh VU;clear UL XK U9 hb Tb KF KS KR Tf D6 k2 VU;go_wp2_with fail
 exact qo Tryz.results45 rfl rfl Xg.out.1 Tryz.underlying28 rfl Tryz.sizeRec ⟨Xg.out.2,Ew⟩
theorem qdL(dg:Nat)(Xr:dg<=500)(t:RP)(hf:yz dg t)(Ul:yP 1000 (qn t))(A:Oa)(c:Nat)(K:Oa)(kc B:Nat)(w:World)(hB:B<=w.heap.size)(h:RV w (· <B) t (qe t A c K kc)):
 Calls Tryz.prog 40 #[qm t A c K kc] w fun e w'=>qS (yN (-1) (qn t)) w e w'/\jb t (qn t):=by
 have HX:=Gh (qR w 28 28 #[.int .i64 t.lv,.bool t.ng,.slice A t.ds.length c,.slice K t.ks.length kc] Gz);have TX:=Gh (fun(W:World)=>Jc (-1) (by omega) (by omega) W);have TH:=Gh (fun(W:World)(hW:Below w.heap.size w W)(D:Oa)(cd:Nat)(h1:(dig (Int.natAbs (-1))).length<=cd)(h2:qL W D (dig (Int.natAbs (-1))))=>QM dg Xr t hf Ul (-1) (by decide) A c K kc (decide ((-1:Int)<0)) (dig (Int.natAbs (-1))) (jM (-1)) D cd W.heap.size W (Gr _) ((h.below (hW.mono hB)).more (Gl hB hW.size)) (yf h2 h1) (by
  have:=qK (v:=Int.natAbs (-1)) (n:=1) (by decide);omega))
 unfold qX at TX;unfold qS at TH;unfold qm at TH ⊢;clear h hf Ul hB;generalize yN (-1) (qn t)=T at*;generalize (dig (Int.natAbs (-1))).length=dl at*;generalize dig (Int.natAbs (-1))=dd at*;generalize decide ((-1:Int)<0)=g at*;generalize t.ds.length=nd at*;generalize t.ks.length=nk at*;generalize SM:t.lv=lv at*;generalize Dw:t.ng=ng at*;clear SM Dw;go_enter Tryz.func40,Tryz.ntmps40
 go_wp2_with fail
 obtain⟨Xb,k0,k1,hs⟩:=HX.out;generalize (w.alloc (.cells #[.int .i64 lv,.bool ng,.slice A nd c,.slice K nk kc] 28)).alloc (.cells Gz 28)=W at*;have Xd:=Gh Xb;have KF:=Gh (fun(V:World)(hV:Below W.heap.size W V)=>(⟨(k0.old hV).cell 0,(k0.old hV).cell 1,(k0.old hV).cell 2,(k0.old hV).cell 3⟩:
  Gc V w.heap.size (.int .i64 lv) (.bool ng) (.slice A nd c) (.slice K nk kc)))
 have KS:=Gh (fun(V:World)(hV:Below W.heap.size W V)(x0 x1 x2 x3:Value)=>(⟨((k0.old hV).set4_far (Nat.ne_of_lt (by omega)) 0 x0 x1 x2 x3).cell 0,((k0.old hV).set4_far (Nat.ne_of_lt (by omega)) 0 x0 x1 x2 x3).cell 1,((k0.old hV).set4_far (Nat.ne_of_lt (by omega)) 0 x0 x1 x2 x3).cell 2,((k0.old hV).set4_far (Nat.ne_of_lt (by omega)) 0 x0 x1 x2 x3).cell 3⟩:
  ((((V.setCell ⟨w.heap.size+1,0,none⟩ x0).setCell ⟨w.heap.size+1,1,none⟩ x1).setCell ⟨w.heap.size+1,2,none⟩ x2).setCell ⟨w.heap.size+1,3,none⟩ x3).cell? ⟨w.heap.size,0,none⟩=some (.int .i64 lv)/\((((V.setCell ⟨w.heap.size+1,0,none⟩ x0).setCell ⟨w.heap.size+1,1,none⟩ x1).setCell ⟨w.heap.size+1,2,none⟩ x2).setCell ⟨w.heap.size+1,3,none⟩ x3).cell? ⟨w.heap.size,1,none⟩=some (.bool ng)/\((((V.setCell ⟨w.heap.size+1,0,none⟩ x0).setCell ⟨w.heap.size+1,1,none⟩ x1).setCell ⟨w.heap.size+1,2,none⟩ x2).setCell ⟨w.heap.size+1,3,none⟩ x3).cell? ⟨w.heap.size,2,none⟩=some (.slice A nd c)/\((((V.setCell ⟨w.heap.size+1,0,none⟩ x0).setCell ⟨w.heap.size+1,1,none⟩ x1).setCell ⟨w.heap.size+1,2,none⟩ x2).setCell ⟨w.heap.size+1,3,none⟩ x3).cell? ⟨w.heap.size,3,none⟩=some (.slice K nk kc)))
 have KR:=Gh (fun(V:World)(hV:Below W.heap.size W V)=>(⟨(k1.old hV).cell 0,(k1.old hV).cell 1,(k1.old hV).cell 2,(k1.old hV).cell 3,(k1.old hV).frozen 0,(k1.old hV).frozen 1,(k1.old hV).frozen 2,(k1.old hV).frozen 3,(k1.old hV).lt⟩:
  Gd V (w.heap.size+1) (.int .i64 0) (.bool false) (.slice none 0 0) (.slice none 0 0) (V.frozen? ⟨w.heap.size+1,0,none⟩=false/\V.frozen? ⟨w.heap.size+1,1,none⟩=false/\V.frozen? ⟨w.heap.size+1,2,none⟩=false/\V.frozen? ⟨w.heap.size+1,3,none⟩=false/\w.heap.size+1<V.heap.size)))
 have RS:=Gh k1;have hb:Below W.heap.size W W.drew:=(qt.drew _).below _;have Tb:Below W.heap.size W W:=Below.refl _ _;have D6:=Gh (fun(V:World)(hV:Below W.heap.size W V)=>TH V (Gt Xd hV));clear HX TH Xb k0 k1 hs;go_region_held3 (fun w'=>Gc w' w.heap.size (.int .i64 lv) (.bool ng) (.slice A nd c) (.slice K nk kc))
  (first|(with_reducible exact KF.out _ hb)|(with_reducible exact KF.out _ Tb)|(with_reducible exact KS.out _ hb _ _ _ _))
  (first
    |(go_at_call 35;(with_reducible refine(TX.out _).mono ?_);rintro e v0 ⟨A1,c1,rfl,l1,n1,hk⟩;replace hb:=Gt hb hk;have Sn:=hb.size)
    |(go_at_call 45;(with_reducible refine(D6.out _ hb A1 c1 l1 n1).mono ?_);rintro e v1 ⟨⟨A2,c2,K2,kc2,rfl,XK,hk⟩,Vz⟩;replace hb:=Gt hb hk;obtain⟨d0,d1,d2,d3,f0,f1,f2,f3,z0⟩:=KR.out _ hb))
 have k2:=RS.out.old hb;have EI:=RS.out.lt;have Xg:=Gh (jj (w:=w) k2 rfl XK (by omega) (by omega) (Gt Xd hb));have Ew:=Gh Vz;clear XK l1 n1 hb Tb KF KS KR D6 k2 Vz;go_wp2_with fail
 exact qo Tryz.results40 rfl rfl Xg.out.1 Tryz.underlying28 rfl Tryz.sizeRec ⟨Xg.out.2,Ew⟩
def jp(ts:List RP):Nat->Nat
 |0=>0
 |n+1=>if qI (ts.getD n qh)=true then jp ts n else n+1
def jI(l:Int)(ts:List RP):RP:=
 if jp ts ts.length=0 then qh else if jp ts ts.length=1 then ts.getD 0 qh else .mk l false [] (ts.take (jp ts ts.length))
theorem Jo(ts:List RP):∀n,jp ts n<=n
 |0=>Gr _
 |n+1=>by
  rw[jp]
  split
  ·have:=Jo ts n;omega
  ·exact Gr _
theorem qam(ts:List RP):∀n j,jp ts n<=j->j<n->qI (ts.getD j qh)=true
 |0,j,_,h=>by omega
 |n+1,j,h,hj=>by
  rw[jp]at h
  split at h
  ·rename_i hz;by_cases e:j=n
   ·rw[e];exact hz
   ·exact qam ts n j h (by omega)
  ·omega
theorem ZX(ts:List RP):∀n,0<jp ts n->qI (ts.getD (jp ts n-1) qh)=false
 |0,h=>by simp[jp]at h
 |n+1,h=>by
  rw[jp]at h ⊢
  split
  ·rename_i hz;rw[if_pos hz]at h;exact ZX ts n h
  ·rename_i hz;simpa using hz
theorem zE{α:Type}{l:List α}{i:Nat}{d:α}(h:i<l.length):l.getD i d∈l:=by
 rw[List.getD_eq_getElem?_getD,Gn h];exact List.getElem_mem h
theorem qbC{l:Int}(h1:1<=l)(h4:l<=4){ts:List RP}(h:∀u∈ts,u.lv<l/\qv u=true):qv (jI l ts)=true/\(jI l ts).lv<=l:=by
 unfold jI;have Vo:=Jo ts ts.length
 split
 ·exact⟨by decide,by show(0:Int)<=l;omega⟩
 ·split
  ·have hm:=zE (d:=qh) (show 0<ts.length by omega);exact⟨(h _ hm).2,by have:=(h _ hm).1;omega⟩
  ·rename_i n0 n1;have XC:(ts.take (jp ts ts.length)).length=jp ts ts.length:=by rw[List.length_take];omega
   have hl:=ZX ts ts.length (by omega);refine⟨YL h1 h4 (by omega) (fun u hu=>h u (List.mem_of_mem_take hu)) (u:=ts.getD (jp ts ts.length-1) qh) ?_ hl,Int.le_refl _⟩;rw[XC,List.getElem?_take,if_pos (by omega),List.getD_eq_getElem?_getD,Gn (by omega)];rfl
theorem qcW{d n:Nat}{l:Int}{ts:List RP}(hn:ts.length<=n)(h:∀u∈ts,qN d n u):qN d n (jI l ts):=by
 unfold jI;have Vo:=Jo ts ts.length
 split
 ·exact qN.zero _ _
 ·split
  ·exact h _ (zE (by omega))
  ·exact qN.mk (Nat.zero_le _) (by rw[List.length_take];omega) fun u hu=>h u (List.mem_of_mem_take hu)
theorem qcv{k:Int}(hk:0<k){l:Int}(hl:l≠k){ts:List RP}(h:∀u∈ts,zo k u=false):zo k (jI l ts)=false:=by
 unfold jI;have Vo:=Jo ts ts.length
 split
 ·exact zy hk
 ·split
  ·exact h _ (zE (by omega))
  ·rw[jc];exact⟨hl,fun u hu=>h u (List.mem_of_mem_take hu)⟩
theorem qF.mk{l:Int}{g:Bool}{ds:List Nat}{ks:List RP}(h1:jg ds)(h2:∀u∈ks,qF u):qF (.mk l g ds ks):=by
 simp only[qF];exact⟨h1,zd.mem.2 h2⟩
theorem qF.zero:qF qh:=qF.mk (by simp[jg]) (by simp)
theorem qbE{l:Int}{ts:List RP}(h:∀u∈ts,qF u):qF (jI l ts):=by
 unfold jI;have Vo:=Jo ts ts.length
 split
 ·exact qF.zero
 ·split
  ·exact h _ (zE (by omega))
  ·exact qF.mk (by simp[jg]) fun u hu=>h u (List.mem_of_mem_take hu)
theorem qbY(pt:Nat->Rat)(x:Rat):∀(ts:List RP)(n:Nat),(∀j,n<=j->j<ts.length->vT pt (ts.getD j qh)=0)->vL pt x (ts.take n)=vL pt x ts
 |[],n,_=>by simp
 |t::ts,0,h=>by
  have h0:=h 0 (Gr _) (by simp);have ih:=qbY pt x ts 0 fun j _ hj=>h (j+1) (Nat.zero_le _) (by simpa using hj);rw[List.take_zero]at ih ⊢;simp only[vL]at ih ⊢;rw[<-ih,show vT pt t=0 from h0]
  grind
 |t::ts,n+1,h=>by
  rw[List.take_succ_cons];simp only[vL];rw[qbY pt x ts n fun j hn hj=>h (j+1) (by omega) (by simpa using hj)]
theorem qbe{l:Int}(h1:1<=l)(h4:l<=4){ts:List RP}(h:∀u∈ts,qv u=true)(pt:Nat->Rat):vT pt (jI l ts)=vL pt (pt (l.toNat-1)) ts:=by
 have Vo:=Jo ts ts.length;have hz:∀j,jp ts ts.length<=j->j<ts.length->vT pt (ts.getD j qh)=0:=fun j hj hl=>by
  have h2:=qam ts ts.length j hj hl;rw[Qv (h _ (zE hl)) h2,JE]
 have ht:=qbY pt (pt (l.toNat-1)) ts (jp ts ts.length) hz;rw[<-ht];unfold jI
 split
 ·rename_i h0;rw[h0,List.take_zero,JE,vL]
 ·split
  ·rename_i n0 n1;rw[n1]
   cases ts with
   |nil=>simp[jp]at n1
   |cons t ts=>
    simp only[List.take_succ_cons,List.take_zero,vL];show vT pt t=_
    grind
  ·rw[vT,if_neg (by omega),if_neg (by omega)]
def yu(s:Int×Nat)(p:RP):Int×Nat:=
 if s.1<p.lv then(p.lv,max 0 p.ks.length)else if p.lv=s.1 then(s.1,max s.2 p.ks.length)else s
def jR(ts:List RP):Int×Nat:=ts.foldl yu (0,0)
theorem Jq:∀(ts:List RP)(s:Int×Nat),(ts.foldl yu s).1≥s.1/\(∀p∈ts,p.lv<=(ts.foldl yu s).1)/\(∀p∈ts,p.lv=(ts.foldl yu s).1->p.ks.length<=(ts.foldl yu s).2)/\((ts.foldl yu s).1=s.1->s.2<=(ts.foldl yu s).2)/\
 ((ts.foldl yu s).1=s.1∨∃p∈ts,p.lv=(ts.foldl yu s).1)/\(∀n,s.2<=n->(∀p∈ts,p.ks.length<=n)->(ts.foldl yu s).2<=n)
 |[],s=>by simp
 |p::ts,s=>by
  obtain⟨a,b,c,d,e,f⟩:=Jq ts (yu s p);simp only[List.foldl_cons];generalize List.foldl yu (yu s p) ts=r at*;have h1:s.1<=(yu s p).1/\p.lv<=(yu s p).1/\((yu s p).1=s.1->s.2<=(yu s p).2)/\(p.lv=(yu s p).1->p.ks.length<=(yu s p).2)/\((yu s p).1=s.1∨(yu s p).1=p.lv)/\(yu s p).2<=max s.2 p.ks.length:=by
   unfold yu
   split
   ·refine⟨by simp only;omega,Int.le_refl _,fun h=>by simp only at h;omega,fun _=>Nat.le_max_right _ _,.inr rfl,by simp only;omega⟩
   ·split
    ·refine⟨Int.le_refl _,by simp only;omega,fun _=>Nat.le_max_left _ _,fun _=>Nat.le_max_right _ _,.inl rfl,Gr _⟩
    ·refine⟨Int.le_refl _,by omega,fun _=>Gr _,fun h=>by omega,.inl rfl,Nat.le_max_left _ _⟩
  obtain⟨a1,b1,c1,d1,e1,f1⟩:=h1;refine⟨by omega,fun q hq=>?_,fun q hq hl=>?_,fun h=>?_,?_,fun n hn hp=>?_⟩
  ·rcases List.mem_cons.1 hq with rfl|hq
   ·omega
   ·exact b q hq
  ·rcases List.mem_cons.1 hq with rfl|hq
   ·have:r.1=(yu s q).1:=by omega
    have h2:=d this;have h3:=d1 (by omega);omega
   ·exact c q hq hl
  ·have:r.1=(yu s p).1:=by omega
   have h2:=d this;have h3:=c1 (by omega);omega
  ·rcases e with e|⟨q,hq,e⟩
   ·rcases e1 with e1|e1
    ·exact .inl (by omega)
    ·exact .inr ⟨p,List.mem_cons_self,by omega⟩
   ·exact .inr ⟨q,List.mem_cons_of_mem _ hq,e⟩
  ·have h2:=hp p List.mem_cons_self;exact f n (by omega) fun q hq=>hp q (List.mem_cons_of_mem _ hq)
theorem qkt(ts:List RP):0<=(jR ts).1:=(Jq ts (0,0)).1
theorem qd4{ts:List RP}{p:RP}(h:p∈ts):p.lv<=(jR ts).1:=(Jq ts (0,0)).2.1 p h
theorem qhD{ts:List RP}{p:RP}(h:p∈ts)(hl:p.lv=(jR ts).1):p.ks.length<=(jR ts).2:=(Jq ts (0,0)).2.2.1 p h hl
theorem QS(ts:List RP):(jR ts).1=0∨∃p∈ts,p.lv=(jR ts).1:=(Jq ts (0,0)).2.2.2.2.1
theorem qh1{ts:List RP}{n:Nat}(h:∀p∈ts,p.ks.length<=n):(jR ts).2<=n:=(Jq ts (0,0)).2.2.2.2.2 n (Nat.zero_le _) h
theorem qdb{ts:List RP}{j:Nat}{u:RP}(h:ts[j]? =some u):jR (ts.take (j+1))=yu (jR (ts.take j)) u:=by
 obtain⟨hj,rfl⟩:=Gi.1 h;unfold jR;rw[List.take_succ_eq_append_getElem hj,List.foldl_append];rfl
def yH(l:Int)(i:Nat)(p:RP):Option RP:=if p.lv=l/\i<p.ks.length then p.ks[i]? else if p.lv<l/\i=0 then some p else none
def jq(l:Int)(i:Nat)(ts:List RP):List RP:=ts.filterMap (yH l i)
def QD(ts:List RP):Int:=match ts with|[]=>0|t::ts=>qj t.ng t.ds+QD ts
def jl:Nat->List RP->RP
 |0,_=>qh
 |D+1,ts=>if(jR ts).1=0 then jy (QD ts)else jI (jR ts).1 ((List.range (jR ts).2).map fun i=>jl D (jq (jR ts).1 i ts))
def QU(pt:Nat->Rat)(ts:List RP):Rat:=match ts with|[]=>0|t::ts=>vT pt t+QU pt ts
theorem Jr{l:Int}{i:Nat}{ts:List RP}{u:RP}(h:u∈jq l i ts):∃p∈ts,(p.lv=l/\u∈p.ks)∨(p.lv<l/\u=p):=by
 obtain⟨p,hp,he⟩:=List.mem_filterMap.1 h;refine⟨p,hp,?_⟩;unfold yH at he
 split at he
 ·rename_i hc;exact .inl ⟨hc.1,Gk he⟩
 ·split at he
  ·rename_i hc
   injection he with he
   exact .inr ⟨hc.1,he.symm⟩
  ·cases he
theorem YE(l:Int)(i:Nat)(ts:List RP):(jq l i ts).length<=ts.length:=List.length_filterMap_le _ _
def yX(D:Nat)(ts:List RP):Prop:=∀t∈ts,qv t=true/\t.lv<(D:Int)
theorem yX.part{D:Nat}{ts:List RP}(h:yX (D+1) ts)(i:Nat):yX D (jq (jR ts).1 i ts):=fun u hu=>by
 obtain⟨p,hp,hq⟩:=Jr hu;have h1:=h p hp;rcases hq with⟨a,b⟩|⟨a,rfl⟩
 ·rcases qz h1.1 with⟨_,k,_⟩|⟨_,_,_,_,_,c,_⟩
  ·rw[k]at b;cases b
  ·exact⟨(c u b).2,by have:=(c u b).1;omega⟩
 ·refine⟨h1.1,?_⟩;rcases QS ts with e|⟨q,hq,e⟩
  ·have:=(qJ h1.1).1;omega
  ·have:=(h q hq).2;omega
theorem yX.partlv{D:Nat}{ts:List RP}(h:yX (D+1) ts){i:Nat}{u:RP}(hu:u∈jq (jR ts).1 i ts):u.lv<(jR ts).1:=by
 obtain⟨p,hp,hq⟩:=Jr hu;rcases hq with⟨a,b⟩|⟨a,rfl⟩
 ·rcases qz (h p hp).1 with⟨_,k,_⟩|⟨_,_,_,_,_,c,_⟩
  ·rw[k]at b;cases b
  ·have:=(c u b).1;omega
 ·exact a
theorem Jn:∀(D:Nat)(ts:List RP),yX D ts->qv (jl D ts)=true/\∀L:Int,0<=L->(∀t∈ts,t.lv<=L)->(jl D ts).lv<=L
 |0,ts,_=>⟨show qv qh=true by decide,fun L hL _=>hL⟩
 |D+1,ts,h=>by
  rw[jl]
  split
  ·exact⟨Qb _,fun L hL _=>hL⟩
  ·rename_i h0;have Fo:=qkt ts;have OA:(jR ts).1<=4:=by
    rcases QS ts with e|⟨q,hq,e⟩
    ·omega
    ·have:=(qJ (h q hq).1).2;omega
   have hk:∀u∈(List.range (jR ts).2).map fun i=>jl D (jq (jR ts).1 i ts),u.lv<(jR ts).1/\qv u=true:=fun u hu=>by
    obtain⟨i,_,rfl⟩:=List.mem_map.1 hu;obtain⟨k1,k2⟩:=Jn D _ (h.part i);refine⟨?_,k1⟩;have:=k2 ((jR ts).1-1) (by omega) fun t ht=>by have:=h.partlv ht;omega
    omega
   obtain⟨k1,k2⟩:=qbC (by omega) OA hk;refine⟨k1,fun L hL Vq=>Int.le_trans k2 ?_⟩;rcases QS ts with e|⟨q,hq,e⟩
   ·omega
   ·have:=Vq q hq;omega
theorem qdj(pt:Nat->Rat):∀(ts:List RP),(∀t∈ts,t.lv<=0)->QU pt ts=((QD ts:Int):Rat)
 |[],_=>rfl
 |t::ts,h=>by
  rw[QU,QD,qdj pt ts fun u hu=>h u (List.mem_cons_of_mem _ hu),qas,if_pos (h t List.mem_cons_self),Rat.intCast_add]
theorem qbn{l:Int}(h1:1<=l)(h4:l<=4){s:Nat}(hs:0<s)(pt:Nat->Rat):∀(ts:List RP),(∀p∈ts,qv p=true/\p.lv<=l/\(p.lv=l->p.ks.length<=s))->
 QU pt ts=sY (pt (l.toNat-1)) (fun i=>QU pt (jq l i ts)) s
 |[],_=>by
  exact((zR (g:=fun _=>0) (pt (l.toNat-1)) s (fun i _=>rfl)).trans (Zv _ s)).symm
 |p::ts,h=>by
  obtain⟨hc,hl,hk⟩:=h p List.mem_cons_self;have ih:=qbn h1 h4 hs pt ts fun q hq=>h q (List.mem_cons_of_mem _ hq);rw[QU,ih];have hp:vT pt p=sY (pt (l.toNat-1)) (fun i=>match yH l i p with|some u=>vT pt u|none=>0) s:=by
   by_cases e:p.lv=l
   ·rw[qas,if_neg (by omega),if_neg (by omega),e,qc2 pt _ p.ks s (hk e)];refine zR _ _ fun i _=>?_;unfold yH;by_cases hi:i<p.ks.length
    ·rw[if_pos ⟨e,hi⟩,Gn hi,List.getD_eq_getElem?_getD,Gn hi];rfl
    ·rw[if_neg (by omega),if_neg (by omega),List.getD_eq_getElem?_getD,List.getElem?_eq_none (by omega)];exact JE pt
   ·obtain⟨m,rfl⟩:∃m,s=m+1:=⟨s-1,by omega⟩;rw[qao,zR (g:=fun _=>0) _ m (fun i _=>?_),Zv]
    ·unfold yH;rw[if_neg (by omega),if_pos ⟨by omega,rfl⟩]
     grind
    ·unfold yH;rw[if_neg (by omega),if_neg (by omega)]
  rw[hp];have ha:=qh8 (pt (l.toNat-1)) 1 (fun i=>match yH l i p with|some u=>vT pt u|none=>0) (fun i=>QU pt (jq l i ts)) s;rw[Rat.one_mul]at ha;rw[<-ha];refine zR _ _ fun i _=>?_;unfold jq;rw[List.filterMap_cons]
  cases yH l i p with
  |none=>grind
  |some u=>
   simp only[QU]
   grind
theorem qdq(pt:Nat->Rat):∀(D:Nat)(ts:List RP),yX D ts->vT pt (jl D ts)=QU pt ts
 |0,ts,h=>by
  have:ts=[]:=by
   cases ts with
   |nil=>rfl
   |cons t ts=>have:=h t List.mem_cons_self;have:=(qJ this.1).1;omega
  subst this;rw[jl,JE];rfl
 |D+1,ts,h=>by
  rw[jl];have Fo:=qkt ts
  split
  ·rename_i h0;rw[qhe,qdj pt ts fun t ht=>by have:=qd4 ht;omega]
  ·rename_i h0;have OA:(jR ts).1<=4:=by
    rcases QS ts with e|⟨q,hq,e⟩
    ·omega
    ·have:=(qJ (h q hq).1).2;omega
   have hs:0<(jR ts).2:=by
    rcases QS ts with e|⟨q,hq,e⟩
    ·omega
    ·have h2:=qhD hq e;rcases qz (h q hq).1 with⟨a,_⟩|⟨_,_,_,_,c,_⟩<;>omega
   rw[qbe (by omega) OA (fun u hu=>by
    obtain⟨i,_,rfl⟩:=List.mem_map.1 hu;exact(Jn D _ (h.part i)).1) pt,qbn (by omega) OA hs pt ts (fun p hp=>⟨(h p hp).1,qd4 hp,qhD hp⟩),qc2 pt _ _ (jR ts).2 (by simp)]
   refine zR _ _ fun i hi=>?_;rw[List.getD_eq_getElem?_getD,List.getElem?_map,List.getElem?_range hi];exact qdq pt D _ (h.part i)
theorem qft{d n:Nat}:∀(ts:List RP),(∀t∈ts,qN d n t/\qF t)->(QD ts).natAbs<=ts.length*4294967296^d
 |[],_=>by simp[QD]
 |t::ts,h=>by
  have h1:=h t List.mem_cons_self;have h2:=qft (d:=d) (n:=n) ts fun u hu=>h u (List.mem_cons_of_mem _ hu);have h3:=Gm (jr h1.2.at_.1) (Nat.pow_le_pow_right (n:=4294967296) (by decide) h1.1.at_.1);have h4:=Int.natAbs_add_le (qj t.ng t.ds) (QD ts);rw[je]at h4;rw[QD,List.length_cons,Nat.succ_mul];generalize 4294967296^d=B at*;generalize ts.length*B=C at*;omega
theorem Ya{d n:Nat}:∀(D:Nat)(ts:List RP),ts.length<4294967296->(∀t∈ts,qN d n t/\qF t)->qN (d+1) n (jl D ts)
 |0,_,_,_=>qN.zero _ _
 |D+1,ts,hl,h=>by
  rw[jl]
  split
  ·refine qN.mk ?_ (Nat.zero_le _) (by simp);refine qK ?_;refine Nat.lt_of_le_of_lt (qft (n:=n) ts h) ?_;rw[Nat.pow_succ,Nat.mul_comm];exact Nat.mul_lt_mul_of_pos_left hl (Nat.pow_pos (by decide))
  ·refine qcW (by rw[List.length_map,List.length_range];exact qh1 fun p hp=>(h p hp).1.at_.2.1) fun u hu=>?_;obtain⟨i,_,rfl⟩:=List.mem_map.1 hu;refine Ya D _ (Nat.lt_of_le_of_lt (YE _ _ _) hl) fun t ht=>?_;obtain⟨p,hp,hq⟩:=Jr ht;rcases hq with⟨_,b⟩|⟨_,rfl⟩
   ·exact⟨(h p hp).1.at_.2.2 t b,(h p hp).2.at_.2 t b⟩
   ·exact h _ hp
theorem qF.cst(z:Int):qF (jy z):=qF.mk (qA _) (by simp)
theorem ZK:∀(D:Nat)(ts:List RP),qF (jl D ts)
 |0,_=>qF.zero
 |D+1,ts=>by
  rw[jl]
  split
  ·exact qF.cst _
  ·refine qbE fun u hu=>?_;obtain⟨i,_,rfl⟩:=List.mem_map.1 hu;exact ZK D _
theorem qbL{k:Int}(hk:0<k):∀(D:Nat)(ts:List RP),(∀t∈ts,zo k t=false)->zo k (jl D ts)=false
 |0,_,_=>zy hk
 |D+1,ts,h=>by
  rw[jl]
  split
  ·rw[jc];exact⟨by show(0:Int)≠k;omega,by simp[jy,RP.ks]⟩
  ·rename_i h0;refine qcv hk ?_ fun u hu=>?_
   ·rcases QS ts with e|⟨q,hq,e⟩
    ·omega
    ·rw[<-e];exact(jc.1 (h q hq)).1
   ·obtain⟨i,_,rfl⟩:=List.mem_map.1 hu;refine qbL hk D _ fun t ht=>?_;obtain⟨p,hp,hq⟩:=Jr ht;rcases hq with⟨_,b⟩|⟨_,rfl⟩
    ·exact(jc.1 (h p hp)).2 t b
    ·exact h _ hp
theorem ZO(z:Int):∀(t:RP),qF (yN z t)
 |t=>by
  rw[YW]
  split
  ·exact qF.zero
  ·split
   ·exact qF.cst _
   ·refine qF.mk (by simp[jg]) fun u hu=>?_;obtain⟨x,hx,rfl⟩:=List.mem_map.1 hu;exact ZO z x
termination_by t=>qC t
decreasing_by exact qY hx
theorem ZH(z:Int)(t:RP)(hc:qv t=true):qv (yN z t)=true/\(yN z t).lv<=t.lv:=by
 by_cases hz:z=0
 ·subst hz;rw[qjb];exact⟨by decide,(qJ hc).1⟩
 ·obtain⟨a,b,_⟩:=qb0 hz t hc;exact⟨a,by omega⟩
