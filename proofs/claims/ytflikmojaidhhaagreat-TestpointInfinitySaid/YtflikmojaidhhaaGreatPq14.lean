import Derived.Test.YtflikmojaidhhaaGreatPq13
namespace Go.Proofs.YtflikmojaidhhaaGreat
open Go.RowKit
mutual
def yc(z:Int):RP→RP
 | .mk l g ds ks=>if(qW (.mk l g ds ks)||decide (z=0))=true then qa else if l=0 then ju (qb g ds*z)else .mk l false [] (mcL z ks)
def mcL(z:Int):List RP→List RP
 |[]=>[]
 |t::ts=>yc z t::mcL z ts
end
theorem qkH(z:Int)(ts:List RP):mcL z ts=ts.map (yc z):=by
 induction ts with
 |nil=>simp[mcL]
 |cons t ts ih=>simp[mcL,ih]
theorem QL(z:Int)(t:RP):yc z t=if(qW t||decide (z=0))=true then qa else if t.lv=0 then ju (qb t.ng t.ds*z)else .mk t.lv false [] (t.ks.map (yc z)):=by
 cases t
 rw[yc,qkH];rfl
theorem JO{t:RP}(h:qj t=true)(hz:qW t=true):t=qa:=by
 cases t with
 |mk l g ds ks=>
  have hz:(decide (l=0)&&decide (ds.length=0))=true:=hz;rw[Bool.and_eq_true,decide_eq_true_eq,decide_eq_true_eq]at hz;obtain⟨rfl,hd⟩:=hz;obtain rfl:ds=[]:=List.eq_nil_of_length_eq_zero hd;rw[qj,if_pos rfl]at h;by_cases hk:0<ks.length
  ·rw[if_pos hk]at h;cases h
  ·rw[if_neg hk]at h;obtain rfl:ks=[]:=List.eq_nil_of_length_eq_zero (by omega);unfold YB at h;simp at h;subst h;rfl
theorem qfR{z:Int}(hz:z≠0):qj (ju z)=true∧qW (ju z)=false:=by
 refine⟨?_,?_⟩
 ·unfold ju;rw[qj,if_pos rfl,if_neg (by simp)];exact qcS hz
 ·unfold ju qW;have h:(dig z.natAbs).length≠0:=fun e=>by rw[Js]at e;omega
  simp only[RP.lv,RP.ds,h,decide_false,Bool.and_false]
theorem qfz{l:Int}:∀{ks:List RP},(∀u∈ks,u.lv<l∧qj u=true)→zV l ks=true
 |[],_=>by rw[zV]
 |k::ks,h=>by
  have h1:=h k List.mem_cons_self;rw[zV,qfz fun u hu=>h u (List.mem_cons_of_mem _ hu),h1.2,decide_eq_true h1.1];rfl
theorem qbr{l:Int}{ks:List RP}(h1:1≤l)(h4:l≤4)(h2:2≤ks.length)(hk:∀u∈ks,u.lv<l∧qj u=true){u:RP}(hu:ks[ks.length-1]? =some u)(hz:qW u=false):qj (.mk l false [] ks)=true:=by
 rw[qj,if_neg (by omega),qfz hk,decide_eq_true h1,decide_eq_true h4,decide_eq_true h2];simp only[List.length_nil,decide_true,Bool.not_false,Bool.and_true,Bool.true_eq_false,if_false];unfold Zs;rw[hu];simp[hz]
theorem qhG{l:Int}{ks:List RP}(h:l≠0):qW (.mk l false [] ks)=false:=by
 unfold qW;rw[decide_eq_false (by exact h)];rfl
theorem qaI{z:Int}(hz:z≠0):∀(t:RP),qj t=true→qj (yc z t)=true∧(yc z t).lv=t.lv∧qW (yc z t)=qW t
 |t,hc=>by
  rw[QL]
  cases h0:qW t with
  |true=>
   obtain rfl:=JO hc h0;simp only[Bool.true_or,if_true];exact⟨by decide,trivial,by decide⟩
  |false=>
   simp only[Bool.false_or,decide_eq_true_eq,if_neg hz];rcases qr hc with⟨a,b,c⟩|⟨a,a4,b,b',c2,c,u,hu,huz⟩
   ·rw[if_pos a];have hd:t.ds.length≠0:=fun e=>by
     unfold qW at h0;rw[a,e]at h0
     cases h0
    have hne:=Int.mul_ne_zero (ZI c hd) hz;obtain⟨k1,k2⟩:=qfR hne;exact⟨k1,a.symm,k2⟩
   ·rw[if_neg (by omega)];have hk:∀u∈t.ks.map (yc z),u.lv<t.lv∧qj u=true:=fun u hu=>by
     obtain⟨x,hx,rfl⟩:=List.mem_map.1 hu;obtain⟨k1,k2,_⟩:=qaI hz x (c x hx).2;exact⟨by rw[k2];exact(c x hx).1,k1⟩
    refine⟨qbr a a4 (by rw[List.length_map];exact c2) hk (u:=yc z u) (by rw[List.length_map,List.getElem?_map,hu];rfl) ?_,rfl,qhG (by omega)⟩;rw[(qaI hz u (c u (List.mem_of_getElem? hu)).2).2.2];exact huz
termination_by t=>qv t
decreasing_by all_goals first|exact qD hx|exact qD (List.mem_of_getElem? hu)
theorem qj0(t:RP):yc 0 t=qa:=by
 rw[QL];simp
theorem qha(pt:Nat→Rat)(z:Int):vT pt (ju z)=(z:Rat):=by
 unfold ju;rw[vT,if_pos (by omega),q7]
theorem YZ(pt:Nat→Rat)(z:Int):∀(t:RP),qj t=true→vT pt (yc z t)=(z:Rat)*vT pt t
 |t,hc=>by
  rw[QL];by_cases hz:z=0
  ·subst hz;simp only[decide_true,Bool.or_true,if_true];rw[yn];show(0:Rat)=0*_;rw[Rat.zero_mul]
  ·cases h0:qW t with
   |true=>
    obtain rfl:=JO hc h0;simp only[Bool.true_or,if_true];rw[yn,Rat.mul_zero]
   |false=>
    simp only[Bool.false_or,decide_eq_true_eq,if_neg hz];rcases qr hc with⟨a,b,c⟩|⟨a,a4,b,b',c2,c,_⟩
    ·rw[if_pos a,qha,zI,if_pos (by omega),Rat.intCast_mul,Rat.mul_comm]
    ·rw[if_neg (by omega),vT,if_neg (by omega),if_neg (by omega),zI,if_neg (by omega),if_neg (by omega)];have hl:∀ks:List RP,(∀u∈ks,u∈t.ks)→∀x,vL pt x (ks.map (yc z))=(z:Rat)*vL pt x ks:=by
      intro ks
      induction ks with
      |nil=>intro _ x;simp only[List.map_nil,vL];rw[Rat.mul_zero]
      |cons u ks ih=>
       intro hm x;have hu:=hm u List.mem_cons_self;simp only[List.map_cons,vL];rw[ih (fun y hy=>hm y (List.mem_cons_of_mem _ hy)) x,YZ pt z u (c u hu).2]
       grind
     exact hl t.ks (fun _ h=>h) _
termination_by t=>qv t
decreasing_by exact qD hu
theorem qbe{k:Int}(hk:0<k)(z:Int):∀(t:RP),yI k t=false→yI k (yc z t)=false
 |t,h=>by
  rw[QL]
  split
  ·exact yW hk
  ·split
   ·rw[qS];exact⟨by show(0:Int)≠k;omega,by simp[ju,RP.ks]⟩
   ·rw[qS]at h ⊢;refine⟨h.1,fun u hu=>?_⟩;obtain⟨x,hx,rfl⟩:=List.mem_map.1 hu;exact qbe hk z x (h.2 x hx)
termination_by t=>qv t
decreasing_by exact qD hx
mutual
def qG:RP→Prop
 | .mk _ _ ds ks=>qP ds∧yX ks
def yX:List RP→Prop
 |[]=>True
 |t::ts=>qG t∧yX ts
end
theorem yX.mem{ts:List RP}:yX ts↔∀u∈ts,qG u:=by
 induction ts with
 |nil=>simp[yX]
 |cons t ts ih=>simp[yX,ih]
theorem qG.at_{t:RP}(h:qG t):qP t.ds∧∀u∈t.ks,qG u:=by
 cases t
 simp only[qG]at h;exact⟨h.1,yX.mem.1 h.2⟩
mutual
theorem RV.digT{w:World}{S:Nat→Prop}:∀(t:RP)(vs:List Value),RV w S t vs→qG t
 | .mk l g ds ks,vs,h=>by
   unfold RV at h;obtain⟨A,c,K,kc,_,_,h3,_,_,rows,_,h7⟩:=h;simp only[qG];exact⟨h3,qH.digT ks rows h7⟩
theorem qH.digT{w:World}{S:Nat→Prop}:∀(ts:List RP)(rows:List (List Value)),qH w S ts rows→yX ts
 |[],_,_=>by simp[yX]
 |t::ts,rows,h=>by
  unfold qH at h;obtain⟨r,rs,_,h2,h3⟩:=h;simp only[yX];exact⟨RV.digT t r h2,qH.digT ts rs h3⟩
end
theorem QD{d e n:Nat}{z:Int}(hz:z.natAbs<4294967296^e):∀(t:RP),qM d n t→qG t→qM (d+e) n (yc z t)
 |t,h,hd=>by
  rw[QL]
  split
  ·exact qM.zero _ _
  ·split
   ·refine qM.mk ?_ (Nat.zero_le _) (by simp);refine qC ?_;rw[Int.natAbs_mul,qz,Nat.pow_add];have h1:=Nat.lt_of_lt_of_le (qT hd.at_.1) (Nat.pow_le_pow_right (n:=4294967296) (by decide) h.at_.1);exact Nat.mul_lt_mul'' h1 hz
   ·refine qM.mk (Nat.zero_le _) (by rw[List.length_map];exact h.at_.2.1) fun u hu=>?_;obtain⟨x,hx,rfl⟩:=List.mem_map.1 hu;exact QD hz x (h.at_.2.2 x hx) (hd.at_.2 x hx)
termination_by t=>qv t
decreasing_by exact qD hx
def q8(T:RP)(w:World)(e:Ending)(w':World):Prop:=∃A c K kc,e= .returned (qn T A c K kc)∧RB w' w.heap.size T (qc T A c K kc)∧Below w.heap.size w w'
theorem RB.zero{w:World}{base:Nat}:RB w base qa (qc qa none 0 none 0):=RT.zero
section
variable {W W1:World} {g m b0:Nat} {ts:List RP} {cur:Array Value} {rows:List (List Value)}
theorem qY.oldS(h:qY W g m (yK W b0) ts cur rows)(hb:Below W.heap.size W W1):qY W1 g m (yK W1 b0) ts cur rows:=by
 obtain⟨k1,k2⟩:=yK.keep (base:=b0) (fun _ _ k=>k.old hb) (fun _ _ _ k=>k.old hb) (Nat.le_refl _);exact(h.keep (h.row.old hb) k1).mono k2
theorem yK.ne{bb:Nat}(h:yK W (g+1) bb)(hk:qd W g 28 cur):bb≠g:=by
 rintro rfl;rcases h with⟨ds,hb⟩|⟨hb,_⟩
 ·unfold qd at hb hk;rw[hb]at hk
  injection hk with hk
  injection hk with _ h2
  exact absurd h2 (by decide)
 ·omega
theorem qY.putS(h:qY W g m (yK W (g+1)) ts cur rows){e:Nat}(he:e<m){t:RP}{A K:Option Addr}{c kc:Nat}(ht:RB W (g+1) t (qc t A c K kc)):
 ∃cur' rows',qY (jl W g (e*4) (.int .i64 t.lv) (.bool t.ng) (.slice A t.ds.length c) (.slice K t.ks.length kc)) g m (yK (jl W g (e*4) (.int .i64 t.lv) (.bool t.ng) (.slice A t.ds.length c) (.slice K t.ks.length kc)) (g+1)) (ts.set e t) cur' rows':=by
 obtain⟨cur',hp⟩:=h.put (fun b hb=>hb.ne h.row) he ht;obtain⟨_,s2,s3⟩:=jt (k:=e*4) h.row (.int .i64 t.lv) (.bool t.ng) (.slice A t.ds.length c) (.slice K t.ks.length kc);exact⟨cur',_,hp.mono (yK.keep (base:=g+1) (base':=g+1) s2 (fun j ds hg hj=>s3 j ds hg hj) (Nat.le_refl _)).2⟩
theorem qY.nodeS(h:qY W g m (yK W (g+1)) ts cur rows)(l:Int):RB W g (.mk l false [] ts) (qc (.mk l false [] ts) none 0 (some ⟨g,0,none⟩) m):=
 (h.mono fun _ hb=>hb.mono (Nat.le_succ g)).node (.inr ⟨Nat.le_refl _,cur,h.row⟩) l
end
theorem jL{w V:World}{g base:Nat}{T:RP}{A K:Option Addr}{c kc:Nat}{cs:Array Value}(hk:qd V g 28 cs)(hcs:cs.size=4)(hr:RB V base T (qc T A c K kc))(hg:g<base)(hw:w.heap.size≤g)(hb:Below w.heap.size w V):
 qd ((((V.setCell ⟨g,0,none⟩ (.int .i64 T.lv)).setCell ⟨g,1,none⟩ (.bool T.ng)).setCell ⟨g,2,none⟩ (.slice A T.ds.length c)).setCell ⟨g,3,none⟩ (.slice K T.ks.length kc)) g 28 #[.int .i64 T.lv,.bool T.ng,.slice A T.ds.length c,.slice K T.ks.length kc]∧
 q8 T w (.returned (qn T A c K kc)) ((((V.setCell ⟨g,0,none⟩ (.int .i64 T.lv)).setCell ⟨g,1,none⟩ (.bool T.ng)).setCell ⟨g,2,none⟩ (.slice A T.ds.length c)).setCell ⟨g,3,none⟩ (.slice K T.ks.length kc)):=by
 obtain⟨s1,s2,s3⟩:=jt (k:=0) hk (.int .i64 T.lv) (.bool T.ng) (.slice A T.ds.length c) (.slice K T.ks.length kc);have e:(((cs.setIfInBounds 0 (Value.int .i64 T.lv)).setIfInBounds (0+1) (.bool T.ng)).setIfInBounds (0+2) (.slice A T.ds.length c)).setIfInBounds (0+3) (.slice K T.ks.length kc)=#[.int .i64 T.lv,.bool T.ng,.slice A T.ds.length c,.slice K T.ks.length kc]:=by
  obtain⟨l⟩:=cs
  match l,hcs with
  |[_,_,_,_],_=>rfl
 rw[e]at s1;exact⟨s1,A,c,K,kc,rfl,RB.keep hr s2 (fun j ds hg' hj=>s3 j ds (by omega) hj) (by omega),qe (o:=0) hb hw _ _ _ _⟩
set_option maxHeartbeats 4000000
set_option maxRecDepth 100000
theorem qfK(X:Nat)(hX:X≤100000)(q:RP)(hq:qj q=true)(hq0:q.lv=0)(hqX:yf X q):∀(D:Nat)(t:RP),qv t≤D→qj t=true→yf X t→∀(A:Option Addr)(c:Nat)(K:Option Addr)(kc:Nat)(Aq:Option Addr)(cq:Nat)(Kq:Option Addr)(kq B:Nat)(w:World),B≤w.heap.size→RV w (· <B) t (qc t A c K kc)→RV w (· <B) q (qc q Aq cq Kq kq)→
 Calls Tryz.prog 103 #[qn t A c K kc,qn q Aq cq Kq kq] w (q8 (yc (qb q.ng q.ds) t) w)
 |0,t,hD,_,_,_,_,_,_,_,_,_,_,_,_,_,_,_=>by cases t;simp only[qv]at hD;omega
 |D+1,t,hD,hc,hf,A,c,K,kc,Aq,cq,Kq,kq,B,w,hB,h,hqv=>by
  have IH:=Lib.hid (qfK X hX q hq hq0 hqX D);have HR:=Lib.hid (fun(W:World)(hW:Below w.heap.size w W)=>h.below (hW.mono hB));have HQ:=Lib.hid (fun(W:World)(hW:Below w.heap.size w W)=>hqv.below (hW.mono hB));have HD:=Lib.hid (fun(u:RP)(hu:u∈t.ks)=>show qv u≤D by have:=qD hu;omega);have HF:=Lib.hid hf.at_.2.2;have HB:=Lib.hid hB;have hdl:=hf.at_.1;have hkl:=hf.at_.2.1;have hdq:=hqX.at_.1;have HKC:=Lib.hid h.node.2.2.2;have hlv:=jK hc;have HPT:=Lib.hid (qr hc);have HZQ:=Lib.hid (show qW q=decide (qb q.ng q.ds=0)by
   cases hz:qW q with
   |true=>rw[JO hq hz];decide
   |false=>
    rcases qr hq with⟨_,_,k⟩|⟨a,_⟩
    ·have hd:q.ds.length≠0:=fun e=>by
      unfold qW at hz;rw[hq0,e]at hz
      cases hz
     exact(decide_eq_false (ZI k hd)).symm
    ·omega)
  have HEQ:=Lib.hid (QL (qb q.ng q.ds) t);have HX:=Lib.hid (jF w 28 28 28 #[.int .i64 t.lv,.bool t.ng,.slice A t.ds.length c,.slice K t.ks.length kc] #[.int .i64 q.lv,.bool q.ng,.slice Aq q.ds.length cq,.slice Kq q.ks.length kq] #[.int .i64 0,.bool false,.slice none 0 0,.slice none 0 0]);have HMU:=Lib.hid (fun(W:World)(hW:Below w.heap.size w W)=>Qj t.ng q.ng A Aq c cq B t.ds q.ds W (Nat.le_trans hB hW.size) (h.below (hW.mono hB)).natIn (hqv.below (hW.mono hB)).natIn (by omega));unfold qy at HMU;have HZ1:=Lib.hid (fun(W:World)=>Jz t A c K kc W);have HZ2:=Lib.hid (fun(W:World)=>Jz q Aq cq Kq kq W);have e1:decide (t.lv<q.lv)=false:=by simp;omega
  have HQ0:=Lib.hid hq0;have HQC:=Lib.hid hq;generalize hmt:yc (qb q.ng q.ds) t=T at*;unfold q8 at IH ⊢;unfold qn at IH HZ1 HZ2 ⊢;clear h hD hf hB hc hqv hqX hmt hq hq0 hlv;go_enter Tryz.func103,Tryz.ntmps103
  go_upto_region 1 with(fail)
  generalize ((w.alloc (.cells #[.int .i64 t.lv,.bool t.ng,.slice A t.ds.length c,.slice K t.ks.length kc] 28)).alloc (.cells #[.int .i64 q.lv,.bool q.ng,.slice Aq q.ds.length cq,.slice Kq q.ks.length kq] 28)).alloc (.cells #[.int .i64 0,.bool false,.slice none 0 0,.slice none 0 0] 28)=W at*;obtain⟨hb0,k0,k1,k2,hs⟩:=HX.out;clear HX;have KF:=Lib.hid (fun(V:World)(hV:Below W.heap.size W V)=>And.intro (k0.old hV) (And.intro (k1.old hV) (k2.old hV)));have HB0:=Lib.hid hb0;have c0:=k0.cell 0;have c1:=k0.cell 1;have c2:=k0.cell 2;have c3:=k0.cell 3;have q0:=k1.cell 0;have q1:=k1.cell 1;have q2:=k1.cell 2;have q3:=k1.cell 3;have hb:Below W.heap.size W W:=Below.refl _ _;clear k0 k1 k2 hs hb0;go_wp2_with fail
  refine(HZ1.out W).mono ?_;rintro e w2 ⟨rfl,hb2⟩;have hb:=hb2;clear c0 c1 c2 c3 q0 q1 q2 q3 hb2 HZ1;obtain⟨k0,k1,k2⟩:=KF.out _ hb;have HBW:=Lib.hid (HB0.out.trans (hb.mono HB0.out.size))
  cases hz:qW t with
  |true=>
   have HT:=Lib.hid (show T=qa by rw[HEQ.out,hz];rfl);have HFN:=Lib.hid (jL k2 rfl (RB.zero (base:=w.heap.size+1+1+1)) (Nat.lt_succ_self _) (by omega) HBW.out);have d0:=k2.cell 0;have d1:=k2.cell 1;have d2:=k2.cell 2;have d3:=k2.cell 3;have f0:=k2.frozen 0;have f1:=k2.frozen 1;have f2:=k2.frozen 2;have f3:=k2.frozen 3;have z0:=k2.lt;clear hz k0 k1 k2 KF HEQ HZ2;go_wp2_with fail
   have hT:=HT.out;subst hT;exact qg Tryz.results103 rfl rfl HFN.out.1 Tryz.underlying28 rfl Tryz.sizeRec HFN.out.2
  |false=>
   have HZF:=Lib.hid hz;have c0:=k0.cell 0;have c1:=k0.cell 1;have c2:=k0.cell 2;have c3:=k0.cell 3;have q0:=k1.cell 0;have q1:=k1.cell 1;have q2:=k1.cell 2;have q3:=k1.cell 3;clear hz k0 k1 k2;go_wp2_with fail
   refine(HZ2.out _).mono ?_;rintro e w3 ⟨rfl,hb3⟩
   replace hb:=hb.trans (hb3.mono hb.size)
   clear c0 c1 c2 c3 q0 q1 q2 q3 hb3 HZ2 HBW;obtain⟨k0,k1,k2⟩:=KF.out _ hb;have HBW:=Lib.hid (HB0.out.trans (hb.mono HB0.out.size));have d0:=k2.cell 0;have d1:=k2.cell 1;have d2:=k2.cell 2;have d3:=k2.cell 3;have f0:=k2.frozen 0;have f1:=k2.frozen 1;have f2:=k2.frozen 2;have f3:=k2.frozen 3;have z0:=k2.lt
   cases hzq:qW q with
   |true=>
    have HT:=Lib.hid (show T=qa by rw[HEQ.out,HZF.out,←HZQ.out,hzq];rfl);have HFN:=Lib.hid (jL k2 rfl (RB.zero (base:=w.heap.size+1+1+1)) (Nat.lt_succ_self _) (by omega) HBW.out);clear hzq k0 k1 k2 KF HEQ;go_wp2_with fail
    have hT:=HT.out;subst hT;exact qg Tryz.results103 rfl rfl HFN.out.1 Tryz.underlying28 rfl Tryz.sizeRec HFN.out.2
   |false=>
    have HE2:=Lib.hid (show T=if t.lv=0 then ju (qb t.ng t.ds*qb q.ng q.ds)else .mk t.lv false [] (t.ks.map (yc (qb q.ng q.ds)))by rw[HEQ.out,HZF.out,←HZQ.out,hzq];rfl);have c0:=k0.cell 0;have c1:=k0.cell 1;have c2:=k0.cell 2;have c3:=k0.cell 3;have q0:=k1.cell 0;have q1:=k1.cell 1;have q2:=k1.cell 2;have q3:=k1.cell 3;clear hzq k0 k1 k2 HEQ HZQ;by_cases h0:t.lv=0
    ·have HT:=Lib.hid (show T=ju (qb t.ng t.ds*qb q.ng q.ds)by rw[HE2.out,if_pos h0]);have e2:(t.lv==0)=true:=by simpa using h0
     have HM:=Lib.hid (HMU.out _ HBW.out);clear h0 HE2 HMU d0 d1 d2 d3 f0 f1 f2 f3 z0;generalize qb t.ng t.ds*qb q.ng q.ds=z at*;go_wp2_with fail
     refine HM.out.mono ?_;rintro e w4 ⟨A4,c4,rfl,l4,n4,hb4⟩
     replace hb:=hb.trans (hb4.mono hb.size)
     obtain⟨_,_,k2⟩:=KF.out _ hb;have HB4:=Lib.hid (HB0.out.trans (hb.mono HB0.out.size));have HFN:=Lib.hid (jL (T:=ju z) k2 rfl (RB.const (base:=w.heap.size+1+1+1) n4 (qu _) l4) (Nat.lt_succ_self _) (by omega) HB4.out);have d0:=k2.cell 0;have d1:=k2.cell 1;have d2:=k2.cell 2;have d3:=k2.cell 3;have f0:=k2.frozen 0;have f1:=k2.frozen 1;have f2:=k2.frozen 2;have f3:=k2.frozen 3;have z0:=k2.lt;clear c0 c1 c2 c3 q0 q1 q2 q3 hb4 l4 n4 k2 HM KF;go_wp2_with fail
     have hT:=HT.out;subst hT;exact qg Tryz.results103 rfl rfl HFN.out.1 Tryz.underlying28 rfl Tryz.sizeRec HFN.out.2
    ·have HT:=Lib.hid (show T= .mk t.lv false [] (t.ks.map (yc (qb q.ng q.ds)))by rw[HE2.out,if_neg h0]);have e2:(t.lv==0)=false:=by simpa using h0
     have e3:decide (q.lv<t.lv)=true:=by
      have:=HQ0.out;rcases HPT.out with⟨a,_⟩|⟨a,_⟩
      ·exact absurd a h0
      ·simp;omega
     have hmk:=fun(W:World)=>Tryz.make_rec t.ks.length (by omega) W;have HCK:=Lib.hid (show∀u∈t.ks,qj u=true by
      rcases HPT.out with⟨a,b,_⟩|⟨_,_,_,_,_,a,_⟩
      ·intro u hu;rw[b]at hu;cases hu
      ·exact fun u hu=>(a u hu).2)
     clear h0 HE2 HMU d0 d1 d2 d3 f0 f1 f2 f3 z0 HPT;generalize hnk:t.ks.length=nk at*;have HNK:=Lib.hid hnk;clear hnk;generalize hgg:w3.heap.size=g at*;have hmk3:=hmk w3;rw[hgg]at hmk3;have hWg:W.heap.size≤g:=by have:=hb.size;omega
     have hal:=(Below.refl w3.heap.size w3).alloc (Nat.le_refl _) (.cells (madeCells #[.int .i64 0,.bool false,.slice none 0 0,.slice none 0 0] (nk*4)) 28);have hnw:=qd.new w3 28 (madeCells #[.int .i64 0,.bool false,.slice none 0 0,.slice none 0 0] (nk*4));rw[hgg]at hnw;have HRO:=Lib.hid (qY.zeros (S:=yK (w3.alloc (.cells (madeCells #[.int .i64 0,.bool false,.slice none 0 0,.slice none 0 0] (nk*4)) 28)) (g+1)) nk hnw);have HBA:=Lib.hid (hb.trans (hal.mono hb.size));have hkc:=HKC.out;have HSW:=Lib.hid (show w.heap.size+1+1<W.heap.size from(KF.out W (Below.refl _ _)).2.2.lt);have c3a:=fun o=>((KF.out w3 hb).1.alloc o).cell 3;clear hal hnw hb hmk;go_wp2_with fail
     clear c3a;generalize w3.alloc (.cells (madeCells #[.int .i64 0,.bool false,.slice none 0 0,.slice none 0 0] (nk*4)) 28)=W3 at*;clear c0 c1 c2 c3 q0 q1 q2 q3 HBW hmk3 HZF HQ0;go_loopg [6,55] nk (fun gn _ ix wr=>∃(j:Nat)(cur:Array Value)(rows:List (List Value)),j≤nk∧gn=nk-j∧ix= .int .i64 j∧Below W.heap.size W wr∧qY wr g nk (yK wr (g+1)) ((t.ks.take j).map (yc (qb q.ng q.ds))++List.replicate (nk-j) qa) cur rows)
     case atStart=>exact⟨0,_,_,Nat.zero_le _,rfl,rfl,HBA.out,by rw[List.take_zero,List.map_nil,List.nil_append,Nat.sub_zero];exact HRO.out⟩
     case round=>
      clear HBA HRO;obtain⟨j,cur,rows,hj,hgj,rfl,hbw,hro⟩:=hrel;have HG:=Lib.hid hgj;clear hgj;have HBW:=Lib.hid (HB0.out.trans (hbw.mono HB0.out.size));by_cases hlt:j<nk
      ·obtain⟨u,hu⟩:∃u,t.ks[j]? =some u:=⟨_,List.getElem?_eq_getElem (by rw[HNK.out];exact hlt)⟩;obtain⟨b,o,A3,q3,K3,r3,rfl,hbB,x0,x1,x2,x3,hku⟩:=(HR.out wr HBW.out).kid hu;have hum:=List.mem_of_getElem? hu;have hal:=(Below.refl wr.heap.size wr).alloc (Nat.le_refl _) (.cells #[.int .i64 u.lv,.bool u.ng,.slice A3 u.ds.length q3,.slice K3 u.ks.length r3] 28);have hnb:=qd.new wr 28 #[.int .i64 u.lv,.bool u.ng,.slice A3 u.ds.length q3,.slice K3 u.ks.length r3];have hbA:=hbw.trans (hal.mono hbw.size);have hBw:B≤wr.heap.size:=Nat.le_trans HB.out HBW.out.size;have HCC:=Lib.hid (IH.out u (HD.out u hum) (HCK.out u hum) (HF.out u hum) A3 q3 K3 r3 Aq cq Kq kq B _ (Nat.le_trans hBw hal.size) (hku.below (hal.mono hBw)) (HQ.out _ (HB0.out.trans (hbA.mono HB0.out.size))));have HNX:=Lib.hid (show((t.ks.take j).map (yc (qb q.ng q.ds))++List.replicate (nk-j) qa).set j (yc (qb q.ng q.ds) u)=(t.ks.take (j+1)).map (yc (qb q.ng q.ds))++List.replicate (nk-(j+1)) qa by
        obtain⟨hj',e⟩:=List.getElem?_eq_some_iff.1 hu;have hl:((t.ks.take j).map (yc (qb q.ng q.ds))).length=j:=by rw[List.length_map,List.length_take];omega
        obtain⟨r,hr⟩:∃r,nk-j=r+1:=⟨nk-j-1,by omega⟩;rw[List.set_append_right _ _ (by omega),hl,Nat.sub_self,hr,List.replicate_succ,List.set_cons_zero,List.take_succ_eq_append_getElem hj',List.map_append,List.append_assoc,e,show nk-(j+1)=r by omega];rfl)
       have HRA:=Lib.hid (hro.oldS hal);have HNB:=Lib.hid hnb;have HBA:=Lib.hid hbA;have hs3:=hro.siz;have i3:(0:Int)≤(j:Int):=by omega
       have i4:(j:Int)<(nk:Int):=by omega
       have i5:(nk:Int)≤(kc:Int):=by omega
       have HGW:=Lib.hid (show g+1≤(wr.alloc (.cells #[.int .i64 u.lv,.bool u.ng,.slice A3 u.ds.length q3,.slice K3 u.ks.length r3] 28)).heap.size from Nat.le_trans hro.row.lt hal.size);have c3:wr.cell? ⟨w.heap.size,3,none⟩=some (.slice (some ⟨b,o,none⟩) nk kc):=(KF.out wr hbw).1.cell 3;clear hum hku hal hnb hbA hBw hro hbw hu HBW;generalize yc (qb q.ng q.ds) u=tu at*;generalize u.ds.length=ud at*;generalize u.ks.length=uk at*;generalize u.ng=ug at*;generalize u.lv=ul at*;go_upto_region 12 with(fail)
       generalize wr.alloc (.cells #[.int .i64 ul,.bool ug,.slice A3 ud q3,.slice K3 uk r3] 28)=V at*;obtain⟨_,k1,_⟩:=KF.out _ HBA.out;have q0:=k1.cell 0;have q1:=k1.cell 1;have q2:=k1.cell 2;have q3':=k1.cell 3;have y0:=HNB.out.cell 0;have y1:=HNB.out.cell 1;have y2:=HNB.out.cell 2;have y3:=HNB.out.cell 3;clear c3 x0 x1 x2 x3 k1;go_wp2_with fail
       refine HCC.out.mono ?_;rintro e w4 ⟨A4,c4,K4,kc4,rfl,hr4,hb4⟩;have hr:=HRA.out.oldS hb4;have ex:∀i,i<4→∃v,cur[j*4+i]? =some v:=fun j hj=>⟨_,Array.getElem?_eq_getElem (by omega)⟩;obtain⟨p0,s0⟩:=ex 0 (by omega);obtain⟨p1,s1⟩:=ex 1 (by omega);obtain⟨p2,s2⟩:=ex 2 (by omega);obtain⟨p3,s3⟩:=ex 3 (by omega);have d0:w4.cell? ⟨g,j*4,none⟩=some p0:=(hr.row.cell _).trans s0;have d1:w4.cell? ⟨g,j*4+1,none⟩=some p1:=(hr.row.cell _).trans s1;have d2:w4.cell? ⟨g,j*4+2,none⟩=some p2:=(hr.row.cell _).trans s2;have d3:w4.cell? ⟨g,j*4+3,none⟩=some p3:=(hr.row.cell _).trans s3;have f0:=hr.row.frozen (j*4);have f1:=hr.row.frozen (j*4+1);have f2:=hr.row.frozen (j*4+2);have f3:=hr.row.frozen (j*4+3);have z4:=hr.row.lt;have HP:=Lib.hid (hr.putS hlt (hr4.mono HGW.out));rw[HNX.out]at HP;have HB5:=Lib.hid (qe (o:=j*4) (HBA.out.trans (hb4.mono HBA.out.size)) hWg (.int .i64 tu.lv) (.bool tu.ng) (.slice A4 tu.ds.length c4) (.slice K4 tu.ks.length kc4));clear hr ex s0 s1 s2 s3 hr4 hb4 hs3 HCC HRA HNB HBA HGW HNX q0 q1 q2 q3' y0 y1 y2 y3;generalize tu.ds.length=vd at*;generalize tu.ks.length=vk at*;generalize tu.ng=vg at*;generalize tu.lv=vl at*;go_wp2_with fail
       obtain⟨cur',rows',hp⟩:=HP.out;go_roundg (nk-(j+1))
       case rel=>exact⟨j+1,cur',rows',by omega,rfl,by go_num,HB5.out,hp⟩
       case measure=>have:=HG.out;omega
      ·obtain rfl:j=nk:=by omega
       have hr:=hro;rw[List.take_of_length_le (by rw[HNK.out];exact Nat.le_refl _),Nat.sub_self,List.replicate_zero,List.append_nil]at hr;obtain⟨k0,_,k2⟩:=KF.out _ hbw;have c0:=k0.cell 0;have d0:=k2.cell 0;have d1:=k2.cell 1;have d2:=k2.cell 2;have d3:=k2.cell 3;have f0:=k2.frozen 0;have f1:=k2.frozen 1;have f2:=k2.frozen 2;have f3:=k2.frozen 3;have z0:=k2.lt;have hsw:=HSW.out;have HFN:=Lib.hid (jL (w:=w) k2 rfl (hr.nodeS t.lv) (by omega) (by omega) HBW.out);have hkl':(t.ks.map (yc (qb q.ng q.ds))).length=j:=by rw[List.length_map,HNK.out]
       rw[show(RP.mk t.lv false [] (t.ks.map (yc (qb q.ng q.ds)))).ks.length=j from hkl',←HT.out]at HFN;have HE5:=Lib.hid (show T.lv=t.lv∧T.ng=false∧T.ds.length=0 by rw[HT.out];exact⟨rfl,rfl,rfl⟩);rw[HE5.out.1,HE5.out.2.1,HE5.out.2.2]at HFN;have HE6:=Lib.hid (show T.ks.length=j by rw[HT.out];exact hkl');clear hro hr hbw k0 k2 hkl' hlt;go_wp2_with fail
       refine qg Tryz.results103 rfl rfl HFN.out.1 Tryz.underlying28 rfl Tryz.sizeRec ?_;have:=HFN.out.2;unfold q8 qn at this;have hTk:T.ks.length=j:=HE6.out;rw[HE5.out.1,HE5.out.2.1,HE5.out.2.2,hTk]at this;rw[HE5.out.1,HE5.out.2.1,HE5.out.2.2,hTk];exact this
mutual
theorem qM.sm{d n X:Nat}(h1:d≤X)(h2:n≤X):∀(t:RP),qM d n t→yf X t
 | .mk l g ds ks,h=>by
   simp only[qM]at h;simp only[yf];exact⟨by omega,by omega,Jd.sm h1 h2 ks h.2.2⟩
theorem Jd.sm{d n X:Nat}(h1:d≤X)(h2:n≤X):∀(ts:List RP),Jd d n ts→SmL X ts
 |[],_=>by simp[SmL]
 |t::ts,h=>by
  simp only[Jd]at h;simp only[SmL];exact⟨qM.sm h1 h2 t h.1,Jd.sm h1 h2 ts h.2⟩
end
theorem qdF(z:Int):qj (ju z)=true:=by
 by_cases hz:z=0
 ·subst hz;unfold ju;rw[show Int.natAbs 0=0 from rfl,qt]
  decide
 ·exact(qfR hz).1
theorem qaM(g:Bool)(A:Option Addr)(c B:Nat)(ds:List Nat)(w:World)(hB:B≤w.heap.size)(h:qh w B A c ds)(hm:ds.length≤1000000):
 Calls Tryz.prog 99 #[.agg #[.bool g,.slice A ds.length c]] w (q8 (ju (qb g ds)) w):=by
 have HX:=Lib.hid (qK w 25 28 #[.bool g,.slice A ds.length c] #[.int .i64 0,.bool false,.slice none 0 0,.slice none 0 0]);have HN:=Lib.hid (fun(W:World)(hW:Below w.heap.size w W)=>jH g A c B ds W (Nat.le_trans hB hW.size) (h.below (hW.mono hB)) hm);unfold qy at HN;clear h hB hm;generalize qb g ds=z at*;generalize ds.length=nd at*;go_enter Tryz.func99,Tryz.ntmps99
 go_wp2_with fail
 obtain⟨hb0,k0,k1,hs⟩:=HX.out;generalize (w.alloc (.cells #[.bool g,.slice A nd c] 25)).alloc (.cells #[.int .i64 0,.bool false,.slice none 0 0,.slice none 0 0] 28)=W at*;have HN1:=Lib.hid (HN.out W hb0);have HB0:=Lib.hid hb0;have HK1:=Lib.hid k1;clear HX HN hb0 k0 k1 hs;refine HN1.out.mono ?_;rintro e w2 ⟨A2,c2,rfl,l2,n2,hb2⟩;have k1:=HK1.out.old hb2;have HFN:=Lib.hid (jL (w:=w) (T:=ju z) k1 rfl (RB.const (base:=w.heap.size+1+1) n2 (qu _) l2) (Nat.lt_succ_self _) (Nat.le_succ _) (HB0.out.trans (hb2.mono HB0.out.size)));have d0:=k1.cell 0;have d1:=k1.cell 1;have d2:=k1.cell 2;have d3:=k1.cell 3;have f0:=k1.frozen 0;have f1:=k1.frozen 1;have f2:=k1.frozen 2;have f3:=k1.frozen 3;have z0:=k1.lt;clear k1 l2 n2 hb2 HN1 HB0 HK1;go_wp2_with fail
 exact qg Tryz.results99 rfl rfl HFN.out.1 Tryz.underlying28 rfl Tryz.sizeRec HFN.out.2
theorem Qp(X:Nat)(hX:X≤100000)(t:RP)(hc:qj t=true)(hf:yf X t)(A:Option Addr)(c:Nat)(K:Option Addr)(kc:Nat)(g:Bool)(ds:List Nat)(D:Option Addr)(cd B:Nat)(w:World)(hB:B≤w.heap.size)(h:RV w (· <B) t (qc t A c K kc))(hn:qh w B D cd ds)(hm:ds.length≤X):
 Calls Tryz.prog 102 #[qn t A c K kc,.agg #[.bool g,.slice D ds.length cd]] w (q8 (yc (qb g ds) t) w):=by
 have HX:=Lib.hid (jF w 28 25 28 #[.int .i64 t.lv,.bool t.ng,.slice A t.ds.length c,.slice K t.ks.length kc] #[.bool g,.slice D ds.length cd] #[.int .i64 0,.bool false,.slice none 0 0,.slice none 0 0]);have HCN:=Lib.hid (fun(W:World)(hW:Below w.heap.size w W)=>qaM g D cd B ds W (Nat.le_trans hB hW.size) (hn.below (hW.mono hB)) (by omega));have hzl:(dig (qb g ds).natAbs).length≤X:=by
  rw[qz];exact Nat.le_trans (qo hn.dg) hm
 have HMU:=Lib.hid (fun(W:World)(hW:Below w.heap.size w W)(Aq:Option Addr)(cq:Nat)(Kq:Option Addr)(kq:Nat)(hq:RV W (· <W.heap.size) (ju (qb g ds)) (qc (ju (qb g ds)) Aq cq Kq kq))=>qfK X hX (ju (qb g ds)) (qdF _) rfl (yf.mk hzl (Nat.zero_le _) (by simp)) (qv t) t (Nat.le_refl _) hc hf A c K kc Aq cq Kq kq W.heap.size W (Nat.le_refl _) ((h.below (hW.mono hB)).more (Nat.le_trans hB hW.size)) hq);have hiv:qb (ju (qb g ds)).ng (ju (qb g ds)).ds=qb g ds:=q7 _;rw[hiv]at HMU;unfold q8 at HCN HMU;unfold qn at HCN HMU ⊢;clear h hn hm hc hf hB hzl hiv;generalize yc (qb g ds) t=T at*;generalize ju (qb g ds)=q at*;generalize t.ds.length=nd at*;generalize t.ks.length=nk at*;generalize ds.length=dl at*;generalize t.lv=lv at*;generalize t.ng=ng at*;go_enter Tryz.func102,Tryz.ntmps102
 go_wp2_with fail
 obtain⟨hb0,k0,k1,k2,hs⟩:=HX.out;generalize ((w.alloc (.cells #[.int .i64 lv,.bool ng,.slice A nd c,.slice K nk kc] 28)).alloc (.cells #[.bool g,.slice D dl cd] 25)).alloc (.cells #[.int .i64 0,.bool false,.slice none 0 0,.slice none 0 0] 28)=W at*;have HB0:=Lib.hid hb0;have HK2:=Lib.hid k2;have KF:=Lib.hid (fun(V:World)(hV:Below W.heap.size W V)=>(⟨(k0.old hV).cell 0,(k0.old hV).cell 1,(k0.old hV).cell 2,(k0.old hV).cell 3,(k1.old hV).cell 0,(k1.old hV).cell 1⟩:
  V.cell? ⟨w.heap.size,0,none⟩=some (.int .i64 lv)∧V.cell? ⟨w.heap.size,1,none⟩=some (.bool ng)∧V.cell? ⟨w.heap.size,2,none⟩=some (.slice A nd c)∧V.cell? ⟨w.heap.size,3,none⟩=some (.slice K nk kc)∧V.cell? ⟨w.heap.size+1,0,none⟩=some (.bool g)∧V.cell? ⟨w.heap.size+1,1,none⟩=some (.slice D dl cd)))
 have KS:=Lib.hid (fun(V:World)(hV:Below W.heap.size W V)(x0 x1 x2 x3:Value)=>(⟨((k0.old hV).set4_far (Nat.ne_of_lt (by omega)) 0 x0 x1 x2 x3).cell 0,((k0.old hV).set4_far (Nat.ne_of_lt (by omega)) 0 x0 x1 x2 x3).cell 1,((k0.old hV).set4_far (Nat.ne_of_lt (by omega)) 0 x0 x1 x2 x3).cell 2,((k0.old hV).set4_far (Nat.ne_of_lt (by omega)) 0 x0 x1 x2 x3).cell 3,((k1.old hV).set4_far (Nat.ne_of_lt (by omega)) 0 x0 x1 x2 x3).cell 0,((k1.old hV).set4_far (Nat.ne_of_lt (by omega)) 0 x0 x1 x2 x3).cell 1⟩:
  ((((V.setCell ⟨w.heap.size+1+1,0,none⟩ x0).setCell ⟨w.heap.size+1+1,1,none⟩ x1).setCell ⟨w.heap.size+1+1,2,none⟩ x2).setCell ⟨w.heap.size+1+1,3,none⟩ x3).cell? ⟨w.heap.size,0,none⟩=some (.int .i64 lv)∧((((V.setCell ⟨w.heap.size+1+1,0,none⟩ x0).setCell ⟨w.heap.size+1+1,1,none⟩ x1).setCell ⟨w.heap.size+1+1,2,none⟩ x2).setCell ⟨w.heap.size+1+1,3,none⟩ x3).cell? ⟨w.heap.size,1,none⟩=some (.bool ng)∧((((V.setCell ⟨w.heap.size+1+1,0,none⟩ x0).setCell ⟨w.heap.size+1+1,1,none⟩ x1).setCell ⟨w.heap.size+1+1,2,none⟩ x2).setCell ⟨w.heap.size+1+1,3,none⟩ x3).cell? ⟨w.heap.size,2,none⟩=some (.slice A nd c)∧((((V.setCell ⟨w.heap.size+1+1,0,none⟩ x0).setCell ⟨w.heap.size+1+1,1,none⟩ x1).setCell ⟨w.heap.size+1+1,2,none⟩ x2).setCell ⟨w.heap.size+1+1,3,none⟩ x3).cell? ⟨w.heap.size,3,none⟩=some (.slice K nk kc)∧((((V.setCell ⟨w.heap.size+1+1,0,none⟩ x0).setCell ⟨w.heap.size+1+1,1,none⟩ x1).setCell ⟨w.heap.size+1+1,2,none⟩ x2).setCell ⟨w.heap.size+1+1,3,none⟩ x3).cell? ⟨w.heap.size+1,0,none⟩=some (.bool g)∧((((V.setCell ⟨w.heap.size+1+1,0,none⟩ x0).setCell ⟨w.heap.size+1+1,1,none⟩ x1).setCell ⟨w.heap.size+1+1,2,none⟩ x2).setCell ⟨w.heap.size+1+1,3,none⟩ x3).cell? ⟨w.heap.size+1,1,none⟩=some (.slice D dl cd)))
 have KR:=Lib.hid (fun(V:World)(hV:Below W.heap.size W V)=>(⟨(k2.old hV).cell 0,(k2.old hV).cell 1,(k2.old hV).cell 2,(k2.old hV).cell 3,(k2.old hV).frozen 0,(k2.old hV).frozen 1,(k2.old hV).frozen 2,(k2.old hV).frozen 3,(k2.old hV).lt⟩:
  V.cell? ⟨w.heap.size+1+1,0,none⟩=some (.int .i64 0)∧V.cell? ⟨w.heap.size+1+1,1,none⟩=some (.bool false)∧V.cell? ⟨w.heap.size+1+1,2,none⟩=some (.slice none 0 0)∧V.cell? ⟨w.heap.size+1+1,3,none⟩=some (.slice none 0 0)∧
  V.frozen? ⟨w.heap.size+1+1,0,none⟩=false∧V.frozen? ⟨w.heap.size+1+1,1,none⟩=false∧V.frozen? ⟨w.heap.size+1+1,2,none⟩=false∧V.frozen? ⟨w.heap.size+1+1,3,none⟩=false∧w.heap.size+1+1<V.heap.size))
 have hb:Below W.heap.size W W.drew:=(qm.drew _).below _;have hbz:Below W.heap.size W W:=Below.refl _ _;have HCN2:=Lib.hid (fun(V:World)(hV:Below W.heap.size W V)=>HCN.out V (HB0.out.trans (hV.mono HB0.out.size)));have HMU2:=Lib.hid (fun(V:World)(hV:Below W.heap.size W V)=>HMU.out V (HB0.out.trans (hV.mono HB0.out.size)));clear HX HCN HMU hb0 k0 k1 k2 hs;go_region_held3 (fun w'=>w'.cell? ⟨w.heap.size,0,none⟩=some (.int .i64 lv)∧w'.cell? ⟨w.heap.size,1,none⟩=some (.bool ng)∧w'.cell? ⟨w.heap.size,2,none⟩=some (.slice A nd c)∧w'.cell? ⟨w.heap.size,3,none⟩=some (.slice K nk kc)∧w'.cell? ⟨w.heap.size+1,0,none⟩=some (.bool g)∧w'.cell? ⟨w.heap.size+1,1,none⟩=some (.slice D dl cd))
  (first|(with_reducible exact KF.out _ hb)|(with_reducible exact KF.out _ hbz)|(with_reducible exact KS.out _ hb _ _ _ _))
  (first
    |(go_at_call 99;(with_reducible refine(HCN2.out _ hb).mono ?_);rintro e w5 ⟨A5,c5,K5,kc5,rfl,hr5,hk⟩;replace hb:=hb.trans (hk.mono hb.size);have hs5:=hb.size)
    |(go_at_call 103;(with_reducible refine(HMU2.out _ hb A5 c5 K5 kc5 hr5.rv).mono ?_);rintro e w6 ⟨A6,c6,K6,kc6,rfl,hr6,hk⟩;replace hb:=hb.trans (hk.mono hb.size);obtain⟨d0,d1,d2,d3,f0,f1,f2,f3,z0⟩:=KR.out _ hb))
 have k2:=HK2.out.old hb;have hl2:=HK2.out.lt;have HFN:=Lib.hid (jL (w:=w) k2 rfl hr6 (by omega) (by omega) (HB0.out.trans (hb.mono HB0.out.size)));clear hr6 hr5 hb hbz KF KS KR HCN2 HMU2 k2;go_wp2_with fail
 exact qg Tryz.results102 rfl rfl HFN.out.1 Tryz.underlying28 rfl Tryz.sizeRec HFN.out.2
theorem qbs(T:RP)(hc:qj T=true)(hs:yf 100000 T)(A:Option Addr)(c:Nat)(K:Option Addr)(kc:Nat)(W:World)(h:RV W (· <W.heap.size) T (qc T A c K kc)):Calls Tryz.prog 39 #[qn T A c K kc] W (q8 T W):=by
 refine(QZ 100000 (by omega) (qv T) T (Nat.le_refl _) hs A c K kc W.heap.size W (Nat.le_refl _) h).mono ?_;rintro e w' ⟨A1,c1,K1,kc1,he,hr,hb⟩;rw[qcr T _ h hc]at he hr;exact⟨A1,c1,K1,kc1,he,hr,hb⟩
theorem qeu(dg:Nat)(hdg:dg≤500)(t:RP)(hf:zU dg t)(hfc:yf 1000 (qq t))(z:Int)(hz:z≠0)(A:Option Addr)(c:Nat)(K:Option Addr)(kc:Nat)(g:Bool)(ds:List Nat)(hzz:qb g ds=z)(D:Option Addr)(cd B:Nat)(w:World)(hB:B≤w.heap.size)(h:RV w (· <B) t (qc t A c K kc))(hn:qh w B D cd ds)(hm:ds.length≤1000):
 Calls Tryz.prog 62 #[qn t A c K kc,.agg #[.bool g,.slice D ds.length cd]] w fun e w'=>q8 (yc z (qq t)) w e w'∧jg t (qq t):=by
 have HX:=Lib.hid (jF w 28 25 28 #[.int .i64 t.lv,.bool t.ng,.slice A t.ds.length c,.slice K t.ks.length kc] #[.bool g,.slice D ds.length cd] #[.int .i64 0,.bool false,.slice none 0 0,.slice none 0 0]);have HCA:=Lib.hid (fun(W:World)(hW:Below w.heap.size w W)=>Y5 dg hdg t hf.dep hf.few hf.cnt A c K kc B W (Nat.le_trans hB hW.size) (h.below (hW.mono hB)));unfold qkb at HCA;have HSC:=Lib.hid (fun(W:World)(hW:Below w.heap.size w W)(hct:jg t (qq t))(Aq:Option Addr)(cq:Nat)(Kq:Option Addr)(kq:Nat)(hq:RV W (· <W.heap.size) (qq t) (qc (qq t) Aq cq Kq kq))=>Qp 1000 (by omega) (qq t) hct.can.1 hfc Aq cq Kq kq g ds D cd W.heap.size W (Nat.le_refl _) hq ((hn.below (hW.mono hB)).more (Nat.le_trans hB hW.size)) hm);have HMC:=Lib.hid (fun(hct:jg t (qq t))=>(qaI hz (qq t) hct.can.1).1);have HCP:=Lib.hid (fun(T:RP)(hc:qj T=true)(A:Option Addr)(c:Nat)(K:Option Addr)(kc:Nat)(W:World)(h:RV W (· <W.heap.size) T (qc T A c K kc))(hs:yf 100000 T)=>qbs T hc hs A c K kc W h);obtain⟨E,hE⟩:∃E,E=1000:=⟨_,rfl⟩;have HSM:=Lib.hid (show qG (qq t)→yf 100000 (yc z (qq t))from fun hd=>(QD (d:=1000) (e:=E) (n:=1000) (by
  rw[←hzz,qz];exact Nat.lt_of_lt_of_le (qT hn.dg) (Nat.pow_le_pow_right (n:=4294967296) (by decide) (by omega))) _ (qfv 1000 _ hfc) hd).sm (by omega) (by omega))
 rw[hzz]at HSC;unfold q8 at HSC HCP;unfold qn at HCA HSC HCP ⊢;have HCE:=Lib.hid (fun(T:RP)(hT:jg t T)=>QH hT);clear h hn hm hf hfc hB hzz;generalize qq t=U at*;generalize yc z U=T at*;generalize t.ds.length=nd at*;generalize t.ks.length=nk at*;generalize ds.length=dl at*;generalize t.lv=lv at*;generalize t.ng=ng at*;go_enter Tryz.func62,Tryz.ntmps62
 go_wp2_with fail
 obtain⟨hb0,k0,k1,k2,hs⟩:=HX.out;generalize ((w.alloc (.cells #[.int .i64 lv,.bool ng,.slice A nd c,.slice K nk kc] 28)).alloc (.cells #[.bool g,.slice D dl cd] 25)).alloc (.cells #[.int .i64 0,.bool false,.slice none 0 0,.slice none 0 0] 28)=W at*;have HB0:=Lib.hid hb0;have KF:=Lib.hid (fun(V:World)(hV:Below W.heap.size W V)=>(⟨(k0.old hV).cell 0,(k0.old hV).cell 1,(k0.old hV).cell 2,(k0.old hV).cell 3,(k1.old hV).cell 0,(k1.old hV).cell 1⟩:
  V.cell? ⟨w.heap.size,0,none⟩=some (.int .i64 lv)∧V.cell? ⟨w.heap.size,1,none⟩=some (.bool ng)∧V.cell? ⟨w.heap.size,2,none⟩=some (.slice A nd c)∧V.cell? ⟨w.heap.size,3,none⟩=some (.slice K nk kc)∧V.cell? ⟨w.heap.size+1,0,none⟩=some (.bool g)∧V.cell? ⟨w.heap.size+1,1,none⟩=some (.slice D dl cd)))
 have KS:=Lib.hid (fun(V:World)(hV:Below W.heap.size W V)(x0 x1 x2 x3:Value)=>(⟨((k0.old hV).set4_far (Nat.ne_of_lt (by omega)) 0 x0 x1 x2 x3).cell 0,((k0.old hV).set4_far (Nat.ne_of_lt (by omega)) 0 x0 x1 x2 x3).cell 1,((k0.old hV).set4_far (Nat.ne_of_lt (by omega)) 0 x0 x1 x2 x3).cell 2,((k0.old hV).set4_far (Nat.ne_of_lt (by omega)) 0 x0 x1 x2 x3).cell 3,((k1.old hV).set4_far (Nat.ne_of_lt (by omega)) 0 x0 x1 x2 x3).cell 0,((k1.old hV).set4_far (Nat.ne_of_lt (by omega)) 0 x0 x1 x2 x3).cell 1⟩:
  ((((V.setCell ⟨w.heap.size+1+1,0,none⟩ x0).setCell ⟨w.heap.size+1+1,1,none⟩ x1).setCell ⟨w.heap.size+1+1,2,none⟩ x2).setCell ⟨w.heap.size+1+1,3,none⟩ x3).cell? ⟨w.heap.size,0,none⟩=some (.int .i64 lv)∧((((V.setCell ⟨w.heap.size+1+1,0,none⟩ x0).setCell ⟨w.heap.size+1+1,1,none⟩ x1).setCell ⟨w.heap.size+1+1,2,none⟩ x2).setCell ⟨w.heap.size+1+1,3,none⟩ x3).cell? ⟨w.heap.size,1,none⟩=some (.bool ng)∧((((V.setCell ⟨w.heap.size+1+1,0,none⟩ x0).setCell ⟨w.heap.size+1+1,1,none⟩ x1).setCell ⟨w.heap.size+1+1,2,none⟩ x2).setCell ⟨w.heap.size+1+1,3,none⟩ x3).cell? ⟨w.heap.size,2,none⟩=some (.slice A nd c)∧((((V.setCell ⟨w.heap.size+1+1,0,none⟩ x0).setCell ⟨w.heap.size+1+1,1,none⟩ x1).setCell ⟨w.heap.size+1+1,2,none⟩ x2).setCell ⟨w.heap.size+1+1,3,none⟩ x3).cell? ⟨w.heap.size,3,none⟩=some (.slice K nk kc)∧((((V.setCell ⟨w.heap.size+1+1,0,none⟩ x0).setCell ⟨w.heap.size+1+1,1,none⟩ x1).setCell ⟨w.heap.size+1+1,2,none⟩ x2).setCell ⟨w.heap.size+1+1,3,none⟩ x3).cell? ⟨w.heap.size+1,0,none⟩=some (.bool g)∧((((V.setCell ⟨w.heap.size+1+1,0,none⟩ x0).setCell ⟨w.heap.size+1+1,1,none⟩ x1).setCell ⟨w.heap.size+1+1,2,none⟩ x2).setCell ⟨w.heap.size+1+1,3,none⟩ x3).cell? ⟨w.heap.size+1,1,none⟩=some (.slice D dl cd)))
 have KR:=Lib.hid (fun(V:World)(hV:Below W.heap.size W V)=>(⟨(k2.old hV).cell 0,(k2.old hV).cell 1,(k2.old hV).cell 2,(k2.old hV).cell 3,(k2.old hV).frozen 0,(k2.old hV).frozen 1,(k2.old hV).frozen 2,(k2.old hV).frozen 3,(k2.old hV).lt⟩:
  V.cell? ⟨w.heap.size+1+1,0,none⟩=some (.int .i64 0)∧V.cell? ⟨w.heap.size+1+1,1,none⟩=some (.bool false)∧V.cell? ⟨w.heap.size+1+1,2,none⟩=some (.slice none 0 0)∧V.cell? ⟨w.heap.size+1+1,3,none⟩=some (.slice none 0 0)∧V.frozen? ⟨w.heap.size+1+1,0,none⟩=false∧V.frozen? ⟨w.heap.size+1+1,1,none⟩=false∧V.frozen? ⟨w.heap.size+1+1,2,none⟩=false∧V.frozen? ⟨w.heap.size+1+1,3,none⟩=false∧w.heap.size+1+1<V.heap.size))
 have HRB:=Lib.hid k2;have hb:Below W.heap.size W W.drew:=(qm.drew _).below _;have hbz:Below W.heap.size W W:=Below.refl _ _;have HCA2:=Lib.hid (fun(V:World)(hV:Below W.heap.size W V)=>HCA.out V (HB0.out.trans (hV.mono HB0.out.size)));have HSC2:=Lib.hid (fun(V:World)(hV:Below W.heap.size W V)=>HSC.out V (HB0.out.trans (hV.mono HB0.out.size)));clear HX HCA HSC hb0 k0 k1 k2 hs;go_region_held3 (fun w'=>w'.cell? ⟨w.heap.size,0,none⟩=some (.int .i64 lv)∧w'.cell? ⟨w.heap.size,1,none⟩=some (.bool ng)∧w'.cell? ⟨w.heap.size,2,none⟩=some (.slice A nd c)∧w'.cell? ⟨w.heap.size,3,none⟩=some (.slice K nk kc)∧w'.cell? ⟨w.heap.size+1,0,none⟩=some (.bool g)∧w'.cell? ⟨w.heap.size+1,1,none⟩=some (.slice D dl cd))
  (first|(with_reducible exact KF.out _ hb)|(with_reducible exact KF.out _ hbz)|(with_reducible exact KS.out _ hb _ _ _ _))
  (first
    |(go_at_call 37;(with_reducible refine(HCA2.out _ hb).mono ?_);rintro e v0 ⟨T1,A1,c1,K1,kc1,hT1,rfl,hr1,_,hk⟩;obtain rfl:=HCE.out T1 hT1;replace hb:=hb.trans (hk.mono hb.size);have hs0:=hb.size)
    |(go_at_call 102;(with_reducible refine(HSC2.out _ hb hT1 A1 c1 K1 kc1 hr1).mono ?_);rintro e v1 ⟨A2,c2,K2,kc2,rfl,hr2,hk⟩;replace hb:=hb.trans (hk.mono hb.size);have hs1:=hb.size)
    |(go_at_call 39;(with_reducible refine(HCP.out T (HMC.out hT1) A2 c2 K2 kc2 _ hr2.rv (HSM.out (RV.digT _ _ hr1))).mono ?_);rintro e v2 ⟨A3,c3,K3,kc3,rfl,hr3,hk⟩;replace hb:=hb.trans (hk.mono hb.size);obtain⟨d0,d1,d2,d3,f0,f1,f2,f3,z0⟩:=KR.out _ hb))
 have k2:=HRB.out.old hb;have hl2:=HRB.out.lt;have HFN:=Lib.hid (jL (w:=w) k2 rfl hr3 (by omega) (by omega) (HB0.out.trans (hb.mono HB0.out.size)));have HT1:=Lib.hid hT1;clear hr3 hr2 hr1 hb hbz KF KS KR HCA2 HSC2 k2 hT1;go_wp2_with fail
 exact qg Tryz.results62 rfl rfl HFN.out.1 Tryz.underlying28 rfl Tryz.sizeRec ⟨HFN.out.2,HT1.out⟩
theorem qdM(dg:Nat)(hdg:dg≤500)(t:RP)(hf:zU dg t)(hfc:yf 1000 (qq t))(A:Option Addr)(c:Nat)(K:Option Addr)(kc B:Nat)(w:World)(hB:B≤w.heap.size)(h:RV w (· <B) t (qc t A c K kc)):
 Calls Tryz.prog 57 #[qn t A c K kc] w fun e w'=>q8 (yc (-1) (qq t)) w e w'∧jg t (qq t):=by
 have HX:=Lib.hid (qK w 28 28 #[.int .i64 t.lv,.bool t.ng,.slice A t.ds.length c,.slice K t.ks.length kc] #[.int .i64 0,.bool false,.slice none 0 0,.slice none 0 0]);have HOF:=Lib.hid (fun(W:World)=>JP (-1) (by omega) (by omega) W);have HSC:=Lib.hid (fun(W:World)(hW:Below w.heap.size w W)(D:Option Addr)(cd:Nat)(h1:(dig (Int.natAbs (-1))).length≤cd)(h2:qk W D (dig (Int.natAbs (-1))))=>qeu dg hdg t hf hfc (-1) (by decide) A c K kc (decide ((-1:Int)<0)) (dig (Int.natAbs (-1))) (q7 (-1)) D cd W.heap.size W (Nat.le_refl _) ((h.below (hW.mono hB)).more (Nat.le_trans hB hW.size)) (qV h2 h1) (by
  have:=qC (v:=Int.natAbs (-1)) (n:=1) (by decide);omega))
 unfold qy at HOF;unfold q8 at HSC;unfold qn at HSC ⊢;clear h hf hfc hB;generalize yc (-1) (qq t)=T at*;generalize (dig (Int.natAbs (-1))).length=dl at*;generalize dig (Int.natAbs (-1))=dd at*;generalize decide ((-1:Int)<0)=g at*;generalize t.ds.length=nd at*;generalize t.ks.length=nk at*;generalize hlv:t.lv=lv at*;generalize hng:t.ng=ng at*;clear hlv hng;go_enter Tryz.func57,Tryz.ntmps57
 go_wp2_with fail
 obtain⟨hb0,k0,k1,hs⟩:=HX.out;generalize (w.alloc (.cells #[.int .i64 lv,.bool ng,.slice A nd c,.slice K nk kc] 28)).alloc (.cells #[.int .i64 0,.bool false,.slice none 0 0,.slice none 0 0] 28)=W at*;have HB0:=Lib.hid hb0;have KF:=Lib.hid (fun(V:World)(hV:Below W.heap.size W V)=>(⟨(k0.old hV).cell 0,(k0.old hV).cell 1,(k0.old hV).cell 2,(k0.old hV).cell 3⟩:
  V.cell? ⟨w.heap.size,0,none⟩=some (.int .i64 lv)∧V.cell? ⟨w.heap.size,1,none⟩=some (.bool ng)∧V.cell? ⟨w.heap.size,2,none⟩=some (.slice A nd c)∧V.cell? ⟨w.heap.size,3,none⟩=some (.slice K nk kc)))
 have KS:=Lib.hid (fun(V:World)(hV:Below W.heap.size W V)(x0 x1 x2 x3:Value)=>(⟨((k0.old hV).set4_far (Nat.ne_of_lt (by omega)) 0 x0 x1 x2 x3).cell 0,((k0.old hV).set4_far (Nat.ne_of_lt (by omega)) 0 x0 x1 x2 x3).cell 1,((k0.old hV).set4_far (Nat.ne_of_lt (by omega)) 0 x0 x1 x2 x3).cell 2,((k0.old hV).set4_far (Nat.ne_of_lt (by omega)) 0 x0 x1 x2 x3).cell 3⟩:
  ((((V.setCell ⟨w.heap.size+1,0,none⟩ x0).setCell ⟨w.heap.size+1,1,none⟩ x1).setCell ⟨w.heap.size+1,2,none⟩ x2).setCell ⟨w.heap.size+1,3,none⟩ x3).cell? ⟨w.heap.size,0,none⟩=some (.int .i64 lv)∧((((V.setCell ⟨w.heap.size+1,0,none⟩ x0).setCell ⟨w.heap.size+1,1,none⟩ x1).setCell ⟨w.heap.size+1,2,none⟩ x2).setCell ⟨w.heap.size+1,3,none⟩ x3).cell? ⟨w.heap.size,1,none⟩=some (.bool ng)∧((((V.setCell ⟨w.heap.size+1,0,none⟩ x0).setCell ⟨w.heap.size+1,1,none⟩ x1).setCell ⟨w.heap.size+1,2,none⟩ x2).setCell ⟨w.heap.size+1,3,none⟩ x3).cell? ⟨w.heap.size,2,none⟩=some (.slice A nd c)∧((((V.setCell ⟨w.heap.size+1,0,none⟩ x0).setCell ⟨w.heap.size+1,1,none⟩ x1).setCell ⟨w.heap.size+1,2,none⟩ x2).setCell ⟨w.heap.size+1,3,none⟩ x3).cell? ⟨w.heap.size,3,none⟩=some (.slice K nk kc)))
 have KR:=Lib.hid (fun(V:World)(hV:Below W.heap.size W V)=>(⟨(k1.old hV).cell 0,(k1.old hV).cell 1,(k1.old hV).cell 2,(k1.old hV).cell 3,(k1.old hV).frozen 0,(k1.old hV).frozen 1,(k1.old hV).frozen 2,(k1.old hV).frozen 3,(k1.old hV).lt⟩:
  V.cell? ⟨w.heap.size+1,0,none⟩=some (.int .i64 0)∧V.cell? ⟨w.heap.size+1,1,none⟩=some (.bool false)∧V.cell? ⟨w.heap.size+1,2,none⟩=some (.slice none 0 0)∧V.cell? ⟨w.heap.size+1,3,none⟩=some (.slice none 0 0)∧V.frozen? ⟨w.heap.size+1,0,none⟩=false∧V.frozen? ⟨w.heap.size+1,1,none⟩=false∧V.frozen? ⟨w.heap.size+1,2,none⟩=false∧V.frozen? ⟨w.heap.size+1,3,none⟩=false∧w.heap.size+1<V.heap.size))
 have HRB:=Lib.hid k1;have hb:Below W.heap.size W W.drew:=(qm.drew _).below _;have hbz:Below W.heap.size W W:=Below.refl _ _;have HSC2:=Lib.hid (fun(V:World)(hV:Below W.heap.size W V)=>HSC.out V (HB0.out.trans (hV.mono HB0.out.size)));clear HX HSC hb0 k0 k1 hs;go_region_held3 (fun w'=>w'.cell? ⟨w.heap.size,0,none⟩=some (.int .i64 lv)∧w'.cell? ⟨w.heap.size,1,none⟩=some (.bool ng)∧w'.cell? ⟨w.heap.size,2,none⟩=some (.slice A nd c)∧w'.cell? ⟨w.heap.size,3,none⟩=some (.slice K nk kc))
  (first|(with_reducible exact KF.out _ hb)|(with_reducible exact KF.out _ hbz)|(with_reducible exact KS.out _ hb _ _ _ _))
  (first
    |(go_at_call 35;(with_reducible refine(HOF.out _).mono ?_);rintro e v0 ⟨A1,c1,rfl,l1,n1,hk⟩;replace hb:=hb.trans (hk.mono hb.size);have hs0:=hb.size)
    |(go_at_call 62;(with_reducible refine(HSC2.out _ hb A1 c1 l1 n1).mono ?_);rintro e v1 ⟨⟨A2,c2,K2,kc2,rfl,hr2,hk⟩,hct⟩;replace hb:=hb.trans (hk.mono hb.size);obtain⟨d0,d1,d2,d3,f0,f1,f2,f3,z0⟩:=KR.out _ hb))
 have k2:=HRB.out.old hb;have hl2:=HRB.out.lt;have HFN:=Lib.hid (jL (w:=w) k2 rfl hr2 (by omega) (by omega) (HB0.out.trans (hb.mono HB0.out.size)));have HT1:=Lib.hid hct;clear hr2 l1 n1 hb hbz KF KS KR HSC2 k2 hct;go_wp2_with fail
 exact qg Tryz.results57 rfl rfl HFN.out.1 Tryz.underlying28 rfl Tryz.sizeRec ⟨HFN.out.2,HT1.out⟩
def jf(ts:List RP):Nat→Nat
 |0=>0
 |n+1=>if qW (ts.getD n qa)=true then jf ts n else n+1
def jD(l:Int)(ts:List RP):RP:=
 if jf ts ts.length=0 then qa else if jf ts ts.length=1 then ts.getD 0 qa else .mk l false [] (ts.take (jf ts ts.length))
theorem JA(ts:List RP):∀n,jf ts n≤n
 |0=>Nat.le_refl _
 |n+1=>by
  rw[jf]
  split
  ·have:=JA ts n;omega
  ·exact Nat.le_refl _
theorem Z5(ts:List RP):∀n j,jf ts n≤j→j<n→qW (ts.getD j qa)=true
 |0,j,_,h=>by omega
 |n+1,j,h,hj=>by
  rw[jf]at h
  split at h
  ·rename_i hz;by_cases e:j=n
   ·rw[e];exact hz
   ·exact Z5 ts n j h (by omega)
  ·omega
theorem ZO(ts:List RP):∀n,0<jf ts n→qW (ts.getD (jf ts n-1) qa)=false
 |0,h=>by simp[jf]at h
 |n+1,h=>by
  rw[jf]at h ⊢
  split
  ·rename_i hz;rw[if_pos hz]at h;exact ZO ts n h
  ·rename_i hz;simpa using hz
theorem yt{α:Type}{l:List α}{i:Nat}{d:α}(h:i<l.length):l.getD i d∈l:=by
 rw[List.getD_eq_getElem?_getD,List.getElem?_eq_getElem h];exact List.getElem_mem h
theorem qbD{l:Int}(h1:1≤l)(h4:l≤4){ts:List RP}(h:∀u∈ts,u.lv<l∧qj u=true):qj (jD l ts)=true∧(jD l ts).lv≤l:=by
 unfold jD;have hle:=JA ts ts.length
 split
 ·exact⟨by decide,by show(0:Int)≤l;omega⟩
 ·split
  ·have hm:=yt (d:=qa) (show 0<ts.length by omega);exact⟨(h _ hm).2,by have:=(h _ hm).1;omega⟩
  ·rename_i n0 n1;have hlen:(ts.take (jf ts ts.length)).length=jf ts ts.length:=by rw[List.length_take];omega
   have hl:=ZO ts ts.length (by omega);refine⟨qbr h1 h4 (by omega) (fun u hu=>h u (List.mem_of_mem_take hu)) (u:=ts.getD (jf ts ts.length-1) qa) ?_ hl,Int.le_refl _⟩;rw[hlen,List.getElem?_take,if_pos (by omega),List.getD_eq_getElem?_getD,List.getElem?_eq_getElem (by omega)];rfl
theorem qd1{d n:Nat}{l:Int}{ts:List RP}(hn:ts.length≤n)(h:∀u∈ts,qM d n u):qM d n (jD l ts):=by
 unfold jD;have hle:=JA ts ts.length
 split
 ·exact qM.zero _ _
 ·split
  ·exact h _ (yt (by omega))
  ·exact qM.mk (Nat.zero_le _) (by rw[List.length_take];omega) fun u hu=>h u (List.mem_of_mem_take hu)
theorem qc0{k:Int}(hk:0<k){l:Int}(hl:l≠k){ts:List RP}(h:∀u∈ts,yI k u=false):yI k (jD l ts)=false:=by
 unfold jD;have hle:=JA ts ts.length
 split
 ·exact yW hk
 ·split
  ·exact h _ (yt (by omega))
  ·rw[qS];exact⟨hl,fun u hu=>h u (List.mem_of_mem_take hu)⟩
theorem qG.mk{l:Int}{g:Bool}{ds:List Nat}{ks:List RP}(h1:qP ds)(h2:∀u∈ks,qG u):qG (.mk l g ds ks):=by
 simp only[qG];exact⟨h1,yX.mem.2 h2⟩
theorem qG.zero:qG qa:=qG.mk (by simp[qP]) (by simp)
theorem qbC{l:Int}{ts:List RP}(h:∀u∈ts,qG u):qG (jD l ts):=by
 unfold jD;have hle:=JA ts ts.length
 split
 ·exact qG.zero
 ·split
  ·exact h _ (yt (by omega))
  ·exact qG.mk (by simp[qP]) fun u hu=>h u (List.mem_of_mem_take hu)
theorem qcb(pt:Nat→Rat)(x:Rat):∀(ts:List RP)(n:Nat),(∀j,n≤j→j<ts.length→vT pt (ts.getD j qa)=0)→vL pt x (ts.take n)=vL pt x ts
 |[],n,_=>by simp
 |t::ts,0,h=>by
  have h0:=h 0 (Nat.le_refl _) (by simp);have ih:=qcb pt x ts 0 fun j _ hj=>h (j+1) (Nat.zero_le _) (by simpa using hj);rw[List.take_zero]at ih ⊢;simp only[vL]at ih ⊢;rw[←ih,show vT pt t=0 from h0]
  grind
 |t::ts,n+1,h=>by
  rw[List.take_succ_cons];simp only[vL];rw[qcb pt x ts n fun j hn hj=>h (j+1) (by omega) (by simpa using hj)]
theorem qa7{l:Int}(h1:1≤l)(h4:l≤4){ts:List RP}(h:∀u∈ts,qj u=true)(pt:Nat→Rat):vT pt (jD l ts)=vL pt (pt (l.toNat-1)) ts:=by
 have hle:=JA ts ts.length;have hz:∀j,jf ts ts.length≤j→j<ts.length→vT pt (ts.getD j qa)=0:=fun j hj hl=>by
  have h2:=Z5 ts ts.length j hj hl;rw[JO (h _ (yt hl)) h2,yn]
 have ht:=qcb pt (pt (l.toNat-1)) ts (jf ts ts.length) hz;rw[←ht];unfold jD
 split
 ·rename_i h0;rw[h0,List.take_zero,yn,vL]
 ·split
  ·rename_i n0 n1;rw[n1]
   cases ts with
   |nil=>simp[jf]at n1
   |cons t ts=>
    simp only[List.take_succ_cons,List.take_zero,vL];show vT pt t=_
    grind
  ·rw[vT,if_neg (by omega),if_neg (by omega)]
def yL(s:Int×Nat)(p:RP):Int×Nat:=
 if s.1<p.lv then(p.lv,max 0 p.ks.length)else if p.lv=s.1 then(s.1,max s.2 p.ks.length)else s
def jP(ts:List RP):Int×Nat:=ts.foldl yL (0,0)
theorem JB:∀(ts:List RP)(s:Int×Nat),(ts.foldl yL s).1≥s.1∧(∀p∈ts,p.lv≤(ts.foldl yL s).1)∧(∀p∈ts,p.lv=(ts.foldl yL s).1→p.ks.length≤(ts.foldl yL s).2)∧((ts.foldl yL s).1=s.1→s.2≤(ts.foldl yL s).2)∧
 ((ts.foldl yL s).1=s.1∨∃p∈ts,p.lv=(ts.foldl yL s).1)∧(∀n,s.2≤n→(∀p∈ts,p.ks.length≤n)→(ts.foldl yL s).2≤n)
 |[],s=>by simp
 |p::ts,s=>by
  obtain⟨a,b,c,d,e,f⟩:=JB ts (yL s p);simp only[List.foldl_cons];generalize List.foldl yL (yL s p) ts=r at*;have h1:s.1≤(yL s p).1∧p.lv≤(yL s p).1∧((yL s p).1=s.1→s.2≤(yL s p).2)∧(p.lv=(yL s p).1→p.ks.length≤(yL s p).2)∧((yL s p).1=s.1∨(yL s p).1=p.lv)∧(yL s p).2≤max s.2 p.ks.length:=by
   unfold yL
   split
   ·refine⟨by simp only;omega,Int.le_refl _,fun h=>by simp only at h;omega,fun _=>Nat.le_max_right _ _,.inr rfl,by simp only;omega⟩
   ·split
    ·refine⟨Int.le_refl _,by simp only;omega,fun _=>Nat.le_max_left _ _,fun _=>Nat.le_max_right _ _,.inl rfl,Nat.le_refl _⟩
    ·refine⟨Int.le_refl _,by omega,fun _=>Nat.le_refl _,fun h=>by omega,.inl rfl,Nat.le_max_left _ _⟩
  obtain⟨a1,b1,c1,d1,e1,f1⟩:=h1;refine⟨by omega,fun q hq=>?_,fun q hq hl=>?_,fun h=>?_,?_,fun n hn hp=>?_⟩
  ·rcases List.mem_cons.1 hq with rfl|hq
   ·omega
   ·exact b q hq
  ·rcases List.mem_cons.1 hq with rfl|hq
   ·have:r.1=(yL s q).1:=by omega
    have h2:=d this;have h3:=d1 (by omega);omega
   ·exact c q hq hl
  ·have:r.1=(yL s p).1:=by omega
   have h2:=d this;have h3:=c1 (by omega);omega
  ·rcases e with e|⟨q,hq,e⟩
   ·rcases e1 with e1|e1
    ·exact .inl (by omega)
    ·exact .inr ⟨p,List.mem_cons_self,by omega⟩
   ·exact .inr ⟨q,List.mem_cons_of_mem _ hq,e⟩
  ·have h2:=hp p List.mem_cons_self;exact f n (by omega) fun q hq=>hp q (List.mem_cons_of_mem _ hq)
theorem qkO(ts:List RP):0≤(jP ts).1:=(JB ts (0,0)).1
theorem qeJ{ts:List RP}{p:RP}(h:p∈ts):p.lv≤(jP ts).1:=(JB ts (0,0)).2.1 p h
theorem qhk{ts:List RP}{p:RP}(h:p∈ts)(hl:p.lv=(jP ts).1):p.ks.length≤(jP ts).2:=(JB ts (0,0)).2.2.1 p h hl
theorem QI(ts:List RP):(jP ts).1=0∨∃p∈ts,p.lv=(jP ts).1:=(JB ts (0,0)).2.2.2.2.1
theorem qhM{ts:List RP}{n:Nat}(h:∀p∈ts,p.ks.length≤n):(jP ts).2≤n:=(JB ts (0,0)).2.2.2.2.2 n (Nat.zero_le _) h
theorem qdA{ts:List RP}{j:Nat}{u:RP}(h:ts[j]? =some u):jP (ts.take (j+1))=yL (jP (ts.take j)) u:=by
 obtain⟨hj,rfl⟩:=List.getElem?_eq_some_iff.1 h;unfold jP;rw[List.take_succ_eq_append_getElem hj,List.foldl_append];rfl
def yM(l:Int)(i:Nat)(p:RP):Option RP:=if p.lv=l∧i<p.ks.length then p.ks[i]? else if p.lv<l∧i=0 then some p else none
def jm(l:Int)(i:Nat)(ts:List RP):List RP:=ts.filterMap (yM l i)
def Yu(ts:List RP):Int:=match ts with|[]=>0|t::ts=>qb t.ng t.ds+Yu ts
def yo:Nat→List RP→RP
 |0,_=>qa
 |D+1,ts=>if(jP ts).1=0 then ju (Yu ts)else jD (jP ts).1 ((List.range (jP ts).2).map fun i=>yo D (jm (jP ts).1 i ts))
def Zy(pt:Nat→Rat)(ts:List RP):Rat:=match ts with|[]=>0|t::ts=>vT pt t+Zy pt ts
theorem Jq{l:Int}{i:Nat}{ts:List RP}{u:RP}(h:u∈jm l i ts):∃p∈ts,(p.lv=l∧u∈p.ks)∨(p.lv<l∧u=p):=by
 obtain⟨p,hp,he⟩:=List.mem_filterMap.1 h;refine⟨p,hp,?_⟩;unfold yM at he
 split at he
 ·rename_i hc;exact .inl ⟨hc.1,List.mem_of_getElem? he⟩
 ·split at he
  ·rename_i hc
   injection he with he
   exact .inr ⟨hc.1,he.symm⟩
  ·cases he
theorem YX(l:Int)(i:Nat)(ts:List RP):(jm l i ts).length≤ts.length:=List.length_filterMap_le _ _
def Jc(D:Nat)(ts:List RP):Prop:=∀t∈ts,qj t=true∧t.lv<(D:Int)
theorem Jc.part{D:Nat}{ts:List RP}(h:Jc (D+1) ts)(i:Nat):Jc D (jm (jP ts).1 i ts):=fun u hu=>by
 obtain⟨p,hp,hq⟩:=Jq hu;have h1:=h p hp;rcases hq with⟨a,b⟩|⟨a,rfl⟩
 ·rcases qr h1.1 with⟨_,k,_⟩|⟨_,_,_,_,_,c,_⟩
  ·rw[k]at b;cases b
  ·exact⟨(c u b).2,by have:=(c u b).1;omega⟩
 ·refine⟨h1.1,?_⟩;rcases QI ts with e|⟨q,hq,e⟩
  ·have:=(jK h1.1).1;omega
  ·have:=(h q hq).2;omega
theorem Jc.partlv{D:Nat}{ts:List RP}(h:Jc (D+1) ts){i:Nat}{u:RP}(hu:u∈jm (jP ts).1 i ts):u.lv<(jP ts).1:=by
 obtain⟨p,hp,hq⟩:=Jq hu;rcases hq with⟨a,b⟩|⟨a,rfl⟩
 ·rcases qr (h p hp).1 with⟨_,k,_⟩|⟨_,_,_,_,_,c,_⟩
  ·rw[k]at b;cases b
  ·have:=(c u b).1;omega
 ·exact a
theorem Z3:∀(D:Nat)(ts:List RP),Jc D ts→qj (yo D ts)=true∧∀L:Int,0≤L→(∀t∈ts,t.lv≤L)→(yo D ts).lv≤L
 |0,ts,_=>⟨show qj qa=true by decide,fun L hL _=>hL⟩
 |D+1,ts,h=>by
  rw[yo]
  split
  ·exact⟨qdF _,fun L hL _=>hL⟩
  ·rename_i h0;have hl0:=qkO ts;have hl4:(jP ts).1≤4:=by
    rcases QI ts with e|⟨q,hq,e⟩
    ·omega
    ·have:=(jK (h q hq).1).2;omega
   have hk:∀u∈(List.range (jP ts).2).map fun i=>yo D (jm (jP ts).1 i ts),u.lv<(jP ts).1∧qj u=true:=fun u hu=>by
    obtain⟨i,_,rfl⟩:=List.mem_map.1 hu;obtain⟨k1,k2⟩:=Z3 D _ (h.part i);refine⟨?_,k1⟩;have:=k2 ((jP ts).1-1) (by omega) fun t ht=>by have:=h.partlv ht;omega
    omega
   obtain⟨k1,k2⟩:=qbD (by omega) hl4 hk;refine⟨k1,fun L hL hts=>Int.le_trans k2 ?_⟩;rcases QI ts with e|⟨q,hq,e⟩
   ·omega
   ·have:=hts q hq;omega
theorem qdR(pt:Nat→Rat):∀(ts:List RP),(∀t∈ts,t.lv≤0)→Zy pt ts=((Yu ts:Int):Rat)
 |[],_=>rfl
 |t::ts,h=>by
  rw[Zy,Yu,qdR pt ts fun u hu=>h u (List.mem_cons_of_mem _ hu),zI,if_pos (h t List.mem_cons_self),Rat.intCast_add]
theorem qa9{l:Int}(h1:1≤l)(h4:l≤4){s:Nat}(hs:0<s)(pt:Nat→Rat):∀(ts:List RP),(∀p∈ts,qj p=true∧p.lv≤l∧(p.lv=l→p.ks.length≤s))→
 Zy pt ts=sY (pt (l.toNat-1)) (fun i=>Zy pt (jm l i ts)) s
 |[],_=>by
  exact((jN (g:=fun _=>0) (pt (l.toNat-1)) s (fun i _=>rfl)).trans (Ql _ s)).symm
 |p::ts,h=>by
  obtain⟨hc,hl,hk⟩:=h p List.mem_cons_self;have ih:=qa9 h1 h4 hs pt ts fun q hq=>h q (List.mem_cons_of_mem _ hq);rw[Zy,ih];have hp:vT pt p=sY (pt (l.toNat-1)) (fun i=>match yM l i p with|some u=>vT pt u|none=>0) s:=by
   by_cases e:p.lv=l
   ·rw[zI,if_neg (by omega),if_neg (by omega),e,qfW pt _ p.ks s (hk e)];refine jN _ _ fun i _=>?_;unfold yM;by_cases hi:i<p.ks.length
    ·rw[if_pos ⟨e,hi⟩,List.getElem?_eq_getElem hi,List.getD_eq_getElem?_getD,List.getElem?_eq_getElem hi];rfl
    ·rw[if_neg (by omega),if_neg (by omega),List.getD_eq_getElem?_getD,List.getElem?_eq_none (by omega)];exact yn pt
   ·obtain⟨m,rfl⟩:∃m,s=m+1:=⟨s-1,by omega⟩;rw[J0,jN (g:=fun _=>0) _ m (fun i _=>?_),Ql]
    ·unfold yM;rw[if_neg (by omega),if_pos ⟨by omega,rfl⟩]
     grind
    ·unfold yM;rw[if_neg (by omega),if_neg (by omega)]
  rw[hp];have ha:=qeq (pt (l.toNat-1)) 1 (fun i=>match yM l i p with|some u=>vT pt u|none=>0) (fun i=>Zy pt (jm l i ts)) s;rw[Rat.one_mul]at ha;rw[←ha];refine jN _ _ fun i _=>?_;unfold jm;rw[List.filterMap_cons]
  cases yM l i p with
  |none=>grind
  |some u=>
   simp only[Zy]
   grind
theorem qee(pt:Nat→Rat):∀(D:Nat)(ts:List RP),Jc D ts→vT pt (yo D ts)=Zy pt ts
 |0,ts,h=>by
  have:ts=[]:=by
   cases ts with
   |nil=>rfl
   |cons t ts=>have:=h t List.mem_cons_self;have:=(jK this.1).1;omega
  subst this;rw[yo,yn];rfl
 |D+1,ts,h=>by
  rw[yo];have hl0:=qkO ts
  split
  ·rename_i h0;rw[qha,qdR pt ts fun t ht=>by have:=qeJ ht;omega]
  ·rename_i h0;have hl4:(jP ts).1≤4:=by
    rcases QI ts with e|⟨q,hq,e⟩
    ·omega
    ·have:=(jK (h q hq).1).2;omega
   have hs:0<(jP ts).2:=by
    rcases QI ts with e|⟨q,hq,e⟩
    ·omega
    ·have h2:=qhk hq e;rcases qr (h q hq).1 with⟨a,_⟩|⟨_,_,_,_,c,_⟩<;>omega
   rw[qa7 (by omega) hl4 (fun u hu=>by
    obtain⟨i,_,rfl⟩:=List.mem_map.1 hu;exact(Z3 D _ (h.part i)).1) pt,qa9 (by omega) hl4 hs pt ts (fun p hp=>⟨(h p hp).1,qeJ hp,qhk hp⟩),qfW pt _ _ (jP ts).2 (by simp)]
   refine jN _ _ fun i hi=>?_;rw[List.getD_eq_getElem?_getD,List.getElem?_map,List.getElem?_range hi];exact qee pt D _ (h.part i)
theorem qe5{d n:Nat}:∀(ts:List RP),(∀t∈ts,qM d n t∧qG t)→(Yu ts).natAbs≤ts.length*4294967296^d
 |[],_=>by simp[Yu]
 |t::ts,h=>by
  have h1:=h t List.mem_cons_self;have h2:=qe5 (d:=d) (n:=n) ts fun u hu=>h u (List.mem_cons_of_mem _ hu);have h3:=Nat.lt_of_lt_of_le (qT h1.2.at_.1) (Nat.pow_le_pow_right (n:=4294967296) (by decide) h1.1.at_.1);have h4:=Int.natAbs_add_le (qb t.ng t.ds) (Yu ts);rw[qz]at h4;rw[Yu,List.length_cons,Nat.succ_mul];generalize 4294967296^d=B at*;generalize ts.length*B=C at*;omega
theorem qe4{d n:Nat}:∀(D:Nat)(ts:List RP),ts.length<4294967296→(∀t∈ts,qM d n t∧qG t)→qM (d+1) n (yo D ts)
 |0,_,_,_=>qM.zero _ _
 |D+1,ts,hl,h=>by
  rw[yo]
  split
  ·refine qM.mk ?_ (Nat.zero_le _) (by simp);refine qC ?_;refine Nat.lt_of_le_of_lt (qe5 (n:=n) ts h) ?_;rw[Nat.pow_succ,Nat.mul_comm];exact Nat.mul_lt_mul_of_pos_left hl (Nat.pow_pos (by decide))
  ·refine qd1 (by rw[List.length_map,List.length_range];exact qhM fun p hp=>(h p hp).1.at_.2.1) fun u hu=>?_;obtain⟨i,_,rfl⟩:=List.mem_map.1 hu;refine qe4 D _ (Nat.lt_of_le_of_lt (YX _ _ _) hl) fun t ht=>?_;obtain⟨p,hp,hq⟩:=Jq ht;rcases hq with⟨_,b⟩|⟨_,rfl⟩
   ·exact⟨(h p hp).1.at_.2.2 t b,(h p hp).2.at_.2 t b⟩
   ·exact h _ hp
theorem qG.cst(z:Int):qG (ju z):=qG.mk (qu _) (by simp)
theorem qed:∀(D:Nat)(ts:List RP),qG (yo D ts)
 |0,_=>qG.zero
 |D+1,ts=>by
  rw[yo]
  split
  ·exact qG.cst _
  ·refine qbC fun u hu=>?_;obtain⟨i,_,rfl⟩:=List.mem_map.1 hu;exact qed D _
theorem qfT{k:Int}(hk:0<k):∀(D:Nat)(ts:List RP),(∀t∈ts,yI k t=false)→yI k (yo D ts)=false
 |0,_,_=>yW hk
 |D+1,ts,h=>by
  rw[yo]
  split
  ·rw[qS];exact⟨by show(0:Int)≠k;omega,by simp[ju,RP.ks]⟩
  ·rename_i h0;refine qc0 hk ?_ fun u hu=>?_
   ·rcases QI ts with e|⟨q,hq,e⟩
    ·omega
    ·rw[←e];exact(qS.1 (h q hq)).1
   ·obtain⟨i,_,rfl⟩:=List.mem_map.1 hu;refine qfT hk D _ fun t ht=>?_;obtain⟨p,hp,hq⟩:=Jq ht;rcases hq with⟨_,b⟩|⟨_,rfl⟩
    ·exact(qS.1 (h p hp)).2 t b
    ·exact h _ hp
theorem YA(z:Int):∀(t:RP),qG (yc z t)
 |t=>by
  rw[QL]
  split
  ·exact qG.zero
  ·split
   ·exact qG.cst _
   ·refine qG.mk (by simp[qP]) fun u hu=>?_;obtain⟨x,hx,rfl⟩:=List.mem_map.1 hu;exact YA z x
termination_by t=>qv t
decreasing_by exact qD hx
theorem Jg(z:Int)(t:RP)(hc:qj t=true):qj (yc z t)=true∧(yc z t).lv≤t.lv:=by
 by_cases hz:z=0
 ·subst hz;rw[qj0];exact⟨by decide,(jK hc).1⟩
 ·obtain⟨a,b,_⟩:=qaI hz t hc;exact⟨a,by omega⟩
