import Derived.Test.YtflikmojaidhhaaGreatDoorPq30
import Derived.Test.YtflikmojaidhhaaGreatDoorPqA
namespace Go.Proofs.YtflikmojaidhhaaGreatDoor
open Go.RowKit
theorem Zq.v{k:Int}{d n:Nat}{w w':World}{e:Ending}(h:Zq k d n w e w'):∃v:Qz,Vp k d n v.T/\e= .returned (.agg #[.int .i64 v.T.lv,.bool v.T.ng,.slice v.A v.T.ds.length v.c,.slice v.K v.T.ks.length v.kc])/\RB w' w.heap.size v.T (qe v.T v.A v.c v.K v.kc)/\Below w.heap.size w w':=by
 obtain⟨T,A,c,K,kc,h1,h2,h3,h4⟩:=h;exact⟨⟨T,A,c,K,kc⟩,h1,h2,h3,h4⟩
structure Q3 (k:Int) (W V:World) (gs:List Nat) (vs:List Qz):Prop where
 bel:Below W.heap.size W V
 box:∀g∈gs,qf V g 28 #[.int .i64 0,.bool false,.slice none 0 0,.slice none 0 0]/\W.heap.size<=g
 nd:gs.Nodup
 tr:∀v∈vs,Vp k 4 3 v.T/\TG V gs v
theorem Q3.perm{k:Int}{W V:World}{gs gs':List Nat}{vs:List Qz}(h:Q3 k W V gs vs)(hp:gs'.Perm gs):Q3 k W V gs' vs:=
 ⟨h.bel,fun g hg=>h.box g (hp.mem_iff.1 hg),hp.nodup_iff.2 h.nd,fun v hv=>⟨(h.tr v hv).1,(h.tr v hv).2.keep (Kp.sub fun _ hx=>hp.mem_iff.1 hx)⟩⟩
theorem Q3.alloc{k:Int}{W V:World}{gs:List Nat}{vs:List Qz}(h:Q3 k W V gs vs):Q3 k W (V.alloc (.cells #[.int .i64 0,.bool false,.slice none 0 0,.slice none 0 0] 28)) (V.heap.size::gs) vs:=by
 have hb:=Gb V (.cells Gz 28);refine⟨Gt h.bel hb,fun g hg=>?_,List.nodup_cons.2 ⟨fun hg=>?_,h.nd⟩,fun v hv=>⟨(h.tr v hv).1,(h.tr v hv).2.keep (Kp.add hb (Gr _))⟩⟩
 ·rcases List.mem_cons.1 hg with rfl|hg
  ·exact⟨qf.new V 28 _,h.bel.size⟩
  ·exact⟨(h.box g hg).1.old hb,(h.box g hg).2⟩
 ·have:=(h.box _ hg).1.lt;omega
theorem Q3.call{k:Int}{W V V':World}{gs:List Nat}{vs:List Qz}{v:Qz}(h:Q3 k W V gs vs)(hr:RB V' V.heap.size v.T (qe v.T v.A v.c v.K v.kc))(hv:Vp k 4 3 v.T)(hb:Below V.heap.size V V'):Q3 k W V' gs (v::vs):=by
 refine⟨Gt h.bel hb,fun g hg=>⟨(h.box g hg).1.old hb,(h.box g hg).2⟩,h.nd,fun u hu=>?_⟩;rcases List.mem_cons.1 hu with rfl|hu
 ·exact⟨hv,TG.of hr fun _ hx=>⟨(h.box _ hx).1.lt,_,_,by decide,(h.box _ hx).1.old hb⟩⟩
 ·exact⟨(h.tr u hu).1,(h.tr u hu).2.keep (Kp.old hb)⟩
theorem qj4{F:World->Nat->Nat->Nat->Qz->Qz->Qz->Prop}{G:Prop}(I:World->Nat->Nat->Nat->Qz->Qz->Qz->Prop)(h1:(∀V g0 g1 g2 v0 v1 v2,I V g0 g1 g2 v0 v1 v2->F V g0 g1 g2 v0 v1 v2)->G)(h2:∀V g0 g1 g2 v0 v1 v2,I V g0 g1 g2 v0 v1 v2->F V g0 g1 g2 v0 v1 v2):G:=h1 h2
section
variable {x y z:Nat}
theorem pm1:[x,y,z].Perm [z,y,x]:=(List.reverse_perm [z,y,x])
theorem pm2:[x,z,y].Perm [z,y,x]:=((List.Perm.swap z x [y])).trans ((List.Perm.swap y x []).cons z)
theorem pm3:[y,x,z].Perm [z,y,x]:=((List.Perm.swap z x []).cons y).trans (List.Perm.swap z y [x])
theorem pm4:[y,z,x].Perm [z,y,x]:=List.Perm.swap z y [x]
theorem pm5:[z,x,y].Perm [z,y,x]:=(List.Perm.swap y x []).cons z
theorem pm6:[z,y,x].Perm [z,y,x]:=List.Perm.refl _
end
theorem qdM(z:Nat)(hz:z<4294967296)(w:World):Calls Tryz.prog 35 #[.int .i64 (z:Int)] w (fun e w'=>∃D cd,e= .returned (.agg #[.bool false,.slice D (dig z).length cd])/\qx w' w'.heap.size D cd (dig z)/\Below w.heap.size w w'):=by
 refine(Jc z (by omega) (by omega) w).mono ?_;rintro e w' ⟨A,c,rfl,h1,h2,h3⟩;rw[show decide ((z:Int)<0)=false from decide_eq_false (by omega),show(z:Int).natAbs=z from Int.natAbs_natCast z];exact⟨A,c,rfl,yf h2 h1,h3⟩
theorem qjU{F:World->Nat->Qz->Qz->Qz->Prop}{G:Prop}(I:World->Nat->Qz->Qz->Qz->Prop)(h1:(∀V g u v x,I V g u v x->F V g u v x)->G)(h2:∀V g u v x,I V g u v x->F V g u v x):G:=h1 h2
theorem qjX{F:World->Nat->Qz->Qz->Oa->Nat->Qz->Qz->Prop}{G:Prop}(I:World->Nat->Qz->Prop)(h1:(∀V g u v D cd x r,I V g r->F V g u v D cd x r)->G)(h2:∀V g u v D cd x r,I V g r->F V g u v D cd x r):G:=h1 h2
theorem qed(z:Int)(x1 x2 x3 x4 x5 x6:Value)(w:World):(Instr.field 32 (.agg #[.int .i64 z,x1,x2,x3,x4,x5,x6]) 0).run Tryz.prog w= .ok (.int .i64 z) w:=by kernel_rfl
theorem qeb(j:Nat)(hj:j<2):∃z:Int,(z=-1∨z=0∨z=1)/\∀w:World,(Instr.index 76 (.agg #[.int .i64 (-1),.int .i64 1]) (.int .i64 (j:Int))).run Tryz.prog w= .ok (.int .i64 z) w:=by
 obtain rfl|rfl:j=0∨j=1:=by omega
 ·exact⟨-1,by omega,fun w=>by kernel_rfl⟩
 ·exact⟨1,by omega,fun w=>by kernel_rfl⟩
set_option maxHeartbeats 4000000
set_option maxRecDepth 100000
theorem qiW(k:Nat)(hk:k<4)(p:RP)(hp:QB ((k:Int)+1) 3 4 p)(A:Oa)(c:Nat)(K:Oa)(kc:Nat)(w:World)(h:RV w (· <w.heap.size) p (qe p A c K kc)):
 Calls Tryz.prog 19 #[qm p A c K kc,.int .i64 ((k:Int)+1)] w (QuR w):=by
 have Xb:=Gb w (.cells (Gx p A c K kc) 28);have Xd:=Gh Xb;have Xo:=Gh (qf.new w 28 (Gx p A c K kc));have Uc:=Gh (fun(i:Nat)(hi:i<=1000)(V:World)(hb:Below w.heap.size w V)=>qbi hk hp i hi hb.size (h.below hb));have FP:=Gh (Uc 2 (by omega));have Vv:=Gh (Uc 1 (by omega));have Do:=Gh (Uc 0 (by omega));rw[show((2:Nat):Int)=2 from rfl]at FP;rw[show((1:Nat):Int)=1 from rfl]at Vv;rw[show((0:Nat):Int)=0 from rfl]at Do;unfold qm at Do Vv FP ⊢;clear Uc hp h Xb;go_enter Tryz.func19,Tryz.ntmps19
 go_upto_region 1 with(fail)
 generalize w.alloc (.cells (Gx p A c K kc) 28)=W at*;have KF:=Gh (fun(X:World)(hX:Below W.heap.size W X)=>(⟨(Xo.out.old hX).cell 0,(Xo.out.old hX).cell 1,(Xo.out.old hX).cell 2,(Xo.out.old hX).cell 3⟩:Gc X w.heap.size (.int .i64 p.lv) (.bool p.ng) (.slice A p.ds.length c) (.slice K p.ks.length kc)));have hz:Below W.heap.size W W.drew:=(qt.drew _).below _;refine wp_region_held_drew (S:=fun w'=>Gc w' w.heap.size (.int .i64 p.lv) (.bool p.ng) (.slice A p.ds.length c) (.slice K p.ks.length kc)) (by kernel_rfl) (KF _ hz) (fun Xa=>?_);refine tk 0 ?_
 refine tk 1 ?_
 refine tk 3 ?_
 refine tk 4 ?_
 refine tk 6 ?_
 refine tk 7 ?_
 simp only[Act.put,sA,sB,sC];generalize W.drew=V at*;have hq:Q3 ((k:Int)+1) W V [] []:=⟨hz,by simp,by simp,by simp⟩;clear hz;apply qj4 (fun V g5 g6 g7 a b cc=>Q3 ((k:Int)+1) W V [g5,g6,g7] [cc,b,a])
 case h1=>
  intro HJ
  iterate 6
   all_goals first
    |refine rd4 2 9 10 11 (fun P hP=>?_) (fun P hP=>?_) (fun P hP=>?_) (fun P hP=>?_) (by decide+kernel)
    |refine rd3 2 9 10 (fun P hP=>?_) (fun P hP=>?_) (fun P hP=>?_) (by decide+kernel)
    |refine rd3 2 9 11 (fun P hP=>?_) (fun P hP=>?_) (fun P hP=>?_) (by decide+kernel)
    |refine rd3 2 10 11 (fun P hP=>?_) (fun P hP=>?_) (fun P hP=>?_) (by decide+kernel)
    |refine rd2 2 9 (fun P hP=>?_) (fun P hP=>?_) (by decide+kernel)
    |refine rd2 2 10 (fun P hP=>?_) (fun P hP=>?_) (by decide+kernel)
    |refine rd2 2 11 (fun P hP=>?_) (fun P hP=>?_) (by decide+kernel)
    |refine rd1 2 (fun P hP=>?_) (by decide+kernel)
    |refine rd4 5 9 10 11 (fun P hP=>?_) (fun P hP=>?_) (fun P hP=>?_) (fun P hP=>?_) (by decide+kernel)
    |refine rd3 5 9 10 (fun P hP=>?_) (fun P hP=>?_) (fun P hP=>?_) (by decide+kernel)
    |refine rd3 5 9 11 (fun P hP=>?_) (fun P hP=>?_) (fun P hP=>?_) (by decide+kernel)
    |refine rd3 5 10 11 (fun P hP=>?_) (fun P hP=>?_) (fun P hP=>?_) (by decide+kernel)
    |refine rd2 5 9 (fun P hP=>?_) (fun P hP=>?_) (by decide+kernel)
    |refine rd2 5 10 (fun P hP=>?_) (fun P hP=>?_) (by decide+kernel)
    |refine rd2 5 11 (fun P hP=>?_) (fun P hP=>?_) (by decide+kernel)
    |refine rd1 5 (fun P hP=>?_) (by decide+kernel)
    |refine rd4 8 9 10 11 (fun P hP=>?_) (fun P hP=>?_) (fun P hP=>?_) (fun P hP=>?_) (by decide+kernel)
    |refine rd3 8 9 10 (fun P hP=>?_) (fun P hP=>?_) (fun P hP=>?_) (by decide+kernel)
    |refine rd3 8 9 11 (fun P hP=>?_) (fun P hP=>?_) (fun P hP=>?_) (by decide+kernel)
    |refine rd3 8 10 11 (fun P hP=>?_) (fun P hP=>?_) (fun P hP=>?_) (by decide+kernel)
    |refine rd2 8 9 (fun P hP=>?_) (fun P hP=>?_) (by decide+kernel)
    |refine rd2 8 10 (fun P hP=>?_) (fun P hP=>?_) (by decide+kernel)
    |refine rd2 8 11 (fun P hP=>?_) (fun P hP=>?_) (by decide+kernel)
    |refine rd1 8 (fun P hP=>?_) (by decide+kernel)
    |refine rd3 9 10 11 (fun P hP=>?_) (fun P hP=>?_) (fun P hP=>?_) (by decide+kernel)
    |refine rd2 9 10 (fun P hP=>?_) (fun P hP=>?_) (by decide+kernel)
    |refine rd2 9 11 (fun P hP=>?_) (fun P hP=>?_) (by decide+kernel)
    |refine rd2 10 11 (fun P hP=>?_) (fun P hP=>?_) (by decide+kernel)
    |refine rd1 9 (fun P hP=>?_) (by decide+kernel)
    |refine rd1 10 (fun P hP=>?_) (by decide+kernel)
    |refine rd1 11 (fun P hP=>?_) (by decide+kernel)
   all_goals
    go_simp
    first
     |(have hg:=b
       clear hg;go_at_call 18
       refine(Do _ (Gt Xd hq.bel)).mono ?_;rintro e V hv;obtain⟨cc,BC,rfl,hr,st⟩:=hv.v
       replace hq:=hq.call hr BC st
       clear hv BC hr st;refine hP _ _ (KF _ hq.bel) (fun Xa=>?_);clear hP P
       (try simp only[Act.put,sA,sB,sC]))
     |(have hg:=a
       clear hg;go_at_call 18
       refine(Vv _ (Gt Xd hq.bel)).mono ?_;rintro e V hv;obtain⟨b,BC,rfl,hr,st⟩:=hv.v
       replace hq:=hq.call hr BC st
       clear hv BC hr st;refine hP _ _ (KF _ hq.bel) (fun Xa=>?_);clear hP P
       (try simp only[Act.put,sA,sB,sC]))
     |(go_at_call 18
       refine(FP _ (Gt Xd hq.bel)).mono ?_;rintro e V hv;obtain⟨a,BC,rfl,hr,st⟩:=hv.v
       replace hq:=hq.call hr BC st
       clear hv BC hr st;refine hP _ _ (KF _ hq.bel) (fun Xa=>?_);clear hP P
       (try simp only[Act.put,sA,sB,sC]))
     |(have hg:=g2
       clear hg
       replace hq:=hq.alloc
       refine hP _ (V.alloc (.cells Gz 28)) (KF _ hq.bel) (fun Xa=>?_);clear hP P
       generalize V.heap.size=g3 at*;generalize V.alloc (.cells Gz 28)=V at*)
     |(have hg:=g1
       clear hg
       replace hq:=hq.alloc
       refine hP _ (V.alloc (.cells Gz 28)) (KF _ hq.bel) (fun Xa=>?_);clear hP P
       generalize V.heap.size=g2 at*;generalize V.alloc (.cells Gz 28)=V at*)
     |(replace hq:=hq.alloc
       refine hP _ (V.alloc (.cells Gz 28)) (KF _ hq.bel) (fun Xa=>?_);clear hP P
       generalize V.heap.size=g1 at*;generalize V.alloc (.cells Gz 28)=V at*)
  all_goals first
   |exact HJ V g1 g2 g3 a b cc (hq.perm pm1)
   |exact HJ V g1 g3 g2 a b cc (hq.perm pm2)
   |exact HJ V g2 g1 g3 a b cc (hq.perm pm3)
   |exact HJ V g2 g3 g1 a b cc (hq.perm pm4)
   |exact HJ V g3 g1 g2 a b cc (hq.perm pm5)
   |exact HJ V g3 g2 g1 a b cc (hq.perm pm6)
 case h2=>
  clear hq;intro V g5 g6 g7 a b cc hq;have hz:=hq.bel;have b5:=(hq.box g5 (by simp)).1;have b6:=(hq.box g6 (by simp)).1;have b7:=(hq.box g7 (by simp)).1;have ge5:=(hq.box g5 (by simp)).2;have ge6:=(hq.box g6 (by simp)).2;have ge7:=(hq.box g7 (by simp)).2;have Sq:=hq.nd;simp only[List.nodup_cons,List.mem_cons,List.not_mem_nil,or_false,not_or,not_false_eq_true,List.nodup_nil,and_true]at Sq;obtain⟨⟨ne56,ne57⟩,ne67⟩:=Sq;have Ea:=Gh (hq.tr a (by simp)).1;have S9:=Gh (hq.tr b (by simp)).1;have MH:=Gh (hq.tr cc (by simp)).1;have ta:=(hq.tr a (by simp)).2;have tb:=(hq.tr b (by simp)).2;have tc:=(hq.tr cc (by simp)).2;clear hq;refine rd1 12 (fun P hP=>?_);obtain⟨d0,d1,d2,d3⟩:=G4 b5;obtain⟨f0,f1,f2,f3,zl⟩:=G5 b5;go_simp
  have Xy:=qy (o:=0) hz ge5 (.int .i64 a.T.lv) (.bool a.T.ng) (.slice a.A a.T.ds.length a.c) (.slice a.K a.T.ks.length a.kc);unfold set4 at Xy;refine hP _ _ (KF _ Xy) (fun Xa=>?_);clear hP P
  clear d0 d1 d2 d3 f0 f1 f2 f3 zl hz;have k5:qf (set4 V g5 0 (.int .i64 a.T.lv) (.bool a.T.ng) (.slice a.A a.T.ds.length a.c) (.slice a.K a.T.ks.length a.kc)) g5 28 (Gx a.T a.A a.c a.K a.kc):=(jm (k:=0) b5 (.int .i64 a.T.lv) (.bool a.T.ng) (.slice a.A a.T.ds.length a.c) (.slice a.K a.T.ks.length a.kc)).1
  replace b6:=b6.set4_far (Ne.symm ne56) 0 (.int .i64 a.T.lv) (.bool a.T.ng) (.slice a.A a.T.ds.length a.c) (.slice a.K a.T.ks.length a.kc)
  replace b7:=b7.set4_far (Ne.symm ne57) 0 (.int .i64 a.T.lv) (.bool a.T.ng) (.slice a.A a.T.ds.length a.c) (.slice a.K a.T.ks.length a.kc)
  replace ta:=ta.keep (Kp.set4 (g:=g5) (by simp) (.int .i64 a.T.lv) (.bool a.T.ng) (.slice a.A a.T.ds.length a.c) (.slice a.K a.T.ks.length a.kc));replace tb:=tb.keep (Kp.set4 (g:=g5) (by simp) (.int .i64 a.T.lv) (.bool a.T.ng) (.slice a.A a.T.ds.length a.c) (.slice a.K a.T.ks.length a.kc));replace tc:=tc.keep (Kp.set4 (g:=g5) (by simp) (.int .i64 a.T.lv) (.bool a.T.ng) (.slice a.A a.T.ds.length a.c) (.slice a.K a.T.ks.length a.kc))
  clear b5;generalize hX:set4 V g5 0 (.int .i64 a.T.lv) (.bool a.T.ng) (.slice a.A a.T.ds.length a.c) (.slice a.K a.T.ks.length a.kc)=X at*;unfold set4 at hX;simp only[Nat.zero_add]at hX;rw[hX]at Xy ⊢;clear hX;have hz:=Xy;clear Xy;refine rd1 13 (fun P hP=>?_);obtain⟨d0,d1,d2,d3⟩:=G4 b6;obtain⟨f0,f1,f2,f3,zl⟩:=G5 b6;go_simp
  have Xy:=qy (o:=0) hz ge6 (.int .i64 b.T.lv) (.bool b.T.ng) (.slice b.A b.T.ds.length b.c) (.slice b.K b.T.ks.length b.kc);unfold set4 at Xy;refine hP _ _ (KF _ Xy) (fun Xa=>?_);clear hP P
  clear d0 d1 d2 d3 f0 f1 f2 f3 zl hz;have k6:qf (set4 X g6 0 (.int .i64 b.T.lv) (.bool b.T.ng) (.slice b.A b.T.ds.length b.c) (.slice b.K b.T.ks.length b.kc)) g6 28 (Gx b.T b.A b.c b.K b.kc):=(jm (k:=0) b6 (.int .i64 b.T.lv) (.bool b.T.ng) (.slice b.A b.T.ds.length b.c) (.slice b.K b.T.ks.length b.kc)).1
  replace k5:=k5.set4_far ne56 0 (.int .i64 b.T.lv) (.bool b.T.ng) (.slice b.A b.T.ds.length b.c) (.slice b.K b.T.ks.length b.kc)
  replace b7:=b7.set4_far (Ne.symm ne67) 0 (.int .i64 b.T.lv) (.bool b.T.ng) (.slice b.A b.T.ds.length b.c) (.slice b.K b.T.ks.length b.kc)
  replace ta:=ta.keep (Kp.set4 (g:=g6) (by simp) (.int .i64 b.T.lv) (.bool b.T.ng) (.slice b.A b.T.ds.length b.c) (.slice b.K b.T.ks.length b.kc));replace tb:=tb.keep (Kp.set4 (g:=g6) (by simp) (.int .i64 b.T.lv) (.bool b.T.ng) (.slice b.A b.T.ds.length b.c) (.slice b.K b.T.ks.length b.kc));replace tc:=tc.keep (Kp.set4 (g:=g6) (by simp) (.int .i64 b.T.lv) (.bool b.T.ng) (.slice b.A b.T.ds.length b.c) (.slice b.K b.T.ks.length b.kc))
  clear b6;generalize hX:set4 X g6 0 (.int .i64 b.T.lv) (.bool b.T.ng) (.slice b.A b.T.ds.length b.c) (.slice b.K b.T.ks.length b.kc)=X1 at*;unfold set4 at hX;simp only[Nat.zero_add]at hX;rw[hX]at Xy ⊢;clear hX;have hz:=Xy;clear Xy;refine rd1 14 (fun P hP=>?_);obtain⟨d0,d1,d2,d3⟩:=G4 b7;obtain⟨f0,f1,f2,f3,zl⟩:=G5 b7;go_simp
  have Xy:=qy (o:=0) hz ge7 (.int .i64 cc.T.lv) (.bool cc.T.ng) (.slice cc.A cc.T.ds.length cc.c) (.slice cc.K cc.T.ks.length cc.kc);unfold set4 at Xy;refine hP _ _ (KF _ Xy) (fun Xa=>?_);clear hP P
  clear d0 d1 d2 d3 f0 f1 f2 f3 zl hz;have k7:qf (set4 X1 g7 0 (.int .i64 cc.T.lv) (.bool cc.T.ng) (.slice cc.A cc.T.ds.length cc.c) (.slice cc.K cc.T.ks.length cc.kc)) g7 28 (Gx cc.T cc.A cc.c cc.K cc.kc):=(jm (k:=0) b7 (.int .i64 cc.T.lv) (.bool cc.T.ng) (.slice cc.A cc.T.ds.length cc.c) (.slice cc.K cc.T.ks.length cc.kc)).1
  replace k5:=k5.set4_far ne57 0 (.int .i64 cc.T.lv) (.bool cc.T.ng) (.slice cc.A cc.T.ds.length cc.c) (.slice cc.K cc.T.ks.length cc.kc)
  replace k6:=k6.set4_far ne67 0 (.int .i64 cc.T.lv) (.bool cc.T.ng) (.slice cc.A cc.T.ds.length cc.c) (.slice cc.K cc.T.ks.length cc.kc)
  replace ta:=ta.keep (Kp.set4 (g:=g7) (by simp) (.int .i64 cc.T.lv) (.bool cc.T.ng) (.slice cc.A cc.T.ds.length cc.c) (.slice cc.K cc.T.ks.length cc.kc));replace tb:=tb.keep (Kp.set4 (g:=g7) (by simp) (.int .i64 cc.T.lv) (.bool cc.T.ng) (.slice cc.A cc.T.ds.length cc.c) (.slice cc.K cc.T.ks.length cc.kc));replace tc:=tc.keep (Kp.set4 (g:=g7) (by simp) (.int .i64 cc.T.lv) (.bool cc.T.ng) (.slice cc.A cc.T.ds.length cc.c) (.slice cc.K cc.T.ks.length cc.kc))
  clear b7;generalize hX:set4 X1 g7 0 (.int .i64 cc.T.lv) (.bool cc.T.ng) (.slice cc.A cc.T.ds.length cc.c) (.slice cc.K cc.T.ks.length cc.kc)=Y at*;unfold set4 at hX;simp only[Nat.zero_add]at hX;rw[hX]at Xy ⊢;clear hX;have hz:=Xy;clear Xy;refine wpAnyH_done (by kernel_rfl) ?_ _;have UJ:=Gh k5;have UW:=Gh k6;have EA:=Gh k7;have Ue:=Gh (Gt Xd hz);have Vt:=Gh (ta.keep (Kp.sub (gs':=[]) (by simp)));have TF:=Gh (tb.keep (Kp.sub (gs':=[]) (by simp)));have HTC:=Gh (tc.keep (Kp.sub (gs':=[]) (by simp)));have HG5:=Gh (Gl Xd.out.size ge5);have HG6:=Gh (Gl Xd.out.size ge6);have Dn:=Gh (Gl Xd.out.size ge7);clear Xa KF Do Vv FP ta tb tc k5 k6 k7 hz ge5 ge6 ge7 ne56 ne57 ne67 Xd Xo;go_upto_region 2 with(fail)
  have hz:Below Y.heap.size Y Y.drew:=(qt.drew _).below _;have KF:=Gh (fun(X:World)(hX:Below Y.heap.size Y X)=>(⟨(UW.out.old hX).cell 0,(UW.out.old hX).cell 1,(UW.out.old hX).cell 2,(UW.out.old hX).cell 3,(UJ.out.old hX).cell 0,(UJ.out.old hX).cell 1,(UJ.out.old hX).cell 2,(UJ.out.old hX).cell 3,(EA.out.old hX).cell 0,(EA.out.old hX).cell 1,(EA.out.old hX).cell 2,(EA.out.old hX).cell 3⟩:Gd X g6 (.int .i64 b.T.lv) (.bool b.T.ng) (.slice b.A b.T.ds.length b.c) (.slice b.K b.T.ks.length b.kc) (Gd X g5 (.int .i64 a.T.lv) (.bool a.T.ng) (.slice a.A a.T.ds.length a.c) (.slice a.K a.T.ks.length a.kc) (Gc X g7 (.int .i64 cc.T.lv) (.bool cc.T.ng) (.slice cc.A cc.T.ds.length cc.c) (.slice cc.K cc.T.ks.length cc.kc)))));obtain⟨d4,IY⟩:∃d,d=dig 4:=⟨_,rfl⟩;have WK:=Gh (fun(X:World)(hX:Below Y.heap.size Y X)=>qdI (by omega) (by omega) S9 S9 (by omega) (by omega) (TF.out.keep (Kp.old hX)).rv (TF.out.keep (Kp.old hX)).rv);have WL:=Gh (fun(X:World)(hX:Below Y.heap.size Y X)=>qdI (by omega) (by omega) Ea MH (by omega) (by omega) (Vt.out.keep (Kp.old hX)).rv (HTC.out.keep (Kp.old hX)).rv);have KK:=Gh (fun(X:World)=>show Calls Tryz.prog 35 #[.int .i64 4] X (fun e w'=>∃D cd,e= .returned (.agg #[.bool false,.slice D d4.length cd])/\qx w' w'.heap.size D cd d4/\Below X.heap.size X w')by rw[IY];exact qdM 4 (by omega) X);have TH:=Gh (fun(X:World)(v:Qz)(hv:Vp ((k:Int)+1) (4+4+4) (3+3) v.T)(hr:RV X (· <X.heap.size) v.T (qe v.T v.A v.c v.K v.kc))(D:Oa)(cd:Nat)(hn:qx X X.heap.size D cd d4)=>show Calls Tryz.prog 45 #[qm v.T v.A v.c v.K v.kc,.agg #[.bool false,.slice D d4.length cd]] X (Zq ((k:Int)+1) (4+4+4+1) (3+3) X)by rw[IY]at hn ⊢; exact qaA (by omega) (by omega) hv (by omega) (by omega) 4 (by omega) (by omega) D cd hr hn);have EW:=Gh (fun(X:World)(u v:Qz)(hu:Vp ((k:Int)+1) (4+4+4) (3+3) u.T)(hv:Vp ((k:Int)+1) (4+4+4+1) (3+3) v.T)(ru:RV X (· <X.heap.size) u.T (qe u.T u.A u.c u.K u.kc))(rv:RV X (· <X.heap.size) v.T (qe v.T v.A v.c v.K v.kc))=>qhb (by omega) (by omega) (hu.mono (d':=4+4+4+1) (by omega) (Gr _)) hv (by omega) (by omega) ru rv);unfold qm at WK WL TH EW;clear IY;refine wp_region_held_drew (S:=fun w'=>Gd w' g6 (.int .i64 b.T.lv) (.bool b.T.ng) (.slice b.A b.T.ds.length b.c) (.slice b.K b.T.ks.length b.kc) (Gd w' g5 (.int .i64 a.T.lv) (.bool a.T.ng) (.slice a.A a.T.ds.length a.c) (.slice a.K a.T.ks.length a.kc) (Gc w' g7 (.int .i64 cc.T.lv) (.bool cc.T.ng) (.slice cc.A cc.T.ds.length cc.c) (.slice cc.K cc.T.ks.length cc.kc)))) (by kernel_rfl) (KF _ hz) (fun Xa=>?_);refine tk 0 ?_
  refine tk 1 ?_
  refine tk 3 ?_
  refine tk 4 ?_
  simp only[Act.put,sA,sB,sC];generalize Y.drew=U at*;apply qjX (fun X g r=>Below Y.heap.size Y X/\qf X g 28 Gz/\Y.heap.size<=g/\Vp ((k:Int)+1) 15 6 r.T/\TG X [g] r)
  case h1=>
   intro HJ
   iterate 6
    all_goals first
     |refine rd2 2 9 (fun P hP=>?_) (fun P hP=>?_) (by decide+kernel)
     |refine rd2 5 9 (fun P hP=>?_) (fun P hP=>?_) (by decide+kernel)
     |refine rd2 6 9 (fun P hP=>?_) (fun P hP=>?_) (by decide+kernel)
     |refine rd2 7 9 (fun P hP=>?_) (fun P hP=>?_) (by decide+kernel)
     |refine rd2 8 9 (fun P hP=>?_) (fun P hP=>?_) (by decide+kernel)
     |refine rd1 2 (fun P hP=>?_) (by decide+kernel)
     |refine rd1 5 (fun P hP=>?_) (by decide+kernel)
     |refine rd1 6 (fun P hP=>?_) (by decide+kernel)
     |refine rd1 7 (fun P hP=>?_) (by decide+kernel)
     |refine rd1 8 (fun P hP=>?_) (by decide+kernel)
     |refine rd1 9 (fun P hP=>?_) (by decide+kernel)
    all_goals
     go_simp
     first
      |(have hg:=u
        clear hg;go_at_call 44
        refine(WL _ hz).mono ?_;rintro e U hres;obtain⟨v,S4,rfl,hr,st⟩:=hres.v;have rv:=hr.rv
        replace hz:=Gt hz st
        (try replace ru:=(ru.below st).more st.size)
        (try replace b8:=b8.old st)
        clear st hr hres;refine hP _ _ (KF _ hz) (fun Xa=>?_);clear hP P
        (try simp only[Act.put,sA,sB,sC]))
      |(go_at_call 44
        refine(WK _ hz).mono ?_;rintro e U hres;obtain⟨u,hvu,rfl,hr,st⟩:=hres.v;have ru:=hr.rv
        replace hz:=Gt hz st
        (try replace b8:=b8.old st)
        clear st hr hres;refine hP _ _ (KF _ hz) (fun Xa=>?_);clear hP P
        (try simp only[Act.put,sA,sB,sC]))
      |(go_at_call 35
        refine(KK _).mono ?_;rintro e U ⟨D,cd,rfl,rd,st⟩
        replace hz:=Gt hz st
        (try replace ru:=(ru.below st).more st.size);(try replace rv:=(rv.below st).more st.size)
        (try replace b8:=b8.old st)
        clear st;refine hP _ _ (KF _ hz) (fun Xa=>?_);clear hP P
        (try simp only[Act.put,sA,sB,sC]))
      |(go_at_call 45
        refine(TH _ v S4 rv D cd rd).mono ?_;rintro e U hres;obtain⟨x,hvx,rfl,hr,st⟩:=hres.v;have rx:=hr.rv
        replace hz:=Gt hz st
        (try replace ru:=(ru.below st).more st.size)
        (try replace b8:=b8.old st)
        clear st hr hres rd rv S4;refine hP _ _ (KF _ hz) (fun Xa=>?_);clear hP P
        (try simp only[Act.put,sA,sB,sC]))
      |(go_at_call 43
        refine(EW _ u x hvu hvx ru rx).mono ?_;rintro e U hres;obtain⟨r,Ok,rfl,hr,st⟩:=hres.v;first
         |have tr:=TG.of (gs:=[g8]) hr (qhT b8 (by decide) st)
         |have tr:=TG.of (gs:=[]) hr Q6
        replace hz:=Gt hz st
        (try replace b8:=b8.old st)
        clear st hr hres ru rx hvu hvx;refine hP _ _ (KF _ hz) (fun Xa=>?_);clear hP P
        (try simp only[Act.put,sA,sB,sC]))
      |(have st:=Gb U (.cells Gz 28)
        refine hP _ (U.alloc (.cells Gz 28)) (KF _ (Gt hz st)) (fun Xa=>?_);clear hP P
        have b8:=qf.new U 28 Gz;have ge8:=hz.size
        (try replace tr:=tr.keep (Kp.add st (Gr _)))
        (try replace ru:=(ru.below st).more st.size);(try replace rv:=(rv.below st).more st.size);(try replace rd:=(rd.below st).more st.size);(try replace rx:=(rx.below st).more st.size)
        replace hz:=Gt hz st
        clear st;generalize U.heap.size=g8 at*;generalize U.alloc (.cells Gz 28)=U at*)
   all_goals first
    |exact HJ U g8 u v D cd x r ⟨hz,b8,ge8,Ok,tr⟩
  case h2=>
   clear hz;intro U g8 u v D cd x r ⟨hz,b8,ge8,Ok,tr⟩;refine rd1 10 (fun P hP=>?_);obtain⟨d0,d1,d2,d3⟩:=G4 b8;obtain⟨f0,f1,f2,f3,zl⟩:=G5 b8;go_simp
   have Xy:=qy (o:=0) hz ge8 (.int .i64 r.T.lv) (.bool r.T.ng) (.slice r.A r.T.ds.length r.c) (.slice r.K r.T.ks.length r.kc);unfold set4 at Xy;refine hP _ _ (KF _ Xy) (fun Xa=>?_);clear hP P
   clear d0 d1 d2 d3 f0 f1 f2 f3 zl;have k8:qf (set4 U g8 0 (.int .i64 r.T.lv) (.bool r.T.ng) (.slice r.A r.T.ds.length r.c) (.slice r.K r.T.ks.length r.kc)) g8 28 (Gx r.T r.A r.c r.K r.kc):=(jm (k:=0) b8 (.int .i64 r.T.lv) (.bool r.T.ng) (.slice r.A r.T.ds.length r.c) (.slice r.K r.T.ks.length r.kc)).1;have t8:=(tr.keep (Kp.set4 (g:=g8) (by simp) (.int .i64 r.T.lv) (.bool r.T.ng) (.slice r.A r.T.ds.length r.c) (.slice r.K r.T.ks.length r.kc))).keep (Kp.sub (gs':=[]) (by simp));clear b8 tr hz;generalize hX:set4 U g8 0 (.int .i64 r.T.lv) (.bool r.T.ng) (.slice r.A r.T.ds.length r.c) (.slice r.K r.T.ks.length r.kc)=Y2 at*;unfold set4 at hX;simp only[Nat.zero_add]at hX;rw[hX]at Xy ⊢;clear hX;refine wpAnyH_done (by kernel_rfl) ?_ _
   replace UJ:=Gh (UJ.out.old Xy);replace UW:=Gh (UW.out.old Xy);have E0:=Gh k8
   replace Vt:=Gh (Vt.out.keep (Kp.old Xy));replace TF:=Gh (TF.out.keep (Kp.old Xy));have VV:=Gh t8
   have HG8:=Gh (Gl Ue.out.size ge8)
   replace Ue:=Gh (Gt Ue Xy)
   have O1:=Gh Ok;clear Xa KF WK WL KK TH EW k8 t8 Xy ge8 Ok EA HTC MH;go_upto_region 4 with(fail)
   have SU:=Gh (fun(X:World)(hX:Below Y2.heap.size Y2 X)=>qf0 (k:=(k:Int)+1) (by omega) (by omega) a r (Ea.out.mono (by omega) (by omega)) O1 g5 g8 X (UJ.out.old hX) (E0.out.old hX) (Vt.out.keep (Kp.old hX)) (VV.out.keep (Kp.old hX)));have HQA:=Gh (SU Y2 (Below.refl _ _));go_wp2_with fail
   refine HQA.out.mono ?_;rintro e Y3 EM;obtain⟨m,Rn,rfl,R5,st⟩:=EM.v;clear HQA EM Rn R5
   replace UJ:=Gh (UJ.out.old st);replace UW:=Gh (UW.out.old st);replace E0:=Gh (E0.out.old st)
   replace Vt:=Gh (Vt.out.keep (Kp.old st));replace TF:=Gh (TF.out.keep (Kp.old st));replace VV:=Gh (VV.out.keep (Kp.old st))
   replace Ue:=Gh (Gt Ue st)
   replace SU:=Gh (fun(X:World)(hX:Below Y3.heap.size Y3 X)=>SU X (Gt st hX))
   clear st;have hfd:=fun(X:World)=>qed m.M.kd (.int .i64 m.M.rl) (.int .i64 m.M.p.lv) (.bool m.M.p.ng) (.slice m.A m.M.p.ds.length m.c) (.slice m.K m.M.p.ks.length m.kc) (.slice m.L m.M.ks.length m.lc) X;by_cases Xx:m.M.kd=0
   ·have e0:(m.M.kd==0)=true:=by rw[Xx];rfl
    clear Xx;go_wp2_with fail
    go_ret
    exact⟨_,[],rfl,by simp,⟨⟨rfl,.inl ⟨rfl,rfl⟩⟩,by simp⟩,Ue⟩
   have e0:(m.M.kd==0)=false:=by simpa using Xx
   clear Xx;go_wp2_with fail
   clear e0 hfd;go_loopg [10,38] 2 (fun gn v ix wr=>∃(j:Nat)(Ps:List zX),j<=2/\gn=2-j/\ix= .int .i64 j/\Ps.length=j/\QW wr Y3.heap.size v Ps/\Below Y3.heap.size Y3 wr)
   case atStart=>exact⟨0,[],by omega,rfl,rfl,rfl,⟨⟨rfl,.inl ⟨rfl,rfl⟩⟩,by simp⟩,Below.refl _ _⟩
   case round=>
    obtain⟨j,Ps,hj,XI,rfl,U6,SJ,Xe⟩:=hrel;generalize u10=lst at*;have Se:=Gh SJ;have Xh:=Gh Xe;have SZ:=Gh XI;have Tr:=Gh U6;clear SJ Xe XI U6;by_cases Xi:j<2
    ·obtain⟨z,X7,hfx⟩:=qeb j Xi;have Vc:=Gh X7;have i0:(j:Int)<2:=by omega
     clear X7;go_upto_region 10 with(fail)
     clear hfx;have hz:Below wr.heap.size wr wr.drew:=(qt.drew _).below _;have KF:=Gh (fun(X:World)(hX:Below wr.heap.size wr X)=>(⟨((UW.out.old Xh).old hX).cell 0,((UW.out.old Xh).old hX).cell 1,((UW.out.old Xh).old hX).cell 2,((UW.out.old Xh).old hX).cell 3,((E0.out.old Xh).old hX).cell 0,((E0.out.old Xh).old hX).cell 1,((E0.out.old Xh).old hX).cell 2,((E0.out.old Xh).old hX).cell 3⟩:Gd X g6 (.int .i64 b.T.lv) (.bool b.T.ng) (.slice b.A b.T.ds.length b.c) (.slice b.K b.T.ks.length b.kc) (Gc X g8 (.int .i64 r.T.lv) (.bool r.T.ng) (.slice r.A r.T.ds.length r.c) (.slice r.K r.T.ks.length r.kc))));have Sf:=Gh (fun(X:World)(hX:Below wr.heap.size wr X)=>qdP (by omega) (by omega) S9 (by omega) (by omega) (TF.out.keep ((Kp.below Xh).trans (Kp.old hX))).rv);have Ui:=Gh (fun(X:World)=>qaw (k:=(k:Int)+1) (by omega) z Vc X);have Bb:=Gh (fun(X:World)(hX:Below wr.heap.size wr X)=>qcY (by omega) (by omega) O1 (by omega) (by omega) (VV.out.keep ((Kp.below Xh).trans (Kp.old hX))).rv);unfold qm at Sf Bb;refine wp_region_held_drew (S:=fun w'=>Gd w' g6 (.int .i64 b.T.lv) (.bool b.T.ng) (.slice b.A b.T.ds.length b.c) (.slice b.K b.T.ks.length b.kc) (Gc w' g8 (.int .i64 r.T.lv) (.bool r.T.ng) (.slice r.A r.T.ds.length r.c) (.slice r.K r.T.ks.length r.kc))) (by kernel_rfl) (KF _ hz) (fun Xa=>?_);refine tk 0 ?_
     refine tk 2 ?_
     refine tk 4 ?_
     simp only[Act.put,sA,sB,sC];generalize wr.drew=Q at*;apply qjU (fun X g u v x=>Below wr.heap.size wr X/\qf X g 34 #[.int .i64 0,.int .i64 0,.bool false,.slice none 0 0,.slice none 0 0,.int .i64 0,.bool false,.slice none 0 0,.slice none 0 0,.int .i64 0,.bool false,.slice none 0 0,.slice none 0 0,.int .i64 0,.bool false,.slice none 0 0,.slice none 0 0,.int .i64 0,.int .i64 0,.int .i64 0,.bool false,.slice none 0 0,.slice none 0 0,.slice none 0 0]/\wr.heap.size<=g/\KyT u.T/\KyT v.T/\KyT x.T/\TG X [] u/\TG X [] v/\TG X [] x)
     case h1=>
      intro HJ
      iterate 5
       all_goals first
        |refine rd2 1 7 (fun P hP=>?_) (fun P hP=>?_) (by decide+kernel)
        |refine rd2 3 7 (fun P hP=>?_) (fun P hP=>?_) (by decide+kernel)
        |refine rd2 5 7 (fun P hP=>?_) (fun P hP=>?_) (by decide+kernel)
        |refine rd2 6 7 (fun P hP=>?_) (fun P hP=>?_) (by decide+kernel)
        |refine rd1 1 (fun P hP=>?_) (by decide+kernel)
        |refine rd1 3 (fun P hP=>?_) (by decide+kernel)
        |refine rd1 5 (fun P hP=>?_) (by decide+kernel)
        |refine rd1 6 (fun P hP=>?_) (by decide+kernel)
        |refine rd1 7 (fun P hP=>?_) (by decide+kernel)
       all_goals
        go_simp
        first
         |(go_at_call 40
           refine(Sf _ hz).mono ?_;rintro e Q hres;obtain⟨u,hu,rfl,hr,st⟩:=hres.v;have tu:=TG.of (gs:=[]) hr Q6
           replace hz:=Gt hz st
           (try replace b13:=b13.old st)
           clear st hr hres;refine hP _ _ (KF _ hz) (fun Xa=>?_);clear hP P
           (try simp only[Act.put,sA,sB,sC]))
         |(go_at_call 41
           refine(Ui _).mono ?_;rintro e Q hres;obtain⟨v,hv,rfl,hr,st⟩:=hres.v;have tv:=TG.of (gs:=[]) hr Q6
           replace hz:=Gt hz st
           (try replace tu:=tu.keep (Kp.old st))
           (try replace b13:=b13.old st)
           clear st hr hres;refine hP _ _ (KF _ hz) (fun Xa=>?_);clear hP P
           (try simp only[Act.put,sA,sB,sC]))
         |(go_at_call 11
           refine(Bb _ hz).mono ?_;rintro e Q hres;obtain⟨x,hx,rfl,hr,st⟩:=hres.v;have tx:=TG.of (gs:=[]) hr Q6
           replace hz:=Gt hz st
           (try replace tu:=tu.keep (Kp.old st));(try replace tv:=tv.keep (Kp.old st))
           (try replace b13:=b13.old st)
           clear st hr hres;refine hP _ _ (KF _ hz) (fun Xa=>?_);clear hP P
           (try simp only[Act.put,sA,sB,sC]))
         |(have st:=Gb Q (.cells #[.int .i64 0,.int .i64 0,.bool false,.slice none 0 0,.slice none 0 0,.int .i64 0,.bool false,.slice none 0 0,.slice none 0 0,.int .i64 0,.bool false,.slice none 0 0,.slice none 0 0,.int .i64 0,.bool false,.slice none 0 0,.slice none 0 0,.int .i64 0,.int .i64 0,.int .i64 0,.bool false,.slice none 0 0,.slice none 0 0,.slice none 0 0] 34)
           refine hP _ (Q.alloc (.cells #[.int .i64 0,.int .i64 0,.bool false,.slice none 0 0,.slice none 0 0,.int .i64 0,.bool false,.slice none 0 0,.slice none 0 0,.int .i64 0,.bool false,.slice none 0 0,.slice none 0 0,.int .i64 0,.bool false,.slice none 0 0,.slice none 0 0,.int .i64 0,.int .i64 0,.int .i64 0,.bool false,.slice none 0 0,.slice none 0 0,.slice none 0 0] 34)) (KF _ (Gt hz st)) (fun Xa=>?_);clear hP P
           have b13:=qf.new Q 34 #[.int .i64 0,.int .i64 0,.bool false,.slice none 0 0,.slice none 0 0,.int .i64 0,.bool false,.slice none 0 0,.slice none 0 0,.int .i64 0,.bool false,.slice none 0 0,.slice none 0 0,.int .i64 0,.bool false,.slice none 0 0,.slice none 0 0,.int .i64 0,.int .i64 0,.int .i64 0,.bool false,.slice none 0 0,.slice none 0 0,.slice none 0 0];have ge13:=hz.size
           (try replace tu:=tu.keep (Kp.old st));(try replace tv:=tv.keep (Kp.old st));(try replace tx:=tx.keep (Kp.old st))
           replace hz:=Gt hz st
           clear st;generalize Q.heap.size=g13 at*;generalize Q.alloc (.cells #[.int .i64 0,.int .i64 0,.bool false,.slice none 0 0,.slice none 0 0,.int .i64 0,.bool false,.slice none 0 0,.slice none 0 0,.int .i64 0,.bool false,.slice none 0 0,.slice none 0 0,.int .i64 0,.bool false,.slice none 0 0,.slice none 0 0,.int .i64 0,.int .i64 0,.int .i64 0,.bool false,.slice none 0 0,.slice none 0 0,.slice none 0 0] 34)=Q at*)
         |(refine hP _ _ (KF _ hz) (fun Xa=>?_)
           clear hP P
           (try simp only[Act.put,sA,sB,sC]))
      all_goals first
       |exact HJ Q g13 u v x ⟨hz,b13,ge13,hu.ky (by omega) (by omega),hv.ky (by omega) (by omega),hx.ky (by omega) (by omega),tu,tv,tx⟩
     case h2=>
      clear hz;intro Q g13 u v x ⟨hz,b13,ge13,hu,hv,hx,tu,tv,tx⟩;have XY:=(UW.out.old Xh).old hz;have Sb:=(E0.out.old Xh).old hz;have n6:=jf XY b13 (by decide);have n8:=jf Sb b13 (by decide);have KS:=Gh (fun(cs:Array Value)=>(⟨(cell_setRow_other Q g13 cs ⟨g6,0,none⟩ n6).trans (XY.cell 0),(cell_setRow_other Q g13 cs ⟨g6,1,none⟩ n6).trans (XY.cell 1),(cell_setRow_other Q g13 cs ⟨g6,2,none⟩ n6).trans (XY.cell 2),(cell_setRow_other Q g13 cs ⟨g6,3,none⟩ n6).trans (XY.cell 3),(cell_setRow_other Q g13 cs ⟨g8,0,none⟩ n8).trans (Sb.cell 0),(cell_setRow_other Q g13 cs ⟨g8,1,none⟩ n8).trans (Sb.cell 1),(cell_setRow_other Q g13 cs ⟨g8,2,none⟩ n8).trans (Sb.cell 2),(cell_setRow_other Q g13 cs ⟨g8,3,none⟩ n8).trans (Sb.cell 3)⟩:(Q.setRow g13 cs).cell? ⟨g6,0,none⟩=some (.int .i64 b.T.lv)/\(Q.setRow g13 cs).cell? ⟨g6,1,none⟩=some (.bool b.T.ng)/\(Q.setRow g13 cs).cell? ⟨g6,2,none⟩=some (.slice b.A b.T.ds.length b.c)/\(Q.setRow g13 cs).cell? ⟨g6,3,none⟩=some (.slice b.K b.T.ks.length b.kc)/\(Q.setRow g13 cs).cell? ⟨g8,0,none⟩=some (.int .i64 r.T.lv)/\(Q.setRow g13 cs).cell? ⟨g8,1,none⟩=some (.bool r.T.ng)/\(Q.setRow g13 cs).cell? ⟨g8,2,none⟩=some (.slice r.A r.T.ds.length r.c)/\(Q.setRow g13 cs).cell? ⟨g8,3,none⟩=some (.slice r.K r.T.ks.length r.kc)));have Tx:qf (Q.setRow g13 #[.int .i64 2,.int .i64 u.T.lv,.bool u.T.ng,.slice u.A u.T.ds.length u.c,.slice u.K u.T.ks.length u.kc,.int .i64 v.T.lv,.bool v.T.ng,.slice v.A v.T.ds.length v.c,.slice v.K v.T.ks.length v.kc,.int .i64 x.T.lv,.bool x.T.ng,.slice x.A x.T.ds.length x.c,.slice x.K x.T.ks.length x.kc,.int .i64 0,.bool false,.slice none 0 0,.slice none 0 0,.int .i64 0,.int .i64 0,.int .i64 0,.bool false,.slice none 0 0,.slice none 0 0,.slice none 0 0]) g13 34 #[.int .i64 2,.int .i64 u.T.lv,.bool u.T.ng,.slice u.A u.T.ds.length u.c,.slice u.K u.T.ks.length u.kc,.int .i64 v.T.lv,.bool v.T.ng,.slice v.A v.T.ds.length v.c,.slice v.K v.T.ks.length v.kc,.int .i64 x.T.lv,.bool x.T.ng,.slice x.A x.T.ds.length x.c,.slice x.K x.T.ks.length x.kc,.int .i64 0,.bool false,.slice none 0 0,.slice none 0 0,.int .i64 0,.int .i64 0,.int .i64 0,.bool false,.slice none 0 0,.slice none 0 0,.slice none 0 0]:=setRow_heap Q g13 _ _ 34 (0,0) b13;refine rd1 8 (fun P hP=>?_);rw[if_pos (show Region.wanted _ _=true from rfl)];refine wp_store_row 34 _ _ rfl g13 #[.int .i64 2,.int .i64 u.T.lv,.bool u.T.ng,.slice u.A u.T.ds.length u.c,.slice u.K u.T.ks.length u.kc,.int .i64 v.T.lv,.bool v.T.ng,.slice v.A v.T.ds.length v.c,.slice v.K v.T.ks.length v.kc,.int .i64 x.T.lv,.bool x.T.ng,.slice x.A x.T.ds.length x.c,.slice x.K x.T.ks.length x.kc,.int .i64 0,.bool false,.slice none 0 0,.slice none 0 0,.int .i64 0,.int .i64 0,.int .i64 0,.bool false,.slice none 0 0,.slice none 0 0,.slice none 0 0] rfl rfl 34 _ b13 (by kernel_rfl) rfl (by simp[Value.oneCell']) ?_;refine hP _ _ (KS _) (fun Xa=>?_);clear hP P;simp only[Act.put];refine wpAnyH_done (by kernel_rfl) ?_ _
      replace tu:=tu.keep (Kp.setRow b13 zr #[.int .i64 2,.int .i64 u.T.lv,.bool u.T.ng,.slice u.A u.T.ds.length u.c,.slice u.K u.T.ks.length u.kc,.int .i64 v.T.lv,.bool v.T.ng,.slice v.A v.T.ds.length v.c,.slice v.K v.T.ks.length v.kc,.int .i64 x.T.lv,.bool x.T.ng,.slice x.A x.T.ds.length x.c,.slice x.K x.T.ks.length x.kc,.int .i64 0,.bool false,.slice none 0 0,.slice none 0 0,.int .i64 0,.int .i64 0,.int .i64 0,.bool false,.slice none 0 0,.slice none 0 0,.slice none 0 0]);replace tv:=tv.keep (Kp.setRow b13 zr #[.int .i64 2,.int .i64 u.T.lv,.bool u.T.ng,.slice u.A u.T.ds.length u.c,.slice u.K u.T.ks.length u.kc,.int .i64 v.T.lv,.bool v.T.ng,.slice v.A v.T.ds.length v.c,.slice v.K v.T.ks.length v.kc,.int .i64 x.T.lv,.bool x.T.ng,.slice x.A x.T.ds.length x.c,.slice x.K x.T.ks.length x.kc,.int .i64 0,.bool false,.slice none 0 0,.slice none 0 0,.int .i64 0,.int .i64 0,.int .i64 0,.bool false,.slice none 0 0,.slice none 0 0,.slice none 0 0]);replace tx:=tx.keep (Kp.setRow b13 zr #[.int .i64 2,.int .i64 u.T.lv,.bool u.T.ng,.slice u.A u.T.ds.length u.c,.slice u.K u.T.ks.length u.kc,.int .i64 v.T.lv,.bool v.T.ng,.slice v.A v.T.ds.length v.c,.slice v.K v.T.ks.length v.kc,.int .i64 x.T.lv,.bool x.T.ng,.slice x.A x.T.ds.length x.c,.slice x.K x.T.ks.length x.kc,.int .i64 0,.bool false,.slice none 0 0,.slice none 0 0,.int .i64 0,.int .i64 0,.int .i64 0,.bool false,.slice none 0 0,.slice none 0 0,.slice none 0 0])
      have Xy:=below_setRow hz ge13 #[.int .i64 2,.int .i64 u.T.lv,.bool u.T.ng,.slice u.A u.T.ds.length u.c,.slice u.K u.T.ks.length u.kc,.int .i64 v.T.lv,.bool v.T.ng,.slice v.A v.T.ds.length v.c,.slice v.K v.T.ks.length v.kc,.int .i64 x.T.lv,.bool x.T.ng,.slice x.A x.T.ds.length x.c,.slice x.K x.T.ks.length x.kc,.int .i64 0,.bool false,.slice none 0 0,.slice none 0 0,.int .i64 0,.int .i64 0,.int .i64 0,.bool false,.slice none 0 0,.slice none 0 0,.slice none 0 0];clear Xa KS KF Sf Ui Bb XY Sb n6 n8 b13 hz;generalize Q.setRow g13 #[.int .i64 2,.int .i64 u.T.lv,.bool u.T.ng,.slice u.A u.T.ds.length u.c,.slice u.K u.T.ks.length u.kc,.int .i64 v.T.lv,.bool v.T.ng,.slice v.A v.T.ds.length v.c,.slice v.K v.T.ks.length v.kc,.int .i64 x.T.lv,.bool x.T.ng,.slice x.A x.T.ds.length x.c,.slice x.K x.T.ks.length x.kc,.int .i64 0,.bool false,.slice none 0 0,.slice none 0 0,.int .i64 0,.int .i64 0,.int .i64 0,.bool false,.slice none 0 0,.slice none 0 0,.slice none 0 0]=Z1 at*;go_upto_region 11 with(fail)
      have Vk:=Gh (Gt Xh Xy);have ER:=Gh Xy;clear Xy;have hz:Below Z1.heap.size Z1 Z1.drew:=(qt.drew _).below _;have KF:=Gh (fun(X:World)(hX:Below Z1.heap.size Z1 X)=>(⟨((UJ.out.old Vk).old hX).cell 0,((UJ.out.old Vk).old hX).cell 1,((UJ.out.old Vk).old hX).cell 2,((UJ.out.old Vk).old hX).cell 3⟩:Gc X g5 (.int .i64 a.T.lv) (.bool a.T.ng) (.slice a.A a.T.ds.length a.c) (.slice a.K a.T.ks.length a.kc)));obtain⟨d2,Sa⟩:∃d,d=dig 2:=⟨_,rfl⟩;have KK:=Gh (fun(X:World)=>show Calls Tryz.prog 35 #[.int .i64 2] X (fun e w'=>∃D cd,e= .returned (.agg #[.bool false,.slice D d2.length cd])/\qx w' w'.heap.size D cd d2/\Below X.heap.size X w')by rw[Sa];exact qdM 2 (by omega) X);have TH:=Gh (fun(X:World)(hX:Below Z1.heap.size Z1 X)(D:Oa)(cd:Nat)(hn:qx X X.heap.size D cd d2)=>show Calls Tryz.prog 45 #[qm a.T a.A a.c a.K a.kc,.agg #[.bool false,.slice D d2.length cd]] X (Zq ((k:Int)+1) (4+1) 3 X)by rw[Sa]at hn ⊢; exact qaA (by omega) (by omega) Ea (by omega) (by omega) 2 (by omega) (by omega) D cd (Vt.out.keep ((Kp.below Vk).trans (Kp.old hX))).rv hn);have HQG:=Gh (fun(X:World)(hX:Below Z1.heap.size Z1 X)=>SU X (Gt Vk hX));unfold qm at TH;clear Sa;refine wp_region_held_drew (S:=fun w'=>Gc w' g5 (.int .i64 a.T.lv) (.bool a.T.ng) (.slice a.A a.T.ds.length a.c) (.slice a.K a.T.ks.length a.kc)) (by kernel_rfl) (KF _ hz) (fun Xa=>?_);refine tk 0 ?_
      refine tk 3 ?_
      simp only[Act.put,sA,sB,sC];generalize Z1.drew=R0 at*;refine rd1 1 (fun P hP=>?_);go_simp
      go_at_call 35
      refine(KK _).mono ?_;rintro e R1 ⟨D2,cd2,rfl,rd,st⟩
      replace hz:=Gt hz st
      clear st;refine hP _ _ (KF _ hz) (fun Xa=>?_);clear hP P
      refine rd1 2 (fun P hP=>?_);go_simp
      go_at_call 45
      refine(TH _ hz D2 cd2 rd).mono ?_;rintro e R2 hres;obtain⟨y,hvy,rfl,hr,st⟩:=hres.v;have ty:TG R2 [] y:=TG.of hr (Q6 (V:=R1) (w':=R2))
      replace hz:=Gt hz st
      clear st hr hres rd;refine hP _ _ (KF _ hz) (fun Xa=>?_);clear hP P
      refine tk 5 ?_
      simp only[Act.put,sA,sB,sC];refine rd1 4 (fun P hP=>?_);go_simp
      go_at_call 46
      refine(HQG _ hz).mono ?_;rintro e R4 EM;obtain⟨q,Rn,rfl,R5,st⟩:=EM.v;have tq:MG R4 [] q:=MG.of R5 (Q6 (V:=R2) (w':=R4))
      replace ty:=ty.keep (Kp.old st)
      replace hz:=Gt hz st
      clear st R5 EM;refine hP _ _ (KF _ hz) (fun Xa=>?_);clear hP P
      refine rd1 6 (fun P hP=>?_);have kk:=Tx.old hz;have d0:=kk.cell 13;have d1:=kk.cell 14;have d2:=kk.cell 15;have d3:=kk.cell 16;have f0:=kk.frozen 13;have f1:=kk.frozen 14;have f2:=kk.frozen 15;have f3:=kk.frozen 16;have zl:=kk.lt;have MO:=Gh (fun(x0 x1 x2 x3:Value)=>(⟨(((UJ.out.old Vk).old hz).set4_far (jf (UJ.out.old Vk) Tx (by decide)) 13 x0 x1 x2 x3).cell 0,(((UJ.out.old Vk).old hz).set4_far (jf (UJ.out.old Vk) Tx (by decide)) 13 x0 x1 x2 x3).cell 1,(((UJ.out.old Vk).old hz).set4_far (jf (UJ.out.old Vk) Tx (by decide)) 13 x0 x1 x2 x3).cell 2,(((UJ.out.old Vk).old hz).set4_far (jf (UJ.out.old Vk) Tx (by decide)) 13 x0 x1 x2 x3).cell 3⟩:(set4 R4 g13 13 x0 x1 x2 x3).cell? ⟨g5,0,none⟩=some (.int .i64 a.T.lv)/\(set4 R4 g13 13 x0 x1 x2 x3).cell? ⟨g5,1,none⟩=some (.bool a.T.ng)/\(set4 R4 g13 13 x0 x1 x2 x3).cell? ⟨g5,2,none⟩=some (.slice a.A a.T.ds.length a.c)/\(set4 R4 g13 13 x0 x1 x2 x3).cell? ⟨g5,3,none⟩=some (.slice a.K a.T.ks.length a.kc)));unfold set4 at MO;go_simp
      refine hP _ _ (MO _ _ _ _) (fun Xa=>?_);clear hP P
      have Uf:qf (set4 R4 g13 13 (.int .i64 y.T.lv) (.bool y.T.ng) (.slice y.A y.T.ds.length y.c) (.slice y.K y.T.ks.length y.kc)) g13 34 #[.int .i64 2,.int .i64 u.T.lv,.bool u.T.ng,.slice u.A u.T.ds.length u.c,.slice u.K u.T.ks.length u.kc,.int .i64 v.T.lv,.bool v.T.ng,.slice v.A v.T.ds.length v.c,.slice v.K v.T.ks.length v.kc,.int .i64 x.T.lv,.bool x.T.ng,.slice x.A x.T.ds.length x.c,.slice x.K x.T.ks.length x.kc,.int .i64 y.T.lv,.bool y.T.ng,.slice y.A y.T.ds.length y.c,.slice y.K y.T.ks.length y.kc,.int .i64 0,.int .i64 0,.int .i64 0,.bool false,.slice none 0 0,.slice none 0 0,.slice none 0 0]:=((((Tx.old hz).set_ 13 (.int .i64 y.T.lv)).set_ 14 (.bool y.T.ng)).set_ 15 (.slice y.A y.T.ds.length y.c)).set_ 16 (.slice y.K y.T.ks.length y.kc)
      replace ty:=ty.keep (Kp.set4f (Tx.old hz) zr 13 (.int .i64 y.T.lv) (.bool y.T.ng) (.slice y.A y.T.ds.length y.c) (.slice y.K y.T.ks.length y.kc))
      clear d0 d1 d2 d3 f0 f1 f2 f3 zl kk MO;refine tk 7 ?_
      simp only[Act.put,sA,sB,sC];have Lj:=qy (o:=13) (Gt ER hz) ge13 (.int .i64 y.T.lv) (.bool y.T.ng) (.slice y.A y.T.ds.length y.c) (.slice y.K y.T.ks.length y.kc);have h5:=((UJ.out.old Vk).old hz).set4_far (jf (UJ.out.old Vk) Tx (by decide)) 13 (.int .i64 y.T.lv) (.bool y.T.ng) (.slice y.A y.T.ds.length y.c) (.slice y.K y.T.ks.length y.kc)
      replace tq:=tq.keep (Kp.set4f (Tx.old hz) zr 13 (.int .i64 y.T.lv) (.bool y.T.ng) (.slice y.A y.T.ds.length y.c) (.slice y.K y.T.ks.length y.kc))
      replace tu:=(tu.keep (Kp.old hz)).keep (Kp.set4f (Tx.old hz) zr 13 (.int .i64 y.T.lv) (.bool y.T.ng) (.slice y.A y.T.ds.length y.c) (.slice y.K y.T.ks.length y.kc));replace tv:=(tv.keep (Kp.old hz)).keep (Kp.set4f (Tx.old hz) zr 13 (.int .i64 y.T.lv) (.bool y.T.ng) (.slice y.A y.T.ds.length y.c) (.slice y.K y.T.ks.length y.kc));replace tx:=(tx.keep (Kp.old hz)).keep (Kp.set4f (Tx.old hz) zr 13 (.int .i64 y.T.lv) (.bool y.T.ng) (.slice y.A y.T.ds.length y.c) (.slice y.K y.T.ks.length y.kc))
      have DV:=jf h5 Uf (by decide);clear KK TH HQG KF;generalize hX:set4 R4 g13 13 (.int .i64 y.T.lv) (.bool y.T.ng) (.slice y.A y.T.ds.length y.c) (.slice y.K y.T.ks.length y.kc)=R6 at*;unfold set4 at hX;simp only[Nat.reduceAdd]at hX;rw[hX];refine rd1 8 (fun P hP=>?_);have d0:=Uf.cell 17;have d1:=Uf.cell 18;have d2:=Uf.cell 19;have d3:=Uf.cell 20;have d4:=Uf.cell 21;have d5:=Uf.cell 22;have d6:=Uf.cell 23;have f0:=Uf.frozen 17;have f1:=Uf.frozen 18;have f2:=Uf.frozen 19;have f3:=Uf.frozen 20;have f4:=Uf.frozen 21;have f5:=Uf.frozen 22;have f6:=Uf.frozen 23;have zl:=Uf.lt;have WB:=Gh (fun(x0 x1 x2 x3 x4 x5 x6:Value)=>(⟨(h5.setP_far DV x0 x1 x2 x3 x4 x5 x6).cell 0,(h5.setP_far DV x0 x1 x2 x3 x4 x5 x6).cell 1,(h5.setP_far DV x0 x1 x2 x3 x4 x5 x6).cell 2,(h5.setP_far DV x0 x1 x2 x3 x4 x5 x6).cell 3⟩:(setP R6 g13 x0 x1 x2 x3 x4 x5 x6).cell? ⟨g5,0,none⟩=some (.int .i64 a.T.lv)/\(setP R6 g13 x0 x1 x2 x3 x4 x5 x6).cell? ⟨g5,1,none⟩=some (.bool a.T.ng)/\(setP R6 g13 x0 x1 x2 x3 x4 x5 x6).cell? ⟨g5,2,none⟩=some (.slice a.A a.T.ds.length a.c)/\(setP R6 g13 x0 x1 x2 x3 x4 x5 x6).cell? ⟨g5,3,none⟩=some (.slice a.K a.T.ks.length a.kc)));unfold setP at WB;go_simp
      refine hP _ _ (WB _ _ _ _ _ _ _) (fun Xa=>?_);clear hP P
      have Bn:qf (setP R6 g13 (.int .i64 q.M.kd) (.int .i64 q.M.rl) (.int .i64 q.M.p.lv) (.bool q.M.p.ng) (.slice q.A q.M.p.ds.length q.c) (.slice q.K q.M.p.ks.length q.kc) (.slice q.L q.M.ks.length q.lc)) g13 34 #[.int .i64 2,.int .i64 u.T.lv,.bool u.T.ng,.slice u.A u.T.ds.length u.c,.slice u.K u.T.ks.length u.kc,.int .i64 v.T.lv,.bool v.T.ng,.slice v.A v.T.ds.length v.c,.slice v.K v.T.ks.length v.kc,.int .i64 x.T.lv,.bool x.T.ng,.slice x.A x.T.ds.length x.c,.slice x.K x.T.ks.length x.kc,.int .i64 y.T.lv,.bool y.T.ng,.slice y.A y.T.ds.length y.c,.slice y.K y.T.ks.length y.kc,.int .i64 q.M.kd,.int .i64 q.M.rl,.int .i64 q.M.p.lv,.bool q.M.p.ng,.slice q.A q.M.p.ds.length q.c,.slice q.K q.M.p.ks.length q.kc,.slice q.L q.M.ks.length q.lc]:=((((((Uf.set_ 17 (.int .i64 q.M.kd)).set_ 18 (.int .i64 q.M.rl)).set_ 19 (.int .i64 q.M.p.lv)).set_ 20 (.bool q.M.p.ng)).set_ 21 (.slice q.A q.M.p.ds.length q.c)).set_ 22 (.slice q.K q.M.p.ks.length q.kc)).set_ 23 (.slice q.L q.M.ks.length q.lc)
      replace Lj:=qek Lj ge13 (.int .i64 q.M.kd) (.int .i64 q.M.rl) (.int .i64 q.M.p.lv) (.bool q.M.p.ng) (.slice q.A q.M.p.ds.length q.c) (.slice q.K q.M.p.ks.length q.kc) (.slice q.L q.M.ks.length q.lc)
      have Eu:PtA (setP R6 g13 (.int .i64 q.M.kd) (.int .i64 q.M.rl) (.int .i64 q.M.p.lv) (.bool q.M.p.ng) (.slice q.A q.M.p.ds.length q.c) (.slice q.K q.M.p.ks.length q.kc) (.slice q.L q.M.ks.length q.lc)) [] ⟨2,u,v,x,y,q⟩:=⟨.inl rfl,hu,hv,hx,hvy.ky (by omega) (by omega),Rn,tu.keep (Kp.setP Uf zr (.int .i64 q.M.kd) (.int .i64 q.M.rl) (.int .i64 q.M.p.lv) (.bool q.M.p.ng) (.slice q.A q.M.p.ds.length q.c) (.slice q.K q.M.p.ks.length q.kc) (.slice q.L q.M.ks.length q.lc)),tv.keep (Kp.setP Uf zr (.int .i64 q.M.kd) (.int .i64 q.M.rl) (.int .i64 q.M.p.lv) (.bool q.M.p.ng) (.slice q.A q.M.p.ds.length q.c) (.slice q.K q.M.p.ks.length q.kc) (.slice q.L q.M.ks.length q.lc)),tx.keep (Kp.setP Uf zr (.int .i64 q.M.kd) (.int .i64 q.M.rl) (.int .i64 q.M.p.lv) (.bool q.M.p.ng) (.slice q.A q.M.p.ds.length q.c) (.slice q.K q.M.p.ks.length q.kc) (.slice q.L q.M.ks.length q.lc)),ty.keep (Kp.setP Uf zr (.int .i64 q.M.kd) (.int .i64 q.M.rl) (.int .i64 q.M.p.lv) (.bool q.M.p.ng) (.slice q.A q.M.p.ds.length q.c) (.slice q.K q.M.p.ks.length q.kc) (.slice q.L q.M.ks.length q.lc)),tq.keep (Kp.setP Uf zr (.int .i64 q.M.kd) (.int .i64 q.M.rl) (.int .i64 q.M.p.lv) (.bool q.M.p.ng) (.slice q.A q.M.p.ds.length q.c) (.slice q.K q.M.p.ks.length q.kc) (.slice q.L q.M.ks.length q.lc))⟩;clear d0 d1 d2 d3 d4 d5 d6 f0 f1 f2 f3 f4 f5 f6 zl WB Xa tu tv tx ty tq h5 DV Uf Tx hX hz hu hv hx hvy Rn UJ UW E0 Vt TF VV Ea S9 O1 SU Vk;generalize hX:setP R6 g13 (.int .i64 q.M.kd) (.int .i64 q.M.rl) (.int .i64 q.M.p.lv) (.bool q.M.p.ng) (.slice q.A q.M.p.ds.length q.c) (.slice q.K q.M.p.ks.length q.kc) (.slice q.L q.M.ks.length q.lc)=R8 at*;unfold setP at hX;rw[hX];clear hX;refine wpAnyH_done (by kernel_rfl) ?_ _;rw[show #[.int .i64 2,.int .i64 u.T.lv,.bool u.T.ng,.slice u.A u.T.ds.length u.c,.slice u.K u.T.ks.length u.kc,.int .i64 v.T.lv,.bool v.T.ng,.slice v.A v.T.ds.length v.c,.slice v.K v.T.ks.length v.kc,.int .i64 x.T.lv,.bool x.T.ng,.slice x.A x.T.ds.length x.c,.slice x.K x.T.ks.length x.kc,.int .i64 y.T.lv,.bool y.T.ng,.slice y.A y.T.ds.length y.c,.slice y.K y.T.ks.length y.kc,.int .i64 q.M.kd,.int .i64 q.M.rl,.int .i64 q.M.p.lv,.bool q.M.p.ng,.slice q.A q.M.p.ds.length q.c,.slice q.K q.M.p.ks.length q.kc,.slice q.L q.M.ks.length q.lc]=zX.cs ⟨2,u,v,x,y,q⟩from rfl]at Bn;generalize (⟨2,u,v,x,y,q⟩:zX)=P at*;have VF:P.cs.size=24:=rfl;have XO:=P.one;have Fx:=Gh Eu;have NW:=Gh (Se.out.old Lj);have RY:=Gh (Gt Xh Lj);clear Eu Lj ER;obtain⟨cs,XE⟩:∃cs,cs=P.cs:=⟨_,rfl⟩;rw[<-XE]at Bn VF XO;have Rm:=Gh XE;clear XE;go_upto_region 12 with(fail)
      apply wp_region_lit;refine wpList_plain rfl fun K hK=>?_;go_simp
      refine hK _ _ ?_;clear hK K;refine wpList_load_row rfl _ _ rfl g13 rfl _ _ (0,0) _ Bn Tryz.underlying34 rfl (by rw[VF];kernel_rfl) ?_;simp only[Act.put,sA,sB,sC];refine wpList_plain rfl fun K hK=>?_;go_simp
      rw[QX rfl VF];refine hK _ _ ?_;clear hK K;have Xc:=Gb R8 (.cells cs 34);have Xv:=qu.cells_new R8 cs 34;rw[VF]at Xv;obtain⟨i0,Uw,Sr,Ti,R3⟩:=qO Tryz.infoPoint;have VK:Ps.length+1<=maxLen:=by have:=Tr.out;unfold maxLen;omega
      have VH:(Ps.length+1)*368<=140737488355328:=by have:=Tr.out;omega
      have Xk:=(NW.out.old Xc).1;refine qM _ rfl (.tmp 55) (.tmp 57) 37 rfl Y3.heap.size 34 i0 _ 24 368 Tryz.underlying37 Uw Sr Ti R3 rfl (by decide) lst Ps.length _ rfl Xk (R8.heap.size+1) (some ⟨R8.heap.size,0,none⟩) 1 1 cs.toList rfl Xv XO VK VH (Gl RY.out.size Xc.size) ?_;intro v' R9 Xn hg VI;clear VI;rw[Rm.out]at Xn;have Vi:=Gh (And.intro (NW.out.push Xc (Fx.out.keep (Kp.old Xc)) Xn hg) (zn Xk hg (Gt RY Xc) (Gl RY.out.size Xc.size)));clear Xn hg Xk Xv Xc XO Bn Fx NW RY;simp only[Act.put,sA,sB,sC];refine wpList_plain rfl fun K hK=>?_;go_simp
      refine hK _ _ ?_;clear hK K;have e2:IntKind.i64.wrap ((j:Int)+1)=(j:Int)+1:=IntWalk.i64_in _ (by omega);go_wp2_with fail
      go_roundg (2-(j+1))
      case rel=>exact⟨j+1,Ps++[P],by omega,rfl,by go_num,by rw[List.length_append,Tr.out];rfl,Vi.out.1,Vi.out.2⟩
      case measure=>have:=SZ.out;omega
    ·obtain rfl:j=2:=by omega
     obtain⟨g,cap,P,rest,rfl,SO,Vr,BR,AW,XC,Eu⟩:=Se.out.two Tr.out;have Ii:=Gh Vr;have CK:=Gh XC;have Fx:=Gh Eu;have DO:=Gh SO;have KW:=Gh AW;have LO:=E0.out.old Xh.out;obtain⟨e0,e1,e2,e3⟩:=G4 LO;have HZ:=Gh (JJ 400 (by omega) r.T (O1.out.q (by omega) (by omega) (by omega) (by omega)).fit r.A r.c r.K r.kc wr.heap.size wr (Gr _) (VV.out.keep (Kp.old Xh)).rv);unfold qm at HZ;generalize qI (qn r.T)=bz at*;clear Vr XC Eu SO AW LO;go_wp2_with fail
     refine HZ.out.mono ?_;rintro e w5 ⟨rfl,-,XL⟩;have XZ:=Gh XL;clear XL HZ e0 e1 e2 e3
     cases bz with
     |false=>
      go_wp2_with fail
      go_ret
      exact⟨_,Ps,rfl,by have:=Tr.out;omega,(Se.out.old XZ).mono Ue.out.size,Ue.out.trans ((Gt Xh XZ).mono Ue.out.size)⟩
     |true=>
      have Ui:=Gh (qaw (k:=(k:Int)+1) (by omega) 0 (.inr (.inl rfl)) w5);go_wp2_with fail
      refine Ui.out.mono ?_;rintro e w6 hres;obtain⟨b0,Cm,rfl,hr,XY⟩:=hres.v;have tb:=TG.of (gs:=[]) hr (Q6 (V:=w5));have Vr:=(Ii.out.old XZ).old XY;have x0:w6.cell? ⟨g,5,none⟩=some (.int .i64 P.b.T.lv):=(Vr.cell 5).trans rfl;have x1:w6.cell? ⟨g,6,none⟩=some (.bool P.b.T.ng):=(Vr.cell 6).trans rfl;have x2:w6.cell? ⟨g,7,none⟩=some (.slice P.b.A P.b.T.ds.length P.b.c):=(Vr.cell 7).trans rfl;have x3:w6.cell? ⟨g,8,none⟩=some (.slice P.b.K P.b.T.ks.length P.b.kc):=(Vr.cell 8).trans rfl;have f0:=Vr.frozen 5;have f1:=Vr.frozen 6;have f2:=Vr.frozen 7;have f3:=Vr.frozen 8;have zl:=Vr.lt;have i1:(1:Int)<=(cap:Int):=by omega
      have hb:Below w.heap.size w w6:=Ue.out.trans (((Gt Xh XZ).trans (XY.mono (Gl Xh.out.size XZ.out.size))).mono Ue.out.size);have VG:w.heap.size<=g:=Gl Ue.out.size DO.out;have Ct:=(Fx.out.keep (Kp.old XZ)).keep (Kp.old XY);have FF:Kp w6 (set4 w6 g 5 (.int .i64 b0.T.lv) (.bool b0.T.ng) (.slice b0.A b0.T.ds.length b0.c) (.slice b0.K b0.T.ks.length b0.kc)) [] []:=Kp.set4f Vr zr 5 (.int .i64 b0.T.lv) (.bool b0.T.ng) (.slice b0.A b0.T.ds.length b0.c) (.slice b0.K b0.T.ks.length b0.kc);have Xg:=Gh (show QuR w (.returned (.slice (some ⟨g,0,none⟩) 1 cap)) (set4 w6 g 5 (.int .i64 b0.T.lv) (.bool b0.T.ng) (.slice b0.A b0.T.ds.length b0.c) (.slice b0.K b0.T.ks.length b0.kc))from
       ⟨_,[{P with b:=b0}],rfl,by simp,QW.one (rest:=rest) VG (by rw[<-zX.set_b];exact(((Vr.set_ 5 _).set_ (5+1) _).set_ (5+2) _).set_ (5+3) _) (by omega) KW (by have:=CK.out;rw[List.length_append,zX.len]at this ⊢; exact this) ⟨Ct.kd,Ct.ka,Cm.ky (by omega) (by omega),Ct.kc,Ct.kD,Ct.km,Ct.ra.keep FF,tb.keep FF,Ct.rc.keep FF,Ct.rd.keep FF,Ct.rm.keep FF⟩,qy (o:=5) hb VG (.int .i64 b0.T.lv) (.bool b0.T.ng) (.slice b0.A b0.T.ds.length b0.c) (.slice b0.K b0.T.ks.length b0.kc)⟩)
      unfold set4 at Xg;simp only[Nat.reduceAdd]at Xg;clear Vr Ct FF hb tb hr XY Ui hres Cm Ii Fx Se;go_wp2_with fail
      go_ret
      exact Xg
