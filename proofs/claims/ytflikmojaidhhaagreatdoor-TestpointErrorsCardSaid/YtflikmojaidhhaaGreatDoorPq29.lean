import Derived.Test.YtflikmojaidhhaaGreatDoorPq28
import Derived.Test.YtflikmojaidhhaaGreatDoorPqA
namespace Go.Proofs.YtflikmojaidhhaaGreatDoor
open Go.RowKit
theorem Kp.setRow{w:World}{gs:List Nat}{g:Nat}{cs:Array Value}{t:TypeId}(hk:qf w g t cs)(ht:¬Ty3 t)(ds:Array Value):Kp w (w.setRow g ds) gs gs:=fun x _ _ h1 h2 h3=>⟨(setRow_other w g x ds (jf h3 hk (fun e=>ht (e▸h2)))).trans h3,h1⟩
theorem zr:¬Ty3 34:=by unfold Ty3;decide
theorem qhT{V w':World}{g:Nat}{t:TypeId}{cs:Array Value}(h:qf V g t cs)(ht:t≠123)(hb:Below V.heap.size V w'):∀x∈[g],x<V.heap.size/\∃t cs,t≠123/\qf w' x t cs:=by
 intro x hx;obtain rfl:=List.mem_singleton.1 hx;exact⟨h.lt,t,cs,ht,h.old hb⟩
theorem qll{V w':World}{g g':Nat}{t:TypeId}{cs cs':Array Value}(h:qf V g t cs)(h':qf V g' t cs')(ht:t≠123)(hb:Below V.heap.size V w'):∀x∈[g,g'],x<V.heap.size/\∃t cs,t≠123/\qf w' x t cs:=by
 intro x hx;rcases List.mem_cons.1 hx with rfl|hx
 ·exact⟨h.lt,t,cs,ht,h.old hb⟩
 ·exact qhT h' ht hb x hx
theorem Q6{V w':World}:∀x∈([]:List Nat),x<V.heap.size/\∃t cs,t≠123/\qf w' x t cs:=by simp
theorem qda{g g':Nat}:∀x∈[g,g'],x∈[g',g]:=by intro x hx;simp at hx ⊢; omega
theorem qdp{d gq:Nat}{V:World}{M0 M1:MX}{A0 K0 A5 K5:Oa}{c0 k0 c5 k5:Nat}(h0:QV d M0)(h1:QV d M1)(hk:qf V gq 32 #[.int .i64 M0.kd,.int .i64 M0.rl,.int .i64 M0.p.lv,.bool M0.p.ng,.slice A0 M0.p.ds.length c0,.slice K0 M0.p.ks.length k0,.slice none 0 0,.int .i64 M1.kd,.int .i64 M1.rl,.int .i64 M1.p.lv,.bool M1.p.ng,.slice A5 M1.p.ds.length c5,.slice K5 M1.p.ks.length k5,.slice none 0 0])(r0:RV V (· <V.heap.size) M0.p (qe M0.p A0 c0 K0 k0))(r1:RV V (· <V.heap.size) M1.p (qe M1.p A5 c5 K5 k5)):∀j,j<2->Zf d V gq j:=by
 intro j hj;obtain rfl|rfl:j=0∨j=1:=by omega
 ·exact⟨M0,A0,c0,K0,k0,h0,r0,hk.lt,hk.cell 0,hk.cell 1,hk.cell 2,hk.cell 3,hk.cell 4,hk.cell 5,hk.cell 6⟩
 ·exact⟨M1,A5,c5,K5,k5,h1,r1,hk.lt,hk.cell 7,hk.cell 8,hk.cell 9,hk.cell 10,hk.cell 11,hk.cell 12,hk.cell 13⟩
theorem qiI{F:World->Nat->Nat->Oa->Nat->Oa->Nat->Oa->Nat->Oa->Nat->Prop}{G:Prop}(I:World->Nat->Nat->Oa->Nat->Oa->Nat->Oa->Nat->Oa->Nat->Prop)(h1:(∀V g g' A c K k A' c' K' k',I V g g' A c K k A' c' K' k'->F V g g' A c K k A' c' K' k')->G)(h2:∀V g g' A c K k A' c' K' k',I V g g' A c K k A' c' K' k'->F V g g' A c K k A' c' K' k'):G:=h1 h2
theorem GuR.v{w w':World}{e:Ending}(h:GuR w e w'):∃m:MV6,KyM 3 m.M/\e= .returned (.agg #[.int .i64 m.M.kd,.int .i64 m.M.rl,.int .i64 m.M.p.lv,.bool m.M.p.ng,.slice m.A m.M.p.ds.length m.c,.slice m.K m.M.p.ks.length m.kc,.slice m.L m.M.ks.length m.lc])/\MV w' (OkM w' w.heap.size none) m.M (jn m.M m.A m.c m.K m.kc m.L m.lc)/\Below w.heap.size w w':=by
 obtain⟨M,h1,A,c,K,kc,L,lc,h2,h3,h4⟩:=h;exact⟨⟨M,A,c,K,kc,L,lc⟩,h1,h2,h3,h4⟩
theorem zM.v{d:Nat}{w w':World}{e:Ending}(h:∃M,QV d M/\zM M w e w'):∃n:MV6,QV d n.M/\e= .returned (.agg #[.int .i64 n.M.kd,.int .i64 n.M.rl,.int .i64 n.M.p.lv,.bool n.M.p.ng,.slice n.A n.M.p.ds.length n.c,.slice n.K n.M.p.ks.length n.kc,.slice none 0 0])/\RB w' w.heap.size n.M.p (qe n.M.p n.A n.c n.K n.kc)/\Below w.heap.size w w':=by
 obtain⟨M,h1,-,A,c,K,kc,h2,h3,h4⟩:=h;exact⟨⟨M,A,c,K,kc,none,0⟩,h1,h2,h3,h4⟩
theorem qi9{F:World->Nat->Nat->MV6->MV6->Prop}{G:Prop}(I:World->Nat->MV6->Prop)(h1:(∀V g r n m,I V g m->F V g r n m)->G)(h2:∀V g r n m,I V g m->F V g r n m):G:=h1 h2
set_option maxHeartbeats 4000000
set_option maxRecDepth 100000
theorem qio(k:Nat)(hk:k<4)(p:RP)(hp:QB ((k:Int)+1) 3 4 p)(A:Oa)(c:Nat)(K:Oa)(kc:Nat)(M0:MX)(hM0:QV 5 M0)(A0:Oa)(c0:Nat)(K0:Oa)(k0:Nat)(w:World)(h:RV w (· <w.heap.size) p (qe p A c K kc))(h0:RV w (· <w.heap.size) M0.p (qe M0.p A0 c0 K0 k0)):
 Calls Tryz.prog 17 #[qm p A c K kc,.int .i64 ((k:Int)+1),.agg #[.int .i64 M0.kd,.int .i64 M0.rl,.int .i64 M0.p.lv,.bool M0.p.ng,.slice A0 M0.p.ds.length c0,.slice K0 M0.p.ks.length k0,.slice none 0 0]] w (PtR 2 (fun T=>T=(qD ((k:Int)+1) p).getD 1 qh) w):=by
 obtain⟨T1,VU⟩:∃T,T=(qD ((k:Int)+1) p).getD 1 qh:=⟨_,rfl⟩;obtain⟨T2,Ri⟩:∃T,T=(qD ((k:Int)+1) p).getD 0 qh:=⟨_,rfl⟩;have hV:∀i,Vp ((k:Int)+1) 4 3 ((qD ((k:Int)+1) p).getD i qh):=fun i=>by
  rw[List.getD_eq_getElem?_getD]
  cases h:(qD ((k:Int)+1) p)[i]? with
  |none=>exact Vp.zero (by omega)
  |some u=>exact hp.cfs hk u (Gk h)
 have MI:=Gh (show Vp ((k:Int)+1) 4 3 T1 by rw[VU];exact hV 1);have Td:=Gh (show Vp ((k:Int)+1) 4 3 T2 by rw[Ri];exact hV 0);have Ew:=Gh VU;have Vv:=Gh (fun(V:World)(hb:Below w.heap.size w V)=>show Calls Tryz.prog 18 #[qm p A c K kc,.int .i64 ((k:Int)+1),.int .i64 1] V (qS T1 V)by rw[VU];exact qak 400 (by omega) ((k:Int)+1) (by omega) (by omega) p hp.fit (hp.fitc (by omega)) 1 (by omega) A c K kc w.heap.size V hb.size (h.below hb));have FP:=Gh (fun(V:World)(hb:Below w.heap.size w V)=>show Calls Tryz.prog 18 #[qm p A c K kc,.int .i64 ((k:Int)+1),.int .i64 0] V (qS T2 V)by rw[Ri];exact qak 400 (by omega) ((k:Int)+1) (by omega) (by omega) p hp.fit (hp.fitc (by omega)) 0 (by omega) A c K kc w.heap.size V hb.size (h.below hb));have Fw:=Gh h0;have HL0:=Gh hM0;obtain⟨Xb,k0',k1,k2,hs⟩:=jN w 28 32 34 (Gx p A c K kc) #[.int .i64 M0.kd,.int .i64 M0.rl,.int .i64 M0.p.lv,.bool M0.p.ng,.slice A0 M0.p.ds.length c0,.slice K0 M0.p.ks.length k0,.slice none 0 0] #[.int .i64 0,.int .i64 0,.bool false,.slice none 0 0,.slice none 0 0,.int .i64 0,.bool false,.slice none 0 0,.slice none 0 0,.int .i64 0,.bool false,.slice none 0 0,.slice none 0 0,.int .i64 0,.bool false,.slice none 0 0,.slice none 0 0,.int .i64 0,.int .i64 0,.int .i64 0,.bool false,.slice none 0 0,.slice none 0 0,.slice none 0 0];have Xd:=Gh Xb;have Xo:=Gh k0';have Xu:=Gh k1;have XA:=Gh k2;unfold qm at Vv FP ⊢;clear VU Ri hV hp h h0 hM0 Xb k0' k1 k2 hs;go_enter Tryz.func17,Tryz.ntmps17
 go_upto_region 1 with(fail)
 generalize ((w.alloc (.cells (Gx p A c K kc) 28)).alloc (.cells #[.int .i64 M0.kd,.int .i64 M0.rl,.int .i64 M0.p.lv,.bool M0.p.ng,.slice A0 M0.p.ds.length c0,.slice K0 M0.p.ks.length k0,.slice none 0 0] 32)).alloc (.cells #[.int .i64 0,.int .i64 0,.bool false,.slice none 0 0,.slice none 0 0,.int .i64 0,.bool false,.slice none 0 0,.slice none 0 0,.int .i64 0,.bool false,.slice none 0 0,.slice none 0 0,.int .i64 0,.bool false,.slice none 0 0,.slice none 0 0,.int .i64 0,.int .i64 0,.int .i64 0,.bool false,.slice none 0 0,.slice none 0 0,.slice none 0 0] 34)=W at*;have KF:=Gh (fun(X:World)(hX:Below W.heap.size W X)=>(⟨(Xo.out.old hX).cell 0,(Xo.out.old hX).cell 1,(Xo.out.old hX).cell 2,(Xo.out.old hX).cell 3⟩:Gc X w.heap.size (.int .i64 p.lv) (.bool p.ng) (.slice A p.ds.length c) (.slice K p.ks.length kc)));have hz:Below W.heap.size W W.drew:=(qt.drew _).below _;refine wp_region_held_drew (S:=fun w'=>Gc w' w.heap.size (.int .i64 p.lv) (.bool p.ng) (.slice A p.ds.length c) (.slice K p.ks.length kc)) (by kernel_rfl) (KF _ hz) (fun Xa=>?_);refine tk 0 ?_
 refine tk 1 ?_
 refine tk 3 ?_
 refine tk 4 ?_
 simp only[Act.put,sA,sB,sC];generalize W.drew=V at*;apply qiI (fun X g g' A1 c1 K1 k1 A2 c2 K2 k2=>Below W.heap.size W X/\qf X g 28 Gz/\qf X g' 28 Gz/\W.heap.size<=g/\W.heap.size<=g'/\g≠g'/\TG X [g,g'] ⟨T1,A1,c1,K1,k1⟩/\TG X [g,g'] ⟨T2,A2,c2,K2,k2⟩)
 case h1=>
  intro HJ
  iterate 4
   all_goals first
    |refine rd3 2 6 7 (fun P hP=>?_) (fun P hP=>?_) (fun P hP=>?_) (by decide+kernel)
    |refine rd3 5 6 7 (fun P hP=>?_) (fun P hP=>?_) (fun P hP=>?_) (by decide+kernel)
    |refine rd2 6 7 (fun P hP=>?_) (fun P hP=>?_) (by decide+kernel)
    |refine rd2 2 6 (fun P hP=>?_) (fun P hP=>?_) (by decide+kernel)
    |refine rd2 2 7 (fun P hP=>?_) (fun P hP=>?_) (by decide+kernel)
    |refine rd2 5 6 (fun P hP=>?_) (fun P hP=>?_) (by decide+kernel)
    |refine rd2 5 7 (fun P hP=>?_) (fun P hP=>?_) (by decide+kernel)
    |refine rd1 2 (fun P hP=>?_) (by decide+kernel)
    |refine rd1 5 (fun P hP=>?_) (by decide+kernel)
    |refine rd1 6 (fun P hP=>?_) (by decide+kernel)
    |refine rd1 7 (fun P hP=>?_) (by decide+kernel)
   all_goals
    go_simp
    first
     |(have hq:=t1
       clear hq;go_at_call 18
       refine(FP _ (Gt Xd hz)).mono ?_;rintro e V ⟨A2,c2,K2,k2,rfl,hr,st⟩;first
        |have t2:=TG.of (gs:=[gb,ga]) (v:=⟨T2,A2,c2,K2,k2⟩) hr (qll bb ba (by decide) st)
        |have t2:=TG.of (gs:=[ga]) (v:=⟨T2,A2,c2,K2,k2⟩) hr (qhT ba (by decide) st)
        |have t2:=TG.of (gs:=[]) (v:=⟨T2,A2,c2,K2,k2⟩) hr Q6
       replace hz:=Gt hz st
       (try replace ba:=ba.old st);(try replace bb:=bb.old st);(try replace t1:=t1.keep (Kp.old st))
       clear st hr;refine hP _ _ (KF _ hz) (fun Xa=>?_);clear hP P
       (try simp only[Act.put,sA,sB,sC]))
     |(go_at_call 18
       refine(Vv _ (Gt Xd hz)).mono ?_;rintro e V ⟨A1,c1,K1,k1,rfl,hr,st⟩;first
        |have t1:=TG.of (gs:=[gb,ga]) (v:=⟨T1,A1,c1,K1,k1⟩) hr (qll bb ba (by decide) st)
        |have t1:=TG.of (gs:=[ga]) (v:=⟨T1,A1,c1,K1,k1⟩) hr (qhT ba (by decide) st)
        |have t1:=TG.of (gs:=[]) (v:=⟨T1,A1,c1,K1,k1⟩) hr Q6
       replace hz:=Gt hz st
       (try replace ba:=ba.old st);(try replace bb:=bb.old st)
       clear st hr;refine hP _ _ (KF _ hz) (fun Xa=>?_);clear hP P
       (try simp only[Act.put,sA,sB,sC]))
     |(have ne:=Nat.ne_of_lt ba.lt
       have st:=Gb V (.cells Gz 28);refine hP _ (V.alloc (.cells Gz 28)) (KF _ (Gt hz st)) (fun Xa=>?_);clear hP P
       have bb:=qf.new V 28 Gz;have geb:=hz.size
       replace ba:=ba.old st
       (try replace t1:=t1.keep (Kp.add st (Gr _)));(try replace t2:=t2.keep (Kp.add st (Gr _)))
       replace hz:=Gt hz st
       clear st;generalize V.heap.size=gb at*;generalize V.alloc (.cells Gz 28)=V at*)
     |(have st:=Gb V (.cells Gz 28)
       refine hP _ (V.alloc (.cells Gz 28)) (KF _ (Gt hz st)) (fun Xa=>?_);clear hP P
       have ba:=qf.new V 28 Gz;have gea:=hz.size
       (try replace t1:=t1.keep (Kp.add st (Gr _)));(try replace t2:=t2.keep (Kp.add st (Gr _)))
       replace hz:=Gt hz st
       clear st;generalize V.heap.size=ga at*;generalize V.alloc (.cells Gz 28)=V at*)
  all_goals first
   |exact HJ _ ga gb _ _ _ _ _ _ _ _ ⟨hz,ba,bb,gea,geb,ne,t1.keep (Kp.sub qda),t2.keep (Kp.sub qda)⟩
   |exact HJ _ gb ga _ _ _ _ _ _ _ _ ⟨hz,bb,ba,geb,gea,Ne.symm ne,t1,t2⟩
 case h2=>
  clear hz;intro V g6 g7 A1 c1 K1 k1 A2 c2 K2 k2 ⟨hz,b6,b7,ge6,ge7,ne,t1,t2⟩;refine rd1 8 (fun P hP=>?_);obtain⟨d0,d1,d2,d3⟩:=G4 b6;obtain⟨f0,f1,f2,f3,zl⟩:=G5 b6;go_simp
  have Xy:=qy (o:=0) hz ge6 (.int .i64 T1.lv) (.bool T1.ng) (.slice A1 T1.ds.length c1) (.slice K1 T1.ks.length k1);unfold set4 at Xy;refine hP _ _ (KF _ Xy) (fun Xa=>?_);clear hP P
  clear d0 d1 d2 d3 f0 f1 f2 f3 zl;have c6:=(jm (k:=0) b6 (.int .i64 T1.lv) (.bool T1.ng) (.slice A1 T1.ds.length c1) (.slice K1 T1.ks.length k1)).1;have c7:=b7.set4_far (Ne.symm ne) 0 (.int .i64 T1.lv) (.bool T1.ng) (.slice A1 T1.ds.length c1) (.slice K1 T1.ks.length k1);have u1:=t1.keep (Kp.set4 (g:=g6) (by simp) (.int .i64 T1.lv) (.bool T1.ng) (.slice A1 T1.ds.length c1) (.slice K1 T1.ks.length k1));have u2:=t2.keep (Kp.set4 (g:=g6) (by simp) (.int .i64 T1.lv) (.bool T1.ng) (.slice A1 T1.ds.length c1) (.slice K1 T1.ks.length k1));clear b6 b7 t1 t2 hz;change qf (set4 V g6 0 (.int .i64 T1.lv) (.bool T1.ng) (.slice A1 T1.ds.length c1) (.slice K1 T1.ks.length k1)) _ _ _ at c6;generalize hX:set4 V g6 0 (.int .i64 T1.lv) (.bool T1.ng) (.slice A1 T1.ds.length c1) (.slice K1 T1.ks.length k1)=X at*;have HX:=Gh hX;unfold set4 at hX;simp only[Nat.zero_add]at hX;rw[hX]at Xy ⊢;clear hX HX;refine rd1 9 (fun P hP=>?_);obtain⟨d0,d1,d2,d3⟩:=G4 c7;obtain⟨f0,f1,f2,f3,zl⟩:=G5 c7;go_simp
  have Lm:=qy (o:=0) Xy ge7 (.int .i64 T2.lv) (.bool T2.ng) (.slice A2 T2.ds.length c2) (.slice K2 T2.ks.length k2);unfold set4 at Lm;refine hP _ _ (KF _ Lm) (fun Xa=>?_);clear hP P
  clear d0 d1 d2 d3 f0 f1 f2 f3 zl;have UJ:=Gh (c6.set4_far ne 0 (.int .i64 T2.lv) (.bool T2.ng) (.slice A2 T2.ds.length c2) (.slice K2 T2.ks.length k2));have UW:=Gh (jm (k:=0) c7 (.int .i64 T2.lv) (.bool T2.ng) (.slice A2 T2.ds.length c2) (.slice K2 T2.ks.length k2)).1;have Vt:=Gh ((u1.keep (Kp.set4 (g:=g7) (by simp) (.int .i64 T2.lv) (.bool T2.ng) (.slice A2 T2.ds.length c2) (.slice K2 T2.ks.length k2))).keep (Kp.sub (gs':=[]) (by simp)));have TF:=Gh ((u2.keep (Kp.set4 (g:=g7) (by simp) (.int .i64 T2.lv) (.bool T2.ng) (.slice A2 T2.ds.length c2) (.slice K2 T2.ks.length k2))).keep (Kp.sub (gs':=[]) (by simp)));clear c6 c7 u1 u2 Xy;change Hid (qf (set4 X g7 0 (.int .i64 T2.lv) (.bool T2.ng) (.slice A2 T2.ds.length c2) (.slice K2 T2.ks.length k2)) g7 28 (Gx T2 A2 c2 K2 k2))at UW;generalize hY:set4 X g7 0 (.int .i64 T2.lv) (.bool T2.ng) (.slice A2 T2.ds.length c2) (.slice K2 T2.ks.length k2)=Y at*;unfold set4 at hY;simp only[Nat.zero_add]at hY;rw[hY]at Lm ⊢;clear hY;have F1:=Gh (show qf Y g6 28 (Gx T1 A1 c1 K1 k1)from UJ);clear UJ;refine wpAnyH_done (by kernel_rfl) ?_ _;have Ue:=Gh Lm;clear Xa Lm KF Vv FP;go_upto_region 2 with(fail)
  have hz:Below Y.heap.size Y Y.drew:=(qt.drew _).below _;have KF:=Gh (fun(X:World)(hX:Below Y.heap.size Y X)=>(⟨(Xu.out.old (Gt Ue hX)).cell 0,(Xu.out.old (Gt Ue hX)).cell 1,(Xu.out.old (Gt Ue hX)).cell 2,(Xu.out.old (Gt Ue hX)).cell 3,(Xu.out.old (Gt Ue hX)).cell 4,(Xu.out.old (Gt Ue hX)).cell 5,(Xu.out.old (Gt Ue hX)).cell 6,(F1.out.old hX).cell 0,(F1.out.old hX).cell 1,(F1.out.old hX).cell 2,(F1.out.old hX).cell 3⟩:Gd X (w.heap.size+1) (.int .i64 M0.kd) (.int .i64 M0.rl) (.int .i64 M0.p.lv) (.bool M0.p.ng) (X.cell? ⟨w.heap.size+1,4,none⟩=some (.slice A0 M0.p.ds.length c0)/\X.cell? ⟨w.heap.size+1,5,none⟩=some (.slice K0 M0.p.ks.length k0)/\X.cell? ⟨w.heap.size+1,6,none⟩=some (.slice none 0 0)/\Gc X g6 (.int .i64 T1.lv) (.bool T1.ng) (.slice A1 T1.ds.length c1) (.slice K1 T1.ks.length k1))));have Sz:=Gh (fun(X:World)(hX:Below Y.heap.size Y X)=>Qq (MI.out.mono (d':=4) (n':=6) (by omega) (by omega)) (by omega) (by omega) (by omega) 4 (Vt.out.keep (Kp.old hX)).rv);have KZ:=Gh (fun(A:Oa)(X:World)=>zN A 2 2 X);have Nj:=Gh (fun(X:World)(hX:Below Y.heap.size Y X)=>(Fw.out.below ((Gt Xd Ue).trans (hX.mono (Gl Xd.out.size Ue.out.size)))).more ((Gt Xd Ue).trans (hX.mono (Gl Xd.out.size Ue.out.size))).size);have TX:=Gh (fun(g:Nat)(X:World)(hk:∀j,j<2->Zf 5 X g j)=>qhS 5 (by omega) g X hk);unfold qm at Sz;refine wp_region_held_drew (S:=fun w'=>Gd w' (w.heap.size+1) (.int .i64 M0.kd) (.int .i64 M0.rl) (.int .i64 M0.p.lv) (.bool M0.p.ng) (w'.cell? ⟨w.heap.size+1,4,none⟩=some (.slice A0 M0.p.ds.length c0)/\w'.cell? ⟨w.heap.size+1,5,none⟩=some (.slice K0 M0.p.ks.length k0)/\w'.cell? ⟨w.heap.size+1,6,none⟩=some (.slice none 0 0)/\Gc w' g6 (.int .i64 T1.lv) (.bool T1.ng) (.slice A1 T1.ds.length c1) (.slice K1 T1.ks.length k1))) (by kernel_rfl) (KF _ hz) (fun Xa=>?_);refine tk 0 ?_
  refine tk 1 ?_
  simp only[Act.put,sA,sB,sC];generalize Y.drew=U at*;apply qi9 (fun X g9 m=>Below Y.heap.size Y X/\qf X g9 32 Gy/\Y.heap.size<=g9/\KyM 3 m.M/\MG X [g9] m)
  case h1=>
   intro HJ
   iterate 5
    all_goals first
     |refine rd2 2 6 (fun P hP=>?_) (fun P hP=>?_) (by decide+kernel)
     |refine rd2 3 6 (fun P hP=>?_) (fun P hP=>?_) (by decide+kernel)
     |refine rd2 4 6 (fun P hP=>?_) (fun P hP=>?_) (by decide+kernel)
     |refine rd2 5 6 (fun P hP=>?_) (fun P hP=>?_) (by decide+kernel)
     |refine rd1 2 (fun P hP=>?_) (by decide+kernel)
     |refine rd1 3 (fun P hP=>?_) (by decide+kernel)
     |refine rd1 4 (fun P hP=>?_) (by decide+kernel)
     |refine rd1 5 (fun P hP=>?_) (by decide+kernel)
     |refine rd1 6 (fun P hP=>?_) (by decide+kernel)
    all_goals
     go_simp
     first
      |(go_at_call 22
        refine(Sz _ hz).mono ?_;rintro e U hlf;obtain⟨n,Wd,rfl,hr,st⟩:=zM.v hlf;have r1:=hr.rv
        replace hz:=Gt hz st
        (try replace b9:=b9.old st)
        clear hr hlf st;refine hP _ _ (KF _ hz) (fun Xa=>?_);clear hP P
        (try simp only[Act.put,sA,sB,sC]))
      |(go_at_call 39
        refine(KZ _ _).mono ?_;rintro e U ⟨rfl,st⟩
        replace bR:=bR.old st;replace r1:=(r1.below st).more st.size;replace hz:=Gt hz st
        (try replace b9:=b9.old st)
        clear st;refine hP _ _ (KF _ hz) (fun Xa=>?_);clear hP P
        (try simp only[Act.put,sA,sB,sC]))
      |(go_at_call 38
        refine(TX _ _ (qdp HL0 Wd bR (Nj _ hz) r1)).mono ?_;rintro e U EM;obtain⟨m,Rn,rfl,R5,st⟩:=EM.v;first
         |have Cv:=MG.of (gs:=[g9]) R5 (qhT b9 (by decide) st)
         |have Cv:=MG.of (gs:=[]) R5 Q6
        replace hz:=Gt hz st
        (try replace b9:=b9.old st)
        clear R5 EM bR r1 st;refine hP _ _ (KF _ hz) (fun Xa=>?_);clear hP P
        (try simp only[Act.put,sA,sB,sC]))
      |(have st:=Gb U (.cells #[.int .i64 M0.kd,.int .i64 M0.rl,.int .i64 M0.p.lv,.bool M0.p.ng,.slice A0 M0.p.ds.length c0,.slice K0 M0.p.ks.length k0,.slice none 0 0,.int .i64 n.M.kd,.int .i64 n.M.rl,.int .i64 n.M.p.lv,.bool n.M.p.ng,.slice n.A n.M.p.ds.length n.c,.slice n.K n.M.p.ks.length n.kc,.slice none 0 0] 32)
        refine hP _ (U.alloc (.cells #[.int .i64 M0.kd,.int .i64 M0.rl,.int .i64 M0.p.lv,.bool M0.p.ng,.slice A0 M0.p.ds.length c0,.slice K0 M0.p.ks.length k0,.slice none 0 0,.int .i64 n.M.kd,.int .i64 n.M.rl,.int .i64 n.M.p.lv,.bool n.M.p.ng,.slice n.A n.M.p.ds.length n.c,.slice n.K n.M.p.ks.length n.kc,.slice none 0 0] 32)) (KF _ (Gt hz st)) (fun Xa=>?_);clear hP P
        have bR:=qf.new U 32 #[.int .i64 M0.kd,.int .i64 M0.rl,.int .i64 M0.p.lv,.bool M0.p.ng,.slice A0 M0.p.ds.length c0,.slice K0 M0.p.ks.length k0,.slice none 0 0,.int .i64 n.M.kd,.int .i64 n.M.rl,.int .i64 n.M.p.lv,.bool n.M.p.ng,.slice n.A n.M.p.ds.length n.c,.slice n.K n.M.p.ks.length n.kc,.slice none 0 0]
        (try replace b9:=b9.old st)
        replace r1:=(r1.below st).more st.size
        replace hz:=Gt hz st
        clear st;generalize U.heap.size=gR at*;generalize U.alloc (.cells #[.int .i64 M0.kd,.int .i64 M0.rl,.int .i64 M0.p.lv,.bool M0.p.ng,.slice A0 M0.p.ds.length c0,.slice K0 M0.p.ks.length k0,.slice none 0 0,.int .i64 n.M.kd,.int .i64 n.M.rl,.int .i64 n.M.p.lv,.bool n.M.p.ng,.slice n.A n.M.p.ds.length n.c,.slice n.K n.M.p.ks.length n.kc,.slice none 0 0] 32)=U at*)
      |(have st:=Gb U (.cells Gy 32)
        refine hP _ (U.alloc (.cells Gy 32)) (KF _ (Gt hz st)) (fun Xa=>?_);clear hP P
        have b9:=qf.new U 32 Gy;have ge9:=hz.size
        (try replace bR:=bR.old st);(try replace Cv:=Cv.keep (Kp.add st (Gr _)));(try replace r1:=(r1.below st).more st.size)
        replace hz:=Gt hz st
        clear st;generalize U.heap.size=g9 at*;generalize U.alloc (.cells Gy 32)=U at*)
   all_goals first
    |exact HJ _ g9 gR n m ⟨hz,b9,ge9,Rn,Cv⟩
  case h2=>
   clear hz;intro U g9 gR n m ⟨hz,b9,ge9,Rn,Cv⟩;refine rd1 7 (fun P hP=>?_);obtain⟨d0,d1,d2,d3⟩:=G4 b9;have d4:=b9.cell 4;have d5:=b9.cell 5;have d6:=b9.cell 6;have f0:=b9.frozen 0;have f1:=b9.frozen 1;have f2:=b9.frozen 2;have f3:=b9.frozen 3;have f4:=b9.frozen 4;have f5:=b9.frozen 5;have f6:=b9.frozen 6;have zl:=b9.lt;go_simp
   have Xy:=Below.seven hz ge9 (.int .i64 m.M.kd) (.int .i64 m.M.rl) (.int .i64 m.M.p.lv) (.bool m.M.p.ng) (.slice m.A m.M.p.ds.length m.c) (.slice m.K m.M.p.ks.length m.kc) (.slice m.L m.M.ks.length m.lc);unfold set7 at Xy;refine hP _ _ (KF _ Xy) (fun Xa=>?_);clear hP P
   clear d0 d1 d2 d3 d4 d5 d6 f0 f1 f2 f3 f4 f5 f6 zl;have Cy:qf (set7 U g9 (.int .i64 m.M.kd) (.int .i64 m.M.rl) (.int .i64 m.M.p.lv) (.bool m.M.p.ng) (.slice m.A m.M.p.ds.length m.c) (.slice m.K m.M.p.ks.length m.kc) (.slice m.L m.M.ks.length m.lc)) g9 32 #[.int .i64 m.M.kd,.int .i64 m.M.rl,.int .i64 m.M.p.lv,.bool m.M.p.ng,.slice m.A m.M.p.ds.length m.c,.slice m.K m.M.p.ks.length m.kc,.slice m.L m.M.ks.length m.lc]:=(Qd b9 (.int .i64 m.M.kd) (.int .i64 m.M.rl) (.int .i64 m.M.p.lv) (.bool m.M.p.ng) (.slice m.A m.M.p.ds.length m.c) (.slice m.K m.M.p.ks.length m.kc) (.slice m.L m.M.ks.length m.lc)).1;have VY:=(Cv.keep (Kp.set7 (g:=g9) (by simp) (.int .i64 m.M.kd) (.int .i64 m.M.rl) (.int .i64 m.M.p.lv) (.bool m.M.p.ng) (.slice m.A m.M.p.ds.length m.c) (.slice m.K m.M.p.ks.length m.kc) (.slice m.L m.M.ks.length m.lc))).keep (Kp.sub (gs':=[]) (by simp));have FF:Kp Y (set7 U g9 (.int .i64 m.M.kd) (.int .i64 m.M.rl) (.int .i64 m.M.p.lv) (.bool m.M.p.ng) (.slice m.A m.M.p.ds.length m.c) (.slice m.K m.M.p.ks.length m.kc) (.slice m.L m.M.ks.length m.lc)) [] []:=((Kp.add hz ge9).trans (Kp.set7 (g:=g9) (by simp) (.int .i64 m.M.kd) (.int .i64 m.M.rl) (.int .i64 m.M.p.lv) (.bool m.M.p.ng) (.slice m.A m.M.p.ds.length m.c) (.slice m.K m.M.p.ks.length m.kc) (.slice m.L m.M.ks.length m.lc))).trans (Kp.sub (by simp));clear b9 Cv hz;generalize hX:set7 U g9 (.int .i64 m.M.kd) (.int .i64 m.M.rl) (.int .i64 m.M.p.lv) (.bool m.M.p.ng) (.slice m.A m.M.p.ds.length m.c) (.slice m.K m.M.p.ks.length m.kc) (.slice m.L m.M.ks.length m.lc)=X2 at*;unfold set7 at hX;rw[hX]at Xy ⊢;clear hX;refine wpAnyH_done (by kernel_rfl) ?_ _;have HTA2:=Gh (Vt.out.keep FF);have HTB2:=Gh (TF.out.keep FF);have B4:=Gh VY;have TI:=Gh Rn;have Sg:=Gh Cy;have SX:=Gh (F1.out.old Xy);have Sh:=Gh (UW.out.old Xy);have Xw:=Gh ((Gt Xd Ue).trans (Xy.mono (Gl Xd.out.size Ue.out.size)));have Bv:=Gh ((XA.out.old Ue).old Xy);clear Xa Xy KF Sz KZ Nj TX F1 UW Vt TF VY FF Cy Rn Xo Xu Fw HL0 Ue Xd XA;go_upto_region 3 with(fail)
   have hz:Below X2.heap.size X2 X2.drew:=(qt.drew _).below _;have KF:=Gh (fun(X:World)(hX:Below X2.heap.size X2 X)=>(⟨(Sh.out.old hX).cell 0,(Sh.out.old hX).cell 1,(Sh.out.old hX).cell 2,(Sh.out.old hX).cell 3,(SX.out.old hX).cell 0,(SX.out.old hX).cell 1,(SX.out.old hX).cell 2,(SX.out.old hX).cell 3,(Sg.out.old hX).cell 0,(Sg.out.old hX).cell 1,(Sg.out.old hX).cell 2,(Sg.out.old hX).cell 3,(Sg.out.old hX).cell 4,(Sg.out.old hX).cell 5,(Sg.out.old hX).cell 6⟩:Gd X g7 (.int .i64 T2.lv) (.bool T2.ng) (.slice A2 T2.ds.length c2) (.slice K2 T2.ks.length k2) (Gd X g6 (.int .i64 T1.lv) (.bool T1.ng) (.slice A1 T1.ds.length c1) (.slice K1 T1.ks.length k1) (Gd X g9 (.int .i64 m.M.kd) (.int .i64 m.M.rl) (.int .i64 m.M.p.lv) (.bool m.M.p.ng) (X.cell? ⟨g9,4,none⟩=some (.slice m.A m.M.p.ds.length m.c)/\X.cell? ⟨g9,5,none⟩=some (.slice m.K m.M.p.ks.length m.kc)/\X.cell? ⟨g9,6,none⟩=some (.slice m.L m.M.ks.length m.lc))))));have n7:=jf Sh Bv (by decide);have n6:=jf SX Bv (by decide);have n9:=jf Sg Bv (by decide);have KS:=Gh (fun(X:World)(hX:Below X2.heap.size X2 X)(cs:Array Value)=>(⟨(cell_setRow_other X (w.heap.size+2) cs ⟨g7,0,none⟩ n7).trans ((Sh.out.old hX).cell 0),(cell_setRow_other X (w.heap.size+2) cs ⟨g7,1,none⟩ n7).trans ((Sh.out.old hX).cell 1),(cell_setRow_other X (w.heap.size+2) cs ⟨g7,2,none⟩ n7).trans ((Sh.out.old hX).cell 2),(cell_setRow_other X (w.heap.size+2) cs ⟨g7,3,none⟩ n7).trans ((Sh.out.old hX).cell 3),(cell_setRow_other X (w.heap.size+2) cs ⟨g6,0,none⟩ n6).trans ((SX.out.old hX).cell 0),(cell_setRow_other X (w.heap.size+2) cs ⟨g6,1,none⟩ n6).trans ((SX.out.old hX).cell 1),(cell_setRow_other X (w.heap.size+2) cs ⟨g6,2,none⟩ n6).trans ((SX.out.old hX).cell 2),(cell_setRow_other X (w.heap.size+2) cs ⟨g6,3,none⟩ n6).trans ((SX.out.old hX).cell 3),(cell_setRow_other X (w.heap.size+2) cs ⟨g9,0,none⟩ n9).trans ((Sg.out.old hX).cell 0),(cell_setRow_other X (w.heap.size+2) cs ⟨g9,1,none⟩ n9).trans ((Sg.out.old hX).cell 1),(cell_setRow_other X (w.heap.size+2) cs ⟨g9,2,none⟩ n9).trans ((Sg.out.old hX).cell 2),(cell_setRow_other X (w.heap.size+2) cs ⟨g9,3,none⟩ n9).trans ((Sg.out.old hX).cell 3),(cell_setRow_other X (w.heap.size+2) cs ⟨g9,4,none⟩ n9).trans ((Sg.out.old hX).cell 4),(cell_setRow_other X (w.heap.size+2) cs ⟨g9,5,none⟩ n9).trans ((Sg.out.old hX).cell 5),(cell_setRow_other X (w.heap.size+2) cs ⟨g9,6,none⟩ n9).trans ((Sg.out.old hX).cell 6)⟩:(X.setRow (w.heap.size+2) cs).cell? ⟨g7,0,none⟩=some (.int .i64 T2.lv)/\(X.setRow (w.heap.size+2) cs).cell? ⟨g7,1,none⟩=some (.bool T2.ng)/\(X.setRow (w.heap.size+2) cs).cell? ⟨g7,2,none⟩=some (.slice A2 T2.ds.length c2)/\(X.setRow (w.heap.size+2) cs).cell? ⟨g7,3,none⟩=some (.slice K2 T2.ks.length k2)/\(X.setRow (w.heap.size+2) cs).cell? ⟨g6,0,none⟩=some (.int .i64 T1.lv)/\(X.setRow (w.heap.size+2) cs).cell? ⟨g6,1,none⟩=some (.bool T1.ng)/\(X.setRow (w.heap.size+2) cs).cell? ⟨g6,2,none⟩=some (.slice A1 T1.ds.length c1)/\(X.setRow (w.heap.size+2) cs).cell? ⟨g6,3,none⟩=some (.slice K1 T1.ks.length k1)/\(X.setRow (w.heap.size+2) cs).cell? ⟨g9,0,none⟩=some (.int .i64 m.M.kd)/\(X.setRow (w.heap.size+2) cs).cell? ⟨g9,1,none⟩=some (.int .i64 m.M.rl)/\(X.setRow (w.heap.size+2) cs).cell? ⟨g9,2,none⟩=some (.int .i64 m.M.p.lv)/\(X.setRow (w.heap.size+2) cs).cell? ⟨g9,3,none⟩=some (.bool m.M.p.ng)/\(X.setRow (w.heap.size+2) cs).cell? ⟨g9,4,none⟩=some (.slice m.A m.M.p.ds.length m.c)/\(X.setRow (w.heap.size+2) cs).cell? ⟨g9,5,none⟩=some (.slice m.K m.M.p.ks.length m.kc)/\(X.setRow (w.heap.size+2) cs).cell? ⟨g9,6,none⟩=some (.slice m.L m.M.ks.length m.lc)));have Sf:=Gh (fun(X:World)(hX:Below X2.heap.size X2 X)=>qdP (by omega) (by omega) Td (by omega) (by omega) (HTB2.out.keep (Kp.old hX)).rv);have Ui:=Gh (fun(X:World)=>qaw (k:=(k:Int)+1) (by omega) 0 (by omega) X);unfold qm at Sf;clear n6 n7 n9;refine wp_region_held_drew (S:=fun w'=>Gd w' g7 (.int .i64 T2.lv) (.bool T2.ng) (.slice A2 T2.ds.length c2) (.slice K2 T2.ks.length k2) (Gd w' g6 (.int .i64 T1.lv) (.bool T1.ng) (.slice A1 T1.ds.length c1) (.slice K1 T1.ks.length k1) (Gd w' g9 (.int .i64 m.M.kd) (.int .i64 m.M.rl) (.int .i64 m.M.p.lv) (.bool m.M.p.ng) (w'.cell? ⟨g9,4,none⟩=some (.slice m.A m.M.p.ds.length m.c)/\w'.cell? ⟨g9,5,none⟩=some (.slice m.K m.M.p.ks.length m.kc)/\w'.cell? ⟨g9,6,none⟩=some (.slice m.L m.M.ks.length m.lc))))) (by kernel_rfl) (KF _ hz) (fun Xa=>?_);refine tk 0 ?_
   refine tk 4 ?_
   refine tk 5 ?_
   simp only[Act.put,sA,sB,sC];generalize X2.drew=Q0 at*;refine rd1 1 (fun P hP=>?_);go_simp
   go_at_call 40
   refine(Sf _ hz).mono ?_;rintro e Q1 ⟨T3,A3,c3,K3,k3,TQ,rfl,hr,st⟩;have t3:TG Q1 [] ⟨T3,A3,c3,K3,k3⟩:=TG.of hr (Q6 (V:=Q0) (w':=Q1))
   replace hz:=Gt hz st
   clear hr;clear st;unfold qm;refine hP _ _ (KF _ hz) (fun Xa=>?_);clear hP P
   refine rd1 2 (fun P hP=>?_);go_simp
   go_at_call 41
   refine(Ui _).mono ?_;rintro e Q2 ⟨T4,A4,c4,K4,k4,AG,rfl,hr,st⟩;have t4:TG Q2 [] ⟨T4,A4,c4,K4,k4⟩:=TG.of hr (Q6 (V:=Q1) (w':=Q2))
   replace hz:=Gt hz st
   clear hr
   replace t3:=t3.keep (Kp.old st)
   clear st;unfold qm;refine hP _ _ (KF _ hz) (fun Xa=>?_);clear hP P
   refine rd1 3 (fun P hP=>?_);go_simp
   go_at_call 41
   refine(Ui _).mono ?_;rintro e Q3 ⟨T5,A5,c5,K5,k5,Mi,rfl,hr,st⟩;have t5:TG Q3 [] ⟨T5,A5,c5,K5,k5⟩:=TG.of hr (Q6 (V:=Q2) (w':=Q3))
   replace hz:=Gt hz st
   clear hr
   replace t3:=t3.keep (Kp.old st)
   replace t4:=t4.keep (Kp.old st)
   clear st;unfold qm;refine hP _ _ (KF _ hz) (fun Xa=>?_);clear hP P
   refine rd1 6 (fun P hP=>?_);go_simp
   refine hP _ _ (KF _ hz) (fun Xa=>?_);clear hP P
   have AN:=Bv.out.old hz;have HFK:=Gh (show qf (Q3.setRow (w.heap.size+2) #[.int .i64 2,.int .i64 T3.lv,.bool T3.ng,.slice A3 T3.ds.length c3,.slice K3 T3.ks.length k3,.int .i64 T4.lv,.bool T4.ng,.slice A4 T4.ds.length c4,.slice K4 T4.ks.length k4,.int .i64 T5.lv,.bool T5.ng,.slice A5 T5.ds.length c5,.slice K5 T5.ks.length k5,.int .i64 T1.lv,.bool T1.ng,.slice A1 T1.ds.length c1,.slice K1 T1.ks.length k1,.int .i64 m.M.kd,.int .i64 m.M.rl,.int .i64 m.M.p.lv,.bool m.M.p.ng,.slice m.A m.M.p.ds.length m.c,.slice m.K m.M.p.ks.length m.kc,.slice m.L m.M.ks.length m.lc]) (w.heap.size+2) 34 #[.int .i64 2,.int .i64 T3.lv,.bool T3.ng,.slice A3 T3.ds.length c3,.slice K3 T3.ks.length k3,.int .i64 T4.lv,.bool T4.ng,.slice A4 T4.ds.length c4,.slice K4 T4.ks.length k4,.int .i64 T5.lv,.bool T5.ng,.slice A5 T5.ds.length c5,.slice K5 T5.ks.length k5,.int .i64 T1.lv,.bool T1.ng,.slice A1 T1.ds.length c1,.slice K1 T1.ks.length k1,.int .i64 m.M.kd,.int .i64 m.M.rl,.int .i64 m.M.p.lv,.bool m.M.p.ng,.slice m.A m.M.p.ds.length m.c,.slice m.K m.M.p.ks.length m.kc,.slice m.L m.M.ks.length m.lc]from setRow_heap Q3 (w.heap.size+2) _ _ 34 (0,0) AN);have Fx:=Gh ((show PtA Q3 [] ⟨2,⟨T3,A3,c3,K3,k3⟩,⟨T4,A4,c4,K4,k4⟩,⟨T5,A5,c5,K5,k5⟩,⟨T1,A1,c1,K1,k1⟩,m⟩from⟨.inl rfl,TQ.ky (by omega) (by omega),AG.ky (by omega) (by omega),Mi.ky (by omega) (by omega),MI.out.ky (by omega) (by omega),TI,t3,t4,t5,HTA2.out.keep (Kp.old hz),B4.out.keep (Kp.old hz)⟩).keep (Kp.setRow AN zr #[.int .i64 2,.int .i64 T3.lv,.bool T3.ng,.slice A3 T3.ds.length c3,.slice K3 T3.ks.length k3,.int .i64 T4.lv,.bool T4.ng,.slice A4 T4.ds.length c4,.slice K4 T4.ks.length k4,.int .i64 T5.lv,.bool T5.ng,.slice A5 T5.ds.length c5,.slice K5 T5.ks.length k5,.int .i64 T1.lv,.bool T1.ng,.slice A1 T1.ds.length c1,.slice K1 T1.ks.length k1,.int .i64 m.M.kd,.int .i64 m.M.rl,.int .i64 m.M.p.lv,.bool m.M.p.ng,.slice m.A m.M.p.ds.length m.c,.slice m.K m.M.p.ks.length m.kc,.slice m.L m.M.ks.length m.lc]));have RX:=Gh (below_setRow (Gt Xw hz) (show w.heap.size<=w.heap.size+2 by omega) #[.int .i64 2,.int .i64 T3.lv,.bool T3.ng,.slice A3 T3.ds.length c3,.slice K3 T3.ks.length k3,.int .i64 T4.lv,.bool T4.ng,.slice A4 T4.ds.length c4,.slice K4 T4.ks.length k4,.int .i64 T5.lv,.bool T5.ng,.slice A5 T5.ds.length c5,.slice K5 T5.ks.length k5,.int .i64 T1.lv,.bool T1.ng,.slice A1 T1.ds.length c1,.slice K1 T1.ks.length k1,.int .i64 m.M.kd,.int .i64 m.M.rl,.int .i64 m.M.p.lv,.bool m.M.p.ng,.slice m.A m.M.p.ds.length m.c,.slice m.K m.M.p.ks.length m.kc,.slice m.L m.M.ks.length m.lc]);refine rd1 7 (fun P hP=>?_);rw[if_pos (show Region.wanted _ _=true from rfl)];refine wp_store_row 34 _ _ rfl (w.heap.size+2) #[.int .i64 2,.int .i64 T3.lv,.bool T3.ng,.slice A3 T3.ds.length c3,.slice K3 T3.ks.length k3,.int .i64 T4.lv,.bool T4.ng,.slice A4 T4.ds.length c4,.slice K4 T4.ks.length k4,.int .i64 T5.lv,.bool T5.ng,.slice A5 T5.ds.length c5,.slice K5 T5.ks.length k5,.int .i64 T1.lv,.bool T1.ng,.slice A1 T1.ds.length c1,.slice K1 T1.ks.length k1,.int .i64 m.M.kd,.int .i64 m.M.rl,.int .i64 m.M.p.lv,.bool m.M.p.ng,.slice m.A m.M.p.ds.length m.c,.slice m.K m.M.p.ks.length m.kc,.slice m.L m.M.ks.length m.lc] rfl rfl 34 _ AN (by kernel_rfl) rfl (by simp[Value.oneCell']) ?_;refine hP _ _ (KS _ hz _) (fun Xa=>?_);clear hP P;simp only[Act.put];refine wpAnyH_done (by kernel_rfl) ?_ _;clear Xa AN hz KF KS Sf Ui t3 t4 t5 TQ AG Mi;go_wp2_with fail
   exact qo Tryz.results17 rfl rfl HFK Tryz.underlying34 rfl (by kernel_rfl) ⟨⟨2,⟨T3,A3,c3,K3,k3⟩,⟨T4,A4,c4,K4,k4⟩,⟨T5,A5,c5,K5,k5⟩,⟨T1,A1,c1,K1,k1⟩,m⟩,rfl,Ew,Fx,rfl,RX⟩
theorem qf0{k:Int}(hk:0<k)(Xj:k<=4)(a r:Qz)(ha:Vp k 15 6 a.T)(hr:Vp k 15 6 r.T)(ga gr:Nat)(w:World)(ka:qf w ga 28 #[.int .i64 a.T.lv,.bool a.T.ng,.slice a.A a.T.ds.length a.c,.slice a.K a.T.ks.length a.kc])(kr:qf w gr 28 #[.int .i64 r.T.lv,.bool r.T.ng,.slice r.A r.T.ds.length r.c,.slice r.K r.T.ks.length r.kc])(ta:TG w [] a)(tr:TG w [] r):
 Calls Tryz.prog 46 #[.pointer (some ⟨ga,0,none⟩),.pointer (some ⟨gr,0,none⟩)] w (GuR w):=by
 have Xb:=Gb w (.cells Gy 32);have Xd:=Gh Xb;have XA:=Gh (qf.new w 32 Gy);have UJ:=Gh (ka.old Xb);have Xm:=Gh (kr.old Xb);have Vt:=Gh (ta.keep (Kp.old Xb));have VV:=Gh (tr.keep (Kp.old Xb));have na:=Nat.ne_of_lt ka.lt;have nr:=Nat.ne_of_lt kr.lt;clear Xb ka kr ta tr;go_enter Tryz.func46,Tryz.ntmps46
 go_upto_region 1 with(fail)
 have XJ:=Gh (show w.heap.size<(w.alloc (.cells Gy 32)).heap.size from XA.out.lt);generalize w.alloc (.cells Gy 32)=W at*;have Sz:=Gh (fun(X:World)(hX:Below W.heap.size W X)=>Qq ha (by omega) (by omega) (by omega) 4 (Vt.out.keep (Kp.old hX)).rv);have HAR:=Gh (fun(X:World)(hX:Below W.heap.size W X)=>Qq hr (by omega) (by omega) (by omega) 5 (VV.out.keep (Kp.old hX)).rv);have KZ:=Gh (fun(A:Oa)(X:World)=>zN A 2 2 X);have TX:=Gh (fun(g:Nat)(X:World)(hk:∀j,j<2->Zf 16 X g j)=>qhS 16 (by omega) g X hk);unfold qm at Sz HAR;clear ha hr;have hz:Below W.heap.size W W.drew:=(qt.drew _).below _;have KF:=Gh (fun(X:World)(hX:Below W.heap.size W X)=>(⟨(UJ.out.old hX).cell 0,(UJ.out.old hX).cell 1,(UJ.out.old hX).cell 2,(UJ.out.old hX).cell 3,(Xm.out.old hX).cell 0,(Xm.out.old hX).cell 1,(Xm.out.old hX).cell 2,(Xm.out.old hX).cell 3⟩:Gd X ga (.int .i64 a.T.lv) (.bool a.T.ng) (.slice a.A a.T.ds.length a.c) (.slice a.K a.T.ks.length a.kc) (Gc X gr (.int .i64 r.T.lv) (.bool r.T.ng) (.slice r.A r.T.ds.length r.c) (.slice r.K r.T.ks.length r.kc))));refine wp_region_held_drew (S:=fun w'=>Gd w' ga (.int .i64 a.T.lv) (.bool a.T.ng) (.slice a.A a.T.ds.length a.c) (.slice a.K a.T.ks.length a.kc) (Gc w' gr (.int .i64 r.T.lv) (.bool r.T.ng) (.slice r.A r.T.ds.length r.c) (.slice r.K r.T.ks.length r.kc))) (by kernel_rfl) (KF _ hz) (fun Xa=>?_);refine tk 0 ?_
 refine tk 2 ?_
 simp only[Act.put,sA,sB,sC];generalize W.drew=V0 at*;refine rd1 1 (fun P hP=>?_);go_simp
 go_at_call 22
 refine(Sz _ hz).mono ?_;rintro e V1 hlf;obtain⟨m,hLm,rfl,hr,st⟩:=zM.v hlf;have rm:=hr.rv
 replace hz:=Gt hz st
 clear hr hlf;clear st;refine hP _ _ (KF _ hz) (fun Xa=>?_);clear hP P
 refine rd1 3 (fun P hP=>?_);go_simp
 go_at_call 22
 refine(HAR _ hz).mono ?_;rintro e V3 hlf;obtain⟨n,hLn,rfl,hr,st⟩:=zM.v hlf;have rn:=hr.rv
 replace hz:=Gt hz st
 clear hr hlf
 replace rm:=(rm.below st).more st.size
 clear st;refine hP _ _ (KF _ hz) (fun Xa=>?_);clear hP P
 refine rd1 4 (fun P hP=>?_);go_simp
 have st:=Gb V3 (.cells #[.int .i64 m.M.kd,.int .i64 m.M.rl,.int .i64 m.M.p.lv,.bool m.M.p.ng,.slice m.A m.M.p.ds.length m.c,.slice m.K m.M.p.ks.length m.kc,.slice none 0 0,.int .i64 n.M.kd,.int .i64 n.M.rl,.int .i64 n.M.p.lv,.bool n.M.p.ng,.slice n.A n.M.p.ds.length n.c,.slice n.K n.M.p.ks.length n.kc,.slice none 0 0] 32);have bR:=qf.new V3 32 #[.int .i64 m.M.kd,.int .i64 m.M.rl,.int .i64 m.M.p.lv,.bool m.M.p.ng,.slice m.A m.M.p.ds.length m.c,.slice m.K m.M.p.ks.length m.kc,.slice none 0 0,.int .i64 n.M.kd,.int .i64 n.M.rl,.int .i64 n.M.p.lv,.bool n.M.p.ng,.slice n.A n.M.p.ds.length n.c,.slice n.K n.M.p.ks.length n.kc,.slice none 0 0]
 replace rm:=(rm.below st).more st.size
 replace rn:=(rn.below st).more st.size
 replace hz:=Gt hz st
 clear st;generalize V3.alloc (.cells #[.int .i64 m.M.kd,.int .i64 m.M.rl,.int .i64 m.M.p.lv,.bool m.M.p.ng,.slice m.A m.M.p.ds.length m.c,.slice m.K m.M.p.ks.length m.kc,.slice none 0 0,.int .i64 n.M.kd,.int .i64 n.M.rl,.int .i64 n.M.p.lv,.bool n.M.p.ng,.slice n.A n.M.p.ds.length n.c,.slice n.K n.M.p.ks.length n.kc,.slice none 0 0] 32)=V4 at*;generalize V3.heap.size=gR at*;refine hP _ _ (KF _ hz) (fun Xa=>?_);clear hP P
 refine rd1 5 (fun P hP=>?_);go_simp
 go_at_call 39
 refine(KZ _ _).mono ?_;rintro e V5 ⟨rfl,st⟩
 replace bR:=bR.old st
 replace rm:=(rm.below st).more st.size
 replace rn:=(rn.below st).more st.size
 replace hz:=Gt hz st
 clear st;refine hP _ _ (KF _ hz) (fun Xa=>?_);clear hP P
 refine rd1 6 (fun P hP=>?_);go_simp
 go_at_call 38
 refine(TX _ _ (qdp hLm hLn bR rm rn)).mono ?_;rintro e V6 EM;obtain⟨q,Rn,rfl,R5,st⟩:=EM.v;have hV5:=hz.size
 replace hz:=Gt hz st
 clear st EM bR rm rn;refine hP _ _ (KF _ hz) (fun Xa=>?_);clear hP P
 refine rd1 7 (fun P hP=>?_);have kk:=XA.out.old hz;obtain⟨d0,d1,d2,d3⟩:=G4 kk;have d4:=kk.cell 4;have d5:=kk.cell 5;have d6:=kk.cell 6;have f0:=kk.frozen 0;have f1:=kk.frozen 1;have f2:=kk.frozen 2;have f3:=kk.frozen 3;have f4:=kk.frozen 4;have f5:=kk.frozen 5;have f6:=kk.frozen 6;have zl:=kk.lt;have Xg:=Gh (QT (Gm XJ hV5) Rn kk R5 (Gr _) (Gt Xd hz));have UN:=Gh (⟨((UJ.out.old hz).far7 na (.int .i64 q.M.kd) (.int .i64 q.M.rl) (.int .i64 q.M.p.lv) (.bool q.M.p.ng) (.slice q.A q.M.p.ds.length q.c) (.slice q.K q.M.p.ks.length q.kc) (.slice q.L q.M.ks.length q.lc)).cell 0,((UJ.out.old hz).far7 na (.int .i64 q.M.kd) (.int .i64 q.M.rl) (.int .i64 q.M.p.lv) (.bool q.M.p.ng) (.slice q.A q.M.p.ds.length q.c) (.slice q.K q.M.p.ks.length q.kc) (.slice q.L q.M.ks.length q.lc)).cell 1,((UJ.out.old hz).far7 na (.int .i64 q.M.kd) (.int .i64 q.M.rl) (.int .i64 q.M.p.lv) (.bool q.M.p.ng) (.slice q.A q.M.p.ds.length q.c) (.slice q.K q.M.p.ks.length q.kc) (.slice q.L q.M.ks.length q.lc)).cell 2,((UJ.out.old hz).far7 na (.int .i64 q.M.kd) (.int .i64 q.M.rl) (.int .i64 q.M.p.lv) (.bool q.M.p.ng) (.slice q.A q.M.p.ds.length q.c) (.slice q.K q.M.p.ks.length q.kc) (.slice q.L q.M.ks.length q.lc)).cell 3,((Xm.out.old hz).far7 nr (.int .i64 q.M.kd) (.int .i64 q.M.rl) (.int .i64 q.M.p.lv) (.bool q.M.p.ng) (.slice q.A q.M.p.ds.length q.c) (.slice q.K q.M.p.ks.length q.kc) (.slice q.L q.M.ks.length q.lc)).cell 0,((Xm.out.old hz).far7 nr (.int .i64 q.M.kd) (.int .i64 q.M.rl) (.int .i64 q.M.p.lv) (.bool q.M.p.ng) (.slice q.A q.M.p.ds.length q.c) (.slice q.K q.M.p.ks.length q.kc) (.slice q.L q.M.ks.length q.lc)).cell 1,((Xm.out.old hz).far7 nr (.int .i64 q.M.kd) (.int .i64 q.M.rl) (.int .i64 q.M.p.lv) (.bool q.M.p.ng) (.slice q.A q.M.p.ds.length q.c) (.slice q.K q.M.p.ks.length q.kc) (.slice q.L q.M.ks.length q.lc)).cell 2,((Xm.out.old hz).far7 nr (.int .i64 q.M.kd) (.int .i64 q.M.rl) (.int .i64 q.M.p.lv) (.bool q.M.p.ng) (.slice q.A q.M.p.ds.length q.c) (.slice q.K q.M.p.ks.length q.kc) (.slice q.L q.M.ks.length q.lc)).cell 3⟩:(set7 V6 w.heap.size (.int .i64 q.M.kd) (.int .i64 q.M.rl) (.int .i64 q.M.p.lv) (.bool q.M.p.ng) (.slice q.A q.M.p.ds.length q.c) (.slice q.K q.M.p.ks.length q.kc) (.slice q.L q.M.ks.length q.lc)).cell? ⟨ga,0,none⟩=some (.int .i64 a.T.lv)/\(set7 V6 w.heap.size (.int .i64 q.M.kd) (.int .i64 q.M.rl) (.int .i64 q.M.p.lv) (.bool q.M.p.ng) (.slice q.A q.M.p.ds.length q.c) (.slice q.K q.M.p.ks.length q.kc) (.slice q.L q.M.ks.length q.lc)).cell? ⟨ga,1,none⟩=some (.bool a.T.ng)/\(set7 V6 w.heap.size (.int .i64 q.M.kd) (.int .i64 q.M.rl) (.int .i64 q.M.p.lv) (.bool q.M.p.ng) (.slice q.A q.M.p.ds.length q.c) (.slice q.K q.M.p.ks.length q.kc) (.slice q.L q.M.ks.length q.lc)).cell? ⟨ga,2,none⟩=some (.slice a.A a.T.ds.length a.c)/\(set7 V6 w.heap.size (.int .i64 q.M.kd) (.int .i64 q.M.rl) (.int .i64 q.M.p.lv) (.bool q.M.p.ng) (.slice q.A q.M.p.ds.length q.c) (.slice q.K q.M.p.ks.length q.kc) (.slice q.L q.M.ks.length q.lc)).cell? ⟨ga,3,none⟩=some (.slice a.K a.T.ks.length a.kc)/\(set7 V6 w.heap.size (.int .i64 q.M.kd) (.int .i64 q.M.rl) (.int .i64 q.M.p.lv) (.bool q.M.p.ng) (.slice q.A q.M.p.ds.length q.c) (.slice q.K q.M.p.ks.length q.kc) (.slice q.L q.M.ks.length q.lc)).cell? ⟨gr,0,none⟩=some (.int .i64 r.T.lv)/\(set7 V6 w.heap.size (.int .i64 q.M.kd) (.int .i64 q.M.rl) (.int .i64 q.M.p.lv) (.bool q.M.p.ng) (.slice q.A q.M.p.ds.length q.c) (.slice q.K q.M.p.ks.length q.kc) (.slice q.L q.M.ks.length q.lc)).cell? ⟨gr,1,none⟩=some (.bool r.T.ng)/\(set7 V6 w.heap.size (.int .i64 q.M.kd) (.int .i64 q.M.rl) (.int .i64 q.M.p.lv) (.bool q.M.p.ng) (.slice q.A q.M.p.ds.length q.c) (.slice q.K q.M.p.ks.length q.kc) (.slice q.L q.M.ks.length q.lc)).cell? ⟨gr,2,none⟩=some (.slice r.A r.T.ds.length r.c)/\(set7 V6 w.heap.size (.int .i64 q.M.kd) (.int .i64 q.M.rl) (.int .i64 q.M.p.lv) (.bool q.M.p.ng) (.slice q.A q.M.p.ds.length q.c) (.slice q.K q.M.p.ks.length q.kc) (.slice q.L q.M.ks.length q.lc)).cell? ⟨gr,3,none⟩=some (.slice r.K r.T.ks.length r.kc));unfold set7 at Xg UN;clear kk;go_simp
 refine hP _ _ (UN) (fun Xa=>?_);clear hP P
 refine wpAnyH_done (by kernel_rfl) ?_ _;clear Xa UN hz KF Sz HAR KZ TX R5 Rn d0 d1 d2 d3 d4 d5 d6 f0 f1 f2 f3 f4 f5 f6 zl;go_wp2_with fail
 exact qo Tryz.results46 rfl rfl Xg.out.1 Tryz.underlying32 rfl Tryz.sizeMat Xg.out.2
