import Derived.Test.YtflikmojaidhhaaGreatDoorPq26
import Derived.Test.YtflikmojaidhhaaGreatDoorPqA
namespace Go.Proofs.YtflikmojaidhhaaGreatDoor
open Go.RowKit
theorem qhH{k:Int}{d n:Nat}{p:RP}{gs:List Nat}{V:World}{A K:Oa}{c kc:Nat}(hk:0<k)(Xj:k<=4)(hp:Qp k d n p)(hd:d+1<=400)(hn:n<=32)(UA:∀x∈gs,∃cs,qf V x 28 cs)(h1:RV V (NB gs V) p (qe p A c K kc)):Calls Tryz.prog 40 #[qm p A c K kc] V (qf3 k (d+1) n gs V):=by
 refine(qdL 400 (by omega) p hp.fit (hp.vp.sm (by omega) (by omega)) A c K kc V.heap.size V (Gr _) (NB.all h1)).mono ?_;rintro e w' ⟨hr,_⟩;exact hr.q (hp.vp.neg hk) hk Xj hd hn UA
set_option maxHeartbeats 4000000
set_option maxRecDepth 100000
theorem qcZ(k:Nat)(hk:k<4)(t:RP)(ht:QB ((k:Int)+1) 3 4 t)(A:Oa)(c:Nat)(K:Oa)(kc B:Nat)(w:World)(hB:B<=w.heap.size)(h:RV w (· <B) t (qe t A c K kc)):
 Calls Tryz.prog 26 #[qm t A c K kc,.int .i64 1,.int .i64 ((k:Int)+1)] w (zx w):=by
 obtain⟨Xb,k0,k1,hs⟩:=qR w 28 32 (Gx t A c K kc) Gy;have HC:=Gh (fun(W:World)(hW:Below w.heap.size w W)=>JM 400 (by omega) ((k:Int)+1) (by omega) (by omega) t ht.fit (ht.fitc (by omega)) A c K kc B W (Gl hB hW.size) (h.below (hW.mono hB)));have Rm:=Gh (fun c hc=>((ht.cfs hk) c hc).q (by omega) (by omega) (by omega) (by omega));have XM:=ht.len;have Xd:=Gh Xb;have Xu:=Gh k1;obtain⟨x0,x1,x2,x3⟩:=G4 k0;unfold qm at HC ⊢;clear h hB Xb k0 k1 hs ht;go_enter Tryz.func26,Tryz.ntmps26
 go_upto_region 1 with(fail)
 generalize (w.alloc (.cells (Gx t A c K kc) 28)).alloc (.cells Gy 32)=W at*;go_wp2_with fail
 refine(HC W Xd).mono ?_;rintro e w2 Tl;obtain⟨R,rfl,Xf,TW⟩:=Tl.un (gs:=[]) (fun x hx=>by simp at hx);clear x0 x1 x2 x3 HC Tl;have Tk:=Gh TW;have Sw:=Gh (Xu.out.old Xf);have Xw:=Gh (Gt Xd Xf);clear Xf TW Xd Xu;generalize I1:qD ((k:Int)+1) t=cs at*;clear I1;obtain⟨n,hn⟩:∃n,n=cs.length:=⟨_,rfl⟩;rw[<-hn]at XM ⊢;have HN:=Gh hn;clear hn;by_cases Sr:n=0
 ·subst Sr;have HA:=Gh (show Calls Tryz.prog 22 #[.agg Gz,.int .i64 1] w2 (zx w2)from yi (k:=(k:Int)+1) (d:=5) (n:=1) (p:=qh) (gs:=[]) (A:=none) (c:=0) (K:=none) (kc:=0) ((Vp.zero (by omega)).q (by omega) (by omega) (by omega) (by omega)) (by omega) (by omega) 1 RT.zero);go_wp2_with fail
  refine HA.out.mono ?_;rintro e w3 hm;obtain⟨M,rfl,st⟩:=hm.v;have Xg:=Gh (YM (Sw.out.old st) (Nat.le_succ _) (Gt Xw st) M);have kk:=Sw.out.old st;obtain⟨d0,d1,d2,d3⟩:=G4 kk;have d4:=kk.cell 4;have d5:=kk.cell 5;have d6:=kk.cell 6;have f0:=kk.frozen 0;have f1:=kk.frozen 1;have f2:=kk.frozen 2;have f3:=kk.frozen 3;have f4:=kk.frozen 4;have f5:=kk.frozen 5;have f6:=kk.frozen 6;have zl:=kk.lt;clear kk;clear st hm;go_wp2_with fail
  exact qo Tryz.results26 rfl rfl Xg.out.1 Tryz.underlying32 rfl Tryz.sizeMat Xg.out.2
 ·obtain⟨u,hu⟩:∃u,cs[0]? =some u:=⟨_,Gn (by have:=HN.out;omega)⟩;obtain⟨gC,cur,Au,cu,Ku,ku,rfl,-,UT,y0,y1,y2,y3,LC⟩:=Tk.out 0 u hu;have z0:=(UT.cell (0*4)).trans y0;have z1:=(UT.cell (0*4+1)).trans y1;have z2:=(UT.cell (0*4+2)).trans y2;have z3:=(UT.cell (0*4+3)).trans y3;simp only[Nat.zero_mul,Nat.zero_add]at z0 z1 z2 z3;have HA:=Gh (yi (Rm u (Gk hu)) (by omega) (by omega) 1 LC);have i0:(0:Int)<(n:Int):=by omega
  have e0:((n:Int)==0)=false:=by simp;omega
  unfold qm at HA;clear hu UT y0 y1 y2 y3 LC;go_wp2_with fail
  refine HA.out.mono ?_;rintro e w3 hm;obtain⟨M1,rfl,st⟩:=hm.v;have Xc:=Gb w3 (.cells #[.int .i64 M1.kd,.int .i64 M1.rl,.int .i64 M1.ml,.bool M1.mg,.slice M1.A M1.n M1.c,.slice M1.K M1.k M1.kc,.slice M1.L M1.l M1.lc] 32);have Sd:=Gh (show Below w2.heap.size w2 (w3.alloc (.cells #[.int .i64 M1.kd,.int .i64 M1.rl,.int .i64 M1.ml,.bool M1.mg,.slice M1.A M1.n M1.c,.slice M1.K M1.k M1.kc,.slice M1.L M1.l M1.lc] 32))from Gt st Xc);have EZ:=Gh (show MtB (w3.alloc (.cells #[.int .i64 M1.kd,.int .i64 M1.rl,.int .i64 M1.ml,.bool M1.mg,.slice M1.A M1.n M1.c,.slice M1.K M1.k M1.kc,.slice M1.L M1.l M1.lc] 32)) w3.heap.size from⟨M1,qf.new w3 32 #[.int .i64 M1.kd,.int .i64 M1.rl,.int .i64 M1.ml,.bool M1.mg,.slice M1.A M1.n M1.c,.slice M1.K M1.k M1.kc,.slice M1.L M1.l M1.lc]⟩);have Af:=Gh st.size;clear st hm Xc z0 z1 z2 z3 HA i0 e0;go_wp2_with fail
  generalize w3.alloc (.cells #[.int .i64 M1.kd,.int .i64 M1.rl,.int .i64 M1.ml,.bool M1.mg,.slice M1.A M1.n M1.c,.slice M1.K M1.k M1.kc,.slice M1.L M1.l M1.lc] 32)=W4 at*;generalize w3.heap.size=gM at*;go_loopg [9] n (fun gn iv wr=>∃j:Nat,1<=j/\j<=n/\gn=n+1-j/\iv= .int .i64 j/\Below w2.heap.size w2 wr/\MtB wr gM)
  case atStart=>exact⟨1,by omega,by omega,by omega,rfl,Sd,EZ⟩
  case round=>
   obtain⟨j,hj1,hj,XI,rfl,Xe,M,Vb⟩:=hrel;clear Sd EZ;have WX:=Gh XI;have Xh:=Gh Xe;have Tj:=Gh Vb;clear XI;by_cases Xi:j<n
   ·obtain⟨u',hu⟩:∃u,cs[j]? =some u:=⟨_,Gn (by have:=HN.out;omega)⟩;obtain⟨gC',cur',A5,q5,K5,r5,hP,-,UT,y0,y1,y2,y3,LC⟩:=Tk.out j u' hu
    injection hP with hP
    injection hP with CD
    subst CD;have z0:=(Xe.cell (p:=⟨gC,j*4,none⟩) UT.lt).trans ((UT.cell (j*4)).trans y0);have z1:=(Xe.cell (p:=⟨gC,j*4+1,none⟩) UT.lt).trans ((UT.cell (j*4+1)).trans y1);have z2:=(Xe.cell (p:=⟨gC,j*4+2,none⟩) UT.lt).trans ((UT.cell (j*4+2)).trans y2);have z3:=(Xe.cell (p:=⟨gC,j*4+3,none⟩) UT.lt).trans ((UT.cell (j*4+3)).trans y3);have i0:(0:Int)<=(j:Int):=by omega
    have i1:(j:Int)<(n:Int):=by omega
    have Xc:=Gb wr (.cells (Gx u' A5 q5 K5 r5) 28);have hq:=Rm.out u' (Gk hu);have HD:=Gh (show QI [wr.heap.size] (wr.alloc (.cells (Gx u' A5 q5 K5 r5) 28)) wr.heap.size u' A5 q5 K5 r5 from⟨qf.new wr 28 _,NB.add (NB.old LC Xe) Xc (Gr _)⟩);have Um:=Gh (Gt Xe Xc);have Uk:=Gh (Vb.old Xc);have RG:=Gh (show wr.heap.size≠gM by have:=Vb.lt;omega);have Si:=Gh (show w2.heap.size<=wr.heap.size from Xe.size);have e1:IntKind.i64.wrap ((j:Int)+1)=(j:Int)+1:=IntWalk.i64_in _ (by omega);clear Xc Xe Vb hu LC UT y0 y1 y2 y3 Xh Tj;go_upto_if 50 with(fail)
    generalize wr.alloc (.cells (Gx u' A5 q5 K5 r5) 28)=W5 at*;generalize wr.heap.size=gD at*;clear z0 z1 z2 z3;have hj3:j=1∨j=2∨j=3:=by omega
    have HK3M:=Uk.out;go_cut []from 38 to 63 (fun wc=>JR ((k:Int)+1) 5 3 [gD] wc gD/\qf wc gM 32 #[.int .i64 M.kd,.int .i64 M.rl,.int .i64 M.ml,.bool M.mg,.slice M.A M.n M.c,.slice M.K M.k M.kc,.slice M.L M.l M.lc]/\Below w2.heap.size w2 wc)
    case first=>
     have Sf:=Gh (qhH (by omega) (by omega) hq (by omega) (by omega) (yG HD.out.box) HD.out.tree);obtain⟨b0,b1,b2,b3⟩:=G4 HD.out.box;unfold qm at Sf;rcases hj3 with rfl|rfl|rfl
     case' inr.inl=>skip
     case inr.inl=>
      go_wp2_with fail
      go_meet
      exact⟨⟨_,_,_,_,_,hq.mono (by omega) (by omega),HD⟩,Uk,Um⟩
     all_goals
      go_wp2_with fail
      refine Sf.out.mono ?_;rintro e W6 ⟨T6,A6,c6,K6,k6,q6,-,rfl,r6,st⟩;have kk:=HD.out.box.old st;obtain⟨d0,d1,d2,d3⟩:=G4 kk;obtain⟨f0,f1,f2,f3,zl⟩:=G5 kk;clear kk;have CF:=Gh (show JR ((k:Int)+1) 5 3 [gD] _ gD from⟨_,_,_,_,_,q6,(HD.out.old st).put (by simp) r6⟩);have CE:=Gh ((Uk.out.old st).set4_far (Ne.symm RG) 0 (.int .i64 T6.lv) (.bool T6.ng) (.slice A6 T6.ds.length c6) (.slice K6 T6.ks.length k6));have Kf:=Gh (qy (o:=0) (Gt Um st) Si (.int .i64 T6.lv) (.bool T6.ng) (.slice A6 T6.ds.length c6) (.slice K6 T6.ks.length k6));unfold set4 at CF CE Kf;clear st r6 b0 b1 b2 b3;unfold qm;go_wp2_with fail
      go_meet
      exact⟨CF,CE,Kf⟩
    case rest=>
     obtain⟨UU,Vb,Xe⟩:=hcut;obtain⟨T6,A6,c6,K6,k6,q6,p6⟩:=UU;have HP:=Gh p6;have XA:=Gh Vb;have HB2':=Gh Xe;clear p6 Vb Xe HD Um Uk HK3M hq;generalize wc=X2 at*;go_upto_region 19 with(fail)
     have KF:=Gh (fun(X:World)(hX:Below X2.heap.size X2 X)=>(⟨(HP.out.old hX).box.cell 0,(HP.out.old hX).box.cell 1,(HP.out.old hX).box.cell 2,(HP.out.old hX).box.cell 3⟩:Gc X gD (.int .i64 T6.lv) (.bool T6.ng) (.slice A6 T6.ds.length c6) (.slice K6 T6.ks.length k6)));have hz:Below X2.heap.size X2 X2.drew:=(qt.drew _).below _;have XT:=Gh (fun(X:World)(hX:Below X2.heap.size X2 X)(r:Int)=>yi q6 (by omega) (by omega) r (HP.out.old hX).tree);have Ff:=Gh (fun(X:World)=>qai 1 X);rw[show qjY 1=1 from rfl]at Ff;unfold qm at XT;refine wp_region_held_drew (S:=fun w'=>Gc w' gD (.int .i64 T6.lv) (.bool T6.ng) (.slice A6 T6.ds.length c6) (.slice K6 T6.ks.length k6)) (by kernel_rfl) (KF _ hz) (fun Xa=>?_);refine tk 0 ?_
     refine tk 1 ?_
     refine tk 4 ?_
     simp only[Act.put,sA,sB,sC];generalize X2.drew=V at*;apply qe6 (fun X M5 M9=>Below X2.heap.size X2 X)
     case h1=>
      intro HJ
      iterate 4
       all_goals first
        |refine rd2 2 6 (fun P hP=>?_) (fun P hP=>?_) (by decide+kernel)
        |refine rd2 3 6 (fun P hP=>?_) (fun P hP=>?_) (by decide+kernel)
        |refine rd2 5 6 (fun P hP=>?_) (fun P hP=>?_) (by decide+kernel)
        |refine rd1 2 (fun P hP=>?_) (by decide+kernel)
        |refine rd1 3 (fun P hP=>?_) (by decide+kernel)
        |refine rd1 5 (fun P hP=>?_) (by decide+kernel)
        |refine rd1 6 (fun P hP=>?_) (by decide+kernel)
       all_goals first
        |(go_simp
          go_at_call 66
          refine(Ff _).mono ?_;rintro e V ⟨rfl,rfl⟩;refine hP _ _ (KF _ hz) (fun Xa=>?_);clear hP P
          (try simp only[Act.put,sA,sB,sC]))
        |(have hg:=M3
          clear hg;go_simp
          go_at_call 22
          refine(XT _ hz _).mono ?_;rintro e V hm;obtain⟨M5,rfl,st⟩:=hm.v
          replace hz:=Gt hz st
          clear st hm;refine hP _ _ (KF _ hz) (fun Xa=>?_);clear hP P
          (try simp only[Act.put,sA,sB,sC]))
        |(go_simp
          go_at_call 22
          refine(XT _ hz _).mono ?_;rintro e V hm;obtain⟨M3,rfl,st⟩:=hm.v
          replace hz:=Gt hz st
          clear st hm;refine hP _ _ (KF _ hz) (fun Xa=>?_);clear hP P
          (try simp only[Act.put,sA,sB,sC]))
        |(obtain⟨n0,n1,n2,n3,n4,n5,n6⟩:=(⟨(XA.out.old hz).cell 0,(XA.out.old hz).cell 1,(XA.out.old hz).cell 2,(XA.out.old hz).cell 3,(XA.out.old hz).cell 4,(XA.out.old hz).cell 5,(XA.out.old hz).cell 6⟩:Gd V gM (.int .i64 M.kd) (.int .i64 M.rl) (.int .i64 M.ml) (.bool M.mg) (V.cell? ⟨gM,4,none⟩=some (.slice M.A M.n M.c)/\V.cell? ⟨gM,5,none⟩=some (.slice M.K M.k M.kc)/\V.cell? ⟨gM,6,none⟩=some (.slice M.L M.l M.lc)))
          go_simp
          refine hP _ _ (KF _ hz) (fun Xa=>?_);clear hP P
          clear n0 n1 n2 n3 n4 n5 n6)
      all_goals first
       |exact HJ V M3 M5 hz
     case h2=>
      clear hz;intro X M3 M5 hz;refine rd1 7 (fun P hP=>?_);have st:=Gb X (.cells #[.int .i64 M5.kd,.int .i64 M5.rl,.int .i64 M5.ml,.bool M5.mg,.slice M5.A M5.n M5.c,.slice M5.K M5.k M5.kc,.slice M5.L M5.l M5.lc,.int .i64 M.kd,.int .i64 M.rl,.int .i64 M.ml,.bool M.mg,.slice M.A M.n M.c,.slice M.K M.k M.kc,.slice M.L M.l M.lc] 32);go_simp
      replace hz:=Gt hz st
      clear st;generalize X.alloc (.cells #[.int .i64 M5.kd,.int .i64 M5.rl,.int .i64 M5.ml,.bool M5.mg,.slice M5.A M5.n M5.c,.slice M5.K M5.k M5.kc,.slice M5.L M5.l M5.lc,.int .i64 M.kd,.int .i64 M.rl,.int .i64 M.ml,.bool M.mg,.slice M.A M.n M.c,.slice M.K M.k M.kc,.slice M.L M.l M.lc] 32)=Y11 at*;generalize X.heap.size=gs11 at*;refine hP _ _ (KF _ hz) (fun Xa=>?_);clear hP P
      refine rd1 8 (fun P hP=>?_);go_simp
      go_at_call 39
      refine(zN _ _ _ _).mono ?_;rintro e X12 ⟨rfl,st⟩
      replace hz:=Gt hz st
      clear st;refine hP _ _ (KF _ hz) (fun Xa=>?_);clear hP P
      refine rd1 9 (fun P hP=>?_);have st:=Gb X12 (.cells #[.int .i64 M3.kd,.int .i64 M3.rl,.int .i64 M3.ml,.bool M3.mg,.slice M3.A M3.n M3.c,.slice M3.K M3.k M3.kc,.slice M3.L M3.l M3.lc,.int .i64 3,.int .i64 0,.int .i64 0,.bool false,.slice none 0 0,.slice none 0 0,.slice (some ⟨gs11,0,none⟩) 2 2] 32);go_simp
      replace hz:=Gt hz st
      clear st;generalize X12.alloc (.cells #[.int .i64 M3.kd,.int .i64 M3.rl,.int .i64 M3.ml,.bool M3.mg,.slice M3.A M3.n M3.c,.slice M3.K M3.k M3.kc,.slice M3.L M3.l M3.lc,.int .i64 3,.int .i64 0,.int .i64 0,.bool false,.slice none 0 0,.slice none 0 0,.slice (some ⟨gs11,0,none⟩) 2 2] 32)=Y13 at*;generalize X12.heap.size=gs13 at*;refine hP _ _ (KF _ hz) (fun Xa=>?_);clear hP P
      refine rd1 10 (fun P hP=>?_);go_simp
      go_at_call 65
      refine(Zx _ _ _ _).mono ?_;rintro e X14 ⟨rfl,st⟩
      replace hz:=Gt hz st
      clear st;refine hP _ _ (KF _ hz) (fun Xa=>?_);clear hP P
      refine rd1 11 (fun P hP=>?_);have UQ:=Gh (Below.seven (B:=w2.heap.size) (Gt HB2' hz) Af (.int .i64 4) (.int .i64 0) (.int .i64 0) (.bool false) (.slice none 0 0) (.slice none 0 0) (.slice (some ⟨gs13,0,none⟩) 2 2));have Tj:=Gh (qiS (XA.out.old hz) (.int .i64 4) (.int .i64 0) (.int .i64 0) (.bool false) (.slice none 0 0) (.slice none 0 0) (.slice (some ⟨gs13,0,none⟩) 2 2));have UN:=Gh (⟨((HP.out.old hz).box.far7 RG (.int .i64 4) (.int .i64 0) (.int .i64 0) (.bool false) (.slice none 0 0) (.slice none 0 0) (.slice (some ⟨gs13,0,none⟩) 2 2)).cell 0,((HP.out.old hz).box.far7 RG (.int .i64 4) (.int .i64 0) (.int .i64 0) (.bool false) (.slice none 0 0) (.slice none 0 0) (.slice (some ⟨gs13,0,none⟩) 2 2)).cell 1,((HP.out.old hz).box.far7 RG (.int .i64 4) (.int .i64 0) (.int .i64 0) (.bool false) (.slice none 0 0) (.slice none 0 0) (.slice (some ⟨gs13,0,none⟩) 2 2)).cell 2,((HP.out.old hz).box.far7 RG (.int .i64 4) (.int .i64 0) (.int .i64 0) (.bool false) (.slice none 0 0) (.slice none 0 0) (.slice (some ⟨gs13,0,none⟩) 2 2)).cell 3⟩:(set7 X14 gM (.int .i64 4) (.int .i64 0) (.int .i64 0) (.bool false) (.slice none 0 0) (.slice none 0 0) (.slice (some ⟨gs13,0,none⟩) 2 2)).cell? ⟨gD,0,none⟩=some (.int .i64 T6.lv)/\(set7 X14 gM (.int .i64 4) (.int .i64 0) (.int .i64 0) (.bool false) (.slice none 0 0) (.slice none 0 0) (.slice (some ⟨gs13,0,none⟩) 2 2)).cell? ⟨gD,1,none⟩=some (.bool T6.ng)/\(set7 X14 gM (.int .i64 4) (.int .i64 0) (.int .i64 0) (.bool false) (.slice none 0 0) (.slice none 0 0) (.slice (some ⟨gs13,0,none⟩) 2 2)).cell? ⟨gD,2,none⟩=some (.slice A6 T6.ds.length c6)/\(set7 X14 gM (.int .i64 4) (.int .i64 0) (.int .i64 0) (.bool false) (.slice none 0 0) (.slice none 0 0) (.slice (some ⟨gs13,0,none⟩) 2 2)).cell? ⟨gD,3,none⟩=some (.slice K6 T6.ks.length k6));unfold set7 at UQ Tj UN;have kk:=XA.out.old hz;obtain⟨d0,d1,d2,d3⟩:=G4 kk;have d4:=kk.cell 4;have d5:=kk.cell 5;have d6:=kk.cell 6;have f0:=kk.frozen 0;have f1:=kk.frozen 1;have f2:=kk.frozen 2;have f3:=kk.frozen 3;have f4:=kk.frozen 4;have f5:=kk.frozen 5;have f6:=kk.frozen 6;have zl:=kk.lt;clear kk;go_simp
      refine hP _ _ (UN) (fun Xa=>?_);clear hP P
      clear d0 d1 d2 d3 d4 d5 d6 f0 f1 f2 f3 f4 f5 f6 zl hz UN KF;refine wpAnyH_done (by kernel_rfl) ?_ _;clear Xa XT Ff;go_wp2_with fail
      go_roundg (n+1-(j+1))
      case rel=>exact⟨j+1,by omega,by omega,rfl,by go_num,UQ,⟨4,0,0,false,none,0,0,none,0,0,some ⟨gs13,0,none⟩,2,2⟩,Tj⟩
      case measure=>have:=WX.out;omega
   ·obtain rfl:j=n:=by omega
    have Xg:=Gh (YM ((Sw.out.old Xe)) (Nat.le_succ _) (Gt Xw Xe) M);obtain⟨n0,n1,n2,n3⟩:=G4 Vb;have n4:=Vb.cell 4;have n5:=Vb.cell 5;have n6:=Vb.cell 6;have kk:=Sw.out.old Xe;obtain⟨d0,d1,d2,d3⟩:=G4 kk;have d4:=kk.cell 4;have d5:=kk.cell 5;have d6:=kk.cell 6;have f0:=kk.frozen 0;have f1:=kk.frozen 1;have f2:=kk.frozen 2;have f3:=kk.frozen 3;have f4:=kk.frozen 4;have f5:=kk.frozen 5;have f6:=kk.frozen 6;have zl:=kk.lt;clear kk;clear Vb Xe;go_wp2_with fail
    exact qo Tryz.results26 rfl rfl Xg.out.1 Tryz.underlying32 rfl Tryz.sizeMat Xg.out.2
theorem yL{P:Program}{fn:Func}{Q:Ending->World->Prop}{a:Act}{w:World}{p r:Tmp}{ty:TypeId}{g:Nat}{t:TypeId}{cs:Array Value}{d:TypeDesc}(hr:fn.results=#[.cell p ty,.tmp r])(AU:a.defers=[])(hp:a.tmps.getD p undef= .pointer (some ⟨g,0,none⟩))(hb:qf w g t cs)
 (hu:P.underlying ty=some d)(hd:(match d with| .struct _| .array _ _=>true|_=>false)=true)(hi:(P.info? ty).map (·.size)=some cs.size)(h:Q (.returned (.tuple #[.agg cs,a.tmps.getD r undef])) w):bodyPost P fn Q Exit.ret a w:=by
 refine bodyPost_ret ?_ AU h;have Du:a.tmps[p]?.getD undef= .pointer (some ⟨g,0,none⟩):=by simpa using hp
 simp[results,hr,Du,asAddr,run_loadVar_row w g t ty cs (0,0) d hb hu hd hi]
def qhu(w:World)(e:Ending)(w':World):Prop:=e= .returned (.tuple #[.agg #[.int .i64 0,.int .i64 0,.int .i64 0,.bool false,.slice none 0 0,.slice none 0 0,.slice none 0 0],.int .i64 1])/\Below w.heap.size w w'
theorem qgp(n r:Int)(hn:n<1∨4<n)(x0 x1 x2 x3:Value)(cs:Array Value)(w:World):Calls Tryz.prog 8 #[.agg #[x0,x1,x2,x3],.int .i64 r,.int .i64 n,.agg cs] w (qhu w):=by
 obtain⟨Xb,k0,k1,k2,hs⟩:=jN w 28 34 32 #[x0,x1,x2,x3] cs Gy;have Xd:=Gh Xb;have XA:=Gh k2;obtain⟨d0,d1,d2,d3⟩:=G4 k2;have d4:=k2.cell 4;have d5:=k2.cell 5;have d6:=k2.cell 6;have f0:=k2.frozen 0;have f1:=k2.frozen 1;have f2:=k2.frozen 2;have f3:=k2.frozen 3;have f4:=k2.frozen 4;have f5:=k2.frozen 5;have f6:=k2.frozen 6;have z0:=k2.lt;have HS:=Gh (Qd k2 (.int .i64 0) (.int .i64 0) (.int .i64 0) (.bool false) (.slice none 0 0) (.slice none 0 0) (.slice none 0 0));clear Xb k0 k1 k2 hs;by_cases h1:n<1
 ·have e1:decide (n<1)=true:=decide_eq_true h1;clear hn;go_enter Tryz.func8,Tryz.ntmps8
  go_upto_region 1 with(fail)
  generalize ((w.alloc (.cells #[x0,x1,x2,x3] 28)).alloc (.cells cs 34)).alloc (.cells Gy 32)=W at*;go_wp2_with fail
  exact yL Tryz.results8 rfl rfl HS.out.1 Tryz.underlying32 rfl Tryz.sizeMat ⟨rfl,Xd.out.trans (HS.out.2.2 w.heap.size (by omega))⟩
 ·have h2:4<n:=by omega
  have e1:decide (n<1)=false:=decide_eq_false h1;have e2:decide (4<n)=true:=decide_eq_true h2;clear hn;go_enter Tryz.func8,Tryz.ntmps8
  go_upto_region 1 with(fail)
  generalize ((w.alloc (.cells #[x0,x1,x2,x3] 28)).alloc (.cells cs 34)).alloc (.cells Gy 32)=W at*;go_wp2_with fail
  exact yL Tryz.results8 rfl rfl HS.out.1 Tryz.underlying32 rfl Tryz.sizeMat ⟨rfl,Xd.out.trans (HS.out.2.2 w.heap.size (by omega))⟩
theorem qd0(n r kd:Int)(h1:1<=n)(h4:n<=4)(hk:kd<1∨3<kd)(x0 x1 x2 x3:Value)(cs:Array Value)(XE:cs[0]? =some (.int .i64 kd))(w:World):Calls Tryz.prog 8 #[.agg #[x0,x1,x2,x3],.int .i64 r,.int .i64 n,.agg cs] w (qhu w):=by
 obtain⟨Xb,k0,k1,k2,hs⟩:=jN w 28 34 32 #[x0,x1,x2,x3] cs Gy;have Xd:=Gh Xb;have XA:=Gh k2;obtain⟨d0,d1,d2,d3⟩:=G4 k2;have d4:=k2.cell 4;have d5:=k2.cell 5;have d6:=k2.cell 6;have f0:=k2.frozen 0;have f1:=k2.frozen 1;have f2:=k2.frozen 2;have f3:=k2.frozen 3;have f4:=k2.frozen 4;have f5:=k2.frozen 5;have f6:=k2.frozen 6;have z0:=k2.lt;have HS:=Gh (Qd k2 (.int .i64 0) (.int .i64 0) (.int .i64 0) (.bool false) (.slice none 0 0) (.slice none 0 0) (.slice none 0 0));have p0:_=some (Value.int .i64 kd):=(k1.cell 0).trans XE;have i1:¬n<1:=by omega
 have i4:¬4<n:=by omega
 have g1:decide (n<1)=false:=decide_eq_false i1;have g4:decide (4<n)=false:=decide_eq_false i4;clear Xb k0 k1 k2 hs XE;by_cases e:kd<1
 ·have e1:decide (kd<1)=true:=decide_eq_true e;clear hk;go_enter Tryz.func8,Tryz.ntmps8
  go_upto_region 1 with(fail)
  generalize ((w.alloc (.cells #[x0,x1,x2,x3] 28)).alloc (.cells cs 34)).alloc (.cells Gy 32)=W at*;go_wp2_with fail
  exact yL Tryz.results8 rfl rfl HS.out.1 Tryz.underlying32 rfl Tryz.sizeMat ⟨rfl,Xd.out.trans (HS.out.2.2 w.heap.size (by omega))⟩
 ·have e2:3<kd:=by omega
  have e1:decide (kd<1)=false:=decide_eq_false e;have e3:decide (3<kd)=true:=decide_eq_true e2;clear hk;go_enter Tryz.func8,Tryz.ntmps8
  go_upto_region 1 with(fail)
  generalize ((w.alloc (.cells #[x0,x1,x2,x3] 28)).alloc (.cells cs 34)).alloc (.cells Gy 32)=W at*;go_wp2_with fail
  exact yL Tryz.results8 rfl rfl HS.out.1 Tryz.underlying32 rfl Tryz.sizeMat ⟨rfl,Xd.out.trans (HS.out.2.2 w.heap.size (by omega))⟩
theorem qcB(x0 x1 x2 x3 x4 x5 x6 x7 x8 x9 x10 x11 x12 x13 x14 x15:Value)(w:World):(Instr.index 62 (.agg #[x0,x1,x2,x3,x4,x5,x6,x7,x8,x9,x10,x11,x12,x13,x14,x15]) (.int .i64 0)).run Tryz.prog w= .ok (.agg #[x0,x1,x2,x3]) w:=by kernel_rfl
theorem qc7(x0 x1 x2 x3 x4 x5 x6 x7 x8 x9 x10 x11 x12 x13 x14 x15:Value)(w:World):(Instr.index 62 (.agg #[x0,x1,x2,x3,x4,x5,x6,x7,x8,x9,x10,x11,x12,x13,x14,x15]) (.int .i64 1)).run Tryz.prog w= .ok (.agg #[x4,x5,x6,x7]) w:=by kernel_rfl
theorem qdA(x0 x1 x2 x3 x4 x5 x6 x7 x8 x9 x10 x11 x12 x13 x14 x15:Value)(w:World):(Instr.index 62 (.agg #[x0,x1,x2,x3,x4,x5,x6,x7,x8,x9,x10,x11,x12,x13,x14,x15]) (.int .i64 2)).run Tryz.prog w= .ok (.agg #[x8,x9,x10,x11]) w:=by kernel_rfl
theorem qdD(x0 x1 x2 x3 x4 x5 x6 x7 x8 x9 x10 x11 x12 x13 x14 x15:Value)(w:World):(Instr.index 62 (.agg #[x0,x1,x2,x3,x4,x5,x6,x7,x8,x9,x10,x11,x12,x13,x14,x15]) (.int .i64 3)).run Tryz.prog w= .ok (.agg #[x12,x13,x14,x15]) w:=by kernel_rfl
structure SmQ (q:RP):Prop where
 fit:yz 400 q
 fitc:yz 400 (qn q)
 lw:qN 3 3 (qn q)
 dig:qF (qn q)
theorem SmQ.q{k:Nat}(hk:k<4){q:RP}(h:SmQ q)(hd:yr ((k:Int)+1) q<=0):Qp ((k:Int)+1) 5 2 q:=by
 have hc:=(jS q).can.1;refine⟨h.fit,hc,qN.mono (by omega) (by omega) _ h.lw,?_,h.dig⟩
 cases ho:zo ((k:Int)+1) (qn q)
 ·rfl
 ·exact absurd ((qh6 (by omega) (by omega) hc).2 ho) (Int.not_lt.2 hd)
def qjC(bad:Prop)(w:World)(e:Ending)(w':World):Prop:=∃(M:MtV)(c:Int),e= .returned (.tuple #[.agg #[.int .i64 M.kd,.int .i64 M.rl,.int .i64 M.ml,.bool M.mg,.slice M.A M.n M.c,.slice M.K M.k M.kc,.slice M.L M.l M.lc],.int .i64 c])/\((c=1/\bad)∨(c=0/\¬bad))/\Below w.heap.size w w'
theorem qii(k:Nat)(hk:k<4)(t:RP)(ht:QB ((k:Int)+1) 3 4 t)(kd:Int)(EJ:kd=1∨kd=2∨kd=3)(pa pb pc pd:RP)(sa:SmQ pa)(sb:SmQ pb)(sc:SmQ pc)(sd:SmQ pd)(pcs:Array Value)(Sc:pcs.size=24)(h0:pcs[0]? =some (.int .i64 kd))
 (A:Oa)(c:Nat)(K:Oa)(kc B:Nat)(w:World)(hB:B<=w.heap.size)(h:RV w (· <B) t (qe t A c K kc))(ha:Ju w B pcs 1 pa)(hb:Ju w B pcs 5 pb)(hc:Ju w B pcs 9 pc)(hd:Ju w B pcs 13 pd):
 Calls Tryz.prog 8 #[qm t A c K kc,.int .i64 1,.int .i64 ((k:Int)+1),.agg pcs] w (qjC (0<yr ((k:Int)+1) pa∨0<yr ((k:Int)+1) pb∨0<yr ((k:Int)+1) pc∨0<yr ((k:Int)+1) pd) w):=by
 obtain⟨Xb,k0,k1,k2',hs⟩:=jN w 28 34 32 (Gx t A c K kc) pcs Gy;have k2:qf _ (w.heap.size+1+1) 32 Gy:=k2';have Va:∀(o:Nat)(q:RP)(W:World),Below w.heap.size w W->Ju w B pcs o q->Ju W W.heap.size pcs o q:=fun o q W hW h=>by
  obtain⟨A,c,K,kc,h0,h1,h2,h3,h4⟩:=h;exact⟨A,c,K,kc,h0,h1,h2,h3,(h4.below (hW.mono hB)).more (Gl hB hW.size)⟩
 have Ex:=Gh (fun(W:World)(hW:Below w.heap.size w W)=>(h.below (hW.mono hB)).more (Gl hB hW.size));have RX:=Gh (fun(W:World)(hW:Below w.heap.size w W)=>qcZ k hk t ht A c K kc W.heap.size W (Gr _) (Ex W hW));have Sz:=Gh (fun(hq:yr ((k:Int)+1) pa<=0/\yr ((k:Int)+1) pb<=0/\yr ((k:Int)+1) pc<=0/\yr ((k:Int)+1) pd<=0)(W:World)(hW:Below w.heap.size w W)=>qie ((k:Int)+1) (by omega) (by omega) 1 (.inl rfl) t ht.fit (ht.fitc (by omega)) (fun c hc=>(ht.cfs hk c hc).mono (by omega) (Gr _)) ht.len pa pb pc pd (sa.q hk hq.1) (sb.q hk hq.2.1) (sc.q hk hq.2.2.1) (sd.q hk hq.2.2.2) pcs Sc A c K kc W.heap.size W (Gr _) (Ex W hW) (Va _ _ W hW ha) (Va _ _ W hW hb) (Va _ _ W hW hc) (Va _ _ W hW hd));have HAF:=Gh (fun(hq:yr ((k:Int)+1) pa<=0/\yr ((k:Int)+1) pb<=0/\yr ((k:Int)+1) pc<=0/\yr ((k:Int)+1) pd<=0)(W:World)(hW:Below w.heap.size w W)=>qga k hk t ht pa pb pc pd (sa.q hk hq.1) (sb.q hk hq.2.1) (sc.q hk hq.2.2.1) (sd.q hk hq.2.2.2) pcs Sc A c K kc W.heap.size W (Gr _) (Ex W hW) (Va _ _ W hW ha) (Va _ _ W hW hb) (Va _ _ W hW hc) (Va _ _ W hW hd));obtain⟨Aa,qa,Ka,ra,a0,a1,a2,a3,F6⟩:=ha;have HDa:=Gh (fun(W:World)(hW:Below w.heap.size w W)=>yn 400 (by omega) ((k:Int)+1) pa sa.fit sa.fitc Aa qa Ka ra B W (Gl hB hW.size) (F6.below (hW.mono hB)));obtain⟨Ab,qb,Kb,rb,b0,b1,b2,b3,Uy⟩:=hb;have HDb:=Gh (fun(W:World)(hW:Below w.heap.size w W)=>yn 400 (by omega) ((k:Int)+1) pb sb.fit sb.fitc Ab qb Kb rb B W (Gl hB hW.size) (Uy.below (hW.mono hB)));obtain⟨Ac,qc,Kc,rc,c0,c1,c2,c3,EG⟩:=hc;have HDc:=Gh (fun(W:World)(hW:Below w.heap.size w W)=>yn 400 (by omega) ((k:Int)+1) pc sc.fit sc.fitc Ac qc Kc rc B W (Gl hB hW.size) (EG.below (hW.mono hB)));obtain⟨Ad,qd,Kd,rd,d0,d1,d2,d3,Xv⟩:=hd;have HDd:=Gh (fun(W:World)(hW:Below w.heap.size w W)=>yn 400 (by omega) ((k:Int)+1) pd sd.fit sd.fitc Ad qd Kd rd B W (Gl hB hW.size) (Xv.below (hW.mono hB)));have y0:=(k1.cell 0).trans h0;have y1:=(k1.cell 1).trans a0;have y2:=(k1.cell 2).trans a1;have y3:=(k1.cell 3).trans a2;have y4:=(k1.cell 4).trans a3;have y5:=(k1.cell 5).trans b0;have y6:=(k1.cell 6).trans b1;have y7:=(k1.cell 7).trans b2;have y8:=(k1.cell 8).trans b3;have y9:=(k1.cell 9).trans c0;have y10:=(k1.cell 10).trans c1;have y11:=(k1.cell 11).trans c2;have y12:=(k1.cell 12).trans c3;have y13:=(k1.cell 13).trans d0;have y14:=(k1.cell 14).trans d1;have y15:=(k1.cell 15).trans d2;have y16:=(k1.cell 16).trans d3;have Dk:=Gh (fun(W:World)=>And.intro (qcB (.int .i64 pa.lv) (.bool pa.ng) (.slice Aa pa.ds.length qa) (.slice Ka pa.ks.length ra) (.int .i64 pb.lv) (.bool pb.ng) (.slice Ab pb.ds.length qb) (.slice Kb pb.ks.length rb) (.int .i64 pc.lv) (.bool pc.ng) (.slice Ac pc.ds.length qc) (.slice Kc pc.ks.length rc) (.int .i64 pd.lv) (.bool pd.ng) (.slice Ad pd.ds.length qd) (.slice Kd pd.ks.length rd) W) (And.intro (qc7 (.int .i64 pa.lv) (.bool pa.ng) (.slice Aa pa.ds.length qa) (.slice Ka pa.ks.length ra) (.int .i64 pb.lv) (.bool pb.ng) (.slice Ab pb.ds.length qb) (.slice Kb pb.ks.length rb) (.int .i64 pc.lv) (.bool pc.ng) (.slice Ac pc.ds.length qc) (.slice Kc pc.ks.length rc) (.int .i64 pd.lv) (.bool pd.ng) (.slice Ad pd.ds.length qd) (.slice Kd pd.ks.length rd) W) (And.intro (qdA (.int .i64 pa.lv) (.bool pa.ng) (.slice Aa pa.ds.length qa) (.slice Ka pa.ks.length ra) (.int .i64 pb.lv) (.bool pb.ng) (.slice Ab pb.ds.length qb) (.slice Kb pb.ks.length rb) (.int .i64 pc.lv) (.bool pc.ng) (.slice Ac pc.ds.length qc) (.slice Kc pc.ks.length rc) (.int .i64 pd.lv) (.bool pd.ng) (.slice Ad pd.ds.length qd) (.slice Kd pd.ks.length rd) W) (qdD (.int .i64 pa.lv) (.bool pa.ng) (.slice Aa pa.ds.length qa) (.slice Ka pa.ks.length ra) (.int .i64 pb.lv) (.bool pb.ng) (.slice Ab pb.ds.length qb) (.slice Kb pb.ks.length rb) (.int .i64 pc.lv) (.bool pc.ng) (.slice Ac pc.ds.length qc) (.slice Kc pc.ks.length rc) (.int .i64 pd.lv) (.bool pd.ng) (.slice Ad pd.ds.length qd) (.slice Kd pd.ks.length rd) W))));have VF:=Gh Sc;have Do:=Gh h0;have Xd:=Gh Xb;have Xo:=Gh k0;have Xu:=Gh k1;have XA:=Gh k2;unfold qm at RX Sz HAF HDa HDb HDc HDd ⊢;have g1:¬(k:Int)+1<1:=by omega
 have g4:¬4<(k:Int)+1:=by omega
 have g5:¬kd<1:=by omega
 have g6:¬3<kd:=by omega
 clear h hB Xb k0 k1 k2 k2' hs Va Sc h0 F6 Uy EG Xv Ex a0 a1 a2 a3 b0 b1 b2 b3 c0 c1 c2 c3 d0 d1 d2 d3 sa sb sc sd ht;go_enter Tryz.func8,Tryz.ntmps8
 go_upto_region 1 with(fail)
 generalize ((w.alloc (.cells (Gx t A c K kc) 28)).alloc (.cells pcs 34)).alloc (.cells Gy 32)=W at*;go_wp2_with fail
 clear y0 y1 y2 y3 y4 y5 y6 y7 y8 y9 y10 y11 y12 y13 y14 y15 y16 g5 g6;go_loopg [38] 4 (fun gn ix wr=>∃j:Nat,j<=4/\gn=4-j/\ix= .int .i64 j/\Below W.heap.size W wr/\(0<j->yr ((k:Int)+1) pa<=0)/\(1<j->yr ((k:Int)+1) pb<=0)/\(2<j->yr ((k:Int)+1) pc<=0)/\(3<j->yr ((k:Int)+1) pd<=0))
 case atStart=>exact⟨0,by omega,rfl,rfl,Below.refl _ _,by omega,by omega,by omega,by omega⟩
 case round=>
  obtain⟨j,hj,XI,rfl,Xe,q0,q1,q2,q3⟩:=hrel;have HG:=Gh XI;have HQ:=Gh (And.intro q0 (And.intro q1 (And.intro q2 q3)));have Xh:=Gh Xe;clear XI q0 q1 q2 q3 Xe;by_cases Xi:j<4
  ·have LQ:j=0∨j=1∨j=2∨j=3:=by omega
   rcases LQ with rfl|rfl|rfl|rfl
   ·have Xc:=Gb wr (.cells (Gx pa Aa qa Ka ra) 28);have UH:=qf.new wr 28 (Gx pa Aa qa Ka ra);have XR:=Gh (Gt Xh Xc);have TK:=Gh (HDa _ (Gt Xd XR));obtain⟨z0,z1,z2,z3⟩:=G4 UH;have Vs:=(Dk wr).1;clear Xc UH;go_wp2_with fail
    refine TK.out.mono ?_;rintro e w4 ⟨rfl,-,XB⟩;have XW:=Gh (Gt XR XB);clear XB Vs z0 z1 z2 z3 TK;by_cases Xr:0<yr ((k:Int)+1) pa
    ·have k2:=XA.out.old XW.out;have S8:=Gt Xd XW.out;have HS:=Gh (Qd k2 (.int .i64 0) (.int .i64 0) (.int .i64 0) (.bool false) (.slice none 0 0) (.slice none 0 0) (.slice none 0 0));have UQ:=Gh (Below.seven (B:=w.heap.size) S8 (show w.heap.size<=w.heap.size+1+1 by omega) (.int .i64 0) (.int .i64 0) (.int .i64 0) (.bool false) (.slice none 0 0) (.slice none 0 0) (.slice none 0 0));unfold set7 at UQ;have kk:=k2;obtain⟨d0,d1,d2,d3⟩:=G4 kk;have d4:=kk.cell 4;have d5:=kk.cell 5;have d6:=kk.cell 6;have f0:=kk.frozen 0;have f1:=kk.frozen 1;have f2:=kk.frozen 2;have f3:=kk.frozen 3;have f4:=kk.frozen 4;have f5:=kk.frozen 5;have f6:=kk.frozen 6;have zl:=kk.lt;clear kk;clear k2 S8;go_wp2_with fail
     exact yL Tryz.results8 rfl rfl HS.out.1 Tryz.underlying32 rfl Tryz.sizeMat ⟨⟨0,0,0,false,none,0,0,none,0,0,none,0,0⟩,1,rfl,.inl ⟨rfl,.inl Xr⟩,UQ⟩
    ·go_wp2_with fail
     go_roundg 3
     case rel=>exact⟨1,by omega,rfl,rfl,XW,fun _=>Xr,by omega,by omega,by omega⟩
     case measure=>have:=HG.out;omega
   ·have Xc:=Gb wr (.cells (Gx pb Ab qb Kb rb) 28);have UH:=qf.new wr 28 (Gx pb Ab qb Kb rb);have XR:=Gh (Gt Xh Xc);have TK:=Gh (HDb _ (Gt Xd XR));obtain⟨z0,z1,z2,z3⟩:=G4 UH;have Vs:=(Dk wr).2.1;clear Xc UH;go_wp2_with fail
    refine TK.out.mono ?_;rintro e w4 ⟨rfl,-,XB⟩;have XW:=Gh (Gt XR XB);clear XB Vs z0 z1 z2 z3 TK;by_cases Xr:0<yr ((k:Int)+1) pb
    ·have k2:=XA.out.old XW.out;have S8:=Gt Xd XW.out;have HS:=Gh (Qd k2 (.int .i64 0) (.int .i64 0) (.int .i64 0) (.bool false) (.slice none 0 0) (.slice none 0 0) (.slice none 0 0));have UQ:=Gh (Below.seven (B:=w.heap.size) S8 (show w.heap.size<=w.heap.size+1+1 by omega) (.int .i64 0) (.int .i64 0) (.int .i64 0) (.bool false) (.slice none 0 0) (.slice none 0 0) (.slice none 0 0));unfold set7 at UQ;have kk:=k2;obtain⟨d0,d1,d2,d3⟩:=G4 kk;have d4:=kk.cell 4;have d5:=kk.cell 5;have d6:=kk.cell 6;have f0:=kk.frozen 0;have f1:=kk.frozen 1;have f2:=kk.frozen 2;have f3:=kk.frozen 3;have f4:=kk.frozen 4;have f5:=kk.frozen 5;have f6:=kk.frozen 6;have zl:=kk.lt;clear kk;clear k2 S8;go_wp2_with fail
     exact yL Tryz.results8 rfl rfl HS.out.1 Tryz.underlying32 rfl Tryz.sizeMat ⟨⟨0,0,0,false,none,0,0,none,0,0,none,0,0⟩,1,rfl,.inl ⟨rfl,.inr (.inl Xr)⟩,UQ⟩
    ·go_wp2_with fail
     go_roundg 2
     case rel=>exact⟨2,by omega,rfl,rfl,XW,fun _=>HQ.out.1 (by omega),fun _=>Xr,by omega,by omega⟩
     case measure=>have:=HG.out;omega
   ·have Xc:=Gb wr (.cells (Gx pc Ac qc Kc rc) 28);have UH:=qf.new wr 28 (Gx pc Ac qc Kc rc);have XR:=Gh (Gt Xh Xc);have TK:=Gh (HDc _ (Gt Xd XR));obtain⟨z0,z1,z2,z3⟩:=G4 UH;have Vs:=(Dk wr).2.2.1;clear Xc UH;go_wp2_with fail
    refine TK.out.mono ?_;rintro e w4 ⟨rfl,-,XB⟩;have XW:=Gh (Gt XR XB);clear XB Vs z0 z1 z2 z3 TK;by_cases Xr:0<yr ((k:Int)+1) pc
    ·have k2:=XA.out.old XW.out;have S8:=Gt Xd XW.out;have HS:=Gh (Qd k2 (.int .i64 0) (.int .i64 0) (.int .i64 0) (.bool false) (.slice none 0 0) (.slice none 0 0) (.slice none 0 0));have UQ:=Gh (Below.seven (B:=w.heap.size) S8 (show w.heap.size<=w.heap.size+1+1 by omega) (.int .i64 0) (.int .i64 0) (.int .i64 0) (.bool false) (.slice none 0 0) (.slice none 0 0) (.slice none 0 0));unfold set7 at UQ;have kk:=k2;obtain⟨d0,d1,d2,d3⟩:=G4 kk;have d4:=kk.cell 4;have d5:=kk.cell 5;have d6:=kk.cell 6;have f0:=kk.frozen 0;have f1:=kk.frozen 1;have f2:=kk.frozen 2;have f3:=kk.frozen 3;have f4:=kk.frozen 4;have f5:=kk.frozen 5;have f6:=kk.frozen 6;have zl:=kk.lt;clear kk;clear k2 S8;go_wp2_with fail
     exact yL Tryz.results8 rfl rfl HS.out.1 Tryz.underlying32 rfl Tryz.sizeMat ⟨⟨0,0,0,false,none,0,0,none,0,0,none,0,0⟩,1,rfl,.inl ⟨rfl,.inr (.inr (.inl Xr))⟩,UQ⟩
    ·go_wp2_with fail
     go_roundg 1
     case rel=>exact⟨3,by omega,rfl,rfl,XW,fun _=>HQ.out.1 (by omega),fun _=>HQ.out.2.1 (by omega),fun _=>Xr,by omega⟩
     case measure=>have:=HG.out;omega
   ·have Xc:=Gb wr (.cells (Gx pd Ad qd Kd rd) 28);have UH:=qf.new wr 28 (Gx pd Ad qd Kd rd);have XR:=Gh (Gt Xh Xc);have TK:=Gh (HDd _ (Gt Xd XR));obtain⟨z0,z1,z2,z3⟩:=G4 UH;have Vs:=(Dk wr).2.2.2;clear Xc UH;go_wp2_with fail
    refine TK.out.mono ?_;rintro e w4 ⟨rfl,-,XB⟩;have XW:=Gh (Gt XR XB);clear XB Vs z0 z1 z2 z3 TK;by_cases Xr:0<yr ((k:Int)+1) pd
    ·have k2:=XA.out.old XW.out;have S8:=Gt Xd XW.out;have HS:=Gh (Qd k2 (.int .i64 0) (.int .i64 0) (.int .i64 0) (.bool false) (.slice none 0 0) (.slice none 0 0) (.slice none 0 0));have UQ:=Gh (Below.seven (B:=w.heap.size) S8 (show w.heap.size<=w.heap.size+1+1 by omega) (.int .i64 0) (.int .i64 0) (.int .i64 0) (.bool false) (.slice none 0 0) (.slice none 0 0) (.slice none 0 0));unfold set7 at UQ;have kk:=k2;obtain⟨d0,d1,d2,d3⟩:=G4 kk;have d4:=kk.cell 4;have d5:=kk.cell 5;have d6:=kk.cell 6;have f0:=kk.frozen 0;have f1:=kk.frozen 1;have f2:=kk.frozen 2;have f3:=kk.frozen 3;have f4:=kk.frozen 4;have f5:=kk.frozen 5;have f6:=kk.frozen 6;have zl:=kk.lt;clear kk;clear k2 S8;go_wp2_with fail
     exact yL Tryz.results8 rfl rfl HS.out.1 Tryz.underlying32 rfl Tryz.sizeMat ⟨⟨0,0,0,false,none,0,0,none,0,0,none,0,0⟩,1,rfl,.inl ⟨rfl,.inr (.inr (.inr Xr))⟩,UQ⟩
    ·go_wp2_with fail
     go_roundg 0
     case rel=>exact⟨4,by omega,rfl,rfl,XW,fun _=>HQ.out.1 (by omega),fun _=>HQ.out.2.1 (by omega),fun _=>HQ.out.2.2.1 (by omega),fun _=>Xr⟩
     case measure=>have:=HG.out;omega
  ·have LQ:j=4:=by omega
   subst LQ;have UV:=Gh (show yr ((k:Int)+1) pa<=0/\yr ((k:Int)+1) pb<=0/\yr ((k:Int)+1) pc<=0/\yr ((k:Int)+1) pd<=0 from⟨HQ.out.1 (by omega),HQ.out.2.1 (by omega),HQ.out.2.2.1 (by omega),HQ.out.2.2.2 (by omega)⟩);have Rb:=Gh (Gt Xd Xh);have k0:=Xo.out.old Xh.out;have k1:=Xu.out.old Xh.out;have Uk:=Gh (XA.out.old Xh);have y0:=(k1.cell 0).trans Do.out;obtain⟨x0,x1,x2,x3⟩:=G4 k0;have HFB:=Gh (RX wr Rb);have HFA:=Gh (Sz UV wr Rb);have KM:=Gh (HAF UV wr Rb);clear HDa HDb HDc HDd RX Sz HAF Dk HQ;rcases EJ with rfl|rfl|rfl
   ·clear k0 k1;go_wp2_with fail
    refine HFB.out.mono ?_;rintro e w5 hm;obtain⟨M,rfl,st⟩:=hm.v;have Xg:=Gh (YM (Uk.out.old st) (show w.heap.size<=w.heap.size+1+1 by omega) (Gt Rb st) M);have kk:=Uk.out.old st;obtain⟨d0,d1,d2,d3⟩:=G4 kk;have d4:=kk.cell 4;have d5:=kk.cell 5;have d6:=kk.cell 6;have f0:=kk.frozen 0;have f1:=kk.frozen 1;have f2:=kk.frozen 2;have f3:=kk.frozen 3;have f4:=kk.frozen 4;have f5:=kk.frozen 5;have f6:=kk.frozen 6;have zl:=kk.lt;clear kk;clear st hm;go_wp2_with fail
    have AQ:=Xg.out.2;obtain⟨_,_,_,_,_,_,_,_,_,_,_,_,_,_,DD⟩:=AQ;exact yL Tryz.results8 rfl rfl Xg.out.1 Tryz.underlying32 rfl Tryz.sizeMat ⟨M,0,rfl,.inr ⟨rfl,fun h=>h.elim (Int.not_lt.2 UV.out.1) fun h=>h.elim (Int.not_lt.2 UV.out.2.1) fun h=>h.elim (Int.not_lt.2 UV.out.2.2.1) (Int.not_lt.2 UV.out.2.2.2)⟩,DD⟩
   ·go_upto_region 13 with(fail)
    apply wp_region_lit;refine wpList_load_row rfl _ _ rfl w.heap.size rfl _ _ (0,0) _ k0 Tryz.underlying28 rfl (by kernel_rfl) ?_;simp only[Act.put,sA,sB,sC];refine wpList_plain rfl fun K hK=>?_;go_simp
    refine hK _ _ ?_;clear hK K;refine wpList_plain rfl fun K hK=>?_;go_simp
    refine hK _ _ ?_;clear hK K;refine wpList_load_row rfl _ _ rfl (w.heap.size+1) rfl _ _ (0,0) _ k1 Tryz.underlying34 rfl (by rw[VF.out];kernel_rfl) ?_;simp only[Act.put,sA,sB,sC];clear k0 k1;refine wpList_plain rfl fun K hK=>?_;go_simp
    go_at_call 27
    refine HFA.out.mono ?_;rintro e w5 hm;obtain⟨M,rfl,st⟩:=hm.v;refine hK _ _ ?_;clear hK K;have Xg:=Gh (YM (Uk.out.old st) (show w.heap.size<=w.heap.size+1+1 by omega) (Gt Rb st) M);have kk:=Uk.out.old st;obtain⟨d0,d1,d2,d3⟩:=G4 kk;have d4:=kk.cell 4;have d5:=kk.cell 5;have d6:=kk.cell 6;have f0:=kk.frozen 0;have f1:=kk.frozen 1;have f2:=kk.frozen 2;have f3:=kk.frozen 3;have f4:=kk.frozen 4;have f5:=kk.frozen 5;have f6:=kk.frozen 6;have zl:=kk.lt;clear kk;clear st hm;go_wp2_with fail
    have AQ:=Xg.out.2;obtain⟨_,_,_,_,_,_,_,_,_,_,_,_,_,_,DD⟩:=AQ;exact yL Tryz.results8 rfl rfl Xg.out.1 Tryz.underlying32 rfl Tryz.sizeMat ⟨M,0,rfl,.inr ⟨rfl,fun h=>h.elim (Int.not_lt.2 UV.out.1) fun h=>h.elim (Int.not_lt.2 UV.out.2.1) fun h=>h.elim (Int.not_lt.2 UV.out.2.2.1) (Int.not_lt.2 UV.out.2.2.2)⟩,DD⟩
   ·go_upto_region 14 with(fail)
    apply wp_region_lit;refine wpList_load_row rfl _ _ rfl w.heap.size rfl _ _ (0,0) _ k0 Tryz.underlying28 rfl (by kernel_rfl) ?_;simp only[Act.put,sA,sB,sC];refine wpList_plain rfl fun K hK=>?_;go_simp
    refine hK _ _ ?_;clear hK K;refine wpList_plain rfl fun K hK=>?_;go_simp
    refine hK _ _ ?_;clear hK K;refine wpList_load_row rfl _ _ rfl (w.heap.size+1) rfl _ _ (0,0) _ k1 Tryz.underlying34 rfl (by rw[VF.out];kernel_rfl) ?_;simp only[Act.put,sA,sB,sC];clear k0 k1;refine wpList_plain rfl fun K hK=>?_;go_simp
    go_at_call 28
    refine KM.out.mono ?_;rintro e w5 hm;obtain⟨M,rfl,st⟩:=hm.v;refine hK _ _ ?_;clear hK K;have Xg:=Gh (YM (Uk.out.old st) (show w.heap.size<=w.heap.size+1+1 by omega) (Gt Rb st) M);have kk:=Uk.out.old st;obtain⟨d0,d1,d2,d3⟩:=G4 kk;have d4:=kk.cell 4;have d5:=kk.cell 5;have d6:=kk.cell 6;have f0:=kk.frozen 0;have f1:=kk.frozen 1;have f2:=kk.frozen 2;have f3:=kk.frozen 3;have f4:=kk.frozen 4;have f5:=kk.frozen 5;have f6:=kk.frozen 6;have zl:=kk.lt;clear kk;clear st hm;go_wp2_with fail
    have AQ:=Xg.out.2;obtain⟨_,_,_,_,_,_,_,_,_,_,_,_,_,_,DD⟩:=AQ;exact yL Tryz.results8 rfl rfl Xg.out.1 Tryz.underlying32 rfl Tryz.sizeMat ⟨M,0,rfl,.inr ⟨rfl,fun h=>h.elim (Int.not_lt.2 UV.out.1) fun h=>h.elim (Int.not_lt.2 UV.out.2.1) fun h=>h.elim (Int.not_lt.2 UV.out.2.2.1) (Int.not_lt.2 UV.out.2.2.2)⟩,DD⟩
