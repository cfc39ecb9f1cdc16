import Derived.Test.YtflikmojaidhhaaGreatDoorCards
import Derived.Test.YtflikmojaidhhaaGreatDoorTie
import Derived.ProofKit
import Derived.OpenShut
import Derived.ChangeOld
import Derived.Deep.Slices
import Derived.Deep.Fields
import Derived.ChangeSame
import Derived.Deep.DeepHandedRow
import Derived.Lib.LaidTab
import Derived.Stop.LaidErr
import Derived.Test.YtflikmojaidhhaaGreatDoorPq33
import Derived.Test.YtflikmojaidhhaaGreatDoorPqA
namespace Go.Proofs.YtflikmojaidhhaaGreatDoor
open Go.RowKit
set_option maxHeartbeats 4000000
set_option maxRecDepth 100000
theorem qeo(p:RP)(A:Oa)(c:Nat)(K:Oa)(kc:Nat)(n kd:Int)(pcs:Array Value)(Sc:pcs.size=24)(h0:pcs[0]? =some (.int .i64 kd))(pa pb pc pd:RP)(B:Nat)(w:World)(hB:B<=w.heap.size)(h:RV w (· <B) p (qe p A c K kc))(ha:Ju w B pcs 1 pa)(hb:Ju w B pcs 5 pb)(hc:Ju w B pcs 9 pc)(hd:Ju w B pcs 13 pd)(ht:yF w.heap.size w):
 Calls Tryz.prog 3 #[qm p A c K kc,.int .i64 n,.agg pcs] w fun e w'=>e= .returned (.bool true)/\Below w.heap.size w w':=by
 obtain⟨Xb,k0,k1,hs⟩:=qR w 28 34 (Gx p A c K kc) pcs;have Xd:=Gh Xb;have Xo:=Gh k0;have Xu:=Gh k1;have VF:=Gh Sc;have Va:∀(o:Nat)(q:RP)(W:World),Below w.heap.size w W->Ju w B pcs o q->Ju W W.heap.size pcs o q:=fun o q W hW h=>by
  obtain⟨A,c,K,kc,h0,h1,h2,h3,h4⟩:=h;exact⟨A,c,K,kc,h0,h1,h2,h3,(h4.below (hW.mono hB)).more (Gl hB hW.size)⟩
 have Li:=Gh qgm;have FI:qF p:=RV.digT _ _ h;have HS:=Gh (fun(W:World)(hW:Below w.heap.size w W)=>Jk 3 (by omega) p (fun _ hr=>(yJ hr FI).2.sm (by omega) (by omega)) A c K kc B W (Gl hB hW.size) (h.below (hW.mono hB)));have VW:=Gh (fun(W:World)(hW:Below w.heap.size w W)=>show RV W (· <W.heap.size) p (qe p A c K kc)from(h.below (hW.mono hB)).more (Gl hB hW.size));have U7:=Gh (fun(hp:jz 3 p)(W:World)(hW:Below w.heap.size w W)=>qhg p hp FI n A c K kc W (VW W hW));have CG:=Gh (fun(hp:jz 3 p)(W:World)(hW:Below w.heap.size w W)=>qgR p hp FI n A c K kc W (VW W hW) (yF.on ht hW hW.size));have CC:qF pa:=by obtain⟨_,_,_,_,_,_,_,_,h⟩:=ha;exact RV.digT _ _ h
 have AV:qF pb:=by obtain⟨_,_,_,_,_,_,_,_,h⟩:=hb;exact RV.digT _ _ h
 have DC:qF pc:=by obtain⟨_,_,_,_,_,_,_,_,h⟩:=hc;exact RV.digT _ _ h
 have Db:qF pd:=by obtain⟨_,_,_,_,_,_,_,_,h⟩:=hd;exact RV.digT _ _ h
 have EW:=Gh (fun(hp:jz 3 p)(sa:jz 2 pa)(sb:jz 2 pb)(sc:jz 2 pc)(sd:jz 2 pd)(W:World)(hW:Below w.heap.size w W)=>qh3 p hp FI n kd pa pb pc pd sa sb sc sd CC AV DC Db pcs Sc h0 A c K kc W.heap.size W (Gr _) (VW W hW) (Va _ _ W hW ha) (Va _ _ W hW hb) (Va _ _ W hW hc) (Va _ _ W hW hd));have Ra:=Gh (fun(hp:jz 3 p)(W:World)(hW:Below w.heap.size w W)=>yn 400 (by omega) n p (hp.okp (k:=0) FI).fit ((hp.okp (k:=0) FI).fitc (by omega)) A c K kc W.heap.size W (Gr _) (VW W hW));obtain⟨Aa,qa,Ka,ra,a0,a1,a2,a3,F6⟩:=ha;have Wy:=Gh (fun(W:World)(hW:Below w.heap.size w W)=>Jk 2 (by omega) pa (fun _ hr=>(yJ hr CC).2.sm (by omega) (by omega)) Aa qa Ka ra B W (Gl hB hW.size) (F6.below (hW.mono hB)));obtain⟨Ab,qb,Kb,rb,b0,b1,b2,b3,Uy⟩:=hb;have Wx:=Gh (fun(W:World)(hW:Below w.heap.size w W)=>Jk 2 (by omega) pb (fun _ hr=>(yJ hr AV).2.sm (by omega) (by omega)) Ab qb Kb rb B W (Gl hB hW.size) (Uy.below (hW.mono hB)));obtain⟨Ac,qc,Kc,rc,c0,c1,c2,c3,EG⟩:=hc;have Ww:=Gh (fun(W:World)(hW:Below w.heap.size w W)=>Jk 2 (by omega) pc (fun _ hr=>(yJ hr DC).2.sm (by omega) (by omega)) Ac qc Kc rc B W (Gl hB hW.size) (EG.below (hW.mono hB)));obtain⟨Ad,qd,Kd,rd,d0,d1,d2,d3,Xv⟩:=hd;have Wv:=Gh (fun(W:World)(hW:Below w.heap.size w W)=>Jk 2 (by omega) pd (fun _ hr=>(yJ hr Db).2.sm (by omega) (by omega)) Ad qd Kd rd B W (Gl hB hW.size) (Xv.below (hW.mono hB)));have HU:=Gh (fun(sa:jz 2 pa)(sb:jz 2 pb)(sc:jz 2 pc)(sd:jz 2 pd)(j:Nat)(hj:j<4)=>show∃(q:RP)(A5:Oa)(c5:Nat)(K5:Oa)(k5:Nat),SmQ q/\(#[.int .i64 pa.lv,.bool pa.ng,.slice Aa pa.ds.length qa,.slice Ka pa.ks.length ra,.int .i64 pb.lv,.bool pb.ng,.slice Ab pb.ds.length qb,.slice Kb pb.ks.length rb,.int .i64 pc.lv,.bool pc.ng,.slice Ac pc.ds.length qc,.slice Kc pc.ks.length rc,.int .i64 pd.lv,.bool pd.ng,.slice Ad pd.ds.length qd,.slice Kd pd.ks.length rd]:Array Value)[j*4]? =some (.int .i64 q.lv)/\(#[.int .i64 pa.lv,.bool pa.ng,.slice Aa pa.ds.length qa,.slice Ka pa.ks.length ra,.int .i64 pb.lv,.bool pb.ng,.slice Ab pb.ds.length qb,.slice Kb pb.ks.length rb,.int .i64 pc.lv,.bool pc.ng,.slice Ac pc.ds.length qc,.slice Kc pc.ks.length rc,.int .i64 pd.lv,.bool pd.ng,.slice Ad pd.ds.length qd,.slice Kd pd.ks.length rd]:Array Value)[j*4+1]? =some (.bool q.ng)/\(#[.int .i64 pa.lv,.bool pa.ng,.slice Aa pa.ds.length qa,.slice Ka pa.ks.length ra,.int .i64 pb.lv,.bool pb.ng,.slice Ab pb.ds.length qb,.slice Kb pb.ks.length rb,.int .i64 pc.lv,.bool pc.ng,.slice Ac pc.ds.length qc,.slice Kc pc.ks.length rc,.int .i64 pd.lv,.bool pd.ng,.slice Ad pd.ds.length qd,.slice Kd pd.ks.length rd]:Array Value)[j*4+2]? =some (.slice A5 q.ds.length c5)/\(#[.int .i64 pa.lv,.bool pa.ng,.slice Aa pa.ds.length qa,.slice Ka pa.ks.length ra,.int .i64 pb.lv,.bool pb.ng,.slice Ab pb.ds.length qb,.slice Kb pb.ks.length rb,.int .i64 pc.lv,.bool pc.ng,.slice Ac pc.ds.length qc,.slice Kc pc.ks.length rc,.int .i64 pd.lv,.bool pd.ng,.slice Ad pd.ds.length qd,.slice Kd pd.ks.length rd]:Array Value)[j*4+3]? =some (.slice K5 q.ks.length k5)/\[pa,pb,pc,pd][j]? =some q/\RV w (· <w.heap.size) q (qe q A5 c5 K5 k5)from by
  obtain rfl|rfl|rfl|rfl:j=0∨j=1∨j=2∨j=3:=by omega
  ·exact⟨pa,Aa,qa,Ka,ra,sa.smq CC,rfl,rfl,rfl,rfl,rfl,F6.more hB⟩
  ·exact⟨pb,Ab,qb,Kb,rb,sb.smq AV,rfl,rfl,rfl,rfl,rfl,Uy.more hB⟩
  ·exact⟨pc,Ac,qc,Kc,rc,sc.smq DC,rfl,rfl,rfl,rfl,rfl,EG.more hB⟩
  ·exact⟨pd,Ad,qd,Kd,rd,sd.smq Db,rfl,rfl,rfl,rfl,rfl,Xv.more hB⟩)
 have Sy:=Gh (fun(j:Nat)(q:RP)(hq:[pa,pb,pc,pd][j]? =some q)=>show([pa,pb,pc,pd].take (j+1)).any (fun q=>zo n (qn q))=(([pa,pb,pc,pd].take j).any (fun q=>zo n (qn q))||zo n (qn q))from by rw[List.take_add_one,hq,List.any_append];simp);have Lh:=Gh (show crZ n p=if n<1∨4<n then 1 else if 2<yr n p then 12 else 0 from rfl);have DQ:=Gh (show qiA n kd [pa,pb,pc,pd]=(qd5 kd||([pa,pb,pc,pd].take 4).any fun q=>zo n (qn q))from rfl);have WG:=Gh (fun(q:RP)(hq:SmQ q)(hn:0<n)(A5:Oa)(c5:Nat)(K5:Oa)(k5:Nat)(W:World)(hr:RV W (· <W.heap.size) (qn q) (qe (qn q) A5 c5 K5 k5))=>qat n hn 1000 (by omega) 12 (qn q) hq.fitc.dep (hq.lw.sm (by omega) (by omega)) A5 c5 K5 k5 W.heap.size W (Gr _) hr);have Bb:=Gh (fun(q:RP)(hq:SmQ q)(A5:Oa)(c5:Nat)(K5:Oa)(k5:Nat)(W:World)(hr:RV W (· <W.heap.size) q (qe q A5 c5 K5 k5))=>yh 400 (by omega) q hq.fit A5 c5 K5 k5 W.heap.size W (Gr _) hr);generalize crZ n p=cr at*;generalize yr n p=dg at*;generalize qiA n kd [pa,pb,pc,pd]=bad at*;generalize (fun q=>zo n (qn q))=fo at*;unfold qm at HS Wy Wx Ww Wv U7 EW Ra WG Bb ⊢;clear h F6 Uy EG Xv FI CC AV DC Db Xb hs hB ht Va Sc;go_enter Tryz.func3,Tryz.ntmps3
 go_upto_region 1 with(fail)
 generalize (w.alloc (.cells (Gx p A c K kc) 28)).alloc (.cells pcs 34)=W at*;have KF:=Gh (fun(X:World)(hX:Below W.heap.size W X)=>(⟨(Xo.out.old hX).cell 0,(Xo.out.old hX).cell 1,(Xo.out.old hX).cell 2,(Xo.out.old hX).cell 3,((Xu.out.old hX).cell 0).trans h0,((Xu.out.old hX).cell 1).trans a0,((Xu.out.old hX).cell 2).trans a1,((Xu.out.old hX).cell 3).trans a2,((Xu.out.old hX).cell 4).trans a3,((Xu.out.old hX).cell 5).trans b0,((Xu.out.old hX).cell 6).trans b1,((Xu.out.old hX).cell 7).trans b2,((Xu.out.old hX).cell 8).trans b3,((Xu.out.old hX).cell 9).trans c0,((Xu.out.old hX).cell 10).trans c1,((Xu.out.old hX).cell 11).trans c2,((Xu.out.old hX).cell 12).trans c3,((Xu.out.old hX).cell 13).trans d0,((Xu.out.old hX).cell 14).trans d1,((Xu.out.old hX).cell 15).trans d2,((Xu.out.old hX).cell 16).trans d3⟩:Gd X w.heap.size (.int .i64 p.lv) (.bool p.ng) (.slice A p.ds.length c) (.slice K p.ks.length kc) (Gd X (w.heap.size+1) (.int .i64 kd) (.int .i64 pa.lv) (.bool pa.ng) (.slice Aa pa.ds.length qa) (X.cell? ⟨w.heap.size+1,4,none⟩=some (.slice Ka pa.ks.length ra)/\X.cell? ⟨w.heap.size+1,5,none⟩=some (.int .i64 pb.lv)/\X.cell? ⟨w.heap.size+1,6,none⟩=some (.bool pb.ng)/\X.cell? ⟨w.heap.size+1,7,none⟩=some (.slice Ab pb.ds.length qb)/\X.cell? ⟨w.heap.size+1,8,none⟩=some (.slice Kb pb.ks.length rb)/\X.cell? ⟨w.heap.size+1,9,none⟩=some (.int .i64 pc.lv)/\X.cell? ⟨w.heap.size+1,10,none⟩=some (.bool pc.ng)/\X.cell? ⟨w.heap.size+1,11,none⟩=some (.slice Ac pc.ds.length qc)/\X.cell? ⟨w.heap.size+1,12,none⟩=some (.slice Kc pc.ks.length rc)/\X.cell? ⟨w.heap.size+1,13,none⟩=some (.int .i64 pd.lv)/\X.cell? ⟨w.heap.size+1,14,none⟩=some (.bool pd.ng)/\X.cell? ⟨w.heap.size+1,15,none⟩=some (.slice Ad pd.ds.length qd)/\X.cell? ⟨w.heap.size+1,16,none⟩=some (.slice Kd pd.ks.length rd)))));have HT:=Gh (fun(X:World)(hX:Below W.heap.size W X)=>show Below w.heap.size w X from Gt Xd hX);clear k0 k1 h0 a0 a1 a2 a3 b0 b1 b2 b3 c0 c1 c2 c3 d0 d1 d2 d3;go_wp2_with fail
 refine(Li _).mono ?_;rintro e w1 ⟨rfl,Xp⟩;have UK:=Gh Xp;have Uj:=Gh (HS w1 (HT w1 Xp));obtain⟨z0,z1,z2,z3,z4,z5,z6,z7,z8,z9,z10,z11,z12,z13,z14,z15,z16,z17,z18,z19,z20⟩:=KF.out _ Xp;clear Xp HS;go_wp2_with fail
 refine Uj.out.mono ?_;rintro e w2 ⟨b,rfl,Uh,Xf⟩;have Xw:=Gh (Gt UK Xf);have Ui:=Gh Uh;clear Xf Uh Uj z0 z1 z2 z3 z4 z5 z6 z7 z8 z9 z10 z11 z12 z13 z14 z15 z16 z17 z18 z19 z20
 cases b with
 |false=>
  go_wp2_with fail
  refine(Li _).mono ?_;rintro e w9 ⟨rfl,To⟩;have HF:=Gh (HT w9 (Gt Xw To));clear To;go_wp2_with fail
  go_ret
  exact⟨rfl,HF⟩
 |true=>
 have Ssp:=Gh (Ui rfl);clear Ui;obtain⟨z0,z1,z2,z3,z4,z5,z6,z7,z8,z9,z10,z11,z12,z13,z14,z15,z16,z17,z18,z19,z20⟩:=KF.out _ Xw.out;have HX:=Gh (Wy w2 (HT w2 Xw));clear Wy;go_wp2_with fail
 refine HX.out.mono ?_;rintro e w3 ⟨b,rfl,Uh,Xf⟩;have Um:=Gh (Gt Xw Xf);have Ui:=Gh Uh;clear Xf Uh HX z0 z1 z2 z3 z4 z5 z6 z7 z8 z9 z10 z11 z12 z13 z14 z15 z16 z17 z18 z19 z20
 cases b with
 |false=>
  go_wp2_with fail
  refine(Li _).mono ?_;rintro e w9 ⟨rfl,To⟩;have HF:=Gh (HT w9 (Gt Um To));clear To;go_wp2_with fail
  go_ret
  exact⟨rfl,HF⟩
 |true=>
 have Ssa:=Gh (Ui rfl);clear Ui;obtain⟨z0,z1,z2,z3,z4,z5,z6,z7,z8,z9,z10,z11,z12,z13,z14,z15,z16,z17,z18,z19,z20⟩:=KF.out _ Um.out;have HX:=Gh (Wx w3 (HT w3 Um));clear Wx;go_wp2_with fail
 refine HX.out.mono ?_;rintro e w4 ⟨b,rfl,Uh,Xf⟩;have XW:=Gh (Gt Um Xf);have Ui:=Gh Uh;clear Xf Uh HX z0 z1 z2 z3 z4 z5 z6 z7 z8 z9 z10 z11 z12 z13 z14 z15 z16 z17 z18 z19 z20
 cases b with
 |false=>
  go_wp2_with fail
  refine(Li _).mono ?_;rintro e w9 ⟨rfl,To⟩;have HF:=Gh (HT w9 (Gt XW To));clear To;go_wp2_with fail
  go_ret
  exact⟨rfl,HF⟩
 |true=>
 have Ssb:=Gh (Ui rfl);clear Ui;obtain⟨z0,z1,z2,z3,z4,z5,z6,z7,z8,z9,z10,z11,z12,z13,z14,z15,z16,z17,z18,z19,z20⟩:=KF.out _ XW.out;have HX:=Gh (Ww w4 (HT w4 XW));clear Ww;go_wp2_with fail
 refine HX.out.mono ?_;rintro e w5 ⟨b,rfl,Uh,Xf⟩;have XZ:=Gh (Gt XW Xf);have Ui:=Gh Uh;clear Xf Uh HX z0 z1 z2 z3 z4 z5 z6 z7 z8 z9 z10 z11 z12 z13 z14 z15 z16 z17 z18 z19 z20
 cases b with
 |false=>
  go_wp2_with fail
  refine(Li _).mono ?_;rintro e w9 ⟨rfl,To⟩;have HF:=Gh (HT w9 (Gt XZ To));clear To;go_wp2_with fail
  go_ret
  exact⟨rfl,HF⟩
 |true=>
 have Ssc:=Gh (Ui rfl);clear Ui;obtain⟨z0,z1,z2,z3,z4,z5,z6,z7,z8,z9,z10,z11,z12,z13,z14,z15,z16,z17,z18,z19,z20⟩:=KF.out _ XZ.out;have HX:=Gh (Wv w5 (HT w5 XZ));clear Wv;go_wp2_with fail
 refine HX.out.mono ?_;rintro e w6 ⟨b,rfl,Uh,Xf⟩;have TL:=Gh (Gt XZ Xf);have Ui:=Gh Uh;clear Xf Uh HX z0 z1 z2 z3 z4 z5 z6 z7 z8 z9 z10 z11 z12 z13 z14 z15 z16 z17 z18 z19 z20
 cases b with
 |false=>
  go_wp2_with fail
  refine(Li _).mono ?_;rintro e w9 ⟨rfl,To⟩;have HF:=Gh (HT w9 (Gt TL To));clear To;go_wp2_with fail
  go_ret
  exact⟨rfl,HF⟩
 |true=>
 have Ssd:=Gh (Ui rfl);clear Ui;obtain⟨z0,z1,z2,z3,z4,z5,z6,z7,z8,z9,z10,z11,z12,z13,z14,z15,z16,z17,z18,z19,z20⟩:=KF.out _ TL.out;have FM:=Gh (U7 Ssp w6 (HT w6 TL));clear U7;go_wp2_with fail
 refine FM.out.mono ?_;rintro e w7 ⟨v7,rfl,Ft⟩;have FC:=Gh (Gt TL Ft);have HP7:=Gh (CG Ssp w7 (HT w7 FC));clear Ft FM CG z0 z1 z2 z3 z4 z5 z6 z7 z8 z9 z10 z11 z12 z13 z14 z15 z16 z17 z18 z19 z20;obtain⟨z0,z1,z2,z3,z4,z5,z6,z7,z8,z9,z10,z11,z12,z13,z14,z15,z16,z17,z18,z19,z20⟩:=KF.out _ FC.out;go_wp2_with fail
 refine HP7.out.mono ?_;rintro e w8 ⟨v8,rfl,Sb⟩;have RY:=Gh (Gt FC Sb);have BW:=Gh (EW Ssp Ssa Ssb Ssc Ssd w8 (HT w8 RY));clear Sb HP7 EW z0 z1 z2 z3 z4 z5 z6 z7 z8 z9 z10 z11 z12 z13 z14 z15 z16 z17 z18 z19 z20;obtain⟨z0,z1,z2,z3,z4,z5,z6,z7,z8,z9,z10,z11,z12,z13,z14,z15,z16,z17,z18,z19,z20⟩:=KF.out _ RY.out;go_upto_region 5 with(fail)
 apply wp_region_lit;refine wpList_plain rfl fun K hK=>?_;go_simp
 refine hK _ _ ?_;clear hK K;refine wpList_plain rfl fun K hK=>?_;go_simp
 refine hK _ _ ?_;clear hK K;refine wpList_load_row rfl _ _ rfl (w.heap.size+1) rfl _ _ (0,0) _ (Xu.out.old RY) Tryz.underlying34 rfl (by rw[VF.out];kernel_rfl) ?_;simp only[Act.put,sA,sB,sC];refine wpList_plain rfl fun K hK=>?_;go_simp
 go_at_call 8
 refine BW.out.mono ?_;rintro e w9 ⟨M,cc,rfl,Pt,Un,To⟩;refine hK _ _ ?_;clear hK K;have HO:=Gh Pt;have HI:=Gh Un;have FB:=Gh (Gt RY To);have Xc:=Gb w9 (.cells #[.int .i64 M.kd,.int .i64 M.rl,.int .i64 M.ml,.bool M.mg,.slice M.A M.n M.c,.slice M.K M.k M.kc,.slice M.L M.l M.lc] 32);have Tj:=Gh (qf.new w9 32 #[.int .i64 M.kd,.int .i64 M.rl,.int .i64 M.ml,.bool M.mg,.slice M.A M.n M.c,.slice M.K M.k M.kc,.slice M.L M.l M.lc]);have Up:=Gh (Gt FB Xc);clear To Xc Pt Un BW z0 z1 z2 z3 z4 z5 z6 z7 z8 z9 z10 z11 z12 z13 z14 z15 z16 z17 z18 z19 z20;go_upto_region 6 with(fail)
 generalize w9.alloc (.cells #[.int .i64 M.kd,.int .i64 M.rl,.int .i64 M.ml,.bool M.mg,.slice M.A M.n M.c,.slice M.K M.k M.kc,.slice M.L M.l M.lc] 32)=X at*;generalize w9.heap.size=gm at*;by_cases hn:n<1∨4<n
 ·obtain⟨rfl,rfl⟩:=HO.out hn;have UM:=Lh.out;rw[if_pos hn]at UM;subst UM;have Ut:=Gh (qdV X);obtain⟨y0,y1,y2,y3⟩:=G4 Tj.out;have y4:=Tj.out.cell 4;have y5:=Tj.out.cell 5;have y6:=Tj.out.cell 6;clear HO HI Lh DQ Sy HU;by_cases h1:n<1
  ·have e1:decide (n<1)=true:=decide_eq_true h1;clear hn h1;go_wp2_with fail
   refine Ut.out.mono ?_;rintro e w10 ⟨rfl,Rr⟩;have HF:=Gh (HT w10 (Gt Up Rr));clear Rr y0 y1 y2 y3 y4 y5 y6;go_wp2_with fail
   go_ret
   exact⟨rfl,HF⟩
  ·have e1:decide (n<1)=false:=decide_eq_false h1;have e4:decide (4<n)=true:=decide_eq_true (by omega);clear hn h1;go_wp2_with fail
   refine Ut.out.mono ?_;rintro e w10 ⟨rfl,Rr⟩;have HF:=Gh (HT w10 (Gt Up Rr));clear Rr y0 y1 y2 y3 y4 y5 y6;go_wp2_with fail
   go_ret
   exact⟨rfl,HF⟩
 ·have Un:=HI.out hn;have UM:=Lh.out;rw[if_neg hn]at UM;have Rl:=Gh Un;have VC:=Gh UM;have e1:decide (n<1)=false:=decide_eq_false (by omega);have e4:decide (4<n)=false:=decide_eq_false (by omega);have HN0:=Gh (show 0<n by omega);clear Un UM HO HI Lh Tj hn;obtain⟨z0,z1,z2,z3,z4,z5,z6,z7,z8,z9,z10,z11,z12,z13,z14,z15,z16,z17,z18,z19,z20⟩:=KF.out _ Up.out;have DM:=Gh (show qd5 kd=(decide (kd<1)||decide (3<kd))from rfl);generalize qd5 kd=bk at*;generalize Rh:decide (kd<1)=d1 at*;generalize hd3:decide (3<kd)=d3 at*
  cases d1
  all_goals
   go_upto_region 10 with(fail)
   have Xc:=Gb X (.cells #[.int .i64 pa.lv,.bool pa.ng,.slice Aa pa.ds.length qa,.slice Ka pa.ks.length ra,.int .i64 pb.lv,.bool pb.ng,.slice Ab pb.ds.length qb,.slice Kb pb.ks.length rb,.int .i64 pc.lv,.bool pc.ng,.slice Ac pc.ds.length qc,.slice Kc pc.ks.length rc,.int .i64 pd.lv,.bool pd.ng,.slice Ad pd.ds.length qd,.slice Kd pd.ks.length rd] 28);have Xm:=Gh (qf.new X 28 #[.int .i64 pa.lv,.bool pa.ng,.slice Aa pa.ds.length qa,.slice Ka pa.ks.length ra,.int .i64 pb.lv,.bool pb.ng,.slice Ab pb.ds.length qb,.slice Kb pb.ks.length rb,.int .i64 pc.lv,.bool pc.ng,.slice Ac pc.ds.length qc,.slice Kc pc.ks.length rc,.int .i64 pd.lv,.bool pd.ng,.slice Ad pd.ds.length qd,.slice Kd pd.ks.length rd]);have Ue:=Gh (Gt Up Xc);clear Xc z0 z1 z2 z3 z4 z5 z6 z7 z8 z9 z10 z11 z12 z13 z14 z15 z16 z17 z18 z19 z20;generalize X.alloc (.cells #[.int .i64 pa.lv,.bool pa.ng,.slice Aa pa.ds.length qa,.slice Ka pa.ks.length ra,.int .i64 pb.lv,.bool pb.ng,.slice Ab pb.ds.length qb,.slice Kb pb.ks.length rb,.int .i64 pc.lv,.bool pc.ng,.slice Ac pc.ds.length qc,.slice Kc pc.ks.length rc,.int .i64 pd.lv,.bool pd.ng,.slice Ad pd.ds.length qd,.slice Kd pd.ks.length rd] 28)=Y at*;generalize X.heap.size=gq at*;go_loopg [13,108] 4 (fun gn ub ix wr=>∃(j:Nat)(b:Bool),j<=4/\gn=4-j/\ub= .bool b/\ix= .int .i64 j/\b=(bk||([pa,pb,pc,pd].take j).any fo)/\Below Y.heap.size Y wr)
   case atStart=>exact⟨0,bk,by omega,rfl,by rw[DM.out];simp,rfl,by simp,Below.refl _ _⟩
   case round=>
    obtain⟨j,b,hj,XI,rfl,rfl,hbj,Xe⟩:=hrel;have SZ:=Gh XI;have HBJ:=Gh hbj;have Xh:=Gh Xe;clear XI hbj Xe;by_cases Xi:j<4
    ·obtain⟨q,A5,c5,K5,k5,IF,y0,y1,y2,y3,hq,hrq⟩:=HU.out Ssa Ssb Ssc Ssd j Xi
     replace y0:=((Xm.out.old Xh).cell (j*4)).trans y0;replace y1:=((Xm.out.old Xh).cell (j*4+1)).trans y1;replace y2:=((Xm.out.old Xh).cell (j*4+2)).trans y2;replace y3:=((Xm.out.old Xh).cell (j*4+3)).trans y3
     have Xc:=Gb wr (.cells (Gx q A5 c5 K5 k5) 28);have VS:=qf.new wr 28 (Gx q A5 c5 K5 k5);have XR:=Gh (Gt Xh Xc);have hw:=HT.out _ (Gt Ue XR);have Ts:=Gh (Bb q IF A5 c5 K5 k5 _ ((hrq.below hw).more hw.size));have HSQ:=Gh IF;have HQ:=Gh hq;have i0:(0:Int)<=(j:Int):=by omega
     have i1:(j:Int)<4:=by omega
     have e2:IntKind.i64.wrap ((j:Int)+1)=(j:Int)+1:=IntWalk.i64_in _ (by omega);have B9:=Gh (show j+1<=4/\4-(j+1)<4-j by omega);clear Xc hw IF hq hrq
     cases b with
     |true=>
      clear VS;go_wp2_with fail
      go_roundg (4-(j+1))
      case rel=>exact⟨j+1,true,B9.out.1,rfl,rfl,by go_num,by rw[Sy j q HQ,<-Bool.or_assoc,<-HBJ.out];rfl,XR⟩
      case measure=>have:=SZ.out;have:=B9.out;omega
     |false=>
      obtain⟨x0,x1,x2,x3⟩:=G4 VS;clear VS;go_wp2_with fail
      refine Ts.out.mono ?_;rintro e w11 ⟨A6,c6,K6,k6,rfl,-,hr,FU⟩;have MT:=Gh (WG q HSQ HN0 A6 c6 K6 k6 w11 hr.rv);have HB11:=Gh (Gt XR FU);unfold qm;clear hr FU Ts x0 x1 x2 x3 y0 y1 y2 y3;go_wp2_with fail
      refine MT.out.mono ?_;rintro e w12 ⟨rfl,Fd⟩;have HB12:=Gh (Gt HB11 Fd);clear Fd MT;go_wp2_with fail
      go_roundg (4-(j+1))
      case rel=>exact⟨j+1,zo n (qn q),B9.out.1,rfl,rfl,by go_num,by rw[Sy j q HQ,<-Bool.or_assoc,<-HBJ.out];rfl,HB12⟩
      case measure=>have:=SZ.out;have:=B9.out;omega
    ·obtain rfl:j=4:=by omega
     have Et:bad=b:=by rw[DQ,HBJ.out]
     have Un:=Rl.out;rw[Et]at Un;have P6:=Gh Un;have HBZ:=Gh (Gt Ue Xh);have Sj:=Gh (Ra Ssp wr (HT _ HBZ));obtain⟨z0,z1,z2,z3,z4,z5,z6,z7,z8,z9,z10,z11,z12,z13,z14,z15,z16,z17,z18,z19,z20⟩:=KF.out _ HBZ.out;clear Et Un Rl Ra HU Bb WG Sy Xm;go_wp2_with fail
     refine Sj.out.mono ?_;rintro e w13 ⟨rfl,-,Fc⟩;have HF:=Gh (HT w13 (Gt HBZ Fc));clear Fc Sj z0 z1 z2 z3 z4 z5 z6 z7 z8 z9 z10 z11 z12 z13 z14 z15 z16 z17 z18 z19 z20;by_cases h2:2<dg
     ·have UM:=VC.out;rw[if_pos h2]at UM;subst UM;have e9:decide (2<dg)=true:=decide_eq_true h2;clear h2;rcases P6.out with⟨rfl,rfl⟩|⟨rfl,rfl⟩
      all_goals
       go_wp2_with fail
       go_ret
       exact⟨rfl,HF⟩
     ·have UM:=VC.out;rw[if_neg h2]at UM;subst UM;have e9:decide (2<dg)=false:=decide_eq_false h2;clear h2;rcases P6.out with⟨rfl,rfl⟩|⟨rfl,rfl⟩
      all_goals
       go_wp2_with fail
       go_ret
       exact⟨rfl,HF⟩
end Go.Proofs.YtflikmojaidhhaaGreatDoor
namespace Go.Proofs.YtflikmojaidhhaaGreatDoor
open Go.ChangeShapes Go.WideShapes Go.ChangeAt Go.RowKit Go.Deep
theorem qb3{α:Type}(d:α){p:Nat->α->Prop}(n:Nat)(h:∀k,k<n->∃a,p k a):∃l:List α,l.length=n/\∀k,k<n->p k (l.getD k d):=by
 induction n with
 |zero=>exact⟨[],rfl,fun k hk=>absurd hk (by omega)⟩
 |succ n ih=>
  obtain⟨l,hl,hp⟩:=ih fun k hk=>h k (by omega);obtain⟨a,ha⟩:=h n (by omega);refine⟨l++[a],by simp[hl],fun k hk=>?_⟩;by_cases OB:k<n
  ·have e:(l++[a]).getD k d=l.getD k d:=by rw[List.getD_eq_getElem?_getD,List.getElem?_append_left (by omega),List.getD_eq_getElem?_getD]
   rw[e];exact hp k OB
  ·have LN:k=l.length:=by omega
   have e:(l++[a]).getD k d=a:=by rw[LN];simp
   rw[e,show k=n by omega];exact ha
theorem qje{x:Int}(h:(Lit.int .u32 x).wf=true):0<=x/\x<4294967296:=by
 simp[Lit.wf,IntKind.min,IntKind.max,IntKind.signed,IntKind.bits]at h;omega
theorem qG.of_pairs{w:World}{S:Nat->Prop}:∀(l:List (RP×List Value)),(∀x∈l,RV w S x.1 x.2)->qG w S (l.map (·.1)) (l.map (·.2))
 |[],_=>by simp[qG]
 |x::l,h=>by
  simp only[List.map_cons];unfold qG;exact⟨_,_,rfl,h x (by simp),qG.of_pairs l fun y hy=>h y (by simp[hy])⟩
section
variable {H:Type} {enc:TypeId×Value->H} {W:World}
theorem qgs{fuel:Nat}{v:Value}{y:DataW H×List MemPlace}(h:DataW.trod enc Tryz.prog W 0 (fun _=>true) true fuel 23 [v]=some y):
 ∃(ds:List Nat)(A:Oa)(c:Nat),v= .slice A ds.length c/\ju W (· <W.heap.size) 1 A ds.length (qp ds)/\jg ds/\ds.length<=c:=by
 rcases open_ints Tryz.underlying23 Tryz.underlying123 (by kernel_rfl) h with⟨XE,_⟩|⟨x,l,c,zs,XE,_,hl,hm,hz,_,TO,hwz⟩
 ·simp at XE;subst XE;exact⟨[],none,0,rfl,ju.of qu.none_ (fun _ h=>h),by simp[jg],Gr _⟩
 ·simp at XE;subst XE;simp at hz;have SK:∀z∈zs,0<=z/\z<4294967296:=fun z hzm=>qje (hwz z hzm);have XC:((zs.take l).map Int.toNat).length=l:=by rw[List.length_map,List.length_take,hz];omega
  refine⟨(zs.take l).map Int.toNat,some x,c,by rw[XC],?_,fun d hd=>?_,by rw[XC];exact hl⟩
  ·rw[XC];refine⟨by rw[qp,List.length_map,XC,Nat.mul_one],fun SC=>?_⟩;obtain⟨b,o,spot⟩:=x;have Cj:spot=none:=by simpa[Addr.add]using World.cell?_spot (TO 0 (by omega))
   subst Cj;have h0:=TO 0 (by omega);refine⟨b,o,rfl,World.block_lt_of_cell? W ⟨b,o,none⟩ h0,fun j u hu=>?_⟩;have hj:j<l:=by have:=(Gi.1 hu).1;simp[qp]at this;omega
   have OC:j<zs.length:=by omega
   have:=TO j OC;rw[Addr.add_lit]at this;rw[this,<-hu];have e1:zs.getD j 0=zs[j]:=by simp[Gn OC]
   have e2:(zs[j].toNat:Int)=zs[j]:=by have:=SK _ (List.getElem_mem OC);omega
   simp[qp,hj,Gn OC,e2]
  ·obtain⟨z,X7,rfl⟩:=List.mem_map.1 hd;have:=SK z (List.mem_of_mem_take X7);omega
theorem qaX{fuel:Nat}{x0 x1:Value}{y:DataW H×List MemPlace}(h:DataW.trod enc Tryz.prog W 0 (fun _=>true) true fuel 25 [x0,x1]=some y):
 ∃(ng:Bool)(ds:List Nat)(A:Oa)(c:Nat),x0= .bool ng/\x1= .slice A ds.length c/\ju W (· <W.heap.size) 1 A ds.length (qp ds)/\jg ds/\ds.length<=c:=by
 obtain⟨xs,n,_,_,_,Sm,hf⟩:=DataW.trod_struct Tryz.underlying25 h;have f0:DataW.trod enc Tryz.prog W 0 (fun _=>true) true n 4 ((([x0,x1]:List Value).drop 0).take (Tryz.prog.cellsOf 4))=xs[0]?:=hf 0 _ rfl;have f1:DataW.trod enc Tryz.prog W 0 (fun _=>true) true n 23 ((([x0,x1]:List Value).drop 1).take (Tryz.prog.cellsOf 23))=xs[1]?:=hf 1 _ rfl;rw[show Tryz.prog.cellsOf 4=1 by kernel_rfl]at f0;rw[show Tryz.prog.cellsOf 23=1 by kernel_rfl]at f1;change DataW.trod enc Tryz.prog W 0 (fun _=>true) true n 4 [x0]=xs[0]? at f0;change DataW.trod enc Tryz.prog W 0 (fun _=>true) true n 23 [x1]=xs[1]? at f1;have l0:xs[0]? =some (xs[0]'(by simp at Sm;omega)):=Gn _;have l1:xs[1]? =some (xs[1]'(by simp at Sm;omega)):=Gn _;rw[l0]at f0;rw[l1]at f1;obtain⟨b,hb,_⟩:=DataW.trod_bool Tryz.underlying4 f0;obtain⟨ds,A,c,rfl,hn⟩:=qgs f1;simp at hb;exact⟨b,ds,A,c,hb,rfl,hn⟩
theorem qaO{fuel:Nat}(IH:∀(n:Nat)(cs:List Value)(y:DataW H×List MemPlace),n<fuel->cs.length=4->DataW.trod enc Tryz.prog W 0 (fun _=>true) true n 28 cs=some y->∃t:RP,RV W (· <W.heap.size) t cs)
 {cs0:List Value}{y:DataW H×List MemPlace}(h:DataW.trod enc Tryz.prog W 0 (fun _=>true) true fuel 26 cs0=some y):
 ∃(ks:List RP)(K:Oa)(kc:Nat),cs0=[.slice K ks.length kc]/\ks.length<=kc/\kc<=maxLen/\∃rows,ju W (· <W.heap.size) 4 K ks.length rows.flatten/\qG W (· <W.heap.size) ks rows:=by
 rcases DataW.trod_slice Tryz.underlying26 h with⟨XE,_⟩|⟨a,len,cap,elems,rest,n,hn,XE,_,_,hl,hm,XC,Mu,_,_⟩
 ·subst XE;exact⟨[],none,0,rfl,Gr _,by unfold maxLen;omega,[],ju.of qu.none_ (fun _ h=>h),by simp[qG]⟩
 ·subst XE;have each:∀k,k<len->∃x:RP×List Value,(∀j u,x.2[j]? =some u->W.cell? (a.add (k*4+j))=some u)/\RV W (· <W.heap.size) x.1 x.2:=fun k hk=>by
   have h1:=Mu k hk;rw[show Tryz.prog.cellsOf 28=4 by kernel_rfl,Gn (by omega)]at h1;obtain⟨cs',hc,ht⟩:=Option.bind_eq_some_iff.1 h1;obtain⟨_,XM,VI⟩:=World.cells?_some hc;obtain⟨t,UD⟩:=IH n cs' _ (by omega) XM ht;refine⟨(t,cs'),fun j u hu=>?_,UD⟩;have hj:j<4:=by have h9:j<cs'.length:=(Gi.1 hu).1;omega
   rw[<-Go.Deep.add_add,VI j hj];exact hu
  obtain⟨l,TD,hp⟩:=qb3 ((.mk 0 false [] [],[]):RP×List Value) len each;have VI:∀k x,l[k]? =some x->(∀j u,x.2[j]? =some u->W.cell? (a.add (k*4+j))=some u)/\RV W (· <W.heap.size) x.1 x.2:=fun k x hx=>by
   have hk:k<l.length:=(Gi.1 hx).1;have:=hp k (by omega);rw[List.getD_eq_getElem?_getD,hx]at this;exact this
  have Pi:=qG.of_pairs (w:=W) (S:=(· <W.heap.size)) l fun x hx=>by
   obtain⟨k,hk⟩:=List.mem_iff_getElem?.1 hx;exact(VI k x hk).2
  have h4:∀r∈l.map (·.2),r.length=4:=(qG.at_ _ _ Pi).1;refine⟨l.map (·.1),some a,cap,by rw[List.length_map,TD],by rw[List.length_map,TD];exact hl,hm,l.map (·.2),⟨by rw[jt h4,List.length_map,List.length_map],fun h0=>?_⟩,Pi⟩;rw[List.length_map]at h0;obtain⟨b,o,spot⟩:=a;obtain⟨x0,Th⟩:∃x,l[0]? =some x:=⟨_,Gn h0⟩;have h04:x0.2.length=4:=(VI 0 x0 Th).2.four;have c0:=(VI 0 x0 Th).1 0 _ (Gn (by omega));have Cj:spot=none:=by simpa[Addr.add]using World.cell?_spot c0
  subst Cj;refine⟨b,o,rfl,World.block_lt_of_cell? W _ c0,fun j u hu=>?_⟩;have hj:j<l.length*4:=by have:=(Gi.1 hu).1;rwa[jt h4,List.length_map]at this
  obtain⟨x,hx⟩:∃x,l[j/4]? =some x:=⟨_,Gn (by omega)⟩;have e:=Ja _ h4 (j/4) x.2 (by rw[List.getElem?_map,hx];rfl) (j%4) (by omega);have ej:j/4*4+j%4=j:=by omega
  rw[ej]at e;rw[e]at hu;have:=(VI _ _ hx).1 _ u hu;rw[ej,Addr.add_lit]at this;exact this
theorem J9:∀(fuel:Nat)(cs:List Value)(y:DataW H×List MemPlace),cs.length=4->DataW.trod enc Tryz.prog W 0 (fun _=>true) true fuel 28 cs=some y->∃t:RP,RV W (· <W.heap.size) t cs:=by
 intro fuel
 induction fuel using Nat.strongRecOn with
 |ind fuel IH=>
 intro cs y hl h
 match cs,hl,h with
 |[x0,x1,x2,x3],_,h=>
  obtain⟨xs,n,hn,_,_,Sm,hf⟩:=DataW.trod_struct Tryz.underlying28 h;have f0:DataW.trod enc Tryz.prog W 0 (fun _=>true) true n 3 ((([x0,x1,x2,x3]:List Value).drop 0).take (Tryz.prog.cellsOf 3))=xs[0]?:=hf 0 _ rfl;have f1:DataW.trod enc Tryz.prog W 0 (fun _=>true) true n 25 ((([x0,x1,x2,x3]:List Value).drop 1).take (Tryz.prog.cellsOf 25))=xs[1]?:=hf 1 _ rfl;have f2:DataW.trod enc Tryz.prog W 0 (fun _=>true) true n 26 ((([x0,x1,x2,x3]:List Value).drop 3).take (Tryz.prog.cellsOf 26))=xs[2]?:=hf 2 _ rfl;rw[show Tryz.prog.cellsOf 3=1 by kernel_rfl]at f0;rw[show Tryz.prog.cellsOf 25=2 by kernel_rfl]at f1;rw[show Tryz.prog.cellsOf 26=1 by kernel_rfl]at f2;change DataW.trod enc Tryz.prog W 0 (fun _=>true) true n 3 [x0]=xs[0]? at f0;change DataW.trod enc Tryz.prog W 0 (fun _=>true) true n 25 [x1,x2]=xs[1]? at f1;change DataW.trod enc Tryz.prog W 0 (fun _=>true) true n 26 [x3]=xs[2]? at f2;have l0:xs[0]? =some (xs[0]'(by simp at Sm;omega)):=Gn _;have l1:xs[1]? =some (xs[1]'(by simp at Sm;omega)):=Gn _;have l2:xs[2]? =some (xs[2]'(by simp at Sm;omega)):=Gn _;rw[l0]at f0;rw[l1]at f1;rw[l2]at f2;obtain⟨z,hz,_,_⟩:=DataW.trod_int Tryz.underlying3 f0;simp at hz;subst hz;obtain⟨ng,ds,A,c,rfl,rfl,hr,hd,hc⟩:=qaX f1;obtain⟨ks,K,kc,XE,UT,_,rows,Oo,UD⟩:=qaO (fuel:=n) (fun m cs y hm hl h=>IH m (by omega) cs y hl h) f2;simp at XE;subst XE;refine⟨.mk z ng ds ks,?_⟩;unfold RV;exact⟨A,c,K,kc,rfl,hr,hd,hc,UT,rows,Oo,UD⟩
theorem Tryz.cellsRecR:Tryz.prog.cellsOf 28=4:=by kernel_rfl
set_option maxRecDepth 100000
theorem qgM{base:Nat}{v:Value}{d:DataW H}{p:List MemPlace}(hv:Value.okWide Tryz.prog W .any base 28 v)(h:DataW.Trod enc Tryz.prog W 0 (fun _=>true) true 28 v d p):
 ∃(t:RP)(A:Oa)(c:Nat)(K:Oa)(kc:Nat),v=qm t A c K kc/\RV W (· <W.heap.size) t (qe t A c K kc):=by
 obtain⟨cs,rfl,hs⟩:=okWide_struct Tryz.underlying28 hv;rw[Tryz.cellsRecR]at hs;obtain⟨fuel,hf⟩:=h;obtain⟨cl⟩:=cs;simp only[Value.cells]at hf;obtain⟨t,ht⟩:=J9 fuel cl _ (by simpa using hs) hf;obtain⟨A,c,K,kc,e⟩:=ht.cells;subst e;exact⟨t,A,c,K,kc,rfl,ht⟩
theorem Tryz.cellsPtR:Tryz.prog.cellsOf 34=24:=by kernel_rfl
theorem qch{cl:List Value}{t:RP}{o:Nat}(ht:RV W (· <W.heap.size) t ((cl.drop o).take 4)):Ju W W.heap.size cl.toArray o t:=by
 obtain⟨A,c,K,kc,e⟩:=ht.cells;rw[e]at ht;have key:∀i v,(qe t A c K kc)[i]? =some v->cl.toArray[o+i]? =some v:=fun i v hv=>by
  rw[<-e,List.getElem?_take]at hv
  split at hv
  ·rw[List.getElem?_drop]at hv;simpa using hv
  ·cases hv
 exact⟨A,c,K,kc,key 0 _ rfl,key 1 _ rfl,key 2 _ rfl,key 3 _ rfl,ht⟩
theorem qjO{base:Nat}{v:Value}{d:DataW H}{p:List MemPlace}(hv:Value.okWide Tryz.prog W .any base 34 v)(h:DataW.Trod enc Tryz.prog W 0 (fun _=>true) true 34 v d p):
 ∃(pcs:Array Value)(kd:Int)(pa pb pc pd:RP),v= .agg pcs/\pcs.size=24/\pcs[0]? =some (.int .i64 kd)/\Ju W W.heap.size pcs 1 pa/\Ju W W.heap.size pcs 5 pb/\Ju W W.heap.size pcs 9 pc/\Ju W W.heap.size pcs 13 pd:=by
 obtain⟨cs,rfl,hs⟩:=okWide_struct Tryz.underlying34 hv;rw[Tryz.cellsPtR]at hs;obtain⟨fuel,hf⟩:=h;obtain⟨cl⟩:=cs;simp only[Value.cells]at hf;have hl:cl.length=24:=by simpa using hs
 obtain⟨xs,n,hn,_,_,Sm,hi⟩:=DataW.trod_struct Tryz.underlying34 hf;have f0:DataW.trod enc Tryz.prog W 0 (fun _=>true) true n 3 ((cl.drop 0).take (Tryz.prog.cellsOf 3))=xs[0]?:=hi 0 _ rfl;have f1:DataW.trod enc Tryz.prog W 0 (fun _=>true) true n 28 ((cl.drop 1).take (Tryz.prog.cellsOf 28))=xs[1]?:=hi 1 _ rfl;have f2:DataW.trod enc Tryz.prog W 0 (fun _=>true) true n 28 ((cl.drop 5).take (Tryz.prog.cellsOf 28))=xs[2]?:=hi 2 _ rfl;have f3:DataW.trod enc Tryz.prog W 0 (fun _=>true) true n 28 ((cl.drop 9).take (Tryz.prog.cellsOf 28))=xs[3]?:=hi 3 _ rfl;have f4:DataW.trod enc Tryz.prog W 0 (fun _=>true) true n 28 ((cl.drop 13).take (Tryz.prog.cellsOf 28))=xs[4]?:=hi 4 _ rfl;rw[show Tryz.prog.cellsOf 3=1 by kernel_rfl]at f0;rw[Tryz.cellsRecR]at f1 f2 f3 f4;have l0:xs[0]? =some (xs[0]'(by simp at Sm;omega)):=Gn _;have l1:xs[1]? =some (xs[1]'(by simp at Sm;omega)):=Gn _;have l2:xs[2]? =some (xs[2]'(by simp at Sm;omega)):=Gn _;have l3:xs[3]? =some (xs[3]'(by simp at Sm;omega)):=Gn _;have l4:xs[4]? =some (xs[4]'(by simp at Sm;omega)):=Gn _;rw[l0]at f0;rw[l1]at f1;rw[l2]at f2;rw[l3]at f3;rw[l4]at f4;obtain⟨z,hz,_,_⟩:=DataW.trod_int Tryz.underlying3 f0;have I2:cl[0]? =some (.int .i64 z):=by
  have:=congrArg (·[0]?) hz;simpa using this
 obtain⟨pa,ha⟩:=J9 n _ _ (by rw[List.length_take,List.length_drop];omega) f1;obtain⟨pb,hb⟩:=J9 n _ _ (by rw[List.length_take,List.length_drop];omega) f2;obtain⟨pc,hc⟩:=J9 n _ _ (by rw[List.length_take,List.length_drop];omega) f3;obtain⟨pd,hd⟩:=J9 n _ _ (by rw[List.length_take,List.length_drop];omega) f4;exact⟨cl.toArray,z,pa,pb,pc,pd,rfl,hs,by simpa using I2,qch ha,qch hb,qch hc,qch hd⟩
end
def qlw:List Int:=[0,1,28,2,29,14,24,3,30,22,20,15,25,17,4,8,31,27,13,23,21,19,16,7,26,12,18,6,11,5,10,9]
def qly:List Int:=[0,1,56,2,57,49,28,3,61,58,42,50,38,29,17,4,62,47,59,36,45,43,51,22,53,39,33,30,24,18,12,5,63,55,48,27,60,41,37,16,46,35,44,21,52,32,23,11,54,26,40,15,34,20,31,10,25,14,19,9,13,8,7,6]
theorem own:ownKnob Tryz.prog.godebug=none:=by kernel_rfl
theorem laidOut:laidOutB Tryz.prog=true:=by kernel_rfl
theorem qlu:Tryz.prog.globalNamed "internal/strconv.uint64pow10" =some 0:=by kernel_rfl
theorem qhP:(Tryz.prog.globals[0]?).map (·.type)=some 183:=by kernel_rfl
theorem qhn:Tryz.prog.cellsOf 183=20:=by kernel_rfl
theorem qiD:Tryz.prog.cellsOf 113=1:=by kernel_rfl
def Yl:List (String×DataW Unit):=[("math/bits.deBruijn32tab",Rows.laid_math_bits_deBruijn32tab),("math/bits.deBruijn64tab",Rows.laid_math_bits_deBruijn64tab),("internal/strconv.uint64pow10",Rows.laid_internal_strconv_uint64pow10)]
theorem qdg{W:World}(h:laidMetH Tryz.prog Yl W):yF W.heap.size W:=
 Lib.tabBelow_of_tabIs <| Lib.tabIs_of_head (rest:=[]) qlu qhP Tryz.underlying183 Tryz.underlying113 qiD qhn (laidMet.tail (laidMet.tail (show laidMet Tryz.prog Yl W from h)))
noncomputable def Y7(os:Os):World:=
 let w:=World.holding Tryz.prog os ⟨#[],#[],[]⟩
 {w with heap:=((w.heap.modify 0 fun
  | .cells _ t frozen=> .cells (Lib.pow10Tab.map (Value.int .u64)).toArray t frozen
  |o=>o).modify 1 fun
  | .cells _ t frozen=> .cells (qlw.map (Value.int .u8)).toArray t frozen
  |o=>o).modify 2 fun
  | .cells _ t frozen=> .cells (qly.map (Value.int .u8)).toArray t frozen
  |o=>o}
