import Derived.Test.YtflikmojaidhhaaGreatPq18
namespace Go.Proofs.YtflikmojaidhhaaGreat
open Go.RowKit
set_option maxHeartbeats 4000000
set_option maxRecDepth 100000
theorem qk3(X d e N n:Nat)(hX:X≤10000)(hdX:d+(e+2)*n+1≤X)(hNX:N≤X)(hnX:n≤1000)(i:Int)(h1i:1≤i)(pw:Nat→Int)(hp:∀j,(pw j).natAbs<4294967296^(e*j+1))(gN:Bool)(dN:List Nat)(hnum:(qb gN dN).natAbs<4294967296^e)(hdl:dN.length≤X)(zs:List ZT)(hzl:zs.length=n+1)(hz:∀j x,zs[j]? =some x→x.z=pw j∧x.ds.length≤X)(t:RP)(hc:qj t=true)(hlw:qM d N t)(hdg:zo i t≤n)(he:t.lv=i)(A:Option Addr)(c:Nat)(K:Option Addr)(kc:Nat)(Na:Option Addr)(nc:Nat)(P:Option Addr)(cP B:Nat)(w:World)(hB:B≤w.heap.size)(h:RV w (· <B) t (qc t A c K kc))(hnu:qh w B Na nc dN)(hpi:qR w B P zs)(hcP:zs.length≤cP):
 Calls Tryz.prog 82 #[qn t A c K kc,.int .i64 i,.agg #[.bool gN,.slice Na dN.length nc],.slice P zs.length cP] w (q8 (atT i (qb gN dN) pw n t) w):=by
 have HR:=Lib.hid (fun(W:World)(hW:Below w.heap.size w W)=>h.below (hW.mono hB));have HNU:=Lib.hid (fun(W:World)(hW:Below w.heap.size w W)=>hnu.below (hW.mono hB));have HPI:=Lib.hid (fun(W:World)(hW:Below w.heap.size w W)=>hpi.below (hW.mono hB));have HX:=Lib.hid (jF w 28 25 28 #[.int .i64 t.lv,.bool t.ng,.slice A t.ds.length c,.slice K t.ks.length kc] #[.bool gN,.slice Na dN.length nc] #[.int .i64 0,.bool false,.slice none 0 0,.slice none 0 0]);have hdt:qG t:=RV.digT _ _ h;have HSC:=Lib.hid (fun(T:RP)(hc:qj T=true)(hs:yf X T)(A:Option Addr)(c:Nat)(K:Option Addr)(kc:Nat)(g:Bool)(ds:List Nat)(D:Option Addr)(cd:Nat)(W:World)(h:RV W (· <W.heap.size) T (qc T A c K kc))(hn:qh W W.heap.size D cd ds)(hm:ds.length≤X)=>Qp X (by omega) T hc hs A c K kc g ds D cd W.heap.size W (Nat.le_refl _) h hn hm);have hsm:yf X t:=hlw.sm (by omega) hNX;have HKC:=Lib.hid h.node.2.2.2;obtain⟨m,hm⟩:∃m,m=zs.length:=⟨_,rfl⟩;rw[←hm]at hcP ⊢;have hmn:m=n+1:=hm.trans hzl;have hnn:(m:Int)-1=(n:Int):=by omega
 obtain⟨hks,hl4,hk2⟩:=Yn hc (by omega);have hkl:=hlw.at_.2.1;rw[JM,if_neg (by omega),if_pos he]at hdg;rw[Qd,if_neg (by omega),if_neg (by omega)];unfold q8 qn at HSC ⊢;obtain⟨nk,hnk⟩:∃nk,nk=t.ks.length:=⟨_,rfl⟩;rw[←hnk]at hdg hk2 hkl HX HKC ⊢;obtain⟨q,hq⟩:∃q,nk=q+1:=⟨nk-1,by omega⟩;have hqn:q≤n:=by omega
 rw[show nk-1=q by omega];have HKL:=Lib.hid (fun(u:RP)(hu:u∈t.ks)=>And.intro (hlw.at_.2.2 u hu) (hdt.at_.2 u hu));have HRC:=Lib.hid (fun(j:Nat)=>(Qq (num:=qb gN dN) (pw:=pw) hks (by omega) hl4 q j).2);have HRL:=Lib.hid (fun(j:Nat)=>qev (d:=d) (e:=e) (N:=N) hnum hp HKL.out q j);have HRS:=Lib.hid (fun(j:Nat)(hj:j≤n)=>show yf X (Zi (qb gN dN) pw t.ks q j)from(HRL.out j).1.sm (by have:=Nat.mul_le_mul_left (e+2) hj;omega) hNX);have HOK:=Lib.hid (fun(j:Nat)=>qiy (num:=qb gN dN) (pw:=pw) hks (by omega) hl4 q j);have HKS:=Lib.hid (fun(u:RP)(hu:u∈t.ks)=>And.intro (hks u hu).2 ((hlw.at_.2.2 u hu).sm (X:=X) (by omega) hNX));have HA1:=Lib.hid (fun(j:Nat)(hj:j+1≤n)=>show yf X (yc (qb gN dN) (Zi (qb gN dN) pw t.ks q j))from(QD hnum _ (HRL.out j).1 (HRL.out j).2).sm (by
  have h1:=Nat.mul_le_mul_left (e+2) hj;rw[Nat.mul_succ]at h1;omega) hNX)
 have HA2:=Lib.hid (fun(u:RP)(hu:u∈t.ks)(j:Nat)(hj:j≤n)=>show yf X (yc (pw j) u)from(QD (hp j) _ (HKL.out u hu).1 (HKL.out u hu).2).sm (by
  have h1:=Nat.mul_le_mul_left e hj;have h2:e*n≤(e+2)*n:=Nat.mul_le_mul_right _ (by omega);omega) hNX)
 have HST:=Lib.hid (fun(j:Nat)=>show Zi (qb gN dN) pw t.ks q (j+1)=yo 5 [yc (qb gN dN) (Zi (qb gN dN) pw t.ks q j),yc (pw (j+1)) (t.ks.getD (q-(j+1)) qa)]from rfl);have H0:=Lib.hid (show Zi (qb gN dN) pw t.ks q 0=t.ks.getD q qa from rfl);have HAD:=Lib.hid (fun(S:Nat→Prop)(B:Nat)(hSB:∀b,S b→b<B)(ts:List RP)(hok:Jc 5 ts)(hn:ts.length≤10000)(hsm:∀t∈ts,yf X t)(P:Option Addr)(c:Nat)(w:World)(hB:B≤w.heap.size)(h:yY w (· <w.heap.size) S P ts)(hc:ts.length≤c)=>qdk S B X hSB hX 4 ts hok hn hsm P c w hB h hc);have HZ:=Lib.hid hz;have HZL:=Lib.hid (show∀j,j≤n→∃x,zs[j]? =some x from fun j hj=>⟨_,List.getElem?_eq_getElem (by omega)⟩);have HSN:=Lib.hid (fun(T:RP)(hc:qj T=true)(hs:yf X T)(A:Option Addr)(c:Nat)(K:Option Addr)(kc:Nat)(W:World)(h:RV W (· <W.heap.size) T (qc T A c K kc))(hn:qh W W.heap.size Na nc dN)=>HSC.out T hc hs A c K kc gN dN Na nc W h hn hdl);unfold Ym qn at HAD;have HBB:=Lib.hid hB;have e1:decide (t.lv<i)=false:=decide_eq_false (by omega);have e2:decide (i<t.lv)=false:=decide_eq_false (by omega);clear hdg hks hlw hdt hsm h hnu hpi hc hz hp hzl hnum hl4 hk2 hm hmn hdl he h1i hdX hNX;generalize qb gN dN=num at*;generalize hH:Zi num pw t.ks q=Hr at*;clear hH;generalize hdn:dN.length=dl at*;generalize t.ds.length=nd at*;generalize t.ng=ng at*;generalize t.lv=lv at*;have HNK:=Lib.hid hnk;clear hnk;obtain⟨uq,huq⟩:∃u,t.ks[q]? =some u:=⟨_,List.getElem?_eq_getElem (by rw[←HNK.out];omega)⟩;have hkc:=HKC.out;have hnkq:(nk:Int)-1=(q:Int):=by omega
 have hqX:q≤1000:=by omega
 have HQ:=Lib.hid hq;clear hq;go_enter Tryz.func82,Tryz.ntmps82
 go_upto_region 2 with(fail)
 obtain⟨hb0,k0,k1,k2,hs⟩:=HX.out;clear HX;generalize ((w.alloc (.cells #[.int .i64 lv,.bool ng,.slice A nd c,.slice K nk kc] 28)).alloc (.cells #[.bool gN,.slice Na dl nc] 25)).alloc (.cells #[.int .i64 0,.bool false,.slice none 0 0,.slice none 0 0] 28)=W at*;have HB0:=Lib.hid hb0;have KFB:=Lib.hid (fun(V:World)(hV:Below W.heap.size W V)=>And.intro (k0.old hV) (And.intro (k1.old hV) (k2.old hV)));have HSW:=Lib.hid (show w.heap.size+1+1<W.heap.size from k2.lt);obtain⟨b,o,Au,cu,Ku,ku,rfl,hbB,x0,x1,x2,x3,hkq⟩:=(HR.out W hb0).kid huq;have hal:=(Below.refl W.heap.size W).alloc (Nat.le_refl _) (.cells #[.int .i64 uq.lv,.bool uq.ng,.slice Au uq.ds.length cu,.slice Ku uq.ks.length ku] 28);have hHI:qd6 W (W.alloc (.cells #[.int .i64 uq.lv,.bool uq.ng,.slice Au uq.ds.length cu,.slice Ku uq.ks.length ku] 28)) W.heap.size uq Au cu Ku ku:=
  ⟨hal,Nat.le_refl _,qd.new W 28 _,RV.mono (fun b (hb:b<B)=>⟨by have:=HSW.out;have:=HBB.out;have:=hal.size;omega,by have:=HSW.out;have:=HBB.out;omega⟩) _ _ (hkq.below (hal.mono (Nat.le_trans HBB.out hb0.size)))⟩
 have HHI:=Lib.hid hHI;have c0:=k0.cell 0;have c3:=k0.cell 3;have i3:(0:Int)≤(q:Int):=by omega
 have i4:(q:Int)<(nk:Int):=by have:=HQ.out;omega
 have i5:(nk:Int)≤(kc:Int):=by omega
 have HUQ:=Lib.hid (show Hr 0=uq by rw[H0.out,List.getD_eq_getElem?_getD,huq];rfl);clear hHI hal hkq huq k0 k1 k2 hs hb0 H0;go_wp2_with fail
 clear x0 x1 x2 x3 c0 c3;generalize hW4:W.alloc (.cells #[.int .i64 uq.lv,.bool uq.ng,.slice Au uq.ds.length cu,.slice Ku uq.ks.length ku] 28)=W4 at*;clear hW4;rw[←HUQ.out]at HHI;generalize hgs:W.heap.size=gs at*;have HGS:=Lib.hid hgs;go_loopg [15] q (fun gn iv wr=>∃(r j:Nat),r+j=q∧gn=r∧iv= .int .i64 ((r:Int)-1)∧∃(A':Option Addr)(c':Nat)(K':Option Addr)(k':Nat),qd6 W wr gs (Hr j) A' c' K' k')
 case atStart=>exact⟨q,0,by omega,rfl,rfl,Au,cu,Ku,ku,HHI.out⟩
 case round=>
  clear HHI;obtain⟨r,j,hrj,hgr,rfl,As,cs,Ks,ks',hhi⟩:=hrel;have HG:=Lib.hid hgr;have HHI:=Lib.hid hhi;have hbw:Below gs W wr:=by rw[←HGS.out];exact hhi.bel
  have HBW:=Lib.hid hbw;have hbw0:Below w.heap.size w wr:=HB0.out.trans (hbw.mono (by rw[←HGS.out];exact HB0.out.size));obtain⟨k0,k1,k2⟩:=KFB.out wr hbw;have hgsz:gs<wr.heap.size:=hhi.box.lt;have hws:=HSW.out;clear hgr;by_cases h0:0<r
  ·obtain⟨r,rfl⟩:∃r',r=r'+1:=⟨r-1,by omega⟩;obtain⟨u,hu⟩:∃u,t.ks[r]? =some u:=⟨_,List.getElem?_eq_getElem (by have:=HNK.out;have:=HQ.out;omega)⟩;obtain⟨rr,hrr⟩:∃rr,rr=j+1:=⟨_,rfl⟩;have hrq:rr≤q:=by omega
   obtain⟨x,hx⟩:=HZL.out rr (by omega);have hum:=List.mem_of_getElem? hu;obtain⟨hxz,hxl⟩:=HZ.out rr x hx;obtain⟨b',o',A3,q3,K3,r3,ee,hbB,t0,t1,t2,t3,hku⟩:=(HR.out wr hbw0).kid hu
   injection ee with ee
   injection ee with ee1 ee2
   subst ee1;subst ee2;obtain⟨bp,op,rfl,hbP,p0,p1,hxn⟩:=(HPI.out wr hbw0).at_ hx;have hBw:B≤wr.heap.size:=Nat.le_trans HBB.out hbw0.size;have HS1:=Lib.hid (fun(V:World)(hV:Below wr.heap.size wr V)=>HSN.out (Hr j) (HRC.out j) (HRS.out j (by omega)) As cs Ks ks' V (RV.mono (fun _ hb=>hb.1) _ _ (HHI.out.old hV).tree) ((HNU.out V (hbw0.trans (hV.mono hbw0.size))).more (Nat.le_trans hBw hV.size)));have HS2:Hid (∀(V:World),Below wr.heap.size wr V→Calls Tryz.prog 102 #[.agg #[.int .i64 u.lv,.bool u.ng,.slice A3 u.ds.length q3,.slice K3 u.ks.length r3],.agg #[.bool x.ng,.slice x.A x.ds.length x.c]] V (q8 (yc (pw rr) u) V)):=Lib.hid (fun V hV=>by
    have:=HSC.out u (HKS.out u hum).1 (HKS.out u hum).2 A3 q3 K3 r3 x.ng x.ds x.A x.c V ((hku.below (hV.mono hBw)).more (Nat.le_trans hBw hV.size)) ((hxn.below (hV.mono hBw)).more (Nat.le_trans hBw hV.size)) hxl;rw[show qb x.ng x.ds=pw rr from hxz]at this;exact this)
   have HT1:=Lib.hid (show Hr (j+1)=yo 5 [yc num (Hr j),yc (pw rr) u]by
    rw[HST.out,show q-(j+1)=r by omega,List.getD_eq_getElem?_getD,hu,hrr];rfl)
   have HO1:=Lib.hid (show Jc 5 [yc num (Hr j),yc (pw rr) u]by
    have:=HOK.out j;rw[show q-(j+1)=r by omega,List.getD_eq_getElem?_getD,hu,←hrr]at this;exact this)
   have HM1:=Lib.hid (show∀t∈[yc num (Hr j),yc (pw rr) u],yf X t by
    intro t ht;simp only[List.mem_cons,List.not_mem_nil,or_false]at ht;rcases ht with rfl|rfl
    ·exact HA1.out j (by omega)
    ·exact HA2.out u hum rr (by omega))
   have hbg:b<gs:=by have:=HBB.out;omega
   have hpg:bp<gs:=by have:=HBB.out;omega
   have hsub:(q:Int)-(r:Int)=(rr:Int):=by omega
   have j3:(0:Int)≤(r:Int):=by omega
   have j4:(r:Int)<(nk:Int):=by have:=HQ.out;omega
   have j5:(0:Int)≤(rr:Int):=by omega
   have j6:(rr:Int)<(m:Int):=by omega
   have j7:(m:Int)≤(cP:Int):=by omega
   have jk:((r+1:Nat):Int)-1=(r:Int):=by omega
   have hwr:IntKind.i64.wrap (rr:Int)=(rr:Int):=IntWalk.i64_in _ (by omega);have HJ:=Lib.hid hrj;have HRR:=Lib.hid hrr;have z3:=k0.cell 3;have n0:=k1.cell 0;have n1:=k1.cell 1;have w3:w.heap.size<gs:=by omega
   have w4:w.heap.size+1<gs:=by omega
   unfold q8 qn at HS2;clear hum hu hx hxz hxl hxn hku hhi hrj hrr hbw hbw0 k0 k1 k2 hbB hbP hBw;generalize yc num (Hr j)=T1 at*;generalize yc (pw rr) u=T2 at*;obtain⟨T3,hT3⟩:∃T3,T3=yo 5 [T1,T2]:=⟨_,rfl⟩;rw[←hT3]at HT1;have HT3:=Lib.hid hT3;clear hT3;generalize hTT:Hr j=T0 at*;clear hTT;generalize u.ds.length=ud at*;generalize u.ks.length=uk at*;generalize u.ng=ug at*;generalize u.lv=ul at*;generalize x.ds.length=xl at*;generalize x.ng=xg at*;have KF:=Lib.hid (fun(V:World)(hV:Below wr.heap.size wr V)=>(⟨(hV.cell (p:=⟨w.heap.size,3,none⟩) (Nat.lt_trans w3 hgsz)).trans z3,(hV.cell (p:=⟨w.heap.size+1,0,none⟩) (Nat.lt_trans w4 hgsz)).trans n0,(hV.cell (p:=⟨w.heap.size+1,1,none⟩) (Nat.lt_trans w4 hgsz)).trans n1,(hV.cell (p:=⟨b,o+r*4,none⟩) (Nat.lt_trans hbg hgsz)).trans t0,(hV.cell (p:=⟨b,o+r*4+1,none⟩) (Nat.lt_trans hbg hgsz)).trans t1,(hV.cell (p:=⟨b,o+r*4+2,none⟩) (Nat.lt_trans hbg hgsz)).trans t2,(hV.cell (p:=⟨b,o+r*4+3,none⟩) (Nat.lt_trans hbg hgsz)).trans t3,(hV.cell (p:=⟨bp,op+rr*2,none⟩) (Nat.lt_trans hpg hgsz)).trans p0,(hV.cell (p:=⟨bp,op+rr*2+1,none⟩) (Nat.lt_trans hpg hgsz)).trans p1⟩:
    V.cell? ⟨w.heap.size,3,none⟩=some (.slice (some ⟨b,o,none⟩) nk kc)∧V.cell? ⟨w.heap.size+1,0,none⟩=some (.bool gN)∧V.cell? ⟨w.heap.size+1,1,none⟩=some (.slice Na dl nc)∧V.cell? ⟨b,o+r*4,none⟩=some (.int .i64 ul)∧V.cell? ⟨b,o+r*4+1,none⟩=some (.bool ug)∧V.cell? ⟨b,o+r*4+2,none⟩=some (.slice A3 ud q3)∧V.cell? ⟨b,o+r*4+3,none⟩=some (.slice K3 uk r3)∧V.cell? ⟨bp,op+rr*2,none⟩=some (.bool xg)∧V.cell? ⟨bp,op+rr*2+1,none⟩=some (.slice x.A xl x.c)))
   have KS:=Lib.hid (fun(V:World)(hV:Below wr.heap.size wr V)(x0 x1 x2 x3:Value)=>(⟨(set4_far V (Nat.ne_of_gt w3) 0 _ x0 x1 x2 x3).trans ((hV.cell (p:=⟨w.heap.size,3,none⟩) (Nat.lt_trans w3 hgsz)).trans z3),(set4_far V (Nat.ne_of_gt w4) 0 _ x0 x1 x2 x3).trans ((hV.cell (p:=⟨w.heap.size+1,0,none⟩) (Nat.lt_trans w4 hgsz)).trans n0),(set4_far V (Nat.ne_of_gt w4) 0 _ x0 x1 x2 x3).trans ((hV.cell (p:=⟨w.heap.size+1,1,none⟩) (Nat.lt_trans w4 hgsz)).trans n1),(set4_far V (Nat.ne_of_gt hbg) 0 _ x0 x1 x2 x3).trans ((hV.cell (p:=⟨b,o+r*4,none⟩) (Nat.lt_trans hbg hgsz)).trans t0),(set4_far V (Nat.ne_of_gt hbg) 0 _ x0 x1 x2 x3).trans ((hV.cell (p:=⟨b,o+r*4+1,none⟩) (Nat.lt_trans hbg hgsz)).trans t1),(set4_far V (Nat.ne_of_gt hbg) 0 _ x0 x1 x2 x3).trans ((hV.cell (p:=⟨b,o+r*4+2,none⟩) (Nat.lt_trans hbg hgsz)).trans t2),(set4_far V (Nat.ne_of_gt hbg) 0 _ x0 x1 x2 x3).trans ((hV.cell (p:=⟨b,o+r*4+3,none⟩) (Nat.lt_trans hbg hgsz)).trans t3),(set4_far V (Nat.ne_of_gt hpg) 0 _ x0 x1 x2 x3).trans ((hV.cell (p:=⟨bp,op+rr*2,none⟩) (Nat.lt_trans hpg hgsz)).trans p0),(set4_far V (Nat.ne_of_gt hpg) 0 _ x0 x1 x2 x3).trans ((hV.cell (p:=⟨bp,op+rr*2+1,none⟩) (Nat.lt_trans hpg hgsz)).trans p1)⟩:
    ((((V.setCell ⟨gs,0,none⟩ x0).setCell ⟨gs,1,none⟩ x1).setCell ⟨gs,2,none⟩ x2).setCell ⟨gs,3,none⟩ x3).cell? ⟨w.heap.size,3,none⟩=some (.slice (some ⟨b,o,none⟩) nk kc)∧((((V.setCell ⟨gs,0,none⟩ x0).setCell ⟨gs,1,none⟩ x1).setCell ⟨gs,2,none⟩ x2).setCell ⟨gs,3,none⟩ x3).cell? ⟨w.heap.size+1,0,none⟩=some (.bool gN)∧((((V.setCell ⟨gs,0,none⟩ x0).setCell ⟨gs,1,none⟩ x1).setCell ⟨gs,2,none⟩ x2).setCell ⟨gs,3,none⟩ x3).cell? ⟨w.heap.size+1,1,none⟩=some (.slice Na dl nc)∧((((V.setCell ⟨gs,0,none⟩ x0).setCell ⟨gs,1,none⟩ x1).setCell ⟨gs,2,none⟩ x2).setCell ⟨gs,3,none⟩ x3).cell? ⟨b,o+r*4,none⟩=some (.int .i64 ul)∧((((V.setCell ⟨gs,0,none⟩ x0).setCell ⟨gs,1,none⟩ x1).setCell ⟨gs,2,none⟩ x2).setCell ⟨gs,3,none⟩ x3).cell? ⟨b,o+r*4+1,none⟩=some (.bool ug)∧((((V.setCell ⟨gs,0,none⟩ x0).setCell ⟨gs,1,none⟩ x1).setCell ⟨gs,2,none⟩ x2).setCell ⟨gs,3,none⟩ x3).cell? ⟨b,o+r*4+2,none⟩=some (.slice A3 ud q3)∧((((V.setCell ⟨gs,0,none⟩ x0).setCell ⟨gs,1,none⟩ x1).setCell ⟨gs,2,none⟩ x2).setCell ⟨gs,3,none⟩ x3).cell? ⟨b,o+r*4+3,none⟩=some (.slice K3 uk r3)∧((((V.setCell ⟨gs,0,none⟩ x0).setCell ⟨gs,1,none⟩ x1).setCell ⟨gs,2,none⟩ x2).setCell ⟨gs,3,none⟩ x3).cell? ⟨bp,op+rr*2,none⟩=some (.bool xg)∧((((V.setCell ⟨gs,0,none⟩ x0).setCell ⟨gs,1,none⟩ x1).setCell ⟨gs,2,none⟩ x2).setCell ⟨gs,3,none⟩ x3).cell? ⟨bp,op+rr*2+1,none⟩=some (.slice x.A xl x.c)))
   have KG:=Lib.hid (fun(V:World)(hV:Below wr.heap.size wr V)=>(HHI.out.old hV).box);have HPUT:=Lib.hid (fun(V:World)(hV:Below wr.heap.size wr V)(T:RP)(A:Option Addr)(c:Nat)(K:Option Addr)(kc:Nat)(ht:RV V (NeG gs V) T (qc T A c K kc))=>HHI.out.put hV ht);clear z3 n0 n1 t0 t1 t2 t3 p0 p1 w3 w4 hbg hpg hws;have hb:Below wr.heap.size wr wr.drew:=(qm.drew _).below _;have hdr:wr.drew.heap.size=wr.heap.size:=rfl;have s0:=(KG.out _ hb).cell 0;have s1:=(KG.out _ hb).cell 1;have s2:=(KG.out _ hb).cell 2;have s3:=(KG.out _ hb).cell 3;go_wp2_with fail
   refine wp_region_held_drew (S:=fun w'=>w'.cell? ⟨w.heap.size,3,none⟩=some (.slice (some ⟨b,o,none⟩) nk kc)∧w'.cell? ⟨w.heap.size+1,0,none⟩=some (.bool gN)∧w'.cell? ⟨w.heap.size+1,1,none⟩=some (.slice Na dl nc)∧w'.cell? ⟨b,o+r*4,none⟩=some (.int .i64 ul)∧w'.cell? ⟨b,o+r*4+1,none⟩=some (.bool ug)∧w'.cell? ⟨b,o+r*4+2,none⟩=some (.slice A3 ud q3)∧w'.cell? ⟨b,o+r*4+3,none⟩=some (.slice K3 uk r3)∧w'.cell? ⟨bp,op+rr*2,none⟩=some (.bool xg)∧w'.cell? ⟨bp,op+rr*2+1,none⟩=some (.slice x.A xl x.c)) (by kernel_rfl) (KF.out _ hb) (fun hHeld=>?_);refine wpAnyH_take (i:=1) (v:=?v1) (by simp only[List.getElem?_toArray,List.getElem?_cons_succ,List.getElem?_cons_zero];rfl) (by kernel_rfl) (by kernel_rfl) (by kernel_rfl) (by exact fun _ _ _ h=>h) (Or.inl ⟨by rfl,?hy1⟩) (by assumption) ?rest1
   case hy1=>(intro w0 hSw;(try dsimp only at hSw);go_simp;(first|done|(with_reducible rfl)))
   simp only[Act.put,List.setIfInBounds_toArray,List.set_cons_zero,List.set_cons_succ];refine wpAnyH_take (i:=3) (v:=?v3) (by simp only[List.getElem?_toArray,List.getElem?_cons_succ,List.getElem?_cons_zero];rfl) (by kernel_rfl) (by kernel_rfl) (by kernel_rfl) (by exact fun _ _ _ h=>h) (Or.inl ⟨by rfl,?hy3⟩) (by assumption) ?rest3
   case hy3=>(intro w0 hSw;(try dsimp only at hSw);go_simp;(first|done|(with_reducible rfl)))
   simp only[Act.put,List.setIfInBounds_toArray,List.set_cons_zero,List.set_cons_succ];refine wpAnyH_take (i:=4) (v:=?v4) (by simp only[List.getElem?_toArray,List.getElem?_cons_succ,List.getElem?_cons_zero];rfl) (by kernel_rfl) (by kernel_rfl) (by kernel_rfl) (by exact fun _ _ _ h=>h) (Or.inl ⟨by rfl,?hy4⟩) (by assumption) ?rest4
   case hy4=>(intro w0 hSw;(try dsimp only at hSw);go_simp;(first|done|(with_reducible rfl)))
   simp only[Act.put,List.setIfInBounds_toArray,List.set_cons_zero,List.set_cons_succ];refine wpAnyH_take (i:=5) (v:=?v5) (by simp only[List.getElem?_toArray,List.getElem?_cons_succ,List.getElem?_cons_zero];rfl) (by kernel_rfl) (by kernel_rfl) (by kernel_rfl) (by exact fun _ _ _ h=>h) (Or.inl ⟨by rfl,?hy5⟩) (by assumption) ?rest5
   case hy5=>(intro w0 hSw;(try dsimp only at hSw);go_simp;(first|done|(with_reducible rfl)))
   simp only[Act.put,List.setIfInBounds_toArray,List.set_cons_zero,List.set_cons_succ];refine wpAnyH_take (i:=6) (v:=?v6) (by simp only[List.getElem?_toArray,List.getElem?_cons_succ,List.getElem?_cons_zero];rfl) (by kernel_rfl) (by kernel_rfl) (by kernel_rfl) (by exact fun _ _ _ h=>h) (Or.inl ⟨by rfl,?hy6⟩) (by assumption) ?rest6
   case hy6=>(intro w0 hSw;(try dsimp only at hSw);go_simp;(first|done|(with_reducible rfl)))
   simp only[Act.put,List.setIfInBounds_toArray,List.set_cons_zero,List.set_cons_succ];refine wpAnyH_take (i:=7) (v:=?v7) (by simp only[List.getElem?_toArray,List.getElem?_cons_succ,List.getElem?_cons_zero];rfl) (by kernel_rfl) (by kernel_rfl) (by kernel_rfl) (by exact fun _ _ _ h=>h) (Or.inl ⟨by rfl,?hy7⟩) (by assumption) ?rest7
   case hy7=>(intro w0 hSw;(try dsimp only at hSw);go_simp;(first|done|(with_reducible rfl)))
   simp only[Act.put,List.setIfInBounds_toArray,List.set_cons_zero,List.set_cons_succ];refine wpAnyH_take (i:=8) (v:=?v8) (by simp only[List.getElem?_toArray,List.getElem?_cons_succ,List.getElem?_cons_zero];rfl) (by kernel_rfl) (by kernel_rfl) (by kernel_rfl) (by exact fun _ _ _ h=>h) (Or.inl ⟨by rfl,?hy8⟩) (by assumption) ?rest8
   case hy8=>(intro w0 hSw;(try dsimp only at hSw);go_simp;(first|done|(with_reducible rfl)))
   simp only[Act.put,List.setIfInBounds_toArray,List.set_cons_zero,List.set_cons_succ];refine wpAnyH_take (i:=9) (v:=?v9) (by simp only[List.getElem?_toArray,List.getElem?_cons_succ,List.getElem?_cons_zero];rfl) (by kernel_rfl) (by kernel_rfl) (by kernel_rfl) (by exact fun _ _ _ h=>h) (Or.inl ⟨by rfl,?hy9⟩) (by assumption) ?rest9
   case hy9=>(intro w0 hSw;(try dsimp only at hSw);go_simp;(first|done|(with_reducible rfl)))
   simp only[Act.put,List.setIfInBounds_toArray,List.set_cons_zero,List.set_cons_succ];refine wpAnyH_take (i:=10) (v:=?v10) (by simp only[List.getElem?_toArray,List.getElem?_cons_succ,List.getElem?_cons_zero];rfl) (by kernel_rfl) (by kernel_rfl) (by kernel_rfl) (by exact fun _ _ _ h=>h) (Or.inl ⟨by rfl,?hy10⟩) (by assumption) ?rest10
   case hy10=>(intro w0 hSw;(try dsimp only at hSw);go_simp;(first|done|(with_reducible rfl)))
   simp only[Act.put,List.setIfInBounds_toArray,List.set_cons_zero,List.set_cons_succ];refine wpAnyH_take (i:=11) (v:=?v11) (by simp only[List.getElem?_toArray,List.getElem?_cons_succ,List.getElem?_cons_zero];rfl) (by kernel_rfl) (by kernel_rfl) (by kernel_rfl) (by exact fun _ _ _ h=>h) (Or.inl ⟨by rfl,?hy11⟩) (by assumption) ?rest11
   case hy11=>(intro w0 hSw;(try dsimp only at hSw);go_simp;(first|done|(with_reducible rfl)))
   simp only[Act.put,List.setIfInBounds_toArray,List.set_cons_zero,List.set_cons_succ];refine wpAnyH_take (i:=12) (v:=?v12) (by simp only[List.getElem?_toArray,List.getElem?_cons_succ,List.getElem?_cons_zero];rfl) (by kernel_rfl) (by kernel_rfl) (by kernel_rfl) (by exact fun _ _ _ h=>h) (Or.inl ⟨by rfl,?hy12⟩) (by assumption) ?rest12
   case hy12=>(intro w0 hSw;(try dsimp only at hSw);go_simp;(first|done|(with_reducible rfl)))
   simp only[Act.put,List.setIfInBounds_toArray,List.set_cons_zero,List.set_cons_succ];refine wpAnyH_take (i:=13) (v:=?v13) (by simp only[List.getElem?_toArray,List.getElem?_cons_succ,List.getElem?_cons_zero];rfl) (by kernel_rfl) (by kernel_rfl) (by kernel_rfl) (by exact fun _ _ _ h=>h) (Or.inl ⟨by rfl,?hy13⟩) (by assumption) ?rest13
   case hy13=>(intro w0 hSw;(try dsimp only at hSw);go_simp;(first|done|(with_reducible rfl)))
   simp only[Act.put,List.setIfInBounds_toArray,List.set_cons_zero,List.set_cons_succ];refine wpAnyH_ready (rs:=[0]) (by kernel_rfl) (by simp) ?_;refine AllReadyH.cons (by simp only[List.getElem?_toArray,List.getElem?_cons_zero];rfl) (fun K hK=>?_) AllReadyH.nil;go_simp
   refine hK.out _ _ (KF.out _ hb) (fun hHeld=>?_);clear hK K
   (try simp only[Act.put,List.setIfInBounds_toArray,List.set_cons_zero,List.set_cons_succ])
   refine wpAnyH_ready (rs:=[2]) (by kernel_rfl) (by simp) ?_;refine AllReadyH.cons (by simp only[List.getElem?_toArray,List.getElem?_cons_succ,List.getElem?_cons_zero];rfl) (fun K hK=>?_) AllReadyH.nil;clear s0 s1 s2 s3;go_simp
   go_at_call 102
   refine(HS1.out _ hb).mono ?_;rintro e v1 ⟨A4,c4,K4,k4,rfl,hr4,hk4⟩;have hb1:=hb.trans (hk4.mono hb.size);go_simp
   refine hK.out _ _ (KF.out _ hb1) (fun hHeld=>?_);clear hK K
   (try simp only[Act.put,List.setIfInBounds_toArray,List.set_cons_zero,List.set_cons_succ])
   refine wpAnyH_ready (rs:=[14]) (by kernel_rfl) (by simp) ?_;refine AllReadyH.cons (by simp only[List.getElem?_toArray,List.getElem?_cons_succ,List.getElem?_cons_zero];rfl) (fun K hK=>?_) AllReadyH.nil;go_simp
   go_at_call 102
   refine(HS2.out _ hb1).mono ?_;rintro e v2 ⟨A5,c5,K5,k5,rfl,hr5,hk5⟩;have hb2:=hb1.trans (hk5.mono hb1.size);go_simp
   refine hK.out _ _ (KF.out _ hb2) (fun hHeld=>?_);clear hK K
   (try simp only[Act.put,List.setIfInBounds_toArray,List.set_cons_zero,List.set_cons_succ])
   refine wpAnyH_ready (rs:=[15]) (by kernel_rfl) (by simp) ?_;refine AllReadyH.cons (by simp only[List.getElem?_toArray,List.getElem?_cons_succ,List.getElem?_cons_zero];rfl) (fun K hK=>?_) AllReadyH.nil;have a2:=(Below.refl v2.heap.size v2).alloc (Nat.le_refl _) (.cells #[.int .i64 T1.lv,.bool T1.ng,.slice A4 T1.ds.length c4,.slice K4 T1.ks.length k4,.int .i64 T2.lv,.bool T2.ng,.slice A5 T2.ds.length c5,.slice K5 T2.ks.length k5] 28);go_simp
   refine hK.out _ _ (KF.out _ (hb2.trans (a2.mono hb2.size))) (fun hHeld=>?_);clear hK K
   (try simp only[Act.put,List.setIfInBounds_toArray,List.set_cons_zero,List.set_cons_succ])
   refine wpAnyH_ready (rs:=[16]) (by kernel_rfl) (by simp) ?_;refine AllReadyH.cons (by simp only[List.getElem?_toArray,List.getElem?_cons_succ,List.getElem?_cons_zero];rfl) (fun K hK=>?_) AllReadyH.nil;have hn1:=RV.negS (S:=fun _=>False) (g:=gs) (RV.mono (fun _ k=> .inr k) _ _ ((hr4:RB v1 _ T1 _).old hk5)) (fun _ k=>k.elim) (KG.out _ hb2) (show gs<wr.drew.heap.size from hgsz);have hn2:=RV.negS (S:=fun _=>False) (g:=gs) (RV.mono (fun _ k=> .inr k) _ _ (hr5:RB v2 _ T2 _)) (fun _ k=>k.elim) (KG.out _ hb2) (show gs<v1.heap.size from Nat.lt_of_lt_of_le hgsz hb1.size);have hn3:=RV.keep (w':=v2.alloc (.cells #[.int .i64 T1.lv,.bool T1.ng,.slice A4 T1.ds.length c4,.slice K4 T1.ks.length k4,.int .i64 T2.lv,.bool T2.ng,.slice A5 T2.ds.length c5,.slice K5 T2.ks.length k5] 28)) (fun b hb' o=>a2.cell (p:=⟨b,o,none⟩) hb'.1) _ _ hn1;have hn4:=RV.keep (w':=v2.alloc (.cells #[.int .i64 T1.lv,.bool T1.ng,.slice A4 T1.ds.length c4,.slice K4 T1.ks.length k4,.int .i64 T2.lv,.bool T2.ng,.slice A5 T2.ds.length c5,.slice K5 T2.ks.length k5] 28)) (fun b hb' o=>a2.cell (p:=⟨b,o,none⟩) hb'.1) _ _ hn2;have hbk:qd (v2.alloc (.cells #[.int .i64 T1.lv,.bool T1.ng,.slice A4 T1.ds.length c4,.slice K4 T1.ks.length k4,.int .i64 T2.lv,.bool T2.ng,.slice A5 T2.ds.length c5,.slice K5 T2.ks.length k5] 28)) v2.heap.size 28 (qc T1 A4 c4 K4 k4++qc T2 A5 c5 K5 k5).toArray:=qd.new v2 28 #[.int .i64 T1.lv,.bool T1.ng,.slice A4 T1.ds.length c4,.slice K4 T1.ks.length k4,.int .i64 T2.lv,.bool T2.ng,.slice A5 T2.ds.length c5,.slice K5 T2.ks.length k5];have HAD1:=Lib.hid (HAD.out (NeG gs v2) v2.heap.size (fun b hb'=>hb'.1) [T1,T2] HO1.out (by simp) HM1.out (some ⟨v2.heap.size,0,none⟩) 2 (v2.alloc (.cells #[.int .i64 T1.lv,.bool T1.ng,.slice A4 T1.ds.length c4,.slice K4 T1.ks.length k4,.int .i64 T2.lv,.bool T2.ng,.slice A5 T2.ds.length c5,.slice K5 T2.ks.length k5] 28)) a2.size (yY.two hbk hn3 hn4) (by simp));rw[←HT3.out]at HAD1;clear hn1 hn2 hn3 hn4 hbk hr4 hr5;go_simp
   go_at_call 101
   refine(HAD1.out).mono ?_;rintro e v3 ⟨A6,c6,K6,k6,rfl,hr6,hk6⟩;have hb3:=hb2.trans ((a2.trans (hk6.mono a2.size)).mono hb2.size);have hr6':=RV.negS (g:=gs) hr6 (fun b hb'=>⟨Nat.lt_of_lt_of_le hb'.1 (Nat.le_trans a2.size hk6.size),hb'.2⟩) (KG.out _ hb3) (Nat.lt_of_lt_of_le hgsz (Nat.le_trans hb2.size a2.size));clear hr6;go_simp
   refine hK.out _ _ (KF.out _ hb3) (fun hHeld=>?_);clear hK K
   (try simp only[Act.put,List.setIfInBounds_toArray,List.set_cons_zero,List.set_cons_succ])
   refine wpAnyH_ready (rs:=[17]) (by kernel_rfl) (by simp) ?_;refine AllReadyH.cons (by simp only[List.getElem?_toArray,List.getElem?_cons_succ,List.getElem?_cons_zero];rfl) (fun K hK=>?_) AllReadyH.nil;have kk:=KG.out _ hb3;have d0:=kk.cell 0;have d1:=kk.cell 1;have d2:=kk.cell 2;have d3:=kk.cell 3;have f0:=kk.frozen 0;have f1:=kk.frozen 1;have f2:=kk.frozen 2;have f3:=kk.frozen 3;have zl:=kk.lt;clear kk;go_simp
   refine hK.out _ _ (KS.out _ hb3 _ _ _ _) (fun hHeld=>?_);clear hK K
   (try simp only[Act.put,List.setIfInBounds_toArray,List.set_cons_zero,List.set_cons_succ])
   refine wpAnyH_done (by kernel_rfl) ?_ _;have HN:=Lib.hid (HPUT.out v3 hb3 T3 A6 c6 K6 k6 hr6');clear hr6' hb3;go_wp2_with fail
   go_roundg r
   case rel=>exact⟨r,j+1,by have:=HJ.out;omega,rfl,by go_num,A6,c6,K6,k6,by rw[HT1.out];exact HN.out⟩
   case measure=>have:=HG.out;omega
  ·obtain rfl:r=0:=by omega
   obtain rfl:j=q:=by omega
   obtain⟨rn,Zi⟩:∃rn,rn=n-j:=⟨_,rfl⟩;obtain⟨x,hx⟩:=HZL.out rn (by omega);obtain⟨hxz,hxl⟩:=HZ.out rn x hx;obtain⟨bp,op,rfl,hbP,p0,p1,hxn⟩:=(HPI.out wr hbw0).at_ hx;have hBw:B≤wr.heap.size:=Nat.le_trans HBB.out hbw0.size;have HS2:Hid (∀(V:World),Below wr.heap.size wr V→Calls Tryz.prog 102 #[.agg #[.int .i64 (Hr j).lv,.bool (Hr j).ng,.slice As (Hr j).ds.length cs,.slice Ks (Hr j).ks.length ks'],.agg #[.bool x.ng,.slice x.A x.ds.length x.c]] V (q8 (yc (pw rn) (Hr j)) V)):=Lib.hid (fun V hV=>by
    have:=HSC.out (Hr j) (HRC.out j) (HRS.out j (by omega)) As cs Ks ks' x.ng x.ds x.A x.c V (RV.mono (fun _ hb=>hb.1) _ _ (HHI.out.old hV).tree) ((hxn.below (hV.mono hBw)).more (Nat.le_trans hBw hV.size)) hxl;rw[show qb x.ng x.ds=pw rn from hxz]at this;exact this)
   have hpg:bp<w.heap.size+1+1:=by have:=HBB.out;omega
   have hpw:bp<wr.heap.size:=by have:=HBB.out;omega
   have hsub:(n:Int)-(j:Int)=(rn:Int):=by omega
   have j5:(0:Int)≤(rn:Int):=by omega
   have j6:(rn:Int)<(m:Int):=by omega
   have j7:(m:Int)≤(cP:Int):=by omega
   have hwr:IntKind.i64.wrap (rn:Int)=(rn:Int):=IntWalk.i64_in _ (by omega);have kg:=hhi.box;have HPO:=Lib.hid (show pw (n-j)=pw rn by rw[Zi]);have HK2:=Lib.hid k2;have hgne:w.heap.size+1+1<gs:=hws;have HB1:=Lib.hid hbw0;unfold q8 qn at HS2;clear hx hxz hxl hxn hhi hrj Zi hbw k0 k1 hbP hBw hws;generalize hTe:yc (pw rn) (Hr j)=T at*;have HTE:=Lib.hid (show yc (pw (n-j)) (Hr j)=T by rw[HPO.out];exact hTe);clear hTe;generalize hTT:Hr j=T0 at HS2 kg HHI;clear hTT;generalize x.ds.length=xl at*;generalize x.ng=xg at*;have KF:=Lib.hid (fun(V:World)(hV:Below wr.heap.size wr V)=>(⟨(kg.old hV).cell 0,(kg.old hV).cell 1,(kg.old hV).cell 2,(kg.old hV).cell 3,(hV.cell (p:=⟨bp,op+rn*2,none⟩) hpw).trans p0,(hV.cell (p:=⟨bp,op+rn*2+1,none⟩) hpw).trans p1⟩:
    V.cell? ⟨gs,0,none⟩=some (.int .i64 T0.lv)∧V.cell? ⟨gs,1,none⟩=some (.bool T0.ng)∧V.cell? ⟨gs,2,none⟩=some (.slice As T0.ds.length cs)∧V.cell? ⟨gs,3,none⟩=some (.slice Ks T0.ks.length ks')∧V.cell? ⟨bp,op+rn*2,none⟩=some (.bool xg)∧V.cell? ⟨bp,op+rn*2+1,none⟩=some (.slice x.A xl x.c)))
   have KS:=Lib.hid (fun(V:World)(hV:Below wr.heap.size wr V)(x0 x1 x2 x3:Value)=>(⟨((kg.old hV).set4_far (Nat.ne_of_gt hgne) 0 x0 x1 x2 x3).cell 0,((kg.old hV).set4_far (Nat.ne_of_gt hgne) 0 x0 x1 x2 x3).cell 1,((kg.old hV).set4_far (Nat.ne_of_gt hgne) 0 x0 x1 x2 x3).cell 2,((kg.old hV).set4_far (Nat.ne_of_gt hgne) 0 x0 x1 x2 x3).cell 3,(set4_far V (Nat.ne_of_gt hpg) 0 _ x0 x1 x2 x3).trans ((hV.cell (p:=⟨bp,op+rn*2,none⟩) hpw).trans p0),(set4_far V (Nat.ne_of_gt hpg) 0 _ x0 x1 x2 x3).trans ((hV.cell (p:=⟨bp,op+rn*2+1,none⟩) hpw).trans p1)⟩:
    ((((V.setCell ⟨w.heap.size+1+1,0,none⟩ x0).setCell ⟨w.heap.size+1+1,1,none⟩ x1).setCell ⟨w.heap.size+1+1,2,none⟩ x2).setCell ⟨w.heap.size+1+1,3,none⟩ x3).cell? ⟨gs,0,none⟩=some (.int .i64 T0.lv)∧((((V.setCell ⟨w.heap.size+1+1,0,none⟩ x0).setCell ⟨w.heap.size+1+1,1,none⟩ x1).setCell ⟨w.heap.size+1+1,2,none⟩ x2).setCell ⟨w.heap.size+1+1,3,none⟩ x3).cell? ⟨gs,1,none⟩=some (.bool T0.ng)∧((((V.setCell ⟨w.heap.size+1+1,0,none⟩ x0).setCell ⟨w.heap.size+1+1,1,none⟩ x1).setCell ⟨w.heap.size+1+1,2,none⟩ x2).setCell ⟨w.heap.size+1+1,3,none⟩ x3).cell? ⟨gs,2,none⟩=some (.slice As T0.ds.length cs)∧((((V.setCell ⟨w.heap.size+1+1,0,none⟩ x0).setCell ⟨w.heap.size+1+1,1,none⟩ x1).setCell ⟨w.heap.size+1+1,2,none⟩ x2).setCell ⟨w.heap.size+1+1,3,none⟩ x3).cell? ⟨gs,3,none⟩=some (.slice Ks T0.ks.length ks')∧((((V.setCell ⟨w.heap.size+1+1,0,none⟩ x0).setCell ⟨w.heap.size+1+1,1,none⟩ x1).setCell ⟨w.heap.size+1+1,2,none⟩ x2).setCell ⟨w.heap.size+1+1,3,none⟩ x3).cell? ⟨bp,op+rn*2,none⟩=some (.bool xg)∧((((V.setCell ⟨w.heap.size+1+1,0,none⟩ x0).setCell ⟨w.heap.size+1+1,1,none⟩ x1).setCell ⟨w.heap.size+1+1,2,none⟩ x2).setCell ⟨w.heap.size+1+1,3,none⟩ x3).cell? ⟨bp,op+rn*2+1,none⟩=some (.slice x.A xl x.c)))
   have KR:=Lib.hid (fun(V:World)(hV:Below wr.heap.size wr V)=>(⟨(k2.old hV).cell 0,(k2.old hV).cell 1,(k2.old hV).cell 2,(k2.old hV).cell 3,(k2.old hV).frozen 0,(k2.old hV).frozen 1,(k2.old hV).frozen 2,(k2.old hV).frozen 3,(k2.old hV).lt⟩:
    V.cell? ⟨w.heap.size+1+1,0,none⟩=some (.int .i64 0)∧V.cell? ⟨w.heap.size+1+1,1,none⟩=some (.bool false)∧V.cell? ⟨w.heap.size+1+1,2,none⟩=some (.slice none 0 0)∧V.cell? ⟨w.heap.size+1+1,3,none⟩=some (.slice none 0 0)∧V.frozen? ⟨w.heap.size+1+1,0,none⟩=false∧V.frozen? ⟨w.heap.size+1+1,1,none⟩=false∧V.frozen? ⟨w.heap.size+1+1,2,none⟩=false∧V.frozen? ⟨w.heap.size+1+1,3,none⟩=false∧w.heap.size+1+1<V.heap.size))
   have hb:Below wr.heap.size wr wr.drew:=(qm.drew _).below _;have hbz:Below wr.heap.size wr wr:=Below.refl _ _;clear kg p0 p1 k2 hbw0;go_wp2_with fail
   go_region_held3 (fun w'=>w'.cell? ⟨gs,0,none⟩=some (.int .i64 T0.lv)∧w'.cell? ⟨gs,1,none⟩=some (.bool T0.ng)∧w'.cell? ⟨gs,2,none⟩=some (.slice As T0.ds.length cs)∧w'.cell? ⟨gs,3,none⟩=some (.slice Ks T0.ks.length ks')∧w'.cell? ⟨bp,op+rn*2,none⟩=some (.bool xg)∧w'.cell? ⟨bp,op+rn*2+1,none⟩=some (.slice x.A xl x.c))
    (first|(with_reducible exact KF.out _ hb)|(with_reducible exact KF.out _ hbz)|(with_reducible exact KS.out _ hb _ _ _ _))
    (first
      |(go_at_call 102;(with_reducible refine(HS2.out _ hb).mono ?_);rintro e w5 ⟨A5,c5,K5,kc5,rfl,hr5,hk⟩;replace hb:=hb.trans (hk.mono hb.size);obtain⟨d0,d1,d2,d3,f0,f1,f2,f3,z0⟩:=KR.out _ hb))
   have k2:=HK2.out.old hb;have hl2:=HK2.out.lt;have hdr:wr.drew.heap.size=wr.heap.size:=rfl;have HFN:=Lib.hid (jL (w:=w) k2 rfl hr5 (by omega) (by omega) (HB1.out.trans (hb.mono HB1.out.size)));clear hr5 hb hbz KF KS KR HS2 k2;go_wp2_with fail
   refine qg Tryz.results82 rfl rfl HFN.out.1 Tryz.underlying28 rfl Tryz.sizeRec ?_;rw[HTE.out];exact HFN.out.2
theorem qe6(X d e N n:Nat)(hX:X≤10000)(hdX:d+(e+2)*n+1≤X)(hNX:N≤X)(hnX:n≤1000)(i:Int)(h1i:1≤i)(pw:Nat→Int)(hp:∀j,(pw j).natAbs<4294967296^(e*j+1))(gN:Bool)(dN:List Nat)(hnum:(qb gN dN).natAbs<4294967296^e)(hdl:dN.length≤X)(zs:List ZT)(hzl:zs.length=n+1)(hz:∀j x,zs[j]? =some x→x.z=pw j∧x.ds.length≤X):∀(D:Nat)(t:RP),qv t≤D→qj t=true→qM d N t→zo i t≤n→∀(A:Option Addr)(c:Nat)(K:Option Addr)(kc:Nat)(Na:Option Addr)(nc:Nat)(P:Option Addr)(cP B:Nat)(w:World),B≤w.heap.size→RV w (· <B) t (qc t A c K kc)→qh w B Na nc dN→qR w B P zs→zs.length≤cP→
 Calls Tryz.prog 82 #[qn t A c K kc,.int .i64 i,.agg #[.bool gN,.slice Na dN.length nc],.slice P zs.length cP] w (q8 (atT i (qb gN dN) pw n t) w)
 |0,t,hD,_,_,_,_,_,_,_,_,_,_,_,_,_,_,_,_,_,_=>by cases t;simp only[qv]at hD;omega
 |D+1,t,hD,hc,hlw,hdg,A,c,K,kc,Na,nc,P,cP,B,w,hB,h,hnu,hpi,hcP=>by
  by_cases h1:t.lv<i
  ·exact qjV X d e N n hX hdX hNX hnX i pw gN dN zs hzl hz t hc hlw h1 A c K kc Na nc P cP B w hB h hnu hpi hcP
  ·by_cases h2:i<t.lv
   ·refine qlM X d e N n hX hdX hNX i h1i pw gN dN zs hzl t hc hlw hdg h2 (fun u hu hcu hlu hdu A c K kc Na nc P cP B w hB h hnu hpi hcP=>?_) A c K kc Na nc P cP B w hB h hnu hpi hcP;exact qe6 X d e N n hX hdX hNX hnX i h1i pw hp gN dN hnum hdl zs hzl hz D u (by have:=qD hu;omega) hcu hlu hdu A c K kc Na nc P cP B w hB h hnu hpi hcP
   ·exact qk3 X d e N n hX hdX hNX hnX i h1i pw hp gN dN hnum hdl zs hzl hz t hc hlw hdg (by omega) A c K kc Na nc P cP B w hB h hnu hpi hcP
def zr(q:Rat):Int:=qB q.num
theorem zF(q:Rat):(q<0∧zr q=-1)∨(q=0∧zr q=0)∨(0<q∧zr q=1):=by
 have h0:0≤q.num↔0≤q:=Rat.num_nonneg;have h1:q.num=0↔q=0:=Rat.num_eq_zero;unfold zr qB;by_cases a:q.num<0
 ·refine .inl ⟨?_,if_pos a⟩;have:¬0≤q:=fun h=>by have:=h0.2 h;omega
  exact Rat.not_le.1 this
 ·rw[if_neg a];by_cases b:q.num=0
  ·exact .inr (.inl ⟨h1.1 b,if_pos b⟩)
  ·refine .inr (.inr ⟨?_,if_neg b⟩);have h2:=h0.1 (by omega);have h3:q≠0:=fun h=>b (h1.2 h)
   grind
theorem qb9{q:Rat}(h:0<q):zr q=1:=by
 rcases zF q with⟨a,_⟩|⟨a,_⟩|⟨_,b⟩
 ·grind
 ·grind
 ·exact b
theorem qb0{q:Rat}(h:q<0):zr q=-1:=by
 rcases zF q with⟨_,b⟩|⟨a,_⟩|⟨a,_⟩
 ·exact b
 ·grind
 ·grind
theorem qaW:zr 0=0:=by decide
theorem YU{q:Rat}:zr q=-1∨zr q=0∨zr q=1:=by
 rcases zF q with⟨_,b⟩|⟨_,b⟩|⟨_,b⟩
 ·exact .inl b
 ·exact .inr (.inl b)
 ·exact .inr (.inr b)
theorem qce{c q:Rat}(h:0<c):zr (c*q)=zr q:=by
 rcases zF q with⟨a,b⟩|⟨a,b⟩|⟨a,b⟩
 ·rw[b];exact qb0 ((Rat.mul_neg_iff_of_pos_left h).2 a)
 ·rw[b,a,Rat.mul_zero];exact qaW
 ·rw[b];exact qb9 (Rat.mul_pos h a)
theorem qfF(z:Int):zr (z:Rat)=qB z:=rfl
theorem qf0(q:Rat):zr (-q)=-zr q:=by
 rcases zF q with⟨a,b⟩|⟨a,b⟩|⟨a,b⟩
 ·rw[b];have:0< -q:=by grind
  exact qb9 this
 ·rw[b,a];exact qaW
 ·rw[b];have:-q<0:=by grind
  exact qb0 this
def pvR(y:Rat):List Rat→Rat
 |[]=>0
 |a::l=>a+y*pvR y l
def zy:List Rat→Int
 |[]=>0
 |a::l=>if zy l=0 then zr a else-zy l
theorem qax:∀l,zy l=-1∨zy l=0∨zy l=1
 |[]=> .inr (.inl rfl)
 |a::l=>by
  rw[zy]
  split
  ·exact YU
  ·rcases qax l with h|h|h<;>rw[h]<;>simp
theorem qfd(M d a:Rat)(hd:0<d):∃M',M≤M'∧∀y,y≤-M'→a+y*d≤-d∧d≤-(y*d)-a:=by
 refine⟨max M ((d+a)/d),by grind,fun y hy=>?_⟩;have h1:y≤-((d+a)/d):=by grind
 have h2:=Rat.mul_le_mul_of_nonneg_right h1 (Rat.le_of_lt hd);have h3:(d+a)/d*d=d+a:=Rat.div_mul_cancel (by grind);rw[Rat.neg_mul,h3]at h2;constructor<;>grind
theorem qfM:∀l:List Rat,∃M d,0<d∧0≤M∧∀y,y≤-M→(zy l=0→pvR y l=0)∧(zy l=1→d≤pvR y l)∧(zy l=-1→pvR y l≤-d)
 |[]=>⟨0,1,by decide,by decide,fun y _=>⟨fun _=>rfl,fun h=>by simp[zy]at h,fun h=>by simp[zy]at h⟩⟩
 |a::l=>by
  obtain⟨M,d,hd,hM,h⟩:=qfM l;by_cases h0:zy l=0
  ·have e:zy (a::l)=zr a:=by rw[zy,if_pos h0]
   rw[e];have hv:∀y,y≤-M→pvR y (a::l)=a:=fun y hy=>by
    rw[pvR,(h y hy).1 h0]
    grind
   rcases zF a with⟨a1,b⟩|⟨a1,b⟩|⟨a1,b⟩
   ·exact⟨M,-a,by grind,hM,fun y hy=>by rw[hv y hy,b];refine⟨fun h=>by simp at h,fun h=>by simp at h,fun _=>by grind⟩⟩
   ·exact⟨M,1,by decide,hM,fun y hy=>by rw[hv y hy,b];refine⟨fun _=>a1,fun h=>by simp at h,fun h=>by simp at h⟩⟩
   ·exact⟨M,a,a1,hM,fun y hy=>by rw[hv y hy,b];refine⟨fun h=>by simp at h,fun _=>by grind,fun h=>by simp at h⟩⟩
  ·have e:zy (a::l)=-zy l:=by rw[zy,if_neg h0]
   rw[e];obtain⟨M1,k1,f1⟩:=qfd M d a hd;obtain⟨M2,k2,f2⟩:=qfd M1 d (-a) hd;refine⟨M2,d,hd,by grind,fun y hy=>?_⟩;have g1:=f1 y (by grind);have g2:=f2 y hy;have hy0:y≤0:=by grind
   obtain⟨_,h1,h2⟩:=h y (by grind);rw[pvR];rcases qax l with s|s|s
   ·rw[s];have h3:=h2 s;have h4:=Rat.mul_le_mul_of_nonneg_left h3 (show 0≤-y by grind);refine⟨fun h=>by simp at h,fun _=>?_,fun h=>by simp at h⟩;rw[Rat.neg_mul,Rat.neg_mul,Rat.mul_neg]at h4
    grind
   ·exact absurd s h0
   ·rw[s];have h3:=h1 s;have h4:=Rat.mul_le_mul_of_nonneg_left h3 (show 0≤-y by grind);refine⟨fun h=>by simp at h,fun h=>by simp at h,fun _=>?_⟩;rw[Rat.neg_mul,Rat.neg_mul]at h4
    grind
theorem qh7(l:List Rat):∃M,∀y,y≤-M→zr (pvR y l)=zy l:=by
 obtain⟨M,d,hd,_,h⟩:=qfM l;refine⟨M,fun y hy=>?_⟩;obtain⟨h0,h1,h2⟩:=h y hy;rcases qax l with s|s|s
 ·rw[s];exact qb0 (by have:=h2 s;grind)
 ·rw[s,h0 s];exact qaW
 ·rw[s];exact qb9 (by have:=h1 s;grind)
theorem qiv{l m:List Rat}{c:Rat}(hc:0<c)(h:∀y,pvR y l=c*pvR y m):zy l=zy m:=by
 obtain⟨M,h1⟩:=qh7 l;obtain⟨M',h2⟩:=qh7 m;have k1:=h1 (-(max M M')) (by grind);have k2:=h2 (-(max M M')) (by grind);rw[←k1,←k2,h,qce hc]
theorem qkT(pt:Nat→Rat)(y:Rat):∀ks:List RP,vL pt y ks=pvR y (ks.map (vT pt))
 |[]=>rfl
 |t::ts=>by rw[vL,List.map_cons,pvR,qkT pt y ts]
theorem qkS(y:Rat):∀(n:Nat)(f:Nat→Rat),sY y f n=pvR y ((List.range n).map f)
 |0,_=>rfl
 |n+1,f=>by
  rw[J0,List.range_succ_eq_map,List.map_cons,pvR,qkS y n,List.map_map];rfl
