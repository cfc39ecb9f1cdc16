import Derived.Lib.BufferOwn
import Derived.Lib.AppendIntMem
import Derived.Lib.Walk
import Derived.Shelf.Strings.BuilderK
import Derived.Lib.FrozenHead2
import Derived.MapKept
import Derived.Test.YtflikmojaidhhaaGreatDoorPq21
import Derived.Test.YtflikmojaidhhaaGreatDoorPqA
namespace Go.Proofs.YtflikmojaidhhaaGreatDoor
open Go.RowKit
def JN(w:World)(e:Ending)(w':World):Prop:=∃x:Bool,e= .returned (.bool x)/\Below w.heap.size w w'
set_option maxHeartbeats 4000000
set_option maxRecDepth 100000
theorem qbh(X:Nat)(hX:X<=100000):∀(D:Nat)(p q:RP),qC p<=D->yP X p->yP X q->∀(A:Oa)(c:Nat)(K:Oa)(kc:Nat)(Aq:Oa)(cq:Nat)(Kq:Oa)(kq B:Nat)(w:World),B<=w.heap.size->RV w (· <B) p (qe p A c K kc)->RV w (· <B) q (qe q Aq cq Kq kq)->
 Calls Tryz.prog 139 #[qm p A c K kc,qm q Aq cq Kq kq] w (JN w)
 |0,p,_,hD,_,_,_,_,_,_,_,_,_,_,_,_,_,_,_=>by cases p;simp only[qC]at hD;omega
 |D+1,p,q,hD,OH,OE,A,c,K,kc,Aq,cq,Kq,kq,B,w,hB,h,TS=>by
  have IH:=Gh (qbh X hX D);have HR:=Gh (fun(W:World)(hW:Below w.heap.size w W)=>h.below (hW.mono hB));have HQ:=Gh (fun(W:World)(hW:Below w.heap.size w W)=>TS.below (hW.mono hB));have HD:=Gh (fun(u:RP)(hu:u∈p.ks)=>show qC u<=D by have:=qY hu;omega);have HF:=Gh (And.intro OH.at_.2.2 OE.at_.2.2);have HB:=Gh hB;have U6:=OH.at_.1;have Cr:=OE.at_.1;have LF:=OH.at_.2.1;have hqk:=OE.at_.2.1;have Dl:=Gh (fun(W:World)(hW:Below w.heap.size w W)=>qhY p.ng q.ng A Aq c cq B p.ds q.ds W (Gl hB hW.size) (h.below (hW.mono hB)).natIn (TS.below (hW.mono hB)).natIn (by omega) (by omega));have EA:=Gh (And.intro h.node.2.2.2 TS.node.2.2.2);obtain⟨Xb,k0,k1,hs⟩:=qR w 28 28 #[.int .i64 p.lv,.bool p.ng,.slice A p.ds.length c,.slice K p.ks.length kc] #[.int .i64 q.lv,.bool q.ng,.slice Aq q.ds.length cq,.slice Kq q.ks.length kq];have Xd:=Gh Xb;have Xo:=Gh k0;have Xu:=Gh k1;unfold qm at IH ⊢;clear h TS hD hB OH OE Xb k0 k1 hs;have VB:=Gh (fun(x:Bool)(W':World)(hb:Below w.heap.size w W')=>show JN w (.returned (.bool x)) W' from⟨x,rfl,hb⟩);generalize Vx:p.ks.length=nk at*;generalize Fm:q.ks.length=nq at*;have UB:=Gh Vx;have B1:=Gh Fm;clear Vx Fm;generalize p.lv=pl at*;generalize q.lv=ql at*;generalize p.ds.length=pd at*;generalize q.ds.length=qd at*;go_enter Tryz.func139,Tryz.ntmps139
  go_upto_region 1 with(fail)
  generalize (w.alloc (.cells #[.int .i64 pl,.bool p.ng,.slice A pd c,.slice K nk kc] 28)).alloc (.cells #[.int .i64 ql,.bool q.ng,.slice Aq qd cq,.slice Kq nq kq] 28)=W at*;obtain⟨x0,x1,x2,x3⟩:=G4 Xo.out;obtain⟨y0,y1,y2,y3⟩:=G4 Xu.out;by_cases h1:pl=ql
  ·subst h1;by_cases h2:nk=nq
   ·subst h2;by_cases h0:pl=0
    ·have e0:(pl==0)=true:=by simp[h0]
     have HI:=Gh (Dl W Xd);clear h0;go_wp2_with fail
     refine HI.out.mono ?_;rintro e w2 ⟨rfl,Xf⟩;have RX:=Gh (Gt Xd Xf);clear x0 x1 x2 x3 y0 y1 y2 y3 Xf;go_wp2_with fail
     go_ret
     exact VB _ _ RX.out
    ·have e0:(pl==0)=false:=by simp[h0]
     have UT:=EA.out.1;have hkq:=EA.out.2;clear h0;go_wp2_with fail
     go_loopg [5,31] nk (fun gn _ ix wr=>∃i:Nat,i<=nk/\gn=nk-i/\ix= .int .i64 i/\Below W.heap.size W wr)
     case atStart=>exact⟨0,Nat.zero_le _,rfl,rfl,Below.refl _ _⟩
     case round=>
      clear x0 x1 x2 x3 y0 y1 y2 y3;obtain⟨i,hi,RA,rfl,Xe⟩:=hrel;have HG:=Gh RA;have Xh:=Gh Xe;have Rb:=Gh (Gt Xd Xe);clear RA Xe;have k0:=Xo.out.old Xh.out;have k1:=Xu.out.old Xh.out;by_cases Xi:i<nk
      ·obtain⟨u,hu⟩:∃u,p.ks[i]? =some u:=⟨_,Gn (by rw[UB.out];exact Xi)⟩;obtain⟨v,hv⟩:∃v,q.ks[i]? =some v:=⟨_,Gn (by rw[B1.out];exact Xi)⟩;obtain⟨bA,oA,A3,q3,K3,r3,rfl,RD,m0,m1,m2,m3,XN⟩:=(HR wr Rb).kid hu;obtain⟨bB,oB,A4,q4,K4,r4,rfl,Tn,n0,n1,n2,n3,LL⟩:=(HQ wr Rb).kid hv;have Vh:B<=wr.heap.size:=Gl HB Rb.out.size;have c3:=k0.cell 3;have d3:=k1.cell 3;have HC:=Gh (fun(V:World)(hV:Below wr.heap.size wr V)=>IH u v (HD u (Gk hu)) (HF.out.1 u (Gk hu)) (HF.out.2 v (Gk hv)) A3 q3 K3 r3 A4 q4 K4 r4 B V (Gl Vh hV.size) (XN.below (hV.mono Vh)) (LL.below (hV.mono Vh)));have KF:=Gh (fun(V:World)(hV:Below wr.heap.size wr V)=>(⟨(hV.cell (p:=⟨w.heap.size,3,none⟩) k0.lt).trans c3,(hV.cell (p:=⟨w.heap.size+1,3,none⟩) k1.lt).trans d3,(hV.cell (p:=⟨bA,oA+i*4,none⟩) (Gm RD Vh)).trans m0,(hV.cell (p:=⟨bA,oA+i*4+1,none⟩) (Gm RD Vh)).trans m1,(hV.cell (p:=⟨bA,oA+i*4+2,none⟩) (Gm RD Vh)).trans m2,(hV.cell (p:=⟨bA,oA+i*4+3,none⟩) (Gm RD Vh)).trans m3,(hV.cell (p:=⟨bB,oB+i*4,none⟩) (Gm Tn Vh)).trans n0,(hV.cell (p:=⟨bB,oB+i*4+1,none⟩) (Gm Tn Vh)).trans n1,(hV.cell (p:=⟨bB,oB+i*4+2,none⟩) (Gm Tn Vh)).trans n2,(hV.cell (p:=⟨bB,oB+i*4+3,none⟩) (Gm Tn Vh)).trans n3⟩:V.cell? ⟨w.heap.size,3,none⟩=some (.slice (some ⟨bA,oA,none⟩) nk kc)/\V.cell? ⟨w.heap.size+1,3,none⟩=some (.slice (some ⟨bB,oB,none⟩) nk kq)/\V.cell? ⟨bA,oA+i*4,none⟩=some (.int .i64 u.lv)/\V.cell? ⟨bA,oA+i*4+1,none⟩=some (.bool u.ng)/\V.cell? ⟨bA,oA+i*4+2,none⟩=some (.slice A3 u.ds.length q3)/\V.cell? ⟨bA,oA+i*4+3,none⟩=some (.slice K3 u.ks.length r3)/\V.cell? ⟨bB,oB+i*4,none⟩=some (.int .i64 v.lv)/\V.cell? ⟨bB,oB+i*4+1,none⟩=some (.bool v.ng)/\V.cell? ⟨bB,oB+i*4+2,none⟩=some (.slice A4 v.ds.length q4)/\V.cell? ⟨bB,oB+i*4+3,none⟩=some (.slice K4 v.ks.length r4)));have i1:(0:Int)<=(i:Int):=by omega
       have i2:(i:Int)<(nk:Int):=by omega
       have i3:(nk:Int)<=(kc:Int):=by omega
       have i4:(nk:Int)<=(kq:Int):=by omega
       have hb:Below wr.heap.size wr wr.drew:=(qt.drew _).below _;have Tb:Below wr.heap.size wr wr:=Below.refl _ _;unfold JN at HC;clear XN LL hu hv k0 k1 c3 d3 m0 m1 m2 m3 n0 n1 n2 n3;generalize u.lv=ul at*;generalize u.ng=ug at*;generalize u.ds.length=ud at*;generalize u.ks.length=uk at*;generalize v.lv=vl at*;generalize v.ng=vg at*;generalize v.ds.length=vd at*;generalize v.ks.length=vk at*;go_upto_region 8 with(fail)
       go_region_held3 (fun w'=>w'.cell? ⟨w.heap.size,3,none⟩=some (.slice (some ⟨bA,oA,none⟩) nk kc)/\w'.cell? ⟨w.heap.size+1,3,none⟩=some (.slice (some ⟨bB,oB,none⟩) nk kq)/\w'.cell? ⟨bA,oA+i*4,none⟩=some (.int .i64 ul)/\w'.cell? ⟨bA,oA+i*4+1,none⟩=some (.bool ug)/\w'.cell? ⟨bA,oA+i*4+2,none⟩=some (.slice A3 ud q3)/\w'.cell? ⟨bA,oA+i*4+3,none⟩=some (.slice K3 uk r3)/\w'.cell? ⟨bB,oB+i*4,none⟩=some (.int .i64 vl)/\w'.cell? ⟨bB,oB+i*4+1,none⟩=some (.bool vg)/\w'.cell? ⟨bB,oB+i*4+2,none⟩=some (.slice A4 vd q4)/\w'.cell? ⟨bB,oB+i*4+3,none⟩=some (.slice K4 vk r4))
        (first|(with_reducible exact KF.out _ hb)|(with_reducible exact KF.out _ Tb))
        (first
          |(go_at_call 139;(with_reducible refine(HC.out _ hb).mono ?_);rintro e v0 ⟨bx,rfl,hk⟩;replace hb:=Gt hb hk))
       have Iu:=Gh (Gt Xh hb);have HBM:=Gh (Gt Xd Iu);clear hb Tb KF HC
       cases bx with
       |true=>
        go_wp2_with fail
        go_roundg (nk-(i+1))
        case rel=>exact⟨i+1,by omega,rfl,by go_num,Iu⟩
        case measure=>have:=HG.out;omega
       |false=>
        go_wp2_with fail
        go_ret
        exact VB _ _ HBM.out
      ·obtain rfl:i=nk:=by omega
       go_wp2_with fail
       go_ret
       exact VB _ _ Rb.out
   ·have e2:((nk:Int) != (nq:Int))=true:=by simp;omega
    have e3:¬((nk:Int)=(nq:Int)):=by omega
    go_wp2_with fail
    go_ret
    exact VB _ _ Xd.out
  ·have e1:(pl != ql)=true:=by simp[h1]
   go_wp2_with fail
   go_ret
   exact VB _ _ Xd.out
theorem qgH(dg:Nat)(Xr:dg<=500)(p q:RP)(hp:yz dg p)(hq:yz dg q)(A:Oa)(c:Nat)(K:Oa)(kc:Nat)(Aq:Oa)(cq:Nat)(Kq:Oa)(kq B:Nat)(w:World)(hB:B<=w.heap.size)(h:RV w (· <B) p (qe p A c K kc))(TS:RV w (· <B) q (qe q Aq cq Kq kq)):
 Calls Tryz.prog 122 #[qm p A c K kc,qm q Aq cq Kq kq] w (JN w):=by
 have HX:=Gh (qR w 28 28 #[.int .i64 p.lv,.bool p.ng,.slice A p.ds.length c,.slice K p.ks.length kc] #[.int .i64 q.lv,.bool q.ng,.slice Aq q.ds.length cq,.slice Kq q.ks.length kq]);have XQ:=Gh (fun(W:World)(hW:Below w.heap.size w W)=>jO dg Xr p hp.dep hp.few hp.cnt A c K kc B W (Gl hB hW.size) (h.below (hW.mono hB)));have UF:=Gh (fun(W:World)(hW:Below w.heap.size w W)=>jO dg Xr q hq.dep hq.few hq.cnt Aq cq Kq kq B W (Gl hB hW.size) (TS.below (hW.mono hB)));unfold qcS at XQ UF;have UC:=Gh (fun(W:World)(T1 T2:RP)(h1:yP 1001 T1)(h2:yP 1001 T2)(A1:Oa)(c1:Nat)(K1:Oa)(k1:Nat)(A2:Oa)(c2:Nat)(K2:Oa)(k2:Nat)(x1:RV W (· <W.heap.size) T1 (qe T1 A1 c1 K1 k1))(x2:RV W (· <W.heap.size) T2 (qe T2 A2 c2 K2 k2))=>qbh 1001 (by omega) _ T1 T2 (Gr _) h1 h2 A1 c1 K1 k1 A2 c2 K2 k2 W.heap.size W (Gr _) x1 x2);have VB:=Gh (fun(x:Bool)(W':World)(hb:Below w.heap.size w W')=>show JN w (.returned (.bool x)) W' from⟨x,rfl,hb⟩);unfold JN at UC;unfold qm at XQ UF UC ⊢;clear h TS hp hq hB;generalize p.ds.length=pd at*;generalize p.ks.length=pk at*;generalize p.lv=pl at*;generalize p.ng=pg at*;generalize q.ds.length=qd at*;generalize q.ks.length=qk at*;generalize q.lv=ql at*;generalize q.ng=qg at*;go_enter Tryz.func122,Tryz.ntmps122
 go_upto_region 1 with(fail)
 obtain⟨Xb,k0,k1,hs⟩:=HX.out;generalize (w.alloc (.cells #[.int .i64 pl,.bool pg,.slice A pd c,.slice K pk kc] 28)).alloc (.cells #[.int .i64 ql,.bool qg,.slice Aq qd cq,.slice Kq qk kq] 28)=W at*;have Xd:=Gh Xb;have KF:=Gh (fun(V:World)(hV:Below W.heap.size W V)=>(⟨(k0.old hV).cell 0,(k0.old hV).cell 1,(k0.old hV).cell 2,(k0.old hV).cell 3,(k1.old hV).cell 0,(k1.old hV).cell 1,(k1.old hV).cell 2,(k1.old hV).cell 3⟩:Gd V w.heap.size (.int .i64 pl) (.bool pg) (.slice A pd c) (.slice K pk kc) (Gc V (w.heap.size+1) (.int .i64 ql) (.bool qg) (.slice Aq qd cq) (.slice Kq qk kq))));have hb:Below W.heap.size W W.drew:=(qt.drew _).below _;have Tb:Below W.heap.size W W:=Below.refl _ _;have Tf:=Gh (fun(V:World)(hV:Below W.heap.size W V)=>XQ V (Gt Xd hV));have Ru:=Gh (fun(V:World)(hV:Below W.heap.size W V)=>UF V (Gt Xd hV));clear HX XQ UF Xb k0 k1 hs;go_region_held3 (fun w'=>Gd w' w.heap.size (.int .i64 pl) (.bool pg) (.slice A pd c) (.slice K pk kc) (Gc w' (w.heap.size+1) (.int .i64 ql) (.bool qg) (.slice Aq qd cq) (.slice Kq qk kq)))
  (first|(with_reducible exact KF.out _ hb)|(with_reducible exact KF.out _ Tb))
  (first
    |(go_at_call 31;(with_reducible refine(Tf.out _ hb).mono ?_);rintro e v0 ⟨T1,A1,c1,K1,kc1,VU,rfl,U9,TC,hk⟩;replace hb:=Gt hb hk;(try replace XK:=(XK.below hk).more hk.size);have Sn:=hb.size)
    |(go_at_call 31;(with_reducible refine(Ru.out _ hb).mono ?_);rintro e v1 ⟨T2,A2,c2,K2,kc2,Ri,rfl,XK,VY,hk⟩;replace hb:=Gt hb hk;(try replace U9:=(U9.below hk).more hk.size);have Rg:=hb.size)
    |(go_at_call 139;(with_reducible refine(UC.out _ T1 T2 TC VY A1 c1 K1 kc1 A2 c2 K2 kc2 U9 XK).mono ?_);rintro e v2 ⟨bx,rfl,hk⟩;replace hb:=Gt hb hk))
 all_goals
  have RX:=Gh (Gt Xd hb);clear U9 XK VU Ri TC VY hb Tb KF UC Tf Ru;go_wp2_with fail
  go_ret
  exact VB _ _ RX.out
def qho(w:World)(e:Ending)(w':World):Prop:=∃(r:Int)(x:Bool),e= .returned (.tuple #[.int .i64 r,.bool x])/\w'=w/\0<=r/\r<=6/\(x=true->1<=r)
theorem qkT{b:Int}(hb:b=0)(r:Int):JU r≠b:=by
 subst hb;rcases Jy r with h|h|h|h|h|h<;>rw[h]<;>decide
theorem qfY(w:World):Calls Tryz.prog 55 #[.int .i64 0] w fun e w'=>e= .returned (.tuple #[.int .i64 0,.bool false])/\w'=w:=by
 have Nk:=Gh (fun(r:Int)=>qkT (b:=0) rfl r);have ST:=Gh (fun(r:Int)=>Jj r w);go_enter Tryz.func55,Tryz.ntmps55
 go_wp2_with fail
 go_loopg [4] 7 (fun gn ix wr=>∃r:Nat,1<=r/\r<=7/\gn=8-r/\ix= .int .i64 (r:Int)/\wr=w)
 case atStart=>exact⟨1,Gr _,by omega,rfl,rfl,rfl⟩
 case round=>
  obtain⟨r,U9,CU,hg,rfl,rfl⟩:=hrel;have HG:=Gh hg;clear hg;by_cases Xi:r<=6
  ·have i1:(r:Int)<=6:=by omega
   have Uj:=Gh (ST (r:Int));have e1:(JU (r:Int)==0)=false:=by simpa using Nk.out (r:Int)
   generalize JU (r:Int)=sr at*;go_wp2_with fail
   refine Uj.out.mono ?_;rintro e w2 ⟨rfl,rfl⟩;go_wp2_with fail
   go_roundg (8-(r+1))
   case rel=>exact⟨r+1,by omega,by omega,rfl,by go_num,rfl⟩
   case measure=>have:=HG.out;omega
  ·obtain rfl:r=7:=by omega
   go_wp2_with fail
   go_ret2
   exact⟨rfl,rfl⟩
theorem qgo{x y:Int}(hx:x=1∨x=2∨x=3∨x=4∨x=5∨x=6)(hy:y=1∨y=2∨y=3∨y=4∨y=5∨y=6):
 bits BinOp.and IntKind.i64 x y=0∨(bits BinOp.and IntKind.i64 x y=1∨bits BinOp.and IntKind.i64 x y=2∨bits BinOp.and IntKind.i64 x y=3∨bits BinOp.and IntKind.i64 x y=4∨bits BinOp.and IntKind.i64 x y=5∨bits BinOp.and IntKind.i64 x y=6):=by
 rcases hx with rfl|rfl|rfl|rfl|rfl|rfl<;>rcases hy with rfl|rfl|rfl|rfl|rfl|rfl<;>decide
theorem qhd(a b:Int)(w:World):Calls Tryz.prog 101 #[.int .i64 a,.int .i64 b] w (qho w):=by
 have HA:=Gh (fun(W:World)=>Jj a W);have HB:=Gh (fun(W:World)=>Jj b W);have VB:=Gh (fun(r:Int)(x:Bool)(h0:0<=r)(h6:r<=6)(h1:x=true->1<=r)=>show qho w (.returned (.tuple #[.int .i64 r,.bool x])) w from⟨r,x,rfl,rfl,h0,h6,h1⟩);have hc:=qgo (Jy a) (Jy b);generalize JU a=x at*;generalize JU b=y at*;generalize hz:bits BinOp.and IntKind.i64 x y=z at*;have HZ:=Gh hz;have HR:=Gh (show(z=0/\z=0)∨(z=1∨z=2∨z=3∨z=4∨z=5∨z=6)from hc.imp (fun h=>⟨h,h⟩) id);clear hc hz;go_enter Tryz.func101,Tryz.ntmps101
 go_wp2_with fail
 refine(HA w).mono ?_;rintro e w2 ⟨rfl,rfl⟩;go_wp2_with fail
 refine(HB _).mono ?_;rintro e w3 ⟨rfl,rfl⟩;have hz:=HZ.out;go_wp2_with fail
 rcases HR.out with⟨h,_⟩|h
 ·subst h;refine(qfY _).mono ?_;rintro e w4 ⟨rfl,rfl⟩;go_wp2_with fail
  go_ret2
  exact VB _ _ (by decide) (by decide) (by simp)
 ·obtain⟨r1,r6,_,_⟩:=JQ h;refine(qaK z h _).mono ?_;rintro e w4 ⟨rfl,rfl⟩;go_wp2_with fail
  go_ret2
  exact VB _ _ (by omega) r6 (fun _=>r1)
theorem qhW(kd rl lv:Int)(ng:Bool)(A:Oa)(n c:Nat)(K:Oa)(k kc:Nat)(f:Value)(w:World):
 Calls Tryz.prog 103 #[.slice none 0 0,.agg #[.int .i64 kd,.int .i64 rl,.int .i64 lv,.bool ng,.slice A n c,.slice K k kc,.slice none 0 0],f] w fun e w'=>∃g cap,e= .returned (.tuple #[.slice (some ⟨g,0,none⟩) 1 cap,.bool true])/\w'.ownsRow w.heap.size 32 7 (.slice (some ⟨g,0,none⟩) 1 cap) 1 [.int .i64 kd,.int .i64 rl,.int .i64 lv,.bool ng,.slice A n c,.slice K k kc,.slice none 0 0]/\Below w.heap.size w w':=by
 have Xb:=Gb w (.cells #[.int .i64 kd,.int .i64 rl,.int .i64 lv,.bool ng,.slice A n c,.slice K k kc,.slice none 0 0] 32);have k0:=qf.new w 32 #[.int .i64 kd,.int .i64 rl,.int .i64 lv,.bool ng,.slice A n c,.slice K k kc,.slice none 0 0];have Xd:=Gh Xb;have Xo:=Gh k0;clear Xb k0;go_enter Tryz.func103,Tryz.ntmps103
 go_upto_region 1 with(fail)
 generalize w.alloc (.cells #[.int .i64 kd,.int .i64 rl,.int .i64 lv,.bool ng,.slice A n c,.slice K k kc,.slice none 0 0] 32)=W at*;go_wp2_with fail
 go_loopg [14] 0 (fun gn ix wr=>gn=0/\ix= .int .i64 0/\wr=W)
 case atStart=>exact⟨rfl,rfl,rfl⟩
 case round=>
  obtain⟨-,rfl,rfl⟩:=hrel;go_upto_region 13 with(fail)
  obtain⟨x0,x1,x2,x3⟩:=G4 Xo.out;have x4:=Xo.out.cell 4;have x5:=Xo.out.cell 5;have x6:=Xo.out.cell 6;have Xc:=Gb wr (.cells #[.int .i64 kd,.int .i64 rl,.int .i64 lv,.bool ng,.slice A n c,.slice K k kc,.slice none 0 0] 32);have Xv:=qu.seven_newJ wr [.int .i64 kd,.int .i64 rl,.int .i64 lv,.bool ng,.slice A n c,.slice K k kc,.slice none 0 0] rfl 32;have Xk:(wr.alloc (.cells #[.int .i64 kd,.int .i64 rl,.int .i64 lv,.bool ng,.slice A n c,.slice K k kc,.slice none 0 0] 32)).ownsRow w.heap.size 32 7 (.slice none 0 0) 0 []:=⟨rfl,.inl ⟨rfl,rfl⟩⟩;have XO:∀x∈([.int .i64 kd,.int .i64 rl,.int .i64 lv,.bool ng,.slice A n c,.slice K k kc,.slice none 0 0]:List Value),x.oneCell'=true:=by intro x hx;simp at hx;rcases hx with rfl|rfl|rfl|rfl|rfl|rfl|rfl<;>rfl
  obtain⟨i0,Uw,XU,X7,Xy⟩:=qO Tryz.infoMat;have Xt:w.heap.size<=(wr.alloc (.cells #[.int .i64 kd,.int .i64 rl,.int .i64 lv,.bool ng,.slice A n c,.slice K k kc,.slice none 0 0] 32)).heap.size:=Gl Xd.out.size Xc.size;have Uq:=Gh (Gt Xd Xc);clear Xc;go_wp2_with (at_builtin;refine qM _ rfl (.tmp 53) (.tmp 55) 30 rfl w.heap.size 32 i0 _ 7 104 Tryz.underlying30 Uw XU X7 Xy rfl (by decide) (.slice none 0 0) 0 [] rfl Xk (wr.heap.size+1) (some ⟨wr.heap.size,0,none⟩) 1 1 [.int .i64 kd,.int .i64 rl,.int .i64 lv,.bool ng,.slice A n c,.slice K k kc,.slice none 0 0] rfl Xv XO (by decide) (by decide) Xt ?_;intro v' w5 hown2 TV hat2;refine Hid.out ?_)
  refine Gh ?_;obtain⟨g,cap,hv,-,-⟩:=hown2.form (by omega);subst hv;have HO:=Gh hown2;have XZ:=Gh (Uq.out.trans ⟨TV.os,TV.tape,TV.output,Gl (Gr _) TV.size,fun q hq=>TV.block q (Gm hq Xt) (by simp[Value.ownBlock])⟩);clear hown2 TV hat2 Xv XO Xt Xk Uw XU X7 Xy;go_wp2_with fail
  go_ret2
  exact⟨g,cap,rfl,HO,XZ⟩
def JO(d base:Nat)(w:World)(v:Value)(Ms:List MX):Prop:=(∀M∈Ms,QV d M/\M.kd=2)/\∃rows,w.ownsRow base 32 7 v Ms.length rows.flatten/\QE w (yB w base) Ms rows
def qka(d base:Nat)(row:Option Nat)(n:Nat)(w:World)(e:Ending)(w':World):Prop:=
 ∃(v:Value)(x:Bool),e= .returned (.tuple #[v,.bool x])/\w.grownBy w' row/\∃Ms,1<=Ms.length/\Ms.length<=n+1/\JO d base w' v Ms
theorem MV.leafG{w:World}{S:Nat->Prop}{M:MX}{A:Oa}{c:Nat}{K:Oa}{kc:Nat}{L:Oa}{lc:Nat}(hk:M.ks=[])(h:RV w S M.p (qe M.p A c K kc)):MV w S M (jn M A c K kc L lc):=by
 obtain⟨k,r,p,ks⟩:=M;obtain rfl:ks=[]:=hk;unfold MV;exact⟨A,c,K,kc,L,lc,rfl,h,Nat.zero_le _,[],⟨rfl,fun h=>absurd h (by simp)⟩,by unfold QE;rfl⟩
theorem qfi{w:World}{base g cap:Nat}{cur:Array Value}{xs:List Value}(hb:base<=g)(hk:qf w g 32 cur)(h1:1<=cap)(h2:cap<=maxLen)(hs:cur.size=cap*7)(ht:cur.toList.take 7=xs):w.ownsRow base 32 7 (.slice (some ⟨g,0,none⟩) 1 cap) 1 xs:=by
 refine⟨?_,.inr ⟨g,cap,cur,rfl,hb,hk,h1,h2,hs,by simpa using ht⟩⟩;rw[<-ht];simp;omega
theorem JO.one{d base:Nat}{w:World}{v:Value}{M:MX}{A:Oa}{c:Nat}{K:Oa}{kc:Nat}{L:Oa}{lc:Nat}(hM:QV d M)(hk:M.kd=2)(ho:w.ownsRow base 32 7 v 1 (jn M A c K kc L lc))(hr:RB w base M.p (qe M.p A c K kc)):JO d base w v [M]:=by
 refine⟨by simp;exact⟨hM,hk⟩,[jn M A c K kc L lc],by simpa using ho,?_⟩;unfold QE;exact⟨_,[],rfl,MV.leafG hM.ks hr,by unfold QE;rfl⟩
theorem JO.two{d base:Nat}{w:World}{v:Value}{M M':MX}{A:Oa}{c:Nat}{K:Oa}{kc:Nat}{L:Oa}{lc:Nat}{A':Oa}{c':Nat}{K':Oa}{kc':Nat}{L':Oa}{lc':Nat}(hM:QV d M)(hk:M.kd=2)(AZ:QV d M')(Cz:M'.kd=2)(ho:w.ownsRow base 32 7 v 2 (jn M A c K kc L lc++jn M' A' c' K' kc' L' lc'))(hr:RB w base M.p (qe M.p A c K kc))(TB:RB w base M'.p (qe M'.p A' c' K' kc')):JO d base w v [M,M']:=by
 refine⟨by simp;exact⟨⟨hM,hk⟩,AZ,Cz⟩,[jn M A c K kc L lc,jn M' A' c' K' kc' L' lc'],by simpa using ho,?_⟩;unfold QE;refine⟨_,[jn M' A' c' K' kc' L' lc'],rfl,MV.leafG hM.ks hr,?_⟩;unfold QE;exact⟨_,[],rfl,MV.leafG AZ.ks TB,by unfold QE;rfl⟩
theorem RB.far_mat{w:World}{g base:Nat}{cur:Array Value}{t:RP}{vs:List Value}(hk:qf w g 32 cur)(o:Nat)(u:Value)(h:RB w base t vs):RB (w.setCell ⟨g,o,none⟩ u) base t vs:=
 RB.keep h (fun j cs hj=>hj.far (p:=⟨g,o,none⟩) (jf hj hk (by decide)) u) (fun j cs _ hj=>hj.far (p:=⟨g,o,none⟩) (jf hj hk (by decide)) u) (Gr _)
theorem qja{d base g cap:Nat}{w W:World}{cur:Array Value}{rl1 r:Int}{p:RP}{A:Oa}{c:Nat}{K:Oa}{kc:Nat}{L:Oa}{lc:Nat}(OO:base<=g)(Es:1<=cap)(BR:cap<=maxLen)(hs:cur.size=cap*7)(hM:QV d (.mk 2 rl1 p []))(Vz:cur.toList.take (1*7)=jn (.mk 2 rl1 p []) A c K kc L lc)
 (hk:qf W g 32 cur)(hr:RB W base p (qe p A c K kc))(h0:0<=r)(h6:r<=6)(hb:Below w.heap.size w W):
 w.grownBy (W.setCell ⟨g,1,none⟩ (.int .i64 r)) (some g)/\JO d base (W.setCell ⟨g,1,none⟩ (.int .i64 r)) (.slice (some ⟨g,0,none⟩) 1 cap) [.mk 2 r p []]:=by
 refine⟨⟨hb.os,hb.tape,hb.output,?_,fun k Cz Xl=>(Below.heap_setCell W ⟨g,1,none⟩ _ k (by intro h;exact Xl (by rw[h]))).trans (hb.block k Cz)⟩,?_⟩
 ·rw[World.size_setCell];exact hb.size
 ·refine JO.one (A:=A) (c:=c) (K:=K) (kc:=kc) (L:=L) (lc:=lc) ⟨hM.ks,hM.kd,⟨h0,h6⟩,hM.can,hM.lw,hM.dig⟩ rfl (qfi OO (hk.set_ 1 _) Es BR (by simpa using hs) ?_) (RB.far_mat hk 1 _ hr);rw[Array.toList_setIfInBounds,List.take_set];simp only[Nat.one_mul]at Vz;rw[Vz];rfl
theorem qj1{base:Nat}{w W W':World}{g cap:Nat}{xs:List Value}{p q:RP}{vs us:List Value}(hb:Below w.heap.size w W)(ho:W.ownsRow base 32 7 (.slice (some ⟨g,0,none⟩) 1 cap) 1 xs)(hg:W.grownBy W' (some g))(hp:RB W base p vs)(hq:RB W base q us):
 w.grownBy W' (some g)/\RB W' base p vs/\RB W' base q us:=by
 have hu:∀(t:TypeId)(j:Nat)(cs:Array Value),32≠t->qf W j t cs->qf W' j t cs:=fun t j cs Xl hj=>hj.grown hg (yx ho hj Xl);refine⟨⟨hg.os.trans hb.os,hg.tape.trans hb.tape,hg.output.trans hb.output,Gl hb.size hg.size,fun k hk Xl=>(hg.block k (Gm hk hb.size) Xl).trans (hb.block k hk)⟩,?_,?_⟩
 ·exact RB.keep hp (fun j cs hj=>hu _ j cs (by decide) hj) (fun j cs _ hj=>hu _ j cs (by decide) hj) (Gr _)
 ·exact RB.keep hq (fun j cs hj=>hu _ j cs (by decide) hj) (fun j cs _ hj=>hu _ j cs (by decide) hj) (Gr _)
theorem qir(d:Nat)(hd:d<=300)(M1 M2:MX)(h1:QV d M1)(h2:QV d M2)(e1:M1.kd=2)(e2:M2.kd=2)(A1:Oa)(c1:Nat)(K1:Oa)(q1:Nat)(L1:Oa)(l1:Nat)(A2:Oa)(c2:Nat)(K2:Oa)(q2:Nat)(L2:Oa)(l2:Nat)(base g cap:Nat)(w:World)(hb:base<=w.heap.size)
 (ho:w.ownsRow base 32 7 (.slice (some ⟨g,0,none⟩) 1 cap) 1 (jn M1 A1 c1 K1 q1 L1 l1))(r1:RB w base M1.p (qe M1.p A1 c1 K1 q1))(r2:RB w base M2.p (qe M2.p A2 c2 K2 q2)):
 Calls Tryz.prog 103 #[.slice (some ⟨g,0,none⟩) 1 cap,mxv M2 A2 c2 K2 q2 L2 l2,.func (.func 101) #[] #[]] w (qka d base (some g) 1 w):=by
 obtain⟨-,hc⟩:=ho;rcases hc with⟨hc,-⟩|⟨g',cap',cur,hc,OO,Vr,Es,BR,XE,Vz⟩
 ·cases hc
 injection hc with hc _ RO
 injection hc with hc
 injection hc with hc
 subst hc RO;have UA:qf w g 32 cur:=Vr;have Ro:∀(i:Nat)(u:Value),(jn M1 A1 c1 K1 q1 L1 l1)[i]? =some u->cur[i]? =some u:=by
  intro i u hu;rw[<-Vz,List.getElem?_take]at hu
  split at hu
  ·simpa using hu
  ·cases hu
 have XV:cur.size=cap*7:=XE;have b1:=h1.ks;have b2:=h2.ks;have f1:=qjJ h1.can h1.lw;have f2:=qjJ h2.can h2.lw;obtain⟨kd1,rl1,p1,ks1⟩:=M1;obtain⟨kd2,rl2,p2,ks2⟩:=M2;obtain rfl:kd1=2:=e1;obtain rfl:kd2=2:=e2;obtain rfl:ks1=[]:=b1;obtain rfl:ks2=[]:=b2;simp only[MX.p]at f1 f2 r1 r2 Ro;have Xb:=Gb w (.cells #[.int .i64 2,.int .i64 rl2,.int .i64 p2.lv,.bool p2.ng,.slice A2 p2.ds.length c2,.slice K2 p2.ks.length q2,.slice L2 0 l2] 32);have k0:=qf.new w 32 #[.int .i64 2,.int .i64 rl2,.int .i64 p2.lv,.bool p2.ng,.slice A2 p2.ds.length c2,.slice K2 p2.ks.length q2,.slice L2 0 l2];have Xd:=Gh Xb;have Xo:=Gh k0;have HG0:=Gh (UA.old Xb);have Tq:=Gh (r1.old Xb);have Sw:=Gh (r2.old Xb);have WY:=Gh UA.lt;have Bh:=Gh f1;have CM:=Gh f2;have B7:=Gh h1;have Bf:=Gh h2;have KX:=Gh (show cur[0]? =some (.int .i64 2)/\cur[1]? =some (.int .i64 rl1)/\cur[2]? =some (.int .i64 p1.lv)/\cur[3]? =some (.bool p1.ng)/\cur[4]? =some (.slice A1 p1.ds.length c1)/\cur[5]? =some (.slice K1 p1.ks.length q1)/\cur[6]? =some (.slice L1 0 l1)from And.intro (Ro 0 _ rfl) <| And.intro (Ro 1 _ rfl) <| And.intro (Ro 2 _ rfl) <| And.intro (Ro 3 _ rfl) <| And.intro (Ro 4 _ rfl) <| And.intro (Ro 5 _ rfl) (Ro 6 _ rfl));have UR:=Gh Vz;have HX:=Gh (And.intro OO <| And.intro Es <| And.intro BR XV);have Sy:=Gh hb;clear Xb k0 Ro Vz Vr UA XV XE Es BR OO f1 f2 h1 h2 r1 r2 hb;show Calls Tryz.prog 103 #[.slice (some ⟨g,0,none⟩) 1 cap,.agg #[.int .i64 2,.int .i64 rl2,.int .i64 p2.lv,.bool p2.ng,.slice A2 p2.ds.length c2,.slice K2 p2.ks.length q2,.slice L2 0 l2],.func (.func 101) #[] #[]] w (qka d base (some g) 1 w);go_enter Tryz.func103,Tryz.ntmps103
 go_upto_region 1 with(fail)
 generalize w.alloc (.cells #[.int .i64 2,.int .i64 rl2,.int .i64 p2.lv,.bool p2.ng,.slice A2 p2.ds.length c2,.slice K2 p2.ks.length q2,.slice L2 0 l2] 32)=W at*;go_wp2_with fail
 go_loopg [8,9,14] 1 (fun gn _ _ ix wr=>∃j:Nat,j<=1/\gn=1-j/\ix= .int .i64 j/\Below W.heap.size W wr)
 case atStart=>exact⟨0,by omega,rfl,rfl,Below.refl _ _⟩
 case round=>
  obtain⟨j,hj,XI,rfl,Xe⟩:=hrel;have Xh:=Gh Xe;by_cases Xi:j<1
  ·obtain rfl:j=0:=by omega
   obtain⟨ci0,ci1,ci2,ci3,ci4,ci5,ci6⟩:=KX.out;have Vr:=HG0.out.old Xe;have Xj:=Xo.out.old Xe;have x0:=(Vr.cell 0).trans ci0;have x1:=(Vr.cell 1).trans ci1;have x2:=(Vr.cell 2).trans ci2;have x3:=(Vr.cell 3).trans ci3;have x4:=(Vr.cell 4).trans ci4;have x5:=(Vr.cell 5).trans ci5;have x6:=(Vr.cell 6).trans ci6;obtain⟨y0,y1,y2,y3⟩:=G4 Xj;have y4:=Xj.cell 4;have y5:=Xj.cell 5;have y6:=Xj.cell 6;clear ci0 ci1 ci2 ci3 ci4 ci5 ci6 Vr Xj;have Xc:=Gb wr (.cells #[.int .i64 2,.int .i64 rl1,.int .i64 p1.lv,.bool p1.ng,.slice A1 p1.ds.length c1,.slice K1 p1.ks.length q1,.slice L1 0 l1] 32);have XZ:=Gh (Gt Xe Xc);have RJ:=Gh (qf.new wr 32 #[.int .i64 2,.int .i64 rl1,.int .i64 p1.lv,.bool p1.ng,.slice A1 p1.ds.length c1,.slice K1 p1.ks.length q1,.slice L1 0 l1]);clear Xc Xe;go_upto_region 4 with(fail)
   generalize wr.alloc (.cells #[.int .i64 2,.int .i64 rl1,.int .i64 p1.lv,.bool p1.ng,.slice A1 p1.ds.length c1,.slice K1 p1.ks.length q1,.slice L1 0 l1] 32)=W5 at*;generalize wr.heap.size=g5 at*;clear x0 x1 x2 x3 x4 x5 x6;obtain⟨z0,z1,z2,z3⟩:=G4 RJ.out;have z4:=RJ.out.cell 4;have z5:=RJ.out.cell 5;have z6:=RJ.out.cell 6;have Xj:=Xo.out.old XZ.out;obtain⟨y0,y1,y2,y3⟩:=G4 Xj;have y4:=Xj.cell 4;have y5:=Xj.cell 5;have y6:=Xj.cell 6;clear Xj;have Ui:=Gh (show Calls Tryz.prog 122 #[.agg (Gx p1 A1 c1 K1 q1),.agg (Gx p2 A2 c2 K2 q2)] W5 (JN W5)from qgH d (by omega) p1 p2 Bh CM A1 c1 K1 q1 A2 c2 K2 q2 W.heap.size W5 XZ.out.size ((Tq.out.rv).below XZ) ((Sw.out.rv).below XZ));go_wp2_with fail
   refine Ui.out.mono ?_;rintro e w6 ⟨x,rfl,XY⟩;have TL:=Gh (Gt XZ XY);have SX:=Gh (RJ.out.old XY);clear XY Ui y0 y1 y2 y3 y4 y5 y6 z0 z1 z2 z3 z4 z5 z6
   cases x
   case false=>
    go_wp2_with fail
    go_roundg 0
    case rel=>exact⟨1,by omega,by omega,by go_num,TL⟩
    case measure=>omega
   case true=>
    obtain⟨z0,z1,z2,z3⟩:=G4 SX.out;have z4:=SX.out.cell 4;have z5:=SX.out.cell 5;have z6:=SX.out.cell 6;have Xj:=Xo.out.old TL.out;obtain⟨y0,y1,y2,y3⟩:=G4 Xj;have y4:=Xj.cell 4;have y5:=Xj.cell 5;have y6:=Xj.cell 6;have HME:=Gh (qhd rl1 rl2 w6);clear Xj;go_wp2_with fail
    refine HME.out.mono ?_;rintro e w7 ⟨r,x,rfl,rfl,Oq,Eq,-⟩;have Vr:=HG0.out.old TL.out;have x1:=(Vr.cell 1).trans KX.out.2.1;have x1f:=Vr.frozen 1;have xl:=Vr.lt;have Xg:=Gh (qja (d:=d) (base:=base) (r:=r) (A:=A1) (c:=c1) (K:=K1) (kc:=q1) (L:=L1) (lc:=l1) HX.out.1 HX.out.2.1 HX.out.2.2.1 HX.out.2.2.2 B7 UR Vr (Tq.out.old TL) Oq Eq (Gt Xd TL));clear Vr z0 z1 z2 z3 z4 z5 z6 y0 y1 y2 y3 y4 y5 y6 HME;go_wp2_with fail
    go_ret2
    exact⟨_,_,rfl,Xg.out.1,[.mk 2 r p1 []],by simp,by simp,Xg.out.2⟩
  ·obtain rfl:j=1:=by omega
   have Xj:=Xo.out.old Xe;obtain⟨y0,y1,y2,y3⟩:=G4 Xj;have y4:=Xj.cell 4;have y5:=Xj.cell 5;have y6:=Xj.cell 6;clear Xj;go_upto_region 13 with(fail)
   have Xc:=Gb wr (.cells #[.int .i64 2,.int .i64 rl2,.int .i64 p2.lv,.bool p2.ng,.slice A2 p2.ds.length c2,.slice K2 p2.ks.length q2,.slice L2 0 l2] 32);have Xv:=qu.seven_newJ wr [.int .i64 2,.int .i64 rl2,.int .i64 p2.lv,.bool p2.ng,.slice A2 p2.ds.length c2,.slice K2 p2.ks.length q2,.slice L2 0 l2] rfl 32;have hB8:=Gt Xd Xh.out;have Wi:=Gt hB8 Xc;have Xk:=qfi (w:=wr.alloc (.cells #[.int .i64 2,.int .i64 rl2,.int .i64 p2.lv,.bool p2.ng,.slice A2 p2.ds.length c2,.slice K2 p2.ks.length q2,.slice L2 0 l2] 32)) HX.out.1 ((HG0.out.old Xh).old Xc) HX.out.2.1 HX.out.2.2.1 HX.out.2.2.2 UR.out;have XO:∀x∈([.int .i64 2,.int .i64 rl2,.int .i64 p2.lv,.bool p2.ng,.slice A2 p2.ds.length c2,.slice K2 p2.ks.length q2,.slice L2 0 l2]:List Value),x.oneCell'=true:=by intro x hx;simp at hx;rcases hx with rfl|rfl|rfl|rfl|rfl|rfl|rfl<;>rfl
   obtain⟨i0,Uw,XU,X7,Xy⟩:=qO Tryz.infoMat;have Xt:base<=(wr.alloc (.cells #[.int .i64 2,.int .i64 rl2,.int .i64 p2.lv,.bool p2.ng,.slice A2 p2.ds.length c2,.slice K2 p2.ks.length q2,.slice L2 0 l2] 32)).heap.size:=Gl Sy Wi.size;have Uq:=Gh Wi;have U9:=(Tq.out.old Xh).old Xc;have XK:=(Sw.out.old Xh).old Xc;clear Xc hB8 Wi;go_wp2_with (at_builtin;refine qM _ rfl (.tmp 53) (.tmp 55) 30 rfl base 32 i0 _ 7 104 Tryz.underlying30 Uw XU X7 Xy rfl (by decide) (.slice (some ⟨g,0,none⟩) 1 cap) 1 (jn (.mk 2 rl1 p1 []) A1 c1 K1 q1 L1 l1) rfl Xk (wr.heap.size+1) (some ⟨wr.heap.size,0,none⟩) 1 1 [.int .i64 2,.int .i64 rl2,.int .i64 p2.lv,.bool p2.ng,.slice A2 p2.ds.length c2,.slice K2 p2.ks.length q2,.slice L2 0 l2] rfl Xv XO (by decide) (by decide) Xt ?_;intro v' w5 hown2 TV hat2;refine Hid.out ?_)
   refine Gh ?_;have HO:=Gh hown2;have HG5:=Gh TV;have Xg:=Gh (qj1 Uq Xk TV U9 XK);clear hown2 TV hat2 Xv XO Xt Xk Uw XU X7 Xy U9 XK;go_wp2_with fail
   go_ret2
   exact⟨_,_,rfl,Xg.out.1,[.mk 2 rl1 p1 [],.mk 2 rl2 p2 []],by simp,by simp,JO.two B7 rfl Bf rfl HO Xg.out.2.1 Xg.out.2.2⟩
end Go.Proofs.YtflikmojaidhhaaGreatDoor
namespace Go.Proofs.YtflikmojaidhhaaGreatDoor
open Go.RowKit Go.Sort Go.Lib
theorem qhL(w:World)(o:Obj)(dk:Array UInt8)(k:Nat):∃os,(putRow (fun(b:UInt8)=>Value.int .u8 (b.toNat:Int)) (w.alloc o) w.heap.size 0 dk).drewN k=grow (w.drewN k) os:=by
 rw[alloc_eq_grow];obtain⟨os',_,e⟩:=putRow_grow_new (fun(b:UInt8)=>Value.int .u8 (b.toNat:Int)) w #[o] w.heap.size 0 dk (Gr _);exact⟨os',by rw[e];rfl⟩
set_option maxHeartbeats 6400000
set_option maxRecDepth 100000
theorem Zo(u:Nat)(DR:u<18446744073709551616)(w:World)(NE:Lib.TabIs Tryz.prog w "internal/strconv.uint64pow10" .u64 Lib.pow10Tab):
 Calls Tryz.prog 115 #[.int .u64 u,.int .i64 10] w fun e w'=>e= .returned (.string ⟨(Lib.decDigits u).toArray⟩)/\∃k os,w'=grow (w.drewN k) os:=by
 by_cases hs:u<100
 ·have FE:((u:Int)<100):=by omega
  have Ui:=Gh (fun W=>Tryz.internal_strconv_small u hs W);have IZ:IntKind.i64.wrap (u:Int)=(u:Int):=IntWalk.i64_in _ (by omega);go_enter Tryz.func115,Tryz.ntmps115
  go_wp2_with fail
  refine(Ui _).mono ?_;rintro e w' ⟨rfl,rfl⟩;go_wp2_with fail
  go_ret
  exact⟨rfl,0,#[],by simp[World.drewN_zero]⟩
 ·have Dr:1<=u:=by omega
  have FE:¬((u:Int)<100):=by omega
  have hnd20:Lib.nDigits u<=20:=by have:=Lib.numDigits_eq u Dr DR;split at this<;>omega
  have Xc:Program.arrayLen Tryz.prog 165=24:=by simp[Program.arrayLen,Tryz.underlying165]
  have hsl1:∀W,(Instr.sliceAt 165 (.pointer (some ⟨w.heap.size,0,none⟩)) none (some (.int .i64 (Lib.nDigits u:Int))) none).run Tryz.prog W= .ok (.slice (some ⟨w.heap.size,0,none⟩) (Lib.nDigits u) 24) W:=fun W=>by
   rw[run_sliceAt_array_h W 165 ⟨w.heap.size,0,none⟩ (by simp[Program.arrayLen,Program.elem,Tryz.underlying165]) .i64 (Lib.nDigits u:Int) (by omega) (by rw[Xc];omega)];go_simp
  have Wf:=Lib.holds_zero0 w 165 (Lib.nDigits u) (by omega);have NM:=Tryz.internal_strconv_formatBase10 w.heap.size 0 24 u (Array.replicate (Lib.nDigits u) 0) (w.alloc (.cells Lib.zeros24 165)) Wf (by rw[Array.size_replicate];exact Lib.lt_pow_nDigits u) DR (by rw[Array.size_replicate];omega);rw[Array.size_replicate]at NM;have HH0:=Gh Wf;have RG:=Gh (Tryz.internal_strconv_numDigits u Dr DR (w.alloc (.cells Lib.zeros24 165)) (Lib.tabIs_alloc NE _));have Lc:=Gh NM;clear Wf Xc NM;go_enter Tryz.func115,Tryz.ntmps115
  go_wp2_with fail
  refine RG.out.mono ?_;rintro e w' ⟨rfl,rfl⟩;go_wp2_with fail
  refine Lc.out.mono ?_;rintro e w' ⟨rfl,k,v',dk,rfl,hF⟩;have IZ:(convert 88 9 (.slice (some ⟨w.heap.size,0,none⟩) (Lib.nDigits u) 24)).run Tryz.prog ((putRow (fun(b:UInt8)=>Value.int .u8 (b.toNat:Int)) (w.alloc (.cells Lib.zeros24 165)) w.heap.size 0 dk).drewN k)= .ok (.string ⟨(Lib.decDigits u).toArray⟩) ((putRow (fun(b:UInt8)=>Value.int .u8 (b.toNat:Int)) (w.alloc (.cells Lib.zeros24 165)) w.heap.size 0 dk).drewN k):=by
   have h:=run_convert_bytes_back (P:=Tryz.prog) ((putRow (fun(b:UInt8)=>Value.int .u8 (b.toNat:Int)) (w.alloc (.cells Lib.zeros24 165)) w.heap.size 0 dk).drewN k) 88 9 5 ⟨w.heap.size,0,none⟩ 24 (Lib.decDigits u) Tryz.underlying88 Tryz.underlying5 Tryz.underlying9 (fun j hj=>by
    rw[Lib.row_is_numeral hF j hj,Lib.add_plain,World.cell?_drewN];exact cell?_putRow (fun(b:UInt8)=>Value.int .u8 (b.toNat:Int)) _ w.heap.size 0 _ dk HH0 (by rw[hF.size,Array.size_replicate]) j (by rw[hF.size];rw[Lib.decDigits_length]at hj;exact hj))
   rw[Lib.decDigits_length]at h;exact h
  go_wp2_with fail
  go_ret
  obtain⟨os,eo⟩:=qhL w (.cells Lib.zeros24 165) dk k;exact⟨rfl,k,os,eo⟩
set_option maxHeartbeats 1000000
theorem qaN(u:Nat)(DR:u<18446744073709551616)(w:World)(NE:Lib.TabIs Tryz.prog w "internal/strconv.uint64pow10" .u64 Lib.pow10Tab):
 Calls Tryz.prog 93 #[.int .u64 u,.int .i64 10] w fun e w'=>e= .returned (.string ⟨(Lib.decDigits u).toArray⟩)/\∃k os,w'=grow (w.drewN k) os:=by
 have HI:=Gh (Zo u DR w NE);go_enter Tryz.func93,Tryz.ntmps93
 go_wp2_with fail
 refine HI.out.mono ?_;rintro e w' ⟨rfl,hw⟩;have HW:=Gh hw;clear hw;go_wp2_with fail
 go_ret
 exact⟨rfl,HW⟩
end Go.Proofs.YtflikmojaidhhaaGreatDoor
namespace Go.Proofs.YtflikmojaidhhaaGreatDoor
open Go.RowKit
theorem Tryz.infoU8:(Tryz.prog.info? 5).map (fun i=>(i.zero,i.size,i.bytes))=some (some (.int .u8 0),1,1):=by kernel_rfl
theorem Tryz.sizeB:(Tryz.prog.info? 90).map (·.size)=some 2:=by kernel_rfl
theorem Tryz.liesB:liesAt Tryz.prog Tryz.prog.depth 90 (2/Tryz.prog.cellsOf 90) 0 90 1=true:=by kernel_rfl
set_option maxHeartbeats 1000000
set_option maxRecDepth 100000
theorem QF(B b:Nat)(bs:List Value)(w:World)(h:Lib.IsBuilderF 90 5 B b bs w):
 Calls Tryz.prog 90 #[.pointer (some ⟨b,0,none⟩)] w fun e w'=>e= .returned (.tuple #[])/\Lib.BuilderAtF 90 5 B b (.pointer (some ⟨b,0,none⟩)) bs w'/\Below B w w'/\Lib.OthersKept 5 (some b) w w':=by
 rcases h with h|h
 ·have c0:=h.cell0;have hsh:=h.shape;have hfz:=h.frozen0;obtain⟨j,hj,hjs⟩:=Option.map_eq_some_iff.1 Tryz.sizeB;have HH:=Gh h;clear h;go_enter Tryz.func90,Tryz.ntmps90
  go_wp2
  rw[Lib.run_to_unsafe w ⟨b,0,none⟩ Tryz.underlying87 Tryz.underlying147 hj (by rw[hjs];decide) hsh (Nat.zero_lt_succ 1)];simp only[Result.andThen];rw[Oper.upon_value];go_wp2
  rw[run_callFunc_extern Tryz.func113 (by kernel_rfl) (by kernel_rfl) (by kernel_rfl) (e:=Extern.AbiNoEscape.same) (by kernel_rfl)];rw[Lib.run_noEscape];simp only[Result.andThen];rw[Oper.upon_value];go_wp2
  rw[Lib.run_from_unsafe w ⟨b,0,none⟩ Tryz.underlying147 Tryz.underlying87 hj hsh Tryz.liesB];simp only[Result.andThen];rw[Oper.upon_value];go_wp2
  go_end0
  exact⟨rfl,HH.out.used _,(Below.refl B w).setCell (p:=⟨b,0,none⟩) HH.out.1 _,(Lib.OthersKept.refl _ _ w).setCell ⟨b,0,none⟩ rfl _⟩
 ·have c0:=h.cell0;obtain⟨j,hj,_⟩:=Option.map_eq_some_iff.1 Tryz.sizeB;have HH:=Gh h;clear h;go_enter Tryz.func90,Tryz.ntmps90
  go_wp2
  rw[Lib.run_neq_ptr_same w _ Tryz.underlying87 hj];go_wp2
  go_end0
  exact⟨rfl,HH,Below.refl _ _,Lib.OthersKept.refl _ _ _⟩
def qhQ(B b:Nat)(bs:List Value)(w w':World):Prop:=Lib.BuilderAtF 90 5 B b (.pointer (some ⟨b,0,none⟩)) bs w'/\Below B w w'/\Lib.OthersKept 5 (some b) w w'
set_option maxHeartbeats 2000000
theorem Zs(B b:Nat)(bs:List Value)(s:ByteArray)(w:World)(h:Lib.IsBuilderF 90 5 B b bs w)(XC:bs.length+s.size<=140737488355328)(Vh:B<=w.heap.size):
 Calls Tryz.prog 58 #[.pointer (some ⟨b,0,none⟩),.string s] w fun e w'=>e= .returned (.tuple #[.int .i64 s.size,.nilIface])/\qhQ B b (bs++Lib.strCells s) w w':=by
 obtain⟨i0,hi,XU,X7,Xy⟩:=qO Tryz.infoU8;have HC:=Gh (QF B b bs w h);clear h;go_enter Tryz.func58,Tryz.ntmps58
 go_wp2_with fail
 refine HC.out.mono ?_;rintro e w1 ⟨rfl,h1,Xp,Dz⟩;obtain⟨hB,v,UH,Xn,Xl⟩:=h1;have hk:qf w1 b 90 #[.pointer (some ⟨b,0,none⟩),v]:=UH;have c0:w1.cell? ⟨b,0,none⟩=some (.pointer (some ⟨b,0,none⟩)):=hk.cell 0;have c1:w1.cell? ⟨b,1,none⟩=some v:=hk.cell 1;go_wp2_with (at_builtin;refine Lib.wpList_append_own_stringF _ rfl _ _ 88 9 rfl B 5 i0 Tryz.underlying88 Tryz.underlying9 hi XU X7 Xy _ _ _ rfl Xn s rfl ?c3 ?c4 ?c5 ?_)
 case c3=>unfold maxLen;omega
 case c4=>omega
 case c5=>have:=Xp.size;omega
 intro v' w2 Rx hgrow _;have EK:qf w2 b 90 #[.pointer (some ⟨b,0,none⟩),v]:=hk.grown hgrow (fun e=>Xl e.symm);have d0:w2.cell? ⟨b,0,none⟩=some (.pointer (some ⟨b,0,none⟩)):=EK.cell 0;have d1:w2.cell? ⟨b,1,none⟩=some v:=EK.cell 1;have f1:=EK.frozen 1;obtain⟨ao,n',cap,rfl⟩:∃ao n' cap,v'= .slice ao n' cap:=by
  rcases Rx.2 with⟨hv,_⟩|⟨g,cap,cur,fz,hv,_⟩
  ·exact⟨_,_,_,hv⟩
  ·exact⟨_,_,_,hv⟩
 go_wp2
 go_ret2
 refine⟨rfl,?_,?_,(Dz.grown hgrow (Lib.ownsRowF_kind Xn)).setCell ⟨b,1,none⟩ rfl _⟩
 ·exact Lib.BuilderAtF.put (T:=90) (e:=5) hB EK (bs':=bs++Lib.strCells s) (by simpa[Lib.strCells_length]using Rx) (by decide)
 ·exact(Xp.grown hgrow (by have:=Xp.size;omega) (fun k hk=>(Xn.lt k hk).1)).setCell (p:=⟨b,1,none⟩) hB _
theorem qaW(B b:Nat)(bs:List Value)(c:Int)(w:World)(h:Lib.IsBuilderF 90 5 B b bs w)(XC:bs.length+1<=140737488355328)(Vh:B<=w.heap.size):
 Calls Tryz.prog 92 #[.pointer (some ⟨b,0,none⟩),.int .u8 c] w fun e w'=>e= .returned .nilIface/\qhQ B b (bs++[.int .u8 c]) w w':=by
 obtain⟨i0,hi,XU,X7,Xy⟩:=qO Tryz.infoU8;have HC:=Gh (QF B b bs w h);clear h;go_enter Tryz.func92,Tryz.ntmps92
 go_wp2_with fail
 refine HC.out.mono ?_;rintro e w1 ⟨rfl,h1,Xp,Dz⟩;obtain⟨hB,v,UH,Xn,Xl⟩:=h1;have hk:qf w1 b 90 #[.pointer (some ⟨b,0,none⟩),v]:=UH;have c0:w1.cell? ⟨b,0,none⟩=some (.pointer (some ⟨b,0,none⟩)):=hk.cell 0;have c1:w1.cell? ⟨b,1,none⟩=some v:=hk.cell 1;go_wp2_with (at_builtin;refine wpList_append_ownF _ rfl _ _ 88 rfl B 5 i0 (.int .u8 0) 1 1 Tryz.underlying88 hi XU X7 Xy rfl (by decide) _ _ _ rfl (Xn.alloc _) ⟨w1.heap.size,0,none⟩ 1 1 [.int .u8 c] rfl rfl ?c1 ?c2 ?c3 ?c4 ?c5 ?_)
 case c1=>
  intro j u hj
  match j,hj with
  |0,hj=>simp at hj;subst hj;simp[Addr.add]
 case c2=>intro u hu;simp at hu;subst hu;rfl
 case c3=>unfold maxLen;omega
 case c4=>omega
 case c5=>have:=Xp.size;simp;omega
 intro v' w2 Rx hgrow _;have EK:qf w2 b 90 #[.pointer (some ⟨b,0,none⟩),v]:=(hk.alloc _).grown hgrow (fun e=>Xl e.symm);have d0:w2.cell? ⟨b,0,none⟩=some (.pointer (some ⟨b,0,none⟩)):=EK.cell 0;have d1:w2.cell? ⟨b,1,none⟩=some v:=EK.cell 1;have f1:=EK.frozen 1;obtain⟨g,cap,rfl⟩:∃g cap,v'= .slice (some ⟨g,0,none⟩) (bs.length+1) cap:=by
  rcases Rx.2 with⟨_,h0⟩|⟨g,cap,cur,fz,hv,_⟩
  ·omega
  ·exact⟨g,cap,hv⟩
 go_wp2
 go_ret
 refine⟨rfl,?_,?_,((Dz.alloc _).grown hgrow (Lib.ownsRowF_kind (Xn.alloc _))).setCell ⟨b,1,none⟩ rfl _⟩
 ·exact Lib.BuilderAtF.put (T:=90) (e:=5) hB EK (bs':=bs++[.int .u8 c]) (by simpa using Rx) (by decide)
 ·exact((Xp.alloc (by have:=Xp.size;omega) _).grown hgrow (by have:=Xp.size;simp;omega) (fun k hk=>(Xn.lt k hk).1)).setCell (p:=⟨b,1,none⟩) hB _
def BK(B b n:Nat)(w:World):Prop:=∃l:List UInt8,l.length<=n/\Lib.IsBuilderF 90 5 B b (Lib.byteCells l) w
theorem BK.old{B b n:Nat}{w w':World}(h:BK B b n w)(hb:Below w.heap.size w w'):BK B b n w':=by
 obtain⟨l,hl,h⟩:=h;have key:∀p,Lib.BuilderAtF 90 5 B b p (Lib.byteCells l) w->Lib.BuilderAtF 90 5 B b p (Lib.byteCells l) w':=by
  rintro p ⟨h1,v,h2,h3,h4⟩;refine⟨h1,v,(hb.block b (Array.getElem?_eq_some_iff.1 h2).1).trans h2,⟨h3.1,?_⟩,h4⟩;rcases h3.2 with k|⟨g,cap,cur,fz,k1,k2,k3,k4⟩
  ·exact .inl k
  ·exact .inr ⟨g,cap,cur,fz,k1,k2,(hb.block g (Array.getElem?_eq_some_iff.1 k3).1).trans k3,k4⟩
 exact⟨l,hl,h.imp (key _) (key _)⟩
theorem BK.mono{B b n n':Nat}{w:World}(h:BK B b n w)(hn:n<=n'):BK B b n' w:=by
 obtain⟨t,hl,h⟩:=h;exact⟨t,Gl hl hn,h⟩
def Wk(B b:Nat)(w w':World):Prop:=Below B w w'/\Lib.OthersKept 5 (some b) w w'
theorem Wk.trans{B b:Nat}{u v w:World}(h:Wk B b u v)(k:Wk B b v w):Wk B b u w:=⟨h.1.trans k.1,h.2.trans k.2⟩
theorem Wk.of_below{B b:Nat}{v w:World}(hB:B<=v.heap.size)(k:Below v.heap.size v w):Wk B b v w:=⟨k.mono hB,fun i _ h _ _=>(k.block i (Array.getElem?_eq_some_iff.1 h).1).trans h⟩
theorem Wk.blk{B b g:Nat}{w w':World}{t:TypeId}{cs:Array Value}(h:Wk B b w w')(hb:qf w g t cs)(hg:g≠b)(ht:t≠5):qf w' g t cs:=
 h.2 g _ hb (fun e=>hg (Option.some.inj e)) (fun c fz e=>ht (by injection e))
theorem yS(B b n:Nat)(x:UInt8)(w:World)(h:BK B b n w)(hn:n<=100000000000)(hB:B<=w.heap.size):
 Calls Tryz.prog 92 #[.pointer (some ⟨b,0,none⟩),.int .u8 (x.toNat:Int)] w fun e w'=>e= .returned .nilIface/\BK B b (n+1) w'/\Wk B b w w':=by
 obtain⟨l,hl,h⟩:=h;refine(qaW B b _ (x.toNat:Int) w h (by rw[Lib.byteCells_length];omega) hB).mono ?_;rintro e w' ⟨rfl,h1,h2,h3⟩;refine⟨rfl,⟨l++[x],by rw[List.length_append,List.length_singleton];omega,?_⟩,h2,h3⟩;rw[Lib.byteCells_append];exact .inr h1
theorem zc(B b n m:Nat)(s:ByteArray)(hs:s.size<=m)(w:World)(h:BK B b n w)(hn:n+m<=100000000000)(hB:B<=w.heap.size):
 Calls Tryz.prog 58 #[.pointer (some ⟨b,0,none⟩),.string s] w fun e w'=>e= .returned (.tuple #[.int .i64 s.size,.nilIface])/\BK B b (n+m) w'/\Wk B b w w':=by
 obtain⟨l,hl,h⟩:=h;refine(Zs B b _ s w h (by rw[Lib.byteCells_length];omega) hB).mono ?_;rintro e w' ⟨rfl,h1,h2,h3⟩;have e1:s.data.toList.length=s.size:=by rw[Array.length_toList];rfl
 refine⟨rfl,⟨l++s.data.toList,by rw[List.length_append,e1];omega,?_⟩,h2,h3⟩;rw[Lib.byteCells_append,<-Lib.strCells_eq];exact .inr h1
def yF(B:Nat)(w:World):Prop:=Lib.TabBelow Tryz.prog B w "internal/strconv.uint64pow10" .u64 Lib.pow10Tab
theorem Qo(B:Nat)(x:Int)(h0:-9223372036854775808<=x)(h1:x<=9223372036854775807)(w:World)(ht:yF B w):Calls Tryz.prog 59 #[.int .i64 x] w fun e w'=>∃s:ByteArray,e= .returned (.string s)/\s.size<=30/\Below w.heap.size w w':=by
 refine(Tryz.strconv_Itoa x h0 h1 w ht.here).mono ?_;rintro e w' ⟨rfl,k,os,h⟩;refine⟨_,rfl,?_,(show yV w w' from⟨k,os,h⟩).below⟩;have hd:∀u:Nat,u<=9223372036854775808->(Lib.decDigits u).length<=25:=fun u hu=>by
  rw[Lib.decDigits_length];rcases Nat.eq_zero_or_pos u with rfl|h0
  ·rw[Lib.nDigits_small (by omega)];omega
  ·have:=Lib.numDigits_eq u h0 (by omega)
   split at this<;>omega
 show(Lib.itoa x).toArray.size<=30;rw[List.size_toArray];unfold Lib.itoa
 split
 ·rw[List.length_cons];have:=hd x.natAbs (by omega);omega
 ·have:=hd x.toNat (by omega);omega
theorem qgC(u:Nat)(hu:u<18446744073709551616)(B:Nat)(w:World)(ht:yF B w):Calls Tryz.prog 93 #[.int .u64 u,.int .i64 10] w fun e w'=>∃s:ByteArray,e= .returned (.string s)/\s.size<=30/\Below w.heap.size w w':=by
 refine(qaN u hu w ht.here).mono ?_;rintro e w' ⟨rfl,k,os,h⟩;refine⟨_,rfl,?_,(show yV w w' from⟨k,os,h⟩).below⟩;show(Lib.decDigits u).toArray.size<=30;rw[List.size_toArray,Lib.decDigits_length];rcases Nat.eq_zero_or_pos u with rfl|h0
 ·rw[Lib.nDigits_small (by omega)];omega
 ·have:=Lib.numDigits_eq u h0 (by omega)
  split at this<;>omega
def Yz:Nat->Nat
 |0=>0
 |D+1=>3200+9*Yz D
def Yv(B b m:Nat)(w:World)(e:Ending)(w':World):Prop:=e= .returned (.tuple #[])/\BK B b m w'/\Wk B b w w'
theorem BK.lt{B b n:Nat}{w:World}(h:BK B b n w):b<w.heap.size:=by
 obtain⟨t,_,h|h⟩:=h
 ·exact h.lt
 ·exact h.lt
theorem Wk.old{B b:Nat}{u v w:World}(h:Wk B b u v)(hB:B<=v.heap.size)(k:Below v.heap.size v w):Wk B b u w:=h.trans (Wk.of_below hB k)
set_option maxHeartbeats 4000000
theorem qbZ(D:Nat)(hI:∀(t:RP),qC t<=D->qv t=true->qN 100 9 t->∀(A:Oa)(c:Nat)(K:Oa)(kc B b n:Nat)(w:World),B<=w.heap.size->RV w (· <B) t (qe t A c K kc)->BK B b n w->n+Yz D<=10000000000->yF B w->
 Calls Tryz.prog 60 #[.pointer (some ⟨b,0,none⟩),qm t A c K kc] w (Yv B b (n+Yz D) w))
 (t:RP)(hD:qC t<=D+1)(hc:qv t=true)(hw:qN 100 9 t)(A:Oa)(c:Nat)(K:Oa)(kc B b n:Nat)(w:World)(hB:B<=w.heap.size)(h:RV w (· <B) t (qe t A c K kc))(hk:BK B b n w)(hn:n+Yz (D+1)<=10000000000)(ht:yF B w):
 Calls Tryz.prog 60 #[.pointer (some ⟨b,0,none⟩),qm t A c K kc] w (Yv B b (n+Yz (D+1)) w):=by
 have Xb:=Gb w (.cells #[.int .i64 t.lv,.bool t.ng,.slice A t.ds.length c,.slice K t.ks.length kc] 28);have DG:=Gh (qf.new w 28 #[.int .i64 t.lv,.bool t.ng,.slice A t.ds.length c,.slice K t.ks.length kc]);have SM:=qJ hc;have KD:=Gh SM;have VL:=Gh (show w.heap.size≠b from Nat.ne_of_gt hk.lt);have U5:=Gh (fun(u:RP)(hu:u∈t.ks)=>hI u (by have:=qY hu;omega) (by
  rcases qz hc with⟨_,k,_⟩|⟨_,_,_,_,_,q,_⟩
  ·rw[k]at hu;cases hu
  ·exact(q u hu).2) (hw.at_.2.2 u hu))
 have TI:=Gh (show Yz (D+1)=3200+9*Yz D from rfl);have DP:=Gh hw.at_.1;have WU:=Gh hw.at_.2.1;have Xh:=Gh (Wk.of_below (b:=b) hB Xb);have Xo:=Gh (hk.old Xb);have HR:=Gh (fun(X:World)(hX:Below B w X)=>h.below hX);have HT:=Gh (fun(X:World)(hX:Below B w X)=>(Lib.TabBelow.on ht hX:yF B X));have KY:=Gh hB;have UO:=Gh hn;have Ra:=Gh h.node.2.1;unfold qm at U5 ⊢;unfold Yv at U5;clear hI hD hc hw hB h hk hn ht Xb SM;generalize Dw:t.ng=g at*;generalize Uo:t.ds.length=dl at*;generalize TU:t.ks.length=kl at*;have TK:=Gh Uo.symm;have Tt:=Gh TU.symm;clear Dw Uo TU;go_enter Tryz.func60,Tryz.ntmps60
 go_upto_region 1 with(fail)
 generalize w.alloc (.cells #[.int .i64 t.lv,.bool g,.slice A dl c,.slice K kl kc] 28)=W at*;have XJ:=Gh (show B<=W.heap.size from Gl KY Xh.out.1.size);have UK:=Gh (yS B b n 91 W Xo (by have:=UO.out;omega) XJ);go_wp2_with fail
 refine UK.out.mono ?_;rintro e w1 ⟨rfl,Dz,F4⟩;have x0:=(F4.blk DG VL (by decide)).cell 0;have TZ:=Gh (Qo B t.lv (by have:=KD.out;omega) (by have:=KD.out;omega) w1 (HT w1 (Xh.out.1.trans F4.1)));have Xu:=Gh Dz;have Nd:=Gh F4;clear Dz F4 UK;go_wp2_with fail
 refine TZ.out.mono ?_;rintro e w2 ⟨s,rfl,hs,Xf⟩;have XA:=Gh (Xu.out.old Xf);have RE:=Gh (Nd.out.old (Gl XJ Nd.out.1.size) Xf);have Uj:=Gh (zc B b (n+1) 30 s hs w2 XA (by have:=UO.out;have:=TI.out;omega) (Gl XJ RE.out.1.size));clear Xf hs x0 TZ Xu Nd;go_wp2_with fail
 refine Uj.out.mono ?_;rintro e w3 ⟨rfl,Rz,BA⟩;have Uk:=Gh Rz;have ES:=Gh (RE.out.trans BA);clear Rz BA Uj XA RE;have AF:=ES.out.blk DG VL (by decide);have x0:=AF.cell 0;have x1:=AF.cell 1;have x2:=AF.cell 2;clear AF;go_upto_if 17 with(fail)
 go_cut []from 17 (fun wc=>BK B b (n+1+30+3101) wc/\Wk B b W wc)
 case first=>
  by_cases h0:t.lv=0
  ·have e0:(t.lv==0)=true:=by simp[h0]
   clear h0;go_upto_if 20 with(fail)
   go_cut []from 17 (fun wc=>BK B b (n+1+30+1) wc/\Wk B b W wc)
   case first=>
    cases g with
    |true=>
     have Xw:=Gh (yS B b (n+1+30) 45 w3 Uk (by have:=UO.out;have:=TI.out;omega) (Gl XJ ES.out.1.size));go_wp2_with fail
     refine Xw.out.mono ?_;rintro e w4 ⟨rfl,Xj,VX⟩;have HM:=Gh (And.intro Xj (ES.out.trans VX));clear Xj VX;go_wp2_with fail
     go_meet
     exact HM
    |false=>
     go_wp2_with fail
     go_meet
     exact⟨Uk.out.mono (by omega),ES⟩
   case rest=>
    obtain⟨Xj,VX⟩:=hcut;have Vd:=Gh Xj;have Sd:=Gh VX;have x2:=(VX.blk DG VL (by decide)).cell 2;clear Xj VX Uk ES x0 x1;have hd100:dl<=100:=by have:=DP.out;omega
    go_wp2_with fail
    clear x2;go_loopg [5,27] dl (fun gn _ ix wr=>∃j:Nat,j<=dl/\gn=dl-j/\ix= .int .i64 j/\BK B b (n+1+30+1+31*j) wr/\Wk B b W wr)
    case atStart=>exact⟨0,Nat.zero_le _,rfl,rfl,Vd,Sd⟩
    case round=>
     obtain⟨j,hj,XI,rfl,Uv,Vf⟩:=hrel;have HG:=Gh XI;have Xm:=Gh Uv;have BU:=Gh Vf;clear XI Uv;by_cases Xi:j<dl
     ·obtain⟨d,hd⟩:∃d,t.ds[j]? =some d:=⟨_,Gn (by rw[<-TK.out];exact Xi)⟩;have Db:d<4294967296:=Ra.out d (Gk hd);have SL:=(HR wr (Xh.out.1.trans Vf.1)).natIn;obtain⟨bd,od,rfl,-,TO⟩:=SL.rd.2 (by rw[<-TK.out];omega);have y0:=TO j (.int .u32 (d:Int)) (by unfold qp;rw[List.getElem?_map,hd];rfl);have i0:(0:Int)<=(j:Int):=by omega
      have i1:(j:Int)<(dl:Int):=by omega
      have i2:(dl:Int)<=(c:Int):=by have:=SL.cap;have:=TK.out;omega
      have e1:IntKind.u64.wrap (d:Int)=(d:Int):=by rw[IntKind.wrap_u64];omega
      have e2:IntKind.i64.wrap ((j:Int)+1)=(j:Int)+1:=IntWalk.i64_in _ (by omega);have HDU:=Gh Db;have Ue:=Gh (yS B b (n+1+30+1+31*j) 32 wr Xm (by have:=UO.out;have:=TI.out;omega) (Gl XJ Vf.1.size));clear SL TO hd Db Vf;go_wp2_with fail
      refine Ue.out.mono ?_;rintro e w5 ⟨rfl,RN,S3⟩;have RJ:=Gh RN;have Ev:=Gh (BU.out.trans S3);have Kk:=Gh (qgC d (by have:=HDU.out;omega) B w5 (HT w5 (Xh.out.1.trans Ev.out.1)));clear RN S3 Ue y0;go_wp2_with fail
      refine Kk.out.mono ?_;rintro e w6 ⟨s6,rfl,IG,XY⟩;have SX:=Gh (RJ.out.old XY);have Fu:=Gh (Ev.out.old (Gl XJ Ev.out.1.size) XY);have MO:=Gh (zc B b _ 30 s6 IG w6 SX (by have:=UO.out;have:=TI.out;omega) (Gl XJ Fu.out.1.size));clear XY IG Kk;go_wp2_with fail
      refine MO.out.mono ?_;rintro e w7 ⟨rfl,BL,Ls⟩;have Sh:=Gh BL;have C1:=Gh (Fu.out.trans Ls);clear BL Ls MO;go_wp2_with fail
      go_roundg (dl-(j+1))
      case rel=>exact⟨j+1,by omega,rfl,by go_num,Sh.out.mono (by omega),C1⟩
      case measure=>have:=HG.out;omega
     ·obtain rfl:j=dl:=by omega
      clear Vf;go_wp2_with fail
      go_meet
      exact⟨Xm.out.mono (by omega),BU⟩
  ·have e0:(t.lv==0)=false:=by simp[h0]
   clear h0;go_wp2_with fail
   go_meet
   exact⟨Uk.out.mono (by omega),ES⟩
 case rest=>
  obtain⟨Xj,VX⟩:=hcut;have Vd:=Gh Xj;have Sd:=Gh VX;have x3:=(VX.blk DG VL (by decide)).cell 3;clear Xj VX Uk ES x0 x1 x2;have Cy:kl<=9:=by have:=WU.out;omega
  go_wp2_with fail
  clear x3;go_loopg [7,42] kl (fun gn _ ix wr=>∃j:Nat,j<=kl/\gn=kl-j/\ix= .int .i64 j/\BK B b (n+3132+Yz D*j) wr/\Wk B b W wr)
  case atStart=>exact⟨0,Nat.zero_le _,rfl,rfl,Vd.out.mono (by omega),Sd⟩
  case round=>
   obtain⟨j,hj,XI,rfl,Uv,Vf⟩:=hrel;have HG:=Gh XI;have Xm:=Gh Uv;have BU:=Gh Vf;have hjm:=Nat.mul_le_mul_left (Yz D) (Gl hj Cy);clear XI Uv;by_cases Xi:j<kl
   ·have NL:=Nat.mul_le_mul_left (Yz D) (Gl Xi Cy);rw[Nat.mul_succ]at NL;obtain⟨u,hu⟩:∃u,t.ks[j]? =some u:=⟨_,Gn (by rw[<-Tt.out];exact Xi)⟩;have So:=HR.out wr (Xh.out.1.trans Vf.1);obtain⟨bk,ok,A5,q5,K5,r5,rfl,-,y0,y1,y2,y3,XN⟩:=So.kid hu;have i0:(0:Int)<=(j:Int):=by omega
    have i1:(j:Int)<(kl:Int):=by omega
    have i2:(kl:Int)<=(kc:Int):=by have:=So.node.2.2.2;have:=Tt.out;omega
    have e2:IntKind.i64.wrap ((j:Int)+1)=(j:Int)+1:=IntWalk.i64_in _ (by omega);have Xc:=Gb wr (.cells (Gx u A5 q5 K5 r5) 28);have XV:B<=wr.heap.size:=Gl XJ Vf.1.size;have Nc:=Gh (BU.out.old XV Xc);have Ud:=Gh (U5 u (Gk hu) A5 q5 K5 r5 B b (n+3132+Yz D*j) _ (Gl XV Xc.size) (XN.below (Xc.mono XV)) (Xm.out.old Xc) (by have:=UO.out;have:=TI.out;omega) (HT _ (Xh.out.1.trans Nc.out.1)));clear So hu XN Xc XV Vf;go_wp2_with fail
    refine Ud.out.mono ?_;rintro e w5 ⟨rfl,RN,S3⟩;have RJ:=Gh RN;have Ev:=Gh (Nc.out.trans S3);clear RN S3 Ud Nc y0 y1 y2 y3;go_wp2_with fail
    go_roundg (kl-(j+1))
    case rel=>exact⟨j+1,by omega,rfl,by go_num,RJ.out.mono (by rw[Nat.mul_succ];omega),Ev⟩
    case measure=>have:=HG.out;omega
   ·obtain rfl:j=kl:=by omega
    have Ue:=Gh (yS B b (n+3132+Yz D*j) 93 wr Xm (by have:=UO.out;have:=TI.out;omega) (Gl XJ Vf.1.size));clear Vf;go_wp2_with fail
    refine Ue.out.mono ?_;rintro e w5 ⟨rfl,RN,S3⟩;have Xg:=Gh (And.intro (RN.mono (show _<=n+Yz (D+1)by have:=TI.out;omega)) (Xh.out.trans (BU.out.trans S3)));clear RN S3 Ue;go_wp2_with fail
    go_end0
    exact⟨rfl,Xg.out.1,Xg.out.2⟩
theorem yC:∀(D:Nat)(t:RP),qC t<=D->qv t=true->qN 100 9 t->∀(A:Oa)(c:Nat)(K:Oa)(kc B b n:Nat)(w:World),B<=w.heap.size->RV w (· <B) t (qe t A c K kc)->BK B b n w->n+Yz D<=10000000000->yF B w->
 Calls Tryz.prog 60 #[.pointer (some ⟨b,0,none⟩),qm t A c K kc] w (Yv B b (n+Yz D) w)
 |0,t,hD,_,_,_,_,_,_,_,_,_,_,_,_,_,_,_=>by cases t;simp only[qC]at hD;omega
 |D+1,t,hD,hc,hw,A,c,K,kc,B,b,n,w,hB,h,hk,hn,ht=>qbZ D (yC D) t hD hc hw A c K kc B b n w hB h hk hn ht
