import Derived.Lib.QuietBelow
import Derived.Test.YtflikmojaidhhaaGreatPq19
import Derived.Test.YtflikmojaidhhaaGreatPq22
namespace Go.Proofs.YtflikmojaidhhaaGreat
open Go.RowKit
def rB(P Z:Nat):Nat→Nat
 |0=>Z
 |l+1=>1+5*(P+rB P Z l+1)
theorem qjZ(P Z l:Nat):rB P Z l≤rB P Z (l+1):=by
 show _≤1+5*(P+rB P Z l+1);omega
theorem Yy(P Z:Nat){l l':Nat}(h:l≤l'):rB P Z l≤rB P Z l':=by
 induction l' with
 |zero=>
  obtain rfl:l=0:=by omega
  exact Nat.le_refl _
 |succ n ih=>
  by_cases he:l=n+1
  ·subst he;exact Nat.le_refl _
  ·exact Nat.le_trans (ih (by omega)) (qjZ P Z n)
theorem qkQ(P Z l:Nat):Z≤rB P Z l:=Yy P Z (Nat.zero_le l)
theorem qh4{pt:Nat→Rat}{x:Rat}{P M:Nat}(hP:0<P)(hx:RL x P):∀(ks:List RP),(∀u∈ks,RL (vT pt u) M)→RL (vL pt x ks) (1+ks.length*(P+M+1))
 |[],_=>by
  rw[show vL pt x []=0 from rfl];exact RL.zero (by omega)
 |t::ts,h=>by
  rw[show vL pt x (t::ts)=vT pt t+x*vL pt x ts from rfl];have h1:=qh4 hP hx ts (fun u hu=>h u (List.mem_cons_of_mem _ hu));refine((h t List.mem_cons_self).add (hx.mul h1)).mono ?_;rw[List.length_cons,Nat.succ_mul];omega
theorem qeE{P Z:Nat}(hP:0<P)(hZ:0<Z){pt:Nat→Rat}(hp:∀i,RL (pt i) P):∀(t:RP),qj t=true→qM Z 5 t→qG t→RL (vT pt t) (rB P Z t.lv.toNat)
 | .mk l g ds ks,hc,hw,hd=>by
   rcases qr hc with⟨h0,hk0,hc0⟩|⟨h1,h4,hd0,hg0,hk2,hkk,_⟩
   ·rw[zI,if_pos (by omega)];refine(RL.int hZ ?_).mono (qkQ P Z _);rw[qz];exact Q1 hd.at_.1 hw.at_.1
   ·rw[zI,if_neg (by omega),if_neg (by omega)];have hrec:∀u∈ks,RL (vT pt u) (rB P Z (l.toNat-1)):=fun u hu=>
     (qeE hP hZ hp u (hkk u hu).2 (hw.at_.2.2 u hu) (hd.at_.2 u hu)).mono (Yy P Z (by have h5:u.lv<l:=(hkk u hu).1;have:=(jK (hkk u hu).2).1;omega))
    refine(qh4 hP (hp _) ks hrec).mono ?_;have hl:(RP.mk l g ds ks).lv.toNat=(l.toNat-1)+1:=by have h6:1≤l:=h1;show l.toNat=_;omega
    rw[hl];show _≤1+5*_;have:ks.length≤5:=hw.at_.2.1;exact Nat.add_le_add_left (Nat.mul_le_mul_right _ this) 1
termination_by t=>qv t
decreasing_by exact qD hu
theorem qjN(pt:Nat→Rat)(a:Rat){ks:List RP}{j:Nat}{u:RP}(h:ks[j]? =some u):vL pt a (ks.drop j)=vL pt a (ks.drop (j+1))*a+vT pt u:=by
 obtain⟨h1,h2⟩:=List.getElem?_eq_some_iff.1 h;rw[List.drop_eq_getElem_cons h1,h2];show vT pt u+a*_=_
 grind
def qbL(q:Rat)(A:Option Addr)(c:Nat)(D:Option Addr)(cd:Nat):Array Value:=#[.bool (decide (q.num<0)),.slice A (dig q.num.natAbs).length c,.slice D (dig q.den).length cd]
structure EvJ (w W:World) (g:Nat) (rc:Array Value) (q:Rat) (A:Option Addr) (c:Nat) (D:Option Addr) (cd:Nat):Prop where
 bel:Below w.heap.size w W
 box:qd W w.heap.size 28 rc
 res:qd W (w.heap.size+1) 30 #[.bool false,.slice none 0 0,.slice none 0 0]
 gt:w.heap.size+1<g
 sum:qd W g 30 (qbL q A c D cd)
 l1:(dig q.num.natAbs).length≤c
 l2:(dig q.den).length≤cd
 n1:qk W A (dig q.num.natAbs)
 n2:qk W D (dig q.den)
theorem EvJ.put{w W W':World}{g:Nat}{rc:Array Value}{q r:Rat}{A D A' D':Option Addr}{c cd c' cd':Nat}(h:EvJ w W g rc q A c D cd)(hb:Below W.heap.size W W')(l1:(dig r.num.natAbs).length≤c')(l2:(dig r.den).length≤cd')(n1:qk W' A' (dig r.num.natAbs))(n2:qk W' D' (dig r.den)):
 EvJ w (((W'.setCell ⟨g,0,none⟩ (.bool (decide (r.num<0)))).setCell ⟨g,1,none⟩ (.slice A' (dig r.num.natAbs).length c')).setCell ⟨g,2,none⟩ (.slice D' (dig r.den).length cd')) g rc r A' c' D' cd':=by
 have hs:=h.sum.old hb;have hg:=h.gt;refine⟨(((h.bel.trans (hb.mono h.bel.size)).setCell (p:=⟨g,0,none⟩) (by show w.heap.size≤g;omega) _).setCell (p:=⟨g,1,none⟩) (by show w.heap.size≤g;omega) _).setCell (p:=⟨g,2,none⟩) (by show w.heap.size≤g;omega) _,
  (((h.box.old hb).far (p:=⟨g,0,none⟩) (by show w.heap.size≠g;omega) _).far (p:=⟨g,1,none⟩) (by show w.heap.size≠g;omega) _).far (p:=⟨g,2,none⟩) (by show w.heap.size≠g;omega) _,
  (((h.res.old hb).far (p:=⟨g,0,none⟩) (by show w.heap.size+1≠g;omega) _).far (p:=⟨g,1,none⟩) (by show w.heap.size+1≠g;omega) _).far (p:=⟨g,2,none⟩) (by show w.heap.size+1≠g;omega) _,
  hg,((hs.set_ 0 _).set_ 1 _).set_ 2 _,l1,l2,qk.keepTwo hs (by decide) _ _ _ n1,qk.keepTwo hs (by decide) _ _ _ n2⟩
theorem EvJ.start{w W:World}{rc:Array Value}{q:Rat}{A D:Option Addr}{c cd:Nat}(hb:Below w.heap.size w W)(hbx:qd W w.heap.size 28 rc)(hr:qd W (w.heap.size+1) 30 #[.bool false,.slice none 0 0,.slice none 0 0])
 (l1:(dig q.num.natAbs).length≤c)(l2:(dig q.den).length≤cd)(n1:qk W A (dig q.num.natAbs))(n2:qk W D (dig q.den)):EvJ w (W.alloc (.cells (qbL q A c D cd) 30)) W.heap.size rc q A c D cd:=by
 have ha:=(Below.refl W.heap.size W).alloc (Nat.le_refl _) (.cells (qbL q A c D cd) 30);exact⟨hb.trans (ha.mono hb.size),hbx.alloc _,hr.alloc _,hr.lt,qd.new W _ _,l1,l2,n1.old ha,n2.old ha⟩
set_option maxHeartbeats 1000000
set_option maxRecDepth 100000
theorem qg7(t:RP)(h0:t.lv≤0)(A:Option Addr)(c:Nat)(K:Option Addr)(kc:Nat)(X:Option Addr)(n xc B:Nat)(w:World)(hB:B≤w.heap.size)(h:qh w B A c t.ds)(hm:t.ds.length≤1000000):
 Calls Tryz.prog 52 #[qn t A c K kc,.slice X n xc] w (qN ((qb t.ng t.ds:Int):Rat) w):=by
 obtain⟨hb0,k0,k1,hs⟩:=qK w 28 30 #[.int .i64 t.lv,.bool t.ng,.slice A t.ds.length c,.slice K t.ks.length kc] #[.bool false,.slice none 0 0,.slice none 0 0];have HF:=Lib.hid (qbx t.ng A c B t.ds _ (Nat.le_trans hB hb0.size) (h.below (hb0.mono hB)) hm);have HFIN:=Lib.hid (fun(w2:World)(A D:Option Addr)(c cd:Nat)(hk:qd w2 (w.heap.size+1) 30 #[.bool false,.slice none 0 0,.slice none 0 0]) l1 l2 n1 n2 hb=>qaP (q:=((qb t.ng t.ds:Int):Rat)) (w:=w) (w2:=w2) (g:=w.heap.size+1) (A:=A) (D:=D) (c:=c) (cd:=cd) hk (Nat.le_succ _) l1 l2 n1 n2 hb);have HB0:=Lib.hid hb0;have HK1:=Lib.hid k1;unfold qN at HF;generalize qN ((qb t.ng t.ds:Int):Rat) w=Post at*;generalize ((qb t.ng t.ds:Int):Rat)=q at*;unfold qn;clear hb0 k0 k1 hs h hm hB;generalize t.ds.length=dl at*;generalize t.ks.length=kl at*;generalize t.lv=lv at*;generalize t.ng=tg at*;go_enter Tryz.func52,Tryz.ntmps52
 go_wp2_with fail
 refine HF.out.mono ?_;rintro e w2 ⟨A2,c2,D2,e2,rfl,l2,l3,n2,n3,hb2⟩;have hk:=HK1.out.old hb2;have d0:=hk.cell 0;have d1:=hk.cell 1;have d2:=hk.cell 2;have f0:=hk.frozen 0;have f1:=hk.frozen 1;have f2:=hk.frozen 2;have z0:=hk.lt;have HR:=Lib.hid (HFIN.out w2 A2 D2 c2 e2 hk l2 l3 n2 n3 (HB0.out.trans (hb2.mono HB0.out.size)));clear hk hb2 l2 l3 n2 n3 HFIN;go_wp2_with fail
 exact qg Tryz.results52 rfl rfl HR.out.1 Tryz.underlying30 rfl Tryz.sizeRat HR.out.2
set_option maxHeartbeats 4000000
theorem qcW(P Z:Nat)(hP:0<P)(hZ:0<Z)(hPZ:rB P Z 4+P≤150000)(vs:List QT)(hv4:vs.length=4)(hvl:∀x∈vs,x.ds.length≤P∧x.es.length≤P):∀(D:Nat)(t:RP),qv t≤D→qj t=true→qM Z 5 t→∀(A:Option Addr)(c:Nat)(K:Option Addr)(kc xc B:Nat)(X:Option Addr)(w:World),B≤w.heap.size→
 RV w (· <B) t (qc t A c K kc)→jM w B X vs→4≤xc→
 Calls Tryz.prog 52 #[qn t A c K kc,.slice X 4 xc] w (qN (vT (yy vs) t) w)
 |0,t,hD,_,_,_,_,_,_,_,_,_,_,_,_,_,_=>by cases t;simp only[qv]at hD;omega
 |D+1,t,hD,hcn,hlw,A,c,K,kc,xc,B,X,w,hB,h,hri,hnx=>by
  rcases qr hcn with⟨hl0,hk0,hc0⟩|⟨hl1,hl4,hd0,hg0,hk2,hkk,_⟩
  ·have:=qg7 t (by omega) A c K kc X 4 xc B w hB h.natIn (by have:=hlw.at_.1;have:=qkQ P Z 4;omega);rw[zI,if_pos (by omega)];exact this
  obtain⟨i,hlv⟩:∃i:Nat,t.lv=(i:Int)+1:=⟨(t.lv-1).toNat,by omega⟩;have hi4:i<4:=by omega
  have IH:=Lib.hid (qcW P Z hP hZ hPZ vs hv4 hvl D);obtain⟨x,hx⟩:∃x,vs[i]? =some x:=⟨_,List.getElem?_eq_getElem (by omega)⟩;have hxm:=List.mem_of_getElem? hx;obtain⟨bx,ox,rfl,hbx,hx0,hx1,hx2⟩:=hri.at_ hx;have hpt:∀k,RL (yy vs k) P:=qeO hP (fun x hx=>⟨(hvl x hx).1,(hvl x hx).2,(hri.nn x hx).dg,(hri.nd x hx).dg⟩);have hqx:yy vs i=x.q:=qd2 hx;have hvt:vT (yy vs) t=vL (yy vs) (yy vs i) t.ks:=by
   rw[zI,if_neg (by omega),if_neg (by omega),show t.lv.toNat-1=i by omega]
  have hdt:qG t:=RV.digT _ _ h;have hkl:t.ks.length≤5:=hlw.at_.2.1;have HDD:=Lib.hid (fun(u:RP)(hu:u∈t.ks)=>show qv u≤D by have:=qD hu;omega);have HCC:=Lib.hid (fun(u:RP)(hu:u∈t.ks)=>And.intro (hkk u hu).2 (hlw.at_.2.2 u hu));have HUL:=Lib.hid (fun(u:RP)(hu:u∈t.ks)=>show RL (vT (yy vs) u) (rB P Z 3)from(qeE hP hZ hpt u (hkk u hu).2 (hlw.at_.2.2 u hu) (hdt.at_.2 u hu)).mono (Yy P Z (by have:=(hkk u hu).1;have:=(jK (hkk u hu).2).1;omega)));have HSL:=Lib.hid (fun(j:Nat)=>show RL (vL (yy vs) (yy vs i) (t.ks.drop j)) (rB P Z 4)from(qh4 hP (hpt i) (t.ks.drop j) (fun u hu=>HUL.out u (List.mem_of_mem_drop hu))).mono (by
   have:(t.ks.drop j).length≤5:=by rw[List.length_drop];omega
   show 1+(t.ks.drop j).length*(P+rB P Z 3+1)≤1+5*(P+rB P Z 3+1);exact Nat.add_le_add_left (Nat.mul_le_mul_right _ this) 1))
  have HPX:=Lib.hid (hpt i);have HXL:=Lib.hid (hvl x hxm);have HRI:=Lib.hid (fun(W:World)(hW:Below w.heap.size w W)=>hri.below (hW.mono hB));have HXN:=Lib.hid (fun(W:World)(hW:Below w.heap.size w W)=>And.intro ((hri.nn x hxm).below (hW.mono hB)) ((hri.nd x hxm).below (hW.mono hB)));have HQE:=Lib.hid (show mkRat (qb x.ng x.ds) (val x.es)=yy vs i from hqx.symm);rw[hvt];have hks:True:=trivial;have hkl0:=hkl;generalize yy vs i=a at*;clear hpt hqx hvt hdt hl1 hl4 hd0 hg0 hk2 hkk hcn hlw hD hxm hri;obtain⟨hb0,k0,k1,_⟩:=qK w 28 30 #[.int .i64 t.lv,.bool t.ng,.slice A t.ds.length c,.slice K t.ks.length kc] #[.bool false,.slice none 0 0,.slice none 0 0];obtain⟨q0,hq0⟩:∃q0:Rat,q0=0:=⟨_,rfl⟩;have HO:=Lib.hid (fun(W:World)=>show Calls Tryz.prog 95 #[.int .i64 0] W (qN q0 W)by rw[hq0];exact qjo 0 (by omega) (by omega) W);have HQ0:=Lib.hid hq0;clear hq0;unfold qN at HO;have HFIN:=Lib.hid (fun(w2:World)(A D:Option Addr)(c cd:Nat)(hk:qd w2 (w.heap.size+1) 30 #[.bool false,.slice none 0 0,.slice none 0 0]) l1 l2 n1 n2 hb=>qaP (q:=vL (yy vs) a t.ks) (w:=w) (w2:=w2) (g:=w.heap.size+1) (A:=A) (D:=D) (c:=c) (cd:=cd) hk (Nat.le_succ _) l1 l2 n1 n2 hb);generalize qN (vL (yy vs) a t.ks) w=Post at*;have HB0:=Lib.hid hb0;have HK0:=Lib.hid k0;have HK1:=Lib.hid k1;have HRV:=Lib.hid (fun(W:World)(hW:Below w.heap.size w W)=>h.below (hW.mono hB));have HCX:=Lib.hid (fun(W:World)(hW:Below w.heap.size w W)=>(⟨(hW.cell (p:=⟨bx,ox+i*3,none⟩) (Nat.lt_of_lt_of_le hbx hB)).trans hx0,(hW.cell (p:=⟨bx,ox+i*3+1,none⟩) (Nat.lt_of_lt_of_le hbx hB)).trans hx1,(hW.cell (p:=⟨bx,ox+i*3+2,none⟩) (Nat.lt_of_lt_of_le hbx hB)).trans hx2⟩:
   W.cell? ⟨bx,ox+i*3,none⟩=some (.bool x.ng)∧W.cell? ⟨bx,ox+i*3+1,none⟩=some (.slice x.A x.ds.length x.c)∧W.cell? ⟨bx,ox+i*3+2,none⟩=some (.slice x.D x.es.length x.cd)))
  have HKC:=Lib.hid h.node.2.2.2;have HBB:=Lib.hid hB;have HBX:=Lib.hid hbx;unfold qn;rw[hlv]at HB0 HK0 HK1 ⊢;clear hb0 k0 k1 h hx0 hx1 hx2 hks hlv hB hbx hx;generalize hnk:t.ks.length=nk at*;have HNK:=Lib.hid hnk;clear hnk;generalize t.ds.length=dl at*;generalize t.ng=tg at*;have e1:(i:Int)+1-1=(i:Int):=by omega
  have e2:IntKind.i64.wrap ((i:Int)+1-1)=(i:Int):=by rw[e1];exact IntWalk.i64_in _ (by omega)
  have i1:(i:Int)+1≤4:=by omega
  have i2:(i:Int)+1≤4:=by omega
  have i6:(4:Int)≤(xc:Int):=by omega
  have i7:¬(i:Int)+1≤0:=by omega
  have i3:(1:Int)≤(i:Int)+1:=by omega
  go_enter Tryz.func52,Tryz.ntmps52
  go_wp2_with fail
  generalize (w.alloc (.cells #[.int .i64 ((i:Int)+1),.bool tg,.slice A dl c,.slice K nk kc] 28)).alloc (.cells #[.bool false,.slice none 0 0,.slice none 0 0] 30)=W0 at*;refine(HO.out W0).mono ?_;rintro e w1 ⟨A1,c1,D1,d1,rfl,l1,l2,n1,n2,hb1⟩;have HST:=Lib.hid (EvJ.start (HB0.out.trans (hb1.mono HB0.out.size)) (HK0.out.old hb1) (HK1.out.old hb1) l1 l2 n1 n2);unfold qbL at HST;clear hb1 l1 l2 n1 n2 HB0 HK0 HK1 HO;go_upto_region 4 with(fail)
  generalize w1.alloc (.cells #[.bool (decide (q0.num<0)),.slice A1 (dig q0.num.natAbs).length c1,.slice D1 (dig q0.den).length d1] 30)=W1 at*;generalize w1.heap.size=g5 at*;have b3:W1.cell? ⟨w.heap.size,3,none⟩=some (.slice K nk kc):=HST.out.box.cell 3;go_wp2_with fail
  clear b3;go_loopg [6] nk (fun gn ix wr=>∃(j:Nat)(Aq:Option Addr)(cq:Nat)(Dq:Option Addr)(dq:Nat),j≤nk∧gn=j∧ix= .int .i64 ((j:Int)-1)∧EvJ w wr g5 #[.int .i64 ((i:Int)+1),.bool tg,.slice A dl c,.slice K nk kc] (vL (yy vs) a (t.ks.drop j)) Aq cq Dq dq)
  case atStart=>exact⟨nk,A1,c1,D1,d1,Nat.le_refl _,rfl,rfl,by rw[List.drop_of_length_le (by rw[HNK.out];exact Nat.le_refl _)];have:=HST.out;rw[HQ0.out]at this;exact this⟩
  case round=>
   clear HST;obtain⟨j,Aq,cq,Dq,dq,hj,hg,rfl,hev⟩:=hrel;have HG:=Lib.hid hg;clear hg;rcases j with _|j
   ·rw[show((0:Nat):Int)-1=-1 from rfl];rw[List.drop_zero]at hev;have HEV:=Lib.hid hev;generalize vL (yy vs) a t.ks=r at*;have s0:wr.cell? ⟨g5,0,none⟩=some (.bool (decide (r.num<0))):=hev.sum.cell 0;have s1:wr.cell? ⟨g5,1,none⟩=some (.slice Aq (dig r.num.natAbs).length cq):=hev.sum.cell 1;have s2:wr.cell? ⟨g5,2,none⟩=some (.slice Dq (dig r.den).length dq):=hev.sum.cell 2;have d0:=hev.res.cell 0;have d1:=hev.res.cell 1;have d2:=hev.res.cell 2;have f0:=hev.res.frozen 0;have f1:=hev.res.frozen 1;have f2:=hev.res.frozen 2;have z0:=hev.res.lt;have HR:=Lib.hid (HFIN.out wr Aq Dq cq dq hev.res hev.l1 hev.l2 hev.n1 hev.n2 hev.bel);clear hev HFIN;go_wp2_with fail
    exact qg Tryz.results52 rfl rfl HR.out.1 Tryz.underlying30 rfl Tryz.sizeRat HR.out.2
   ·rw[show((j+1:Nat):Int)-1=(j:Int)by omega];obtain⟨u,hu⟩:∃u,t.ks[j]? =some u:=⟨_,List.getElem?_eq_getElem (by have:=HNK.out;omega)⟩;obtain⟨b,o,Au,cu,Ku,ku,rfl,hbB,x0,x1,x2,x3,hku⟩:=(HRV.out wr hev.bel).kid hu;have hum:=List.mem_of_getElem? hu;have HST:=Lib.hid (qjN (yy vs) a hu);have hbw:=hev.bel.size;have HEC:=Lib.hid (fun(V:World)(hV:Below wr.heap.size wr V)=>IH.out u (HDD.out u hum) (HCC.out u hum).1 (HCC.out u hum).2 Au cu Ku ku xc wr.heap.size (some ⟨bx,ox,none⟩) V hV.size ((hku.more (Nat.le_trans HBB.out hbw)).below hV) (((HRI.out wr hev.bel).more (Nat.le_trans HBB.out hbw)).below hV) hnx);have HMU:=Lib.hid (fun(V:World)(hV:Below wr.heap.size wr V)=>show Calls Tryz.prog 97 _ V (qN (vL (yy vs) a (t.ks.drop (j+1))*a) V)from by
     have:=qh8 (decide ((vL (yy vs) a (t.ks.drop (j+1))).num<0)) x.ng Aq cq _ Dq dq _ x.A x.c x.ds x.D x.cd x.es wr.heap.size V hV.size ((RIn.made hev.l1 hev.l2 hev.n1 hev.n2).below hV).nm ((RIn.made hev.l1 hev.l2 hev.n1 hev.n2).below hV).dn (((HXN.out wr hev.bel).1.more (Nat.le_trans HBB.out hbw)).below hV) (((HXN.out wr hev.bel).2.more (Nat.le_trans HBB.out hbw)).below hV) (Nat.le_trans (HSL.out (j+1)).n (by omega)) (Nat.le_trans (HSL.out (j+1)).d (by omega)) (Nat.le_trans HXL.out.1 (by omega)) (Nat.le_trans HXL.out.2 (by omega));rw[qck,HQE.out]at this;exact this)
    have HAD:=Lib.hid (fun(V:World)(A:Option Addr)(c:Nat)(D:Option Addr)(cd:Nat)(A':Option Addr)(c':Nat)(D':Option Addr)(cd':Nat) a1 a2 a3 a4 b1 b2 b3 b4=>qlm (vL (yy vs) a (t.ks.drop (j+1))*a) (vT (yy vs) u) A c D cd A' c' D' cd' V.heap.size V (Nat.le_refl _) (RIn.made a1 a2 a3 a4) (RIn.made b1 b2 b3 b4) ((HSL.out (j+1)).mul HPX.out) (HUL.out u hum) (by omega) (by have:=Yy P Z (show 3≤4 by omega);omega));unfold qN at HEC HMU HAD;unfold rvl at HAD;rw[←HST.out]at HAD;obtain⟨cx0,cx1,cx2⟩:=HCX.out wr hev.bel;have HPUT:=Lib.hid (fun(W':World)(A' D':Option Addr)(c' cd':Nat) hb l1 l2 n1 n2=>hev.put (r:=vL (yy vs) a (t.ks.drop j)) (W':=W') (A':=A') (D':=D') (c':=c') (cd':=cd') hb l1 l2 n1 n2);have HEV:=Lib.hid hev;generalize hrr:vL (yy vs) a (t.ks.drop j)=r at*;have HRR:=Lib.hid hrr;clear hrr;generalize vL (yy vs) a (t.ks.drop (j+1))*a=pq at*;generalize vL (yy vs) a (t.ks.drop (j+1))=q at*;generalize vT (yy vs) u=cv at*;unfold qn at HEC;clear hum hu hku hev HST;generalize u.ds.length=ul at*;generalize u.ks.length=uk at*;generalize u.lv=uv at*;generalize u.ng=ug at*;have j3:(0:Int)≤(j:Int):=by omega
    have j4:(j:Int)<(nk:Int):=by omega
    have j5:(nk:Int)≤(kc:Int):=by have:=HKC.out;omega
    have j6:(i:Int)<4:=by omega
    have j7:(4:Int)≤(xc:Int):=by omega
    have hgt:=HEV.out.gt;have hbxl:bx<wr.heap.size:=Nat.lt_of_lt_of_le HBX.out (Nat.le_trans HBB.out hbw);have hbl:b<wr.heap.size:=Nat.lt_of_lt_of_le hbB (Nat.le_trans HBB.out hbw);have KF:=Lib.hid (fun(V:World)(hV:Below wr.heap.size wr V)=>(⟨(HEV.out.box.old hV).cell 0,(HEV.out.box.old hV).cell 3,(hV.cell (p:=⟨bx,ox+i*3,none⟩) hbxl).trans cx0,(hV.cell (p:=⟨bx,ox+i*3+1,none⟩) hbxl).trans cx1,(hV.cell (p:=⟨bx,ox+i*3+2,none⟩) hbxl).trans cx2,(hV.cell (p:=⟨b,o+j*4,none⟩) hbl).trans x0,(hV.cell (p:=⟨b,o+j*4+1,none⟩) hbl).trans x1,(hV.cell (p:=⟨b,o+j*4+2,none⟩) hbl).trans x2,(hV.cell (p:=⟨b,o+j*4+3,none⟩) hbl).trans x3⟩:
     V.cell? ⟨w.heap.size,0,none⟩=some (.int .i64 ((i:Int)+1))∧V.cell? ⟨w.heap.size,3,none⟩=some (.slice (some ⟨b,o,none⟩) nk kc)∧V.cell? ⟨bx,ox+i*3,none⟩=some (.bool x.ng)∧V.cell? ⟨bx,ox+i*3+1,none⟩=some (.slice x.A x.ds.length x.c)∧V.cell? ⟨bx,ox+i*3+2,none⟩=some (.slice x.D x.es.length x.cd)∧V.cell? ⟨b,o+j*4,none⟩=some (.int .i64 uv)∧V.cell? ⟨b,o+j*4+1,none⟩=some (.bool ug)∧V.cell? ⟨b,o+j*4+2,none⟩=some (.slice Au ul cu)∧V.cell? ⟨b,o+j*4+3,none⟩=some (.slice Ku uk ku)))
    have q1:g5≠w.heap.size:=by omega
    have q2:g5≠bx:=by have:=HBX.out;have:=HBB.out;omega
    have q3:g5≠b:=by have:=HBB.out;omega
    have KS:=Lib.hid (fun(V:World)(hV:Below wr.heap.size wr V)(a1 a2 a3:Value)=>(⟨qE (KF.out V hV).1 q1 a1 a2 a3,qE (KF.out V hV).2.1 q1 a1 a2 a3,qE (KF.out V hV).2.2.1 q2 a1 a2 a3,qE (KF.out V hV).2.2.2.1 q2 a1 a2 a3,qE (KF.out V hV).2.2.2.2.1 q2 a1 a2 a3,qE (KF.out V hV).2.2.2.2.2.1 q3 a1 a2 a3,qE (KF.out V hV).2.2.2.2.2.2.1 q3 a1 a2 a3,qE (KF.out V hV).2.2.2.2.2.2.2.1 q3 a1 a2 a3,qE (KF.out V hV).2.2.2.2.2.2.2.2 q3 a1 a2 a3⟩:
     (((V.setCell ⟨g5,0,none⟩ a1).setCell ⟨g5,1,none⟩ a2).setCell ⟨g5,2,none⟩ a3).cell? ⟨w.heap.size,0,none⟩=some (.int .i64 ((i:Int)+1))∧(((V.setCell ⟨g5,0,none⟩ a1).setCell ⟨g5,1,none⟩ a2).setCell ⟨g5,2,none⟩ a3).cell? ⟨w.heap.size,3,none⟩=some (.slice (some ⟨b,o,none⟩) nk kc)∧(((V.setCell ⟨g5,0,none⟩ a1).setCell ⟨g5,1,none⟩ a2).setCell ⟨g5,2,none⟩ a3).cell? ⟨bx,ox+i*3,none⟩=some (.bool x.ng)∧(((V.setCell ⟨g5,0,none⟩ a1).setCell ⟨g5,1,none⟩ a2).setCell ⟨g5,2,none⟩ a3).cell? ⟨bx,ox+i*3+1,none⟩=some (.slice x.A x.ds.length x.c)∧(((V.setCell ⟨g5,0,none⟩ a1).setCell ⟨g5,1,none⟩ a2).setCell ⟨g5,2,none⟩ a3).cell? ⟨bx,ox+i*3+2,none⟩=some (.slice x.D x.es.length x.cd)∧(((V.setCell ⟨g5,0,none⟩ a1).setCell ⟨g5,1,none⟩ a2).setCell ⟨g5,2,none⟩ a3).cell? ⟨b,o+j*4,none⟩=some (.int .i64 uv)∧(((V.setCell ⟨g5,0,none⟩ a1).setCell ⟨g5,1,none⟩ a2).setCell ⟨g5,2,none⟩ a3).cell? ⟨b,o+j*4+1,none⟩=some (.bool ug)∧(((V.setCell ⟨g5,0,none⟩ a1).setCell ⟨g5,1,none⟩ a2).setCell ⟨g5,2,none⟩ a3).cell? ⟨b,o+j*4+2,none⟩=some (.slice Au ul cu)∧(((V.setCell ⟨g5,0,none⟩ a1).setCell ⟨g5,1,none⟩ a2).setCell ⟨g5,2,none⟩ a3).cell? ⟨b,o+j*4+3,none⟩=some (.slice Ku uk ku)))
    have KG:=Lib.hid (fun(V:World)(hV:Below wr.heap.size wr V)=>HEV.out.sum.old hV);clear q1 q2 q3 hbxl hbl cx0 cx1 cx2 x0 x1 x2 x3 hgt hbB hbw HEV;have hb:Below wr.heap.size wr wr.drew:=(qm.drew _).below _;have hb0:Below wr.heap.size wr wr:=Below.refl _ _;have s0:wr.drew.cell? ⟨g5,0,none⟩=some (.bool (decide (q.num<0))):=(KG.out _ hb).cell 0;have s1:wr.drew.cell? ⟨g5,1,none⟩=some (.slice Aq (dig q.num.natAbs).length cq):=(KG.out _ hb).cell 1;have s2:wr.drew.cell? ⟨g5,2,none⟩=some (.slice Dq (dig q.den).length dq):=(KG.out _ hb).cell 2;obtain⟨za,zb,zc,zd,ze,zf,zg,zh,zi⟩:=KF.out _ hb;have e3:IntKind.i64.wrap (i:Int)=(i:Int):=IntWalk.i64_in _ (by omega);have e4:(0:Int)≤(i:Int):=by omega
    have e5:(i:Int).toNat=i:=Int.toNat_natCast i;have hwj:IntKind.i64.wrap ((j:Int)-1)=(j:Int)-1:=IntWalk.i64_in _ (by have:=HKC.out;omega);go_wp2_with fail
    refine wp_region_held_drew (S:=fun w'=>w'.cell? ⟨w.heap.size,0,none⟩=some (.int .i64 ((i:Int)+1))∧w'.cell? ⟨w.heap.size,3,none⟩=some (.slice (some ⟨b,o,none⟩) nk kc)∧w'.cell? ⟨bx,ox+i*3,none⟩=some (.bool x.ng)∧w'.cell? ⟨bx,ox+i*3+1,none⟩=some (.slice x.A x.ds.length x.c)∧w'.cell? ⟨bx,ox+i*3+2,none⟩=some (.slice x.D x.es.length x.cd)∧w'.cell? ⟨b,o+j*4,none⟩=some (.int .i64 uv)∧w'.cell? ⟨b,o+j*4+1,none⟩=some (.bool ug)∧w'.cell? ⟨b,o+j*4+2,none⟩=some (.slice Au ul cu)∧w'.cell? ⟨b,o+j*4+3,none⟩=some (.slice Ku uk ku)) (by kernel_rfl) (KF.out _ hb) (fun hHeld=>?_);refine wpAnyH_take (i:=1) (v:=?v1) (by simp only[List.getElem?_toArray,List.getElem?_cons_succ,List.getElem?_cons_zero];rfl) (by kernel_rfl) (by kernel_rfl) (by kernel_rfl) (by exact fun _ _ _ h=>h) (Or.inl ⟨by rfl,?hy1⟩) (by assumption) ?rest1
    case hy1=>(intro w0 hSw;(try dsimp only at hSw);go_simp;(first|done|(with_reducible rfl)))
    simp only[Act.put,List.setIfInBounds_toArray,List.set_cons_zero,List.set_cons_succ];refine wpAnyH_take (i:=2) (v:=?v2) (by simp only[List.getElem?_toArray,List.getElem?_cons_succ,List.getElem?_cons_zero];rfl) (by kernel_rfl) (by kernel_rfl) (by kernel_rfl) (by exact fun _ _ _ h=>h) (Or.inl ⟨by rfl,?hy2⟩) (by assumption) ?rest2
    case hy2=>(intro w0 hSw;(try dsimp only at hSw);go_simp;(first|done|(with_reducible rfl)))
    simp only[Act.put,List.setIfInBounds_toArray,List.set_cons_zero,List.set_cons_succ];refine wpAnyH_take (i:=3) (v:=?v3) (by simp only[List.getElem?_toArray,List.getElem?_cons_succ,List.getElem?_cons_zero];rfl) (by kernel_rfl) (by kernel_rfl) (by kernel_rfl) (by exact fun _ _ _ h=>h) (Or.inl ⟨by rfl,?hy3⟩) (by assumption) ?rest3
    case hy3=>(intro w0 hSw;(try dsimp only at hSw);go_simp;(first|done|(with_reducible rfl)))
    simp only[Act.put,List.setIfInBounds_toArray,List.set_cons_zero,List.set_cons_succ];refine wpAnyH_take (i:=4) (v:=?v4) (by simp only[List.getElem?_toArray,List.getElem?_cons_succ,List.getElem?_cons_zero];rfl) (by kernel_rfl) (by kernel_rfl) (by kernel_rfl) (by exact fun _ _ _ h=>h) (Or.inl ⟨by rfl,?hy4⟩) (by assumption) ?rest4
    case hy4=>(intro w0 hSw;(try dsimp only at hSw);go_simp;(first|done|(with_reducible rfl)))
    simp only[Act.put,List.setIfInBounds_toArray,List.set_cons_zero,List.set_cons_succ];refine wpAnyH_take (i:=5) (v:=?v5) (by simp only[List.getElem?_toArray,List.getElem?_cons_succ,List.getElem?_cons_zero];rfl) (by kernel_rfl) (by kernel_rfl) (by kernel_rfl) (by exact fun _ _ _ h=>h) (Or.inl ⟨by rfl,?hy5⟩) (by assumption) ?rest5
    case hy5=>(intro w0 hSw;(try dsimp only at hSw);go_simp;(first|done|(with_reducible rfl)))
    simp only[Act.put,List.setIfInBounds_toArray,List.set_cons_zero,List.set_cons_succ];refine wpAnyH_take (i:=6) (v:=?v6) (by simp only[List.getElem?_toArray,List.getElem?_cons_succ,List.getElem?_cons_zero];rfl) (by kernel_rfl) (by kernel_rfl) (by kernel_rfl) (by exact fun _ _ _ h=>h) (Or.inl ⟨by rfl,?hy6⟩) (by assumption) ?rest6
    case hy6=>(intro w0 hSw;(try dsimp only at hSw);go_simp;(first|done|(with_reducible rfl)))
    simp only[Act.put,List.setIfInBounds_toArray,List.set_cons_zero,List.set_cons_succ];refine wpAnyH_take (i:=8) (v:=?v8) (by simp only[List.getElem?_toArray,List.getElem?_cons_succ,List.getElem?_cons_zero];rfl) (by kernel_rfl) (by kernel_rfl) (by kernel_rfl) (by exact fun _ _ _ h=>h) (Or.inl ⟨by rfl,?hy8⟩) (by assumption) ?rest8
    case hy8=>(intro w0 hSw;(try dsimp only at hSw);go_simp;(first|done|(with_reducible rfl)))
    simp only[Act.put,List.setIfInBounds_toArray,List.set_cons_zero,List.set_cons_succ];refine wpAnyH_take (i:=9) (v:=?v9) (by simp only[List.getElem?_toArray,List.getElem?_cons_succ,List.getElem?_cons_zero];rfl) (by kernel_rfl) (by kernel_rfl) (by kernel_rfl) (by exact fun _ _ _ h=>h) (Or.inl ⟨by rfl,?hy9⟩) (by assumption) ?rest9
    case hy9=>(intro w0 hSw;(try dsimp only at hSw);go_simp;(first|done|(with_reducible rfl)))
    simp only[Act.put,List.setIfInBounds_toArray,List.set_cons_zero,List.set_cons_succ];refine wpAnyH_take (i:=10) (v:=?v10) (by simp only[List.getElem?_toArray,List.getElem?_cons_succ,List.getElem?_cons_zero];rfl) (by kernel_rfl) (by kernel_rfl) (by kernel_rfl) (by exact fun _ _ _ h=>h) (Or.inl ⟨by rfl,?hy10⟩) (by assumption) ?rest10
    case hy10=>(intro w0 hSw;(try dsimp only at hSw);go_simp;(first|done|(with_reducible rfl)))
    simp only[Act.put,List.setIfInBounds_toArray,List.set_cons_zero,List.set_cons_succ];refine wpAnyH_take (i:=11) (v:=?v11) (by simp only[List.getElem?_toArray,List.getElem?_cons_succ,List.getElem?_cons_zero];rfl) (by kernel_rfl) (by kernel_rfl) (by kernel_rfl) (by exact fun _ _ _ h=>h) (Or.inl ⟨by rfl,?hy11⟩) (by assumption) ?rest11
    case hy11=>(intro w0 hSw;(try dsimp only at hSw);go_simp;(first|done|(with_reducible rfl)))
    simp only[Act.put,List.setIfInBounds_toArray,List.set_cons_zero,List.set_cons_succ];refine wpAnyH_take (i:=12) (v:=?v12) (by simp only[List.getElem?_toArray,List.getElem?_cons_succ,List.getElem?_cons_zero];rfl) (by kernel_rfl) (by kernel_rfl) (by kernel_rfl) (by exact fun _ _ _ h=>h) (Or.inl ⟨by rfl,?hy12⟩) (by assumption) ?rest12
    case hy12=>(intro w0 hSw;(try dsimp only at hSw);go_simp;(first|done|(with_reducible rfl)))
    simp only[Act.put,List.setIfInBounds_toArray,List.set_cons_zero,List.set_cons_succ];refine wpAnyH_take (i:=13) (v:=?v13) (by simp only[List.getElem?_toArray,List.getElem?_cons_succ,List.getElem?_cons_zero];rfl) (by kernel_rfl) (by kernel_rfl) (by kernel_rfl) (by exact fun _ _ _ h=>h) (Or.inl ⟨by rfl,?hy13⟩) (by assumption) ?rest13
    case hy13=>(intro w0 hSw;(try dsimp only at hSw);go_simp;(first|done|(with_reducible rfl)))
    simp only[Act.put,List.setIfInBounds_toArray,List.set_cons_zero,List.set_cons_succ];refine wpAnyH_ready (rs:=[0]) (by kernel_rfl) (by simp) ?_;refine AllReadyH.cons (by simp only[List.getElem?_toArray,List.getElem?_cons_zero];rfl) (fun K hK=>?_) AllReadyH.nil;go_simp
    refine hK.out _ _ (KF.out _ hb) (fun hHeld=>?_);clear hK K
    (try simp only[Act.put,List.setIfInBounds_toArray,List.set_cons_zero,List.set_cons_succ])
    refine wpAnyH_ready (rs:=[7]) (by kernel_rfl) (by simp) ?_;refine AllReadyH.cons (by simp only[List.getElem?_toArray,List.getElem?_cons_succ,List.getElem?_cons_zero];rfl) (fun K hK=>?_) AllReadyH.nil;go_simp
    go_at_call 97
    refine(HMU.out _ hb).mono ?_;rintro e w4 ⟨A3,c3,D3,d3,rfl,l3,m3,n3,p3,hk⟩
    replace hb:=hb.trans (hk.mono hb.size)
    go_simp
    refine hK.out _ _ (KF.out _ hb) (fun hHeld=>?_);clear hK K
    (try simp only[Act.put,List.setIfInBounds_toArray,List.set_cons_zero,List.set_cons_succ])
    refine wpAnyH_ready (rs:=[14]) (by kernel_rfl) (by simp) ?_;refine AllReadyH.cons (by simp only[List.getElem?_toArray,List.getElem?_cons_succ,List.getElem?_cons_zero];rfl) (fun K hK=>?_) AllReadyH.nil;go_simp
    go_at_call 52
    refine(HEC.out _ hb).mono ?_;rintro e w5 ⟨A4,c4,D4,d4,rfl,l4,m4,n4,p4,hk⟩
    replace n3:=qk.old n3 hk
    replace p3:=qk.old p3 hk
    replace hb:=hb.trans (hk.mono hb.size)
    go_simp
    refine hK.out _ _ (KF.out _ hb) (fun hHeld=>?_);clear hK K
    (try simp only[Act.put,List.setIfInBounds_toArray,List.set_cons_zero,List.set_cons_succ])
    refine wpAnyH_ready (rs:=[15]) (by kernel_rfl) (by simp) ?_;refine AllReadyH.cons (by simp only[List.getElem?_toArray,List.getElem?_cons_succ,List.getElem?_cons_zero];rfl) (fun K hK=>?_) AllReadyH.nil;go_simp
    go_at_call 96
    refine(HAD.out _ A3 c3 D3 d3 A4 c4 D4 d4 l3 m3 n3 p3 l4 m4 n4 p4).mono ?_;rintro e w6 ⟨A5,c5,D5,d5,rfl,l5,m5,n5,p5,hk⟩
    replace hb:=hb.trans (hk.mono hb.size)
    go_simp
    refine hK.out _ _ (KF.out _ hb) (fun hHeld=>?_);clear hK K
    (try simp only[Act.put,List.setIfInBounds_toArray,List.set_cons_zero,List.set_cons_succ])
    have kk:=KG.out _ hb;have u0:w6.cell? ⟨g5,0,none⟩=some (.bool (decide (q.num<0))):=kk.cell 0;have u1:w6.cell? ⟨g5,1,none⟩=some (.slice Aq (dig q.num.natAbs).length cq):=kk.cell 1;have u2:w6.cell? ⟨g5,2,none⟩=some (.slice Dq (dig q.den).length dq):=kk.cell 2;have f0:=kk.frozen 0;have f1:=kk.frozen 1;have f2:=kk.frozen 2;have z0:=kk.lt;refine wpAnyH_ready (rs:=[16]) (by kernel_rfl) (by simp) ?_;refine AllReadyH.cons (by simp only[List.getElem?_toArray,List.getElem?_cons_succ,List.getElem?_cons_zero];rfl) (fun K hK=>?_) AllReadyH.nil;go_simp
    refine hK.out _ _ (KS.out _ hb _ _ _) (fun hHeld=>?_);clear hK K
    (try simp only[Act.put,List.setIfInBounds_toArray,List.set_cons_zero,List.set_cons_succ])
    refine wpAnyH_done (by kernel_rfl) ?_ _;have HN:=Lib.hid (HPUT.out w6 A5 D5 c5 d5 hb l5 m5 n5 p5);go_wp2_with fail
    go_roundg j
    case rel=>exact⟨j,A5,c5,D5,d5,by omega,rfl,by go_num,by rw[HRR.out];exact HN.out⟩
    case measure=>have:=HG.out;omega
end Go.Proofs.YtflikmojaidhhaaGreat
namespace Go.Proofs.YtflikmojaidhhaaGreat
open Go.RowKit Go.Sort
mutual
def yg(sg:RP→Int):MX→Bool
 | .mk k r p ks=>if k=1 then true else if k=2 then yF r (sg p)else if k=3 then qdz sg ks else if k=4 then qdP sg ks else false
def qdz(sg:RP→Int):List MX→Bool
 |[]=>true
 |t::ts=>yg sg t&&qdz sg ts
def qdP(sg:RP→Int):List MX→Bool
 |[]=>false
 |t::ts=>yg sg t||qdP sg ts
end
theorem Zc(sg:RP→Int):∀ks:List MX,qdz sg ks=ks.all (yg sg)
 |[]=>by simp[qdz]
 |t::ts=>by simp[qdz,Zc sg ts]
theorem YW(sg:RP→Int):∀ks:List MX,qdP sg ks=ks.any (yg sg)
 |[]=>by simp[qdP]
 |t::ts=>by simp[qdP,YW sg ts]
theorem qjr(sg:RP→Int)(t:MX):yg sg t=if t.kd=1 then true else if t.kd=2 then yF t.rl (sg t.p)else if t.kd=3 then t.ks.all (yg sg)else if t.kd=4 then t.ks.any (yg sg)else false:=by
 cases t
 simp only[yg,Zc,YW];rfl
theorem qgv{α:Type}{f:α→Bool}{l:List α}{x:α}(h:x∈l)(hf:f x=true):l.any f=true:=List.any_eq_true.2 ⟨x,h,hf⟩
theorem qiQ{α:Type}{f:α→Bool}{l:List α}{x:α}(h:x∈l)(hf:f x=false):l.all f=false:=by
 rw[List.all_eq_false];exact⟨x,h,by simp[hf]⟩
theorem qaY{α:Type}{f:α→Bool}{l:List α}{k:Nat}{x:α}(h:l[k]? =some x)(h0:(l.take k).all f=true)(hf:f x=true):(l.take (k+1)).all f=true:=by
 obtain⟨hk,rfl⟩:=List.getElem?_eq_some_iff.1 h;rw[List.take_succ_eq_append_getElem hk,List.all_append,h0];simp[hf]
theorem qji:Tryz.prog.follows .mixedOrders=true:=by kernel_rfl
def sgV(vs:List QT)(p:RP):Int:=qB (vT (yy vs) p).num
set_option maxHeartbeats 4000000
set_option maxRecDepth 100000
theorem qcY(P Z:Nat)(hP:0<P)(hZ:0<Z)(hPZ:rB P Z 4+P≤150000)(vs:List QT)(hv4:vs.length=4)(hvl:∀x∈vs,x.ds.length≤P∧x.es.length≤P):
 ∀(D:Nat)(t:MX),JY t≤D→Yd (fun p=>qj p=true∧qM Z 5 p) t→∀(A:Option Addr)(c:Nat)(K:Option Addr)(kc:Nat)(L:Option Addr)(lc B:Nat)(X:Option Addr)(xc:Nat)(w:World),B≤w.heap.size→MV w (· <B) t (q9 t A c K kc L lc)→jM w B X vs→4≤xc→
 Calls Tryz.prog 25 #[ZP t A c K kc L lc,.slice X 4 xc] w fun e w'=>e= .returned (.bool (yg (sgV vs) t))∧Below w.heap.size w w'
 |0,t,hD,_,_,_,_,_,_,_,_,_,_,_,_,_,_,_=>by cases t;simp only[JY]at hD;omega
 |D+1,t,hD,hgd,A,c,K,kc,L,lc,B,X,xc,w,hB,h,hri,hxc=>by
  have IH:=Lib.hid (qcY P Z hP hZ hPZ vs hv4 hvl D);have hb0:=(Below.refl w.heap.size w).alloc (Nat.le_refl _) (.cells #[.int .i64 t.kd,.int .i64 t.rl,.int .i64 t.p.lv,.bool t.p.ng,.slice A t.p.ds.length c,.slice K t.p.ks.length kc,.slice L t.ks.length lc] 44);have hk0:=qd.new w 44 #[.int .i64 t.kd,.int .i64 t.rl,.int .i64 t.p.lv,.bool t.p.ng,.slice A t.p.ds.length c,.slice K t.p.ks.length kc,.slice L t.ks.length lc];have HB0:=Lib.hid hb0;have HK0:=Lib.hid hk0;have HR:=Lib.hid (fun(W:World)(hW:Below w.heap.size w W)=>h.below (hW.mono hB));have HRI:=Lib.hid (fun(W:World)(hW:Below w.heap.size w W)=>hri.below (hW.mono hB));have HB:=Lib.hid hB;have HXC:=Lib.hid hxc;have HDD:=Lib.hid (fun(u:MX)(hu:u∈t.ks)=>show JY u≤D by have:=QY hu;omega);have HGG:=Lib.hid hgd.parts.2.2;have hkl:=hgd.parts.2.1;have HAT:=Lib.hid (fun(hk:t.kd=2)(W:World)(hW:Below w.heap.size w W)=>qcW P Z hP hZ hPZ vs hv4 hvl (qv t.p) t.p (Nat.le_refl _) (hgd.parts.1 hk).1 (hgd.parts.1 hk).2 A c K kc xc B X W (Nat.le_trans hB hW.size) (h.below (hW.mono hB)).node.1 (hri.below (hW.mono hB)) hxc);have HLM:=Lib.hid (fun(hk:t.kd=2)=>show RL (vT (yy vs) t.p) 150000 from
   (qeE hP hZ (qeO hP (fun x hx=>⟨(hvl x hx).1,(hvl x hx).2,(hri.nn x hx).dg,(hri.nd x hx).dg⟩)) t.p (hgd.parts.1 hk).1 (hgd.parts.1 hk).2 (RV.digT _ _ h.node.1)).mono (Nat.le_trans (Yy P Z (show t.p.lv.toNat≤4 by have:=(jK (hgd.parts.1 hk).1).2;omega)) (by omega)))
  have HLC:=Lib.hid h.node.2;rw[qjr];unfold ZP;unfold qn qN at HAT;have HSG:=Lib.hid (show sgV vs t.p=qB (vT (yy vs) t.p).num from rfl);rw[HSG.out];clear hb0 hk0 h hB hD hgd hri hxc HSG;generalize hsg:sgV vs=sg at*;clear hsg;generalize vT (yy vs) t.p=q at*;generalize hnk:t.ks.length=nk at*;have HNK:=Lib.hid hnk;clear hnk;generalize t.p.ds.length=pd at*;generalize t.p.ks.length=pk at*;generalize t.p.ng=pg at*;generalize t.p.lv=pl at*;generalize t.kd=kd at*;generalize t.rl=rl at*;by_cases k1:kd=1
  ·subst k1;rw[if_pos rfl];have c0:=HK0.out.cell 0;clear HAT HLM;go_enter Tryz.func25,Tryz.ntmps25
   go_wp2_with fail
   go_ret
   exact⟨rfl,HB0.out⟩
  rw[if_neg k1];have e1:(kd==1)=false:=by simpa using k1
  by_cases k2:kd=2
  ·subst k2;rw[if_pos rfl];have HA:=Lib.hid (HAT.out rfl);have HL2:=Lib.hid (HLM.out rfl);have c0:=HK0.out.cell 0;clear HAT HLM k1 e1;go_enter Tryz.func25,Tryz.ntmps25
   go_wp2_with fail
   clear c0;generalize hWW:w.alloc (.cells #[.int .i64 2,.int .i64 rl,.int .i64 pl,.bool pg,.slice A pd c,.slice K pk kc,.slice L nk lc] 44)=W at*;clear hWW;have KF:=Lib.hid (fun(V:World)(hV:Below W.heap.size W V)=>(⟨(HK0.out.old hV).cell 1,(HK0.out.old hV).cell 2,(HK0.out.old hV).cell 3,(HK0.out.old hV).cell 4,(HK0.out.old hV).cell 5⟩:
    V.cell? ⟨w.heap.size,1,none⟩=some (.int .i64 rl)∧V.cell? ⟨w.heap.size,2,none⟩=some (.int .i64 pl)∧V.cell? ⟨w.heap.size,3,none⟩=some (.bool pg)∧V.cell? ⟨w.heap.size,4,none⟩=some (.slice A pd c)∧V.cell? ⟨w.heap.size,5,none⟩=some (.slice K pk kc)))
   have hb:Below W.heap.size W W.drew:=(qm.drew _).below _;have hb0:Below W.heap.size W W:=Below.refl _ _;have HAW:=Lib.hid (fun(V:World)(hV:Below W.heap.size W V)=>HA.out V (HB0.out.trans (hV.mono HB0.out.size)));have HSW:=Lib.hid (fun(V:World)(A:Option Addr)(c:Nat)(D:Option Addr)(cd:Nat)(h1:(dig q.num.natAbs).length≤c)(h2:(dig q.den).length≤cd)(n1:qk V A (dig q.num.natAbs))(n2:qk V D (dig q.den))=>show Calls Tryz.prog 51 _ V (fun e w'=>e= .returned (.int .i64 (qB q.num))∧Below V.heap.size V w')from by
    have:=qgs (decide (q.num<0)) A c V.heap.size _ D cd _ V (Nat.le_refl _) (RIn.made h1 h2 n1 n2).nm (RIn.made h1 h2 n1 n2).dn (Nat.le_trans HL2.out.n (by omega)) (Nat.le_trans HL2.out.d (by omega));rw[qck]at this;exact this)
   clear HA HL2;go_region_held3 (fun w'=>w'.cell? ⟨w.heap.size,1,none⟩=some (.int .i64 rl)∧w'.cell? ⟨w.heap.size,2,none⟩=some (.int .i64 pl)∧w'.cell? ⟨w.heap.size,3,none⟩=some (.bool pg)∧w'.cell? ⟨w.heap.size,4,none⟩=some (.slice A pd c)∧w'.cell? ⟨w.heap.size,5,none⟩=some (.slice K pk kc))
    (first|(with_reducible exact KF.out _ hb)|(with_reducible exact KF.out _ hb0))
    (first
      |(go_at_call 52;(with_reducible refine(HAW.out _ hb).mono ?_);rintro e w4 ⟨A2,c2,D2,d2,rfl,l1,l2,n1,n2,hk⟩;replace hb:=hb.trans (hk.mono hb.size))
      |(go_at_call 51;(refine(HSW.out _ A2 c2 D2 d2 l1 l2 n1 n2).mono ?_);rintro e w5 ⟨rfl,hk5⟩;replace hb:=hb.trans (hk5.mono hb.size))
      |(go_at_call 26;refine(Zq _ _ _).mono ?_;rintro e w6 ⟨rfl,rfl⟩))
   all_goals
    have HBF:=Lib.hid (HB0.out.trans (hb.mono HB0.out.size));go_wp2_with fail
    go_ret
    exact⟨rfl,HBF.out⟩
  rw[if_neg k2];have e2:(kd==2)=false:=by simpa using k2
  clear HAT HLM;by_cases k3:kd=3
  ·subst k3;rw[if_pos rfl];clear e1 e2 k1 k2;have c6:=HK0.out.cell 6;have c0:=HK0.out.cell 0;go_enter Tryz.func25,Tryz.ntmps25
   go_wp2_with fail
   clear c6 c0;go_loopg [5,26] nk (fun gn _ ix wr=>∃j:Nat,j≤nk∧gn=nk-j∧ix= .int .i64 j∧(t.ks.take j).all (yg sg)=true∧Below w.heap.size w wr∧qd wr w.heap.size 44 #[.int .i64 3,.int .i64 rl,.int .i64 pl,.bool pg,.slice A pd c,.slice K pk kc,.slice L nk lc])
   case atStart=>exact⟨0,Nat.zero_le _,rfl,rfl,by simp,HB0.out,HK0.out⟩
   case round=>
    clear HB0 HK0;obtain⟨j,hj,hgj,rfl,hok,hbw,hkw⟩:=hrel;have HG:=Lib.hid hgj;have HOK:=Lib.hid hok;have HBW:=Lib.hid hbw;have HKW:=Lib.hid hkw;clear hgj;by_cases hlt:j<nk
    ·obtain⟨u,hu⟩:∃u,t.ks[j]? =some u:=⟨_,List.getElem?_eq_getElem (by rw[HNK.out];exact hlt)⟩;obtain⟨b,o,A1,q1,K1,r1,L1,s1,rfl,hbB,hx,hku⟩:=(HR.out wr hbw).kid hu;have hum:=List.mem_of_getElem? hu;have HC:=Lib.hid (fun(d:Nat)(os:Array Obj)=>Calls.regrown_of (d:=d) (os:=os) (IH.out u (HDD.out u hum) (HGG.out u hum) A1 q1 K1 r1 L1 s1 B X xc (grow (redrawn wr d) os) (Nat.le_trans (Nat.le_trans HB.out hbw.size) (below_regrown wr d os).size) (hku.below ((below_regrown wr d os).mono (Nat.le_trans HB.out hbw.size))) ((HRI.out wr hbw).below ((below_regrown wr d os).mono (Nat.le_trans HB.out hbw.size))) HXC.out));have HSTOP:=Lib.hid (fun hz:yg sg u=false=>show t.ks.all (yg sg)=false from qiQ hum hz);have HNX:=Lib.hid (fun hz:yg sg u=true=>qaY hu hok hz);unfold ZP at HC;have x0:=cell_regrown (hx 0 _ rfl);have x1:=cell_regrown (hx 1 _ rfl);have x2:=cell_regrown (hx 2 _ rfl);have x3:=cell_regrown (hx 3 _ rfl);have x4:=cell_regrown (hx 4 _ rfl);have x5:=cell_regrown (hx 5 _ rfl);have x6:=cell_regrown (hx 6 _ rfl);simp only[Nat.add_zero,←Nat.add_assoc]at x0 x1 x2 x3 x4 x5 x6;have c0:=cell_regrown (hkw.cell 0);have c6:=cell_regrown (hkw.cell 6);have i3:(0:Int)≤(j:Int):=by omega
     have i4:(j:Int)<(nk:Int):=by omega
     have i5:(nk:Int)≤(lc:Int):=by have:=HLC.out;omega
     clear hu hum hku hx hbw hok hkw;generalize yg sg u=z at*;generalize u.p.ds.length=ud at*;generalize u.p.ks.length=uk at*;generalize u.p.ng=ug at*;generalize u.p.lv=ul at*;generalize u.kd=ukd at*;generalize u.rl=url at*;generalize u.ks.length=un at*;go_upto_region 11 with(fail)
     refine wp_region_quiet_below qji (by kernel_rfl) ?_;repeat(go_big_quiet_step (fail))
     refine wpQuiet_step (fun K hK=>?_);go_simp
     apply Exists.intro;refine⟨fun _=>HC.out _ _,hK _ ?_⟩;clear hK K;repeat(go_big_quiet_step (fail))
     refine wpQuiet_nil ?_;rintro _ ⟨⟨dq,osq⟩,rfl⟩;have hq:=below_regrown wr dq osq;have HB2:=Lib.hid (HBW.out.trans (hq.mono HBW.out.size));have HZ0:=Lib.hid (HKW.out.old hq);clear c0 c6 x0 x1 x2 x3 x4 x5 x6 HC hq;generalize grow (redrawn wr dq) osq=wz at*
     cases z
     ·have HF:=Lib.hid (HSTOP.out rfl);have c0:=HZ0.out.cell 0;go_wp2_with fail
      go_ret
      exact⟨by rw[HF.out];rfl,HB2.out⟩
     ·have HN:=Lib.hid (HNX.out rfl);have c0:=HZ0.out.cell 0;go_wp2_with fail
      clear c0;go_roundg (nk-(j+1))
      case rel=>exact⟨j+1,by omega,rfl,by go_num,HN.out,HB2.out,HZ0.out⟩
      case measure=>have:=HG.out;omega
    ·obtain rfl:nk=j:=by omega
     have HF:=Lib.hid (show t.ks.all (yg sg)=true by rw[List.take_of_length_le (by rw[HNK.out];exact Nat.le_refl _)]at hok;exact hok);have c0:=hkw.cell 0;clear hbw hok hkw;go_wp2_with fail
     go_ret
     exact⟨by rw[HF.out];rfl,HBW.out⟩
  rw[if_neg k3];have e3:(kd==3)=false:=by simpa using k3
  by_cases k4:kd=4
  ·subst k4;rw[if_pos rfl];clear e1 e2 e3 k1 k2 k3;have c6:=HK0.out.cell 6;have c0:=HK0.out.cell 0;go_enter Tryz.func25,Tryz.ntmps25
   go_wp2_with fail
   clear c6 c0;go_loopg [5,26] nk (fun gn _ ix wr=>∃j:Nat,j≤nk∧gn=nk-j∧ix= .int .i64 j∧(t.ks.take j).any (yg sg)=false∧Below w.heap.size w wr∧qd wr w.heap.size 44 #[.int .i64 4,.int .i64 rl,.int .i64 pl,.bool pg,.slice A pd c,.slice K pk kc,.slice L nk lc])
   case atStart=>exact⟨0,Nat.zero_le _,rfl,rfl,by simp,HB0.out,HK0.out⟩
   case round=>
    clear HB0 HK0;obtain⟨j,hj,hgj,rfl,hok,hbw,hkw⟩:=hrel;have HG:=Lib.hid hgj;have HOK:=Lib.hid hok;have HBW:=Lib.hid hbw;have HKW:=Lib.hid hkw;clear hgj;by_cases hlt:j<nk
    ·obtain⟨u,hu⟩:∃u,t.ks[j]? =some u:=⟨_,List.getElem?_eq_getElem (by rw[HNK.out];exact hlt)⟩;obtain⟨b,o,A1,q1,K1,r1,L1,s1,rfl,hbB,hx,hku⟩:=(HR.out wr hbw).kid hu;have hum:=List.mem_of_getElem? hu;have HC:=Lib.hid (fun(d:Nat)(os:Array Obj)=>Calls.regrown_of (d:=d) (os:=os) (IH.out u (HDD.out u hum) (HGG.out u hum) A1 q1 K1 r1 L1 s1 B X xc (grow (redrawn wr d) os) (Nat.le_trans (Nat.le_trans HB.out hbw.size) (below_regrown wr d os).size) (hku.below ((below_regrown wr d os).mono (Nat.le_trans HB.out hbw.size))) ((HRI.out wr hbw).below ((below_regrown wr d os).mono (Nat.le_trans HB.out hbw.size))) HXC.out));have HSTOP:=Lib.hid (fun hz:yg sg u=true=>show t.ks.any (yg sg)=true from qgv hum hz);have HNX:=Lib.hid (fun hz:yg sg u=false=>Jj hu hok hz);unfold ZP at HC;have x0:=cell_regrown (hx 0 _ rfl);have x1:=cell_regrown (hx 1 _ rfl);have x2:=cell_regrown (hx 2 _ rfl);have x3:=cell_regrown (hx 3 _ rfl);have x4:=cell_regrown (hx 4 _ rfl);have x5:=cell_regrown (hx 5 _ rfl);have x6:=cell_regrown (hx 6 _ rfl);simp only[Nat.add_zero,←Nat.add_assoc]at x0 x1 x2 x3 x4 x5 x6;have c0:=cell_regrown (hkw.cell 0);have c6:=cell_regrown (hkw.cell 6);have i3:(0:Int)≤(j:Int):=by omega
     have i4:(j:Int)<(nk:Int):=by omega
     have i5:(nk:Int)≤(lc:Int):=by have:=HLC.out;omega
     clear hu hum hku hx hbw hok hkw;generalize yg sg u=z at*;generalize u.p.ds.length=ud at*;generalize u.p.ks.length=uk at*;generalize u.p.ng=ug at*;generalize u.p.lv=ul at*;generalize u.kd=ukd at*;generalize u.rl=url at*;generalize u.ks.length=un at*;go_upto_region 11 with(fail)
     refine wp_region_quiet_below qji (by kernel_rfl) ?_;repeat(go_big_quiet_step (fail))
     refine wpQuiet_step (fun K hK=>?_);go_simp
     apply Exists.intro;refine⟨fun _=>HC.out _ _,hK _ ?_⟩;clear hK K;repeat(go_big_quiet_step (fail))
     refine wpQuiet_nil ?_;rintro _ ⟨⟨dq,osq⟩,rfl⟩;have hq:=below_regrown wr dq osq;have HB2:=Lib.hid (HBW.out.trans (hq.mono HBW.out.size));have HZ0:=Lib.hid (HKW.out.old hq);clear c0 c6 x0 x1 x2 x3 x4 x5 x6 HC hq;generalize grow (redrawn wr dq) osq=wz at*
     cases z
     ·have HN:=Lib.hid (HNX.out rfl);have c0:=HZ0.out.cell 0;go_wp2_with fail
      clear c0;go_roundg (nk-(j+1))
      case rel=>exact⟨j+1,by omega,rfl,by go_num,HN.out,HB2.out,HZ0.out⟩
      case measure=>have:=HG.out;omega
     ·have HF:=Lib.hid (HSTOP.out rfl);have c0:=HZ0.out.cell 0;go_wp2_with fail
      go_ret
      exact⟨by rw[HF.out];rfl,HB2.out⟩
    ·obtain rfl:nk=j:=by omega
     have HF:=Lib.hid (show t.ks.any (yg sg)=false by rw[List.take_of_length_le (by rw[HNK.out];exact Nat.le_refl _)]at hok;exact hok);have c0:=hkw.cell 0;clear hbw hok hkw;go_wp2_with fail
     go_ret
     exact⟨by rw[HF.out];rfl,HBW.out⟩
  rw[if_neg k4];have e4:(kd==4)=false:=by simpa using k4
  have c0:=HK0.out.cell 0;clear k1 k2 k3 k4;go_enter Tryz.func25,Tryz.ntmps25
  go_wp2_with fail
  go_ret
  exact⟨rfl,HB0.out⟩
end Go.Proofs.YtflikmojaidhhaaGreat
namespace Go.Proofs.YtflikmojaidhhaaGreat
open Go.RowKit
theorem qam(a:Rat):∀l:List Rat,zy (l++[a])=if zr a=0 then zy l else if l.length%2=1 then-zr a else zr a
 |[]=>by
  simp[zy]
 |b::l=>by
  rw[List.cons_append,zy,qam a l];by_cases h:zr a=0
  ·simp only[if_pos h];rw[zy]
  ·simp only[if_neg h];rw[List.length_cons];by_cases h2:l.length%2=1
   ·rw[if_pos h2,if_neg (by omega),if_neg (by omega)];omega
   ·rw[if_neg h2,if_neg h,if_pos (by omega)]
theorem qdI:∀l:List Rat,zy l=0↔∀a∈l,zr a=0
 |[]=>by simp[zy]
 |b::l=>by
  rw[zy];have ih:=qdI l;constructor
  ·intro h
   split at h
   ·rename_i h0;intro a ha;rcases List.mem_cons.1 ha with rfl|ha
    ·exact h
    ·exact ih.1 h0 a ha
   ·rename_i h0;omega
  ·intro h;rw[if_pos (ih.2 fun a ha=>h a (List.mem_cons_of_mem _ ha))];exact h b List.mem_cons_self
noncomputable def trM(pt:Nat→Rat)(M:MX):Bool:=yg (fun p=>zr (vT pt p)) (Ji M)
theorem nm2(r:Int)(p:RP)(ks:List MX):Ji (.mk 2 r p ks)= .mk 2 (qa2 r) (qq p) []:=by simp[Ji]
theorem nm3(r:Int)(p:RP)(ks:List MX):Ji (.mk 3 r p ks)= .mk 3 0 qa (ks.map Ji):=by simp[Ji,ZE]
theorem nm4(r:Int)(p:RP)(ks:List MX):Ji (.mk 4 r p ks)= .mk 4 0 qa (ks.map Ji):=by simp[Ji,ZE]
theorem nm1(r:Int)(p:RP)(ks:List MX):Ji (.mk 1 r p ks)= .mk 1 0 qa []:=by simp[Ji]
theorem nm0(r:Int)(p:RP)(ks:List MX):Ji (.mk 0 r p ks)= .mk 0 0 qa []:=by
 simp[Ji,qag]
theorem qkW(b:Bool):Ji (QN b)=QN b:=by
 cases b with
 |true=>exact nm1 0 qa []
 |false=>exact nm0 0 qa []
theorem tr2(sg:RP→Int)(r:Int)(p:RP)(ks:List MX):yg sg (.mk 2 r p ks)=yF r (sg p):=by simp[yg]
theorem tr3(sg:RP→Int)(r:Int)(p:RP)(ks:List MX):yg sg (.mk 3 r p ks)=ks.all (yg sg):=by simp[yg,Zc]
theorem tr4(sg:RP→Int)(r:Int)(p:RP)(ks:List MX):yg sg (.mk 4 r p ks)=ks.any (yg sg):=by simp[yg,YW]
theorem qbT(pt:Nat→Rat)(b:Bool):trM pt (QN b)=b:=by
 unfold trM;rw[qkW]
 cases b with
 |true=>simp[QN,yg]
 |false=>simp[QN,yg]
theorem qfl{r:Int}(h1:1≤r)(h6:r≤6):qa2 r=r:=by
 unfold qa2;rw[if_neg (by omega)]
theorem Qw(b:Int):1≤JL b∧JL b≤6:=by
 unfold JL
 split<;>(try split)<;>(try split)<;>(try split)<;>(try split)<;>omega
theorem qal(pt:Nat→Rat){r:Int}(h1:1≤r)(h6:r≤6){T:RP}(hT:qj T=true):trM pt (.mk 2 r T [])=yF r (zr (vT pt T)):=by
 unfold trM;rw[nm2,tr2,qfl h1 h6,qw hT]
theorem qhX(pt:Nat→Rat)(xs:List MX):trM pt (.mk 4 0 qa xs)=xs.any (trM pt):=by
 unfold trM;rw[nm4,tr4,List.any_map];rfl
theorem qe2(pt:Nat→Rat)(xs:List MX):trM pt (.mk 3 0 qa xs)=xs.all (trM pt):=by
 unfold trM;rw[nm3,tr3,List.all_map];rfl
theorem qda(f:Mo→Rat)(c:Int):∀l:List Tm,zD f (qia c l)=(c:Rat)*zD f l
 |[]=>by simp[qia,zD]
 |t::l=>by
  have ih:=qda f c l;unfold qia at ih ⊢;simp only[List.map_cons,zD];rw[ih]
  split
  ·rw[Rat.intCast_mul]
   grind
  ·grind
theorem SgT.can{t T:RP}(h:SgT t T):qj T=true:=by
 obtain⟨P,hP,_,rfl⟩:=h;have hs:=qat hP;exact(Qx 4 (by omega) _ hs.sdesc hs.vl hs.ne).1
theorem qlx{P:List Tm}(h:qI P)(pt:Nat→Rat):vT pt (qO 4 P)=evL pt P:=by
 rw[←ZB];exact qcd (fun m=>qhr h m) pt
theorem SgT.val{t T:RP}(h:SgT t T)(hc:qj (qq t)=true)(hn:∀m,cf (jY (qq t)) m=cf (jY t) m)(h0:(qq t).lv≠0)(pt:Nat→Rat):
 ∃z:Int,z≠0∧(z<0↔Yz (qq t)<0)∧vT pt (qq t)=(z:Rat)*vT pt T:=by
 obtain⟨P,hP,hcf,rfl⟩:=h;have hz:qW (qq t)=false:=by
  unfold qW;rw[decide_eq_false h0];rfl
 obtain⟨s,r,e,hs⟩:=qgw hc hz hP fun m=>(hcf m).trans (hn m).symm;have hne:P≠[]:=by rw[e];simp
 have hd:=qcH hP hne;refine⟨dvs P,hd,?_,?_⟩
 ·rw[←hs];have hg:=qbO hP hne;rw[e]at hg ⊢;show(if decide (s.1<0)=true then -(JN (s::r):Int)else(JN (s::r):Int))<0↔_;generalize JN (s::r)=g at*;by_cases hlt:s.1<0
  ·rw[if_pos (by simpa using hlt)];omega
  ·rw[if_neg (by simpa using hlt)];omega
 ·rw[qlx (qat hP),←ZB,qcd (p:=jY (qq t)) (q:=P) (fun m=>(hn m).trans (hcf m).symm) pt];have e2:=qda (qa0 pt) (dvs P) (snL P);rw[qlv]at e2;exact e2
theorem QR.tr{rel:Int}{t:RP}{M:MX}(h:QR rel t M)(hc:qj (qq t)=true)(hn:∀m,cf (jY (qq t)) m=cf (jY t) m)(pt:Nat→Rat):trM pt M=yF rel (zr (vT pt (qq t))):=by
 rcases h with⟨h0,rfl⟩|⟨h0,T,hT,rfl⟩
 ·rw[qbT,zI,if_pos (by omega),qfF];rfl
 ·obtain⟨z,hz,hs,hv⟩:=hT.val hc hn h0 pt;rw[qal pt (Qw _).1 (Qw _).2 hT.can,hv];have hq:zr ((z:Rat)*vT pt T)=if Yz (qq t)<0 then-zr (vT pt T)else zr (vT pt T):=by
   by_cases hl:Yz (qq t)<0
   ·rw[if_pos hl];have h1:=hs.2 hl;have h2:(z:Rat)*vT pt T=-(((-z:Int):Rat)*vT pt T):=by rw[Rat.intCast_neg];grind
    rw[h2,qf0,qce (Rat.intCast_pos.2 (by omega))]
   ·rw[if_neg hl];have h1:0<z:=by
     have:¬z<0:=fun h=>hl (hs.1 h);omega
    exact qce (Rat.intCast_pos.2 h1)
  rw[hq];have hsg:zr (vT pt T)=-1∨zr (vT pt T)=0∨zr (vT pt T)=1:=YU;generalize zr (vT pt T)=s at*;have hr:Jp rel=1∨Jp rel=2∨Jp rel=3∨Jp rel=4∨Jp rel=5∨Jp rel=6:=Y8 rel;have hh:∀r s,yF r s=yF (JL (Jp r)) s:=by
   intro r s;unfold Jp yF;by_cases h1:r=1
   ·subst h1;rfl
   ·by_cases h2:r=2
    ·subst h2;rfl
    ·by_cases h4:r=4
     ·subst h4;rfl
     ·by_cases h5:r=5
      ·subst h5;rfl
      ·by_cases h6:r=6
       ·subst h6;rfl
       ·simp only[if_neg h1,if_neg h2,if_neg h4,if_neg h5,if_neg h6];rfl
  rw[hh rel];generalize Jp rel=b at*;by_cases hl:Yz (qq t)<0
  ·simp only[if_pos hl];rcases hr with rfl|rfl|rfl|rfl|rfl|rfl<;>rcases hsg with rfl|rfl|rfl<;>decide
  ·simp only[if_neg hl]
def qjp(cs:List RP):Prop:=∀c∈cs,qj c=true
theorem yE.tr{r:Int}(pt:Nat→Rat):∀{cs:List RP} {xs:List MX},yE r cs xs→qjp cs→xs.map (trM pt)=cs.map fun c=>yF r (zr (vT pt c))
 |[],xs,h,_=>by
  have:xs=[]:=List.eq_nil_of_length_eq_zero h.len;subst this;rfl
 |c::cs,xs,h,hc=>by
  obtain⟨x,ys,rfl,⟨h1,h2⟩,h3⟩:=h;have hcc:=hc c List.mem_cons_self;have e:=h1.tr (by rw[qw hcc];exact hcc) (by rw[qw hcc];exact fun _=>rfl) pt;rw[qw hcc]at e;rw[List.map_cons,List.map_cons,e,yE.tr pt h3 fun u hu=>hc u (List.mem_cons_of_mem _ hu)]
theorem QR.form{rel:Int}{t:RP}{M:MX}(h:QR rel t M):(∃b,M=QN b)∨∃r T,1≤r∧r≤6∧qj T=true∧M= .mk 2 r T []:=by
 rcases h with⟨_,rfl⟩|⟨_,T,hT,rfl⟩
 ·exact .inl ⟨_,rfl⟩
 ·exact .inr ⟨_,T,(Qw _).1,(Qw _).2,hT.can,rfl⟩
theorem QR.nt{rel:Int}{t:RP}{M:MX}(h:QR rel t M)(pt:Nat→Rat):trM pt (Zv M)= !trM pt M:=by
 rcases h.form with⟨b,rfl⟩|⟨r,T,h1,h6,hT,rfl⟩
 ·rw[qbT];unfold Zv
  cases b with
  |true=>
   rw[if_pos (show(QN true).kd=1 from rfl)];exact qbT pt false
  |false=>
   rw[if_neg (show¬(QN false).kd=1 by decide),if_neg (show¬(QN false).kd=2 by decide)];exact qbT pt true
 ·have hp:1≤Zb r∧Zb r≤6:=by
   unfold Zb
   split<;>(try split)<;>(try split)<;>(try split)<;>(try split)<;>omega
  have e:Zv (.mk 2 r T [])= .mk 2 (Zb r) T []:=rfl;rw[e,qal pt hp.1 hp.2 hT,qal pt h1 h6 hT];have hsg:zr (vT pt T)=-1∨zr (vT pt T)=0∨zr (vT pt T)=1:=YU;generalize zr (vT pt T)=s at*;rcases(by omega:r=1∨r=2∨r=3∨r=4∨r=5∨r=6)with rfl|rfl|rfl|rfl|rfl|rfl<;>rcases hsg with rfl|rfl|rfl<;>decide
theorem yE.nt{r:Int}(pt:Nat→Rat):∀{cs:List RP} {xs:List MX},yE r cs xs→qjp cs→(xs.map Zv).map (trM pt)=cs.map fun c=> !yF r (zr (vT pt c))
 |[],xs,h,_=>by
  have:xs=[]:=List.eq_nil_of_length_eq_zero h.len;subst this;rfl
 |c::cs,xs,h,hc=>by
  obtain⟨x,ys,rfl,⟨h1,h2⟩,h3⟩:=h;have hcc:=hc c List.mem_cons_self;have e:=h1.tr (by rw[qw hcc];exact hcc) (by rw[qw hcc];exact fun _=>rfl) pt;rw[qw hcc]at e;rw[List.map_cons,List.map_cons,List.map_cons,h1.nt,e,yE.nt pt h3 fun u hu=>hc u (List.mem_cons_of_mem _ hu)]
theorem qiT{α:Type}(f:α→Bool)(l:List α):l.any f=(l.map f).any id:=by rw[List.any_map];rfl
theorem qiL{α:Type}(f:α→Bool)(l:List α):l.all f=(l.map f).all id:=by rw[List.all_map];rfl
theorem qlJ(i:Nat){c:RP}(hc:qj c=true)(pt:Nat→Rat):qj (sgc i c)=true∧zr (vT pt (sgc i c))=if i%2=1 then-zr (vT pt c)else zr (vT pt c):=by
 unfold sgc;rw[qw hc];by_cases h:i%2=1
 ·rw[if_pos h,if_pos h];refine⟨(Jg (-1) c hc).1,?_⟩;rw[YZ pt (-1) c hc,←qf0]
  congr 1
  show((-1:Int):Rat)*_=_;have:((-1:Int):Rat)=-1:=rfl;rw[this]
  grind
 ·rw[if_neg h,if_neg h];exact⟨hc,rfl⟩
theorem QR.tr'{rel:Int}{t:RP}{M:MX}(h:QR rel t M)(hc:qj t=true)(pt:Nat→Rat):trM pt M=yF rel (zr (vT pt t)):=by
 have:=h.tr (by rw[qw hc];exact hc) (by rw[qw hc];exact fun _=>rfl) pt;rw[qw hc]at this;exact this
theorem Qy.tr{r:Int}(hr:qf5 r){cs:List RP}(hc:qjp cs)(pt:Nat→Rat):∀(i:Nat)(M:MX),i<cs.length→Qy r cs i M→trM pt M=yF r (zy ((cs.take (i+1)).map (vT pt)))
 |0,M,hi,h=>by
  obtain⟨c,cs',rfl⟩:∃c cs',cs=c::cs':=by
   cases cs with
   |nil=>simp at hi
   |cons c cs'=>exact⟨c,cs',rfl⟩
  have h':QR r c M:=h;rw[h'.tr' (hc c List.mem_cons_self) pt];simp[zy]
 |i+1,M,hi,h=>by
  obtain⟨a,b,M',h1,h2,h3,_,_,rfl⟩:=h;have ih:=Qy.tr hr hc pt i M' (by omega) h1;have hcc:qj (cs.getD (i+1) qa)=true:=hc _ (yt hi);obtain⟨k1,k2⟩:=qlJ (i+1) hcc pt;rw[qhX];simp only[List.any_cons,List.any_nil,Bool.or_false];rw[qe2];simp only[List.all_cons,List.all_nil,Bool.and_true];rw[h2.tr' k1 pt,h3.tr' k1 pt,ih,k2];have ht:cs.take (i+1+1)=cs.take (i+1)++[cs.getD (i+1) qa]:=by
   rw[List.take_succ_eq_append_getElem hi,List.getD_eq_getElem?_getD,List.getElem?_eq_getElem hi];rfl
  rw[ht,List.map_append,List.map_cons,List.map_nil,qam,List.length_map,List.length_take,Nat.min_eq_left (by omega)];have hsg:zr (vT pt (cs.getD (i+1) qa))=-1∨zr (vT pt (cs.getD (i+1) qa))=0∨zr (vT pt (cs.getD (i+1) qa))=1:=YU;have hse:=qax ((cs.take (i+1)).map (vT pt));generalize zr (vT pt (cs.getD (i+1) qa))=s at*;generalize zy ((cs.take (i+1)).map (vT pt))=q at*;by_cases hp:(i+1)%2=1
  ·simp only[if_pos hp];rcases hr with rfl|rfl|rfl|rfl<;>rcases hsg with rfl|rfl|rfl<;>rcases hse with rfl|rfl|rfl<;>decide
  ·simp only[if_neg hp];rcases hr with rfl|rfl|rfl|rfl<;>rcases hsg with rfl|rfl|rfl<;>rcases hse with rfl|rfl|rfl<;>decide
theorem Zx.tr{r:Int}{cs:List RP}{M:MX}(h:Zx r cs M)(hc:qjp cs)(pt:Nat→Rat):trM pt M=yF r (zy (cs.map (vT pt))):=by
 have hz:=qdI (cs.map (vT pt));have hi:=qax (cs.map (vT pt));rcases h with⟨rfl,xs,hx,rfl⟩|⟨h4,ho,xs,hx,rfl⟩|⟨ho,rfl,ha⟩|⟨ho,hne,hb⟩
 ·rw[qhX,qiT,hx.nt pt hc];show _=(zy (cs.map (vT pt)) != 0);by_cases h0:zy (cs.map (vT pt))=0
  ·rw[h0];show _=false;rw[List.any_eq_false];intro b hb;obtain⟨c,hcm,rfl⟩:=List.mem_map.1 hb;have:=hz.1 h0 _ (List.mem_map.2 ⟨c,hcm,rfl⟩);rw[this]
   decide
  ·rw[show(zy (cs.map (vT pt)) != 0)=true from bne_iff_ne.2 h0,List.any_eq_true];apply Classical.byContradiction;intro hno;refine h0 (hz.2 fun a ha=>?_);obtain⟨c,hcm,rfl⟩:=List.mem_map.1 ha;apply Classical.byContradiction;intro hs;refine hno ⟨_,List.mem_map.2 ⟨c,hcm,rfl⟩,?_⟩;have hsg:zr (vT pt c)=-1∨zr (vT pt c)=0∨zr (vT pt c)=1:=YU;rcases hsg with h|h|h
   ·rw[h];decide
   ·exact absurd h hs
   ·rw[h];decide
 ·rw[qe2,qiL,hx.tr pt hc];have e:yF r (zy (cs.map (vT pt)))=(zy (cs.map (vT pt))==0):=by
   unfold qf5 at ho;unfold yF;rw[if_neg (fun h=>ho (.inl h)),if_neg (fun h=>ho (.inr (.inl h))),if_neg h4,if_neg (fun h=>ho (.inr (.inr (.inl h)))),if_neg (fun h=>ho (.inr (.inr (.inr h))))]
  rw[e];by_cases h0:zy (cs.map (vT pt))=0
  ·rw[h0];show _=true;rw[List.all_eq_true];intro b hb;obtain⟨c,hcm,rfl⟩:=List.mem_map.1 hb;have:=hz.1 h0 _ (List.mem_map.2 ⟨c,hcm,rfl⟩);rw[this]
   decide
  ·rw[show(zy (cs.map (vT pt))==0)=false from by simpa using h0];apply Bool.eq_false_iff.2;intro hall;rw[List.all_eq_true]at hall;refine h0 (hz.2 fun a ha=>?_);obtain⟨c,hcm,rfl⟩:=List.mem_map.1 ha;have h1:=hall _ (List.mem_map.2 ⟨c,hcm,rfl⟩);have hsg:zr (vT pt c)=-1∨zr (vT pt c)=0∨zr (vT pt c)=1:=YU;rcases hsg with h|h|h
   ·rw[h]at h1;exact absurd h1 (by decide)
   ·exact h
   ·rw[h]at h1;exact absurd h1 (by decide)
 ·rw[ha.tr' (by decide) pt,yn];rfl
 ·have hl:0<cs.length:=List.length_pos_iff.2 hne;have:=Qy.tr ho hc pt (cs.length-1) M (by omega) hb;rw[List.take_of_length_le (by omega)]at this;exact this
theorem SgT.oc{t T:RP}(h:SgT t T){i:Nat}(hi:i<4)(ho:yI ((i:Int)+1) t=false):yI ((i:Int)+1) T=false:=by
 obtain⟨P,hP,hcf,rfl⟩:=h;refine qcM 4 _ fun s hs=>?_;have hs':∃s'∈P,s'.2=s.2:=by
  unfold snL Yl at hs;obtain⟨s',h1,rfl⟩:=List.mem_map.1 hs;exact⟨s',h1,rfl⟩
 obtain⟨s',h1,h2⟩:=hs';obtain⟨x,hx,e⟩:=QS hP hcf h1;rw[←h2,←e,qbN hi t _ ho x hx];rcases QA hi with rfl|rfl|rfl|rfl<;>rfl
