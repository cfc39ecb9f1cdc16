import Derived.Test.YtflikmojaidhhaaGreatPq24
namespace Go.Proofs.YtflikmojaidhhaaGreat
open Go.RowKit
def Qz(T:RP):List Int:=if T.lv=0 then[qb T.ng T.ds]else T.ks.map fun u=>qb u.ng u.ds
def JK(T:RP):List Int:=(Qz T).take (zW (Qz T) (Qz T).length)
def qlF(k:Nat)(T:RP):Prop:=qj T=true∧(T.lv=0∨(T.lv=(k:Int)+1∧∀u∈T.ks,u.lv=0))
def qcG(vs:List Int)(w:World)(e:Ending)(w':World):Prop:=∃g zs,e= .returned (.tuple #[.slice (some ⟨g,0,none⟩) vs.length vs.length,.int .i64 0])∧yB w w' g vs zs
theorem jI.two{vs:List Int}{w W W':World}{e:Ending}(h:jI vs W e W')(hb:Below w.heap.size w W):∃g zs,e= .returned (.slice (some ⟨g,0,none⟩) vs.length vs.length)∧yB w W' g vs zs:=by
 obtain⟨g,zs,he,hc⟩:=h;exact⟨g,zs,he,hb.trans (hc.bel.mono hb.size),hc.blk,hc.eq,hc.nb,hc.cn⟩
theorem QO.zs{w W:World}{B g n:Nat}{ts:List RP}{zs:List ZT}(h:QO w W B g n ts n zs)(hn:ts.length=n):yV zs=ts.map fun u=>qb u.ng u.ds:=by
 have e:=h.eq;rw[Nat.sub_self,List.replicate_zero,List.append_nil,←hn,List.take_length]at e;have h1:yV zs=(zs.map fun x=>(x.ng,x.ds)).map fun p=>qb p.1 p.2:=by rw[List.map_map];rfl
 rw[h1,e,List.map_map];rfl
set_option maxHeartbeats 1000000
set_option maxRecDepth 100000
theorem qil(dg:Nat)(hdg:dg≤500)(k:Nat)(hk:k<4)(T:RP)(hf:zU dg T)(hu:qlF k T)(hsm:yf 10000 T)(A:Option Addr)(c:Nat)(K:Option Addr)(kc B:Nat)(w:World)(hB:B≤w.heap.size)(h:RV w (· <B) T (qc T A c K kc)):
 Calls Tryz.prog 45 #[qn T A c K kc,.int .i64 ((k:Int)+1)] w (qcG (JK T) w):=by
 have hb0:=(Below.refl w.heap.size w).alloc (Nat.le_refl _) (.cells #[.int .i64 T.lv,.bool T.ng,.slice A T.ds.length c,.slice K T.ks.length kc] 28);have hk0:=qd.new w 28 #[.int .i64 T.lv,.bool T.ng,.slice A T.ds.length c,.slice K T.ks.length kc];have hsz0:w.heap.size<(w.alloc (.cells #[.int .i64 T.lv,.bool T.ng,.slice A T.ds.length c,.slice K T.ks.length kc] 28)).heap.size:=hk0.lt;have HC0:=Lib.hid (JQ dg hdg T hf.dep hf.few hf.cnt A c K kc B _ (Nat.le_trans hB hb0.size) (h.below (hb0.mono hB)));have HLV:=Lib.hid (fun(W:World)=>qae ((k:Int)+1) W);have hcan:=hu.1;have HTC:=Lib.hid (fun(T':RP)(h:jg T T')=>jg.self h hcan);have hul:=hu.2;have hdl:T.ds.length≤10000:=hsm.at_.1;have hkl:T.ks.length≤10000:=hsm.at_.2.1;have HKS:=Lib.hid (fun(u:RP)(hu:u∈T.ks)=>show u.ds.length≤10000 from(hsm.at_.2.2 u hu).at_.1);have HUN:=Lib.hid (fun(zs:List ZT)(hn:zs.length≤100000)(hl:∀x∈zs,x.ds.length≤100000)(g c:Nat)(W:World)(h:qR W W.heap.size (some ⟨g,0,none⟩) zs)(hc:zs.length≤c)=>qdC zs hn hl (some ⟨g,0,none⟩) c W.heap.size W (Nat.le_refl _) h hc (fun e=>by cases e));have HUR:=Lib.hid (show Qz T=if T.lv=0 then[qb T.ng T.ds]else T.ks.map fun u=>qb u.ng u.ds from rfl);have HUV:=Lib.hid (show JK T=(Qz T).take (zW (Qz T) (Qz T).length)from rfl);have HPOST:=Lib.hid (fun(W W':World)(hW:Below w.heap.size w W)(g:Nat)(e:Ending)(h:jI (JK T) W e W')=>h.two hW);have hpt:=qr hcan;unfold qfg qn at HC0;unfold qcG;generalize JK T=uv at*;have e0:(decide (1≤(k:Int)+1)&&decide ((k:Int)+1≤4))=true:=by simp;omega
 rw[e0]at HLV;have HB0:=Lib.hid hb0;have HK0:=Lib.hid hk0;have HSZ0:=Lib.hid hsz0;have HB:=Lib.hid hB;unfold qn;clear hf hu hsm h hb0 hk0 hsz0 hB e0;go_enter Tryz.func45,Tryz.ntmps45
 go_upto_region 1 with(fail)
 generalize hW0:w.alloc (.cells #[.int .i64 T.lv,.bool T.ng,.slice A T.ds.length c,.slice K T.ks.length kc] 28)=W0 at*;have y0:=HK0.out.cell 0;have y1:=HK0.out.cell 1;have y2:=HK0.out.cell 2;have y3:=HK0.out.cell 3;clear hW0;go_wp2_with fail
 refine(HLV.out W0).mono ?_;rintro e w1 ⟨rfl,rfl⟩;go_wp2_with fail
 refine HC0.out.mono ?_;rintro e w1 ⟨T',A1,c1,K1,kc1,hct,rfl,hrv,_,hb1⟩;have hTT:T'=T:=HTC.out T' hct;subst hTT;have kk:=HK0.out.old hb1;have d0:=kk.cell 0;have d1:=kk.cell 1;have d2:=kk.cell 2;have d3:=kk.cell 3;have f0:=kk.frozen 0;have f1:=kk.frozen 1;have f2:=kk.frozen 2;have f3:=kk.frozen 3;have z0:=kk.lt;have HOV:=Lib.hid (YJ kk rfl hrv HB.out HSZ0.out (HB0.out.trans (hb1.mono HB0.out.size)));clear kk hrv hb1 hct HC0 HK0 HB0 y0 y1 y2 y3 HTC HSZ0;go_upto_region 4 with(fail)
 generalize hW2:(((w1.setCell ⟨w.heap.size,0,none⟩ (.int .i64 T'.lv)).setCell ⟨w.heap.size,1,none⟩ (.bool T'.ng)).setCell ⟨w.heap.size,2,none⟩ (.slice A1 T'.ds.length c1)).setCell ⟨w.heap.size,3,none⟩ (.slice K1 T'.ks.length kc1)=W2 at*;have HW2:=Lib.hid (show jl w1 w.heap.size 0 (.int .i64 T'.lv) (.bool T'.ng) (.slice A1 T'.ds.length c1) (.slice K1 T'.ks.length kc1)=W2 from hW2);rw[HW2.out]at HOV;clear d0 d1 d2 d3 f0 f1 f2 f3 z0 hW2 HW2;obtain⟨k2,r2,b2⟩:=HOV.out;have hBW:B≤W2.heap.size:=Nat.le_trans HB.out b2.size;have HRV:Hid (RV W2 (· <W2.heap.size) T' (qc T' A1 c1 K1 kc1)):=Lib.hid (RV.mono (OkC.lt hBW) _ _ r2);have HK2:=Lib.hid k2;have HB2:=Lib.hid b2;have c0:=k2.cell 0;have c1':=k2.cell 1;have c2:=k2.cell 2;have c3:=k2.cell 3;clear HOV k2 r2 b2 hBW;by_cases hl0:T'.lv=0
 ·have e1:(T'.lv==0)=true:=by simpa using hl0
  have hur:Qz T'=[qb T'.ng T'.ds]:=by rw[HUR.out,if_pos hl0]
  have hal:=(Below.refl W2.heap.size W2).alloc (Nat.le_refl _) (.cells #[.bool T'.ng,.slice A1 T'.ds.length c1] 25);have hnat:=HRV.out.natIn;have hin:qR (W2.alloc (.cells #[.bool T'.ng,.slice A1 T'.ds.length c1] 25)) (W2.alloc (.cells #[.bool T'.ng,.slice A1 T'.ds.length c1] 25)).heap.size (some ⟨W2.heap.size,0,none⟩) [⟨T'.ng,T'.ds,A1,c1⟩]:=
   qR.of_blk (qd.new W2 25 #[.bool T'.ng,.slice A1 T'.ds.length c1]) (qd.new W2 25 #[.bool T'.ng,.slice A1 T'.ds.length c1]).lt (fun x hx=>by
    rw[List.mem_singleton.1 hx];exact(hnat.below hal).more hal.size)
  have hun:=HUN.out [⟨T'.ng,T'.ds,A1,c1⟩] (by simp) (fun x hx=>by rw[List.mem_singleton.1 hx];show T'.ds.length≤_;omega) W2.heap.size 1 _ hin (by simp);have hzs:yV [(⟨T'.ng,T'.ds,A1,c1⟩:ZT)]=Qz T':=by rw[hur];rfl
  rw[hzs,show[(⟨T'.ng,T'.ds,A1,c1⟩:ZT)].length=(Qz T').length by rw[hur];rfl,←HUV.out,show(Qz T').length=1 by rw[hur];rfl]at hun;have HU:=Lib.hid hun;unfold jI at HU;have HAL:=Lib.hid (HB2.out.trans (hal.mono HB2.out.size));clear hur hal hnat hin hun hzs hl0 hul hpt;generalize T'.lv=lv at*;generalize T'.ng=tg at*;generalize T'.ds.length=td at*;go_wp2_with fail
  refine HU.out.mono ?_;rintro e w5 ⟨g,zs,rfl,hci⟩;have HF:=Lib.hid (HPOST.out _ w5 HAL.out g _ ⟨g,zs,rfl,hci⟩);clear hci HU HPOST;generalize hul:uv.length=ul at*;have HULE:=Lib.hid hul;clear hul;go_wp2_with fail
  go_ret2
  obtain⟨g',zs',he,hc⟩:=HF.out
  injection he with he
  rw[he];exact⟨g',zs',by rw[HULE.out];rfl,hc⟩
 ·have hlv:T'.lv=(k:Int)+1∧∀u∈T'.ks,u.lv=0:=hul.resolve_left hl0;have e1:(T'.lv==0)=false:=by simpa using hl0
  have e2:(T'.lv != (k:Int)+1)=false:=by simp[hlv.1]
  have hur:Qz T'=T'.ks.map fun u=>qb u.ng u.ds:=by rw[HUR.out,if_neg hl0]
  have HUL:=Lib.hid (show(Qz T').length=T'.ks.length by rw[hur,List.length_map]);have HUE:=Lib.hid hur;have HZ0:=Lib.hid hlv.2;have hmk:=fun(W:World)=>Tryz.make_uni T'.ks.length (by omega) W;have hmk2:=hmk W2;have HNI:=Lib.hid (QO.start (w:=W2) (W:=W2) (B:=W2.heap.size) (n:=T'.ks.length) (ts:=T'.ks) (Below.refl _ _));have HRW:=Lib.hid (fun(V:World)(hV:Below W2.heap.size W2 V)=>HRV.out.below hV);have HKC:=Lib.hid HRV.out.node.2.2.2;have c3a:=fun o=>(HK2.out.alloc o).cell 3;clear hur hlv hul hl0 hpt HRV HUR;generalize hnk:T'.ks.length=nk at*;have HNK:=Lib.hid hnk;clear hnk hmk;generalize T'.ds.length=td at*;generalize T'.ng=tg at*;generalize T'.lv=lv at*;have hkc:=HKC.out;go_wp2_with fail
  clear c0 c1' c2 c3 c3a hmk2;generalize W2.alloc (.cells (madeCells #[.bool false,.slice none 0 0] (nk*2)) 25)=W3 at*;go_loopg [7,32] nk (fun gn _ ix wr=>∃(j:Nat)(zs:List ZT),j≤nk∧gn=nk-j∧ix= .int .i64 j∧QO W2 wr W2.heap.size W2.heap.size nk T'.ks j zs)
  case atStart=>exact⟨0,_,Nat.zero_le _,rfl,rfl,HNI.out⟩
  case round=>
   clear HNI;obtain⟨j,zs,hj,hgj,rfl,hni⟩:=hrel;have HG:=Lib.hid hgj;have HNI:=Lib.hid hni;have hbw:Below W2.heap.size W2 wr:=hni.bel;clear hgj;by_cases hlt:j<nk
   ·obtain⟨u,hu⟩:∃u,T'.ks[j]? =some u:=⟨_,List.getElem?_eq_getElem (by rw[HNK.out];exact hlt)⟩;obtain⟨b,o,A3,q3,K3,r3,rfl,hbB,x0,x1,x2,x3,hku⟩:=(HRW.out wr hbw).kid hu;have hu0:=HZ0.out u (List.mem_of_getElem? hu);have hal:=(Below.refl wr.heap.size wr).alloc (Nat.le_refl _) (.cells #[.int .i64 u.lv,.bool u.ng,.slice A3 u.ds.length q3,.slice K3 u.ks.length r3] 28);have hbx:=qd.new wr 28 #[.int .i64 u.lv,.bool u.ng,.slice A3 u.ds.length q3,.slice K3 u.ks.length r3];have hpt:=hni.put (Nat.le_refl _) (Nat.le_refl _) hlt hu hku.natIn hal;have HPT:=Lib.hid hpt;have hkr:=hni.blk.old hal;have hzl:(Zw zs).toArray.size=nk*2:=by rw[List.size_toArray,Qr,hni.len]
    have ex:∀i,i<2→∃v,(Zw zs).toArray[j*2+i]? =some v:=fun i hi=>⟨_,Array.getElem?_eq_getElem (by omega)⟩;obtain⟨p0,s0⟩:=ex 0 (by omega);obtain⟨p1,s1⟩:=ex 1 (by omega);have i3:(0:Int)≤(j:Int):=by omega
    have i4:(j:Int)<(nk:Int):=by omega
    have i5:(nk:Int)≤(kc1:Int):=by omega
    have e3:(u.lv != 0)=false:=by simp[hu0]
    clear hu hpt hni hbw hzl HNI hku hu0;generalize u.ds.length=ud at*;generalize u.ks.length=uk at*;generalize u.lv=ul at*;generalize hV:wr.alloc (.cells #[.int .i64 ul,.bool u.ng,.slice A3 ud q3,.slice K3 uk r3] 28)=V at*;generalize u.ng=ug at*;go_upto_region 12 with(fail)
    rw[hV]at*;have d0:V.cell? ⟨W2.heap.size,j*2,none⟩=some p0:=(hkr.cell _).trans s0;have d1:V.cell? ⟨W2.heap.size,j*2+1,none⟩=some p1:=(hkr.cell _).trans s1;have f0:=hkr.frozen (j*2);have f1:=hkr.frozen (j*2+1);have zl:=hkr.lt;have y0:=hbx.cell 0;have y1:=hbx.cell 1;have y2:=hbx.cell 2;clear hkr ex s0 s1 hbx hal x0 x1 x2 x3 hV;go_wp2_with fail
    go_roundg (nk-(j+1))
    case rel=>exact⟨j+1,_,by omega,rfl,by go_num,HPT.out⟩
    case measure=>have:=HG.out;omega
   ·obtain rfl:j=nk:=by omega
    obtain⟨e5,e6⟩:=hni.fin HNK.out;have hun:=HUN.out zs (by rw[hni.len];omega) (fun x hx=>by
     obtain⟨t,ht,e⟩:=e6 x hx;rw[e];have:=HKS.out t ht;omega) W2.heap.size j wr (hni.ints (Nat.le_refl _)) (by rw[hni.len];exact Nat.le_refl _)
    rw[hni.zs HNK.out,←HUE.out,hni.len,←HUL.out,←HUV.out,HUL.out]at hun;have HU:=Lib.hid hun;unfold jI at HU;have HBW:=Lib.hid (HB2.out.trans (hbw.mono HB2.out.size));clear hun e5 e6 hni hbw HNI HUN HKS;go_wp2_with fail
    refine HU.out.mono ?_;rintro e w5 ⟨g,zs2,rfl,hci⟩;have HF:=Lib.hid (HPOST.out wr w5 HBW.out g _ ⟨g,zs2,rfl,hci⟩);clear hci HU HPOST;generalize hul:uv.length=ul at*;have HULE:=Lib.hid hul;clear hul;go_wp2_with fail
    go_ret2
    obtain⟨g',zs',he,hc⟩:=HF.out
    injection he with he
    rw[he];exact⟨g',zs',by rw[HULE.out];rfl,hc⟩
noncomputable def zP(k:Nat)(q:Nat→Rat)(t:RP):Nat→RP
 |0=>t
 |i+1=>if i=k then zP k q t i else AtC i (q i) (qq (zP k q t i))
def rpU(k:Nat)(q:Nat→Rat)(i:Nat)(pt:Nat→Rat):Nat→Rat:=fun j=>if j<i∧j≠k then q j else pt j
theorem qfw(k:Nat)(q:Rat){T:RP}(h:qj T=true):qj (AtC k q T)=true:=by
 unfold AtC
 split
 ·exact h
 ·exact(qcB (by omega) T h).1
theorem den_pos(q:Rat):(0:Rat)<((q.den:Int):Rat):=Rat.intCast_pos.2 (by have:=q.den_pos;omega)
theorem qj5(k:Nat)(hk:k<4)(q:Rat){T:RP}(h:qj T=true):∃c:Rat,0<c∧∀pt,vT pt (AtC k q T)=c*vT (ptS pt k q) T:=by
 unfold AtC;by_cases hz:qW T=true
 ·rw[if_pos hz];refine⟨1,by decide,fun pt=>?_⟩;rw[JO h hz,yn,yn,Rat.mul_zero]
 ·rw[if_neg hz];refine⟨((q.den:Int):Rat)^zo ((k:Int)+1) T,Rat.pow_pos (den_pos q),fun pt=>?_⟩;have h1:=qis (num:=q.num) (d:=(q.den:Int)) (by have:=q.den_pos;omega) hk (zo ((k:Int)+1) T) pt T h (Nat.le_refl _);have h2:(q.num:Rat)/((q.den:Int):Rat)=q:=by
   have h3:=Rat.mkRat_eq_div q.num q.den;rw[Rat.mkRat_self]at h3;exact h3.symm
  rw[h2]at h1;exact h1
theorem qlI{j k:Nat}(q:Rat){T:RP}(h:qj T=true)(ho:yI ((j:Int)+1) T=false∨j=k):yI ((j:Int)+1) (AtC k q T)=false:=by
 unfold AtC
 split
 ·rename_i hz;rw[JO h hz];exact yW (by omega)
 ·exact qkR (by omega) T h (by omega) (ho.imp id fun e=>by rw[e])
theorem qk9{d:Nat}(k:Nat){q:Rat}(hq:RL q 3){T:RP}(hw:qM d 5 T)(hd:qG T):qM (d+26) 5 (AtC k q T)∧qG (AtC k q T):=by
 unfold AtC
 split
 ·exact⟨qM.mono (by omega) (Nat.le_refl _) _ hw,hd⟩
 ·refine⟨?_,qik T⟩;have hg:=qaN ((k:Int)+1) T hw;have h1:=qjg (d:=d) (e:=3) (N:=5) (n:=zo ((k:Int)+1) T) (i:=(k:Int)+1) (num:=q.num) (pw:=fun j=>(q.den:Int)^j) hq.1 (fun j=>by
   have h4:=hq.2;rw[Int.natAbs_pow,Int.natAbs_natCast,Nat.pow_succ,Nat.pow_mul];have h1:=Nat.pow_le_pow_left (Nat.le_of_lt h4) j;have h2:0<(4294967296^3)^j:=Nat.pow_pos (Nat.pow_pos (by decide));generalize (4294967296^3)^j=y at*;omega) T (Nat.le_refl _) hw hd
  exact qM.mono (by omega) (Nat.le_refl _) _ h1
structure StQ (k:Nat) (q:Nat→Rat) (t:RP) (d i:Nat):Prop where
 fit:zU 400 (zP k q t i)
 lw:qM (d+26*i) 5 (qq (zP k q t i))
 dig:qG (qq (zP k q t i))
 val:∃c:Rat,0<c∧∀pt,vT pt (qq (zP k q t i))=c*vT (rpU k q i pt) (qq t)
 oc:∀j,j<i→j≠k→yI ((j:Int)+1) (qq (zP k q t i))=false
theorem zU.of_can{d:Nat}{T:RP}(hc:qj T=true)(hw:qM d 5 T)(hd:d≤400):zU 400 T:=by
 obtain⟨a,_,c⟩:=yw hc hw;exact⟨by omega,qM.few (n:=5) (by omega) _ (qM.mono hd (Nat.le_refl _) _ hw),c⟩
theorem StQ.start(k:Nat)(q:Nat→Rat){t:RP}{d:Nat}(hf:zU 400 t)(hw:qM d 5 (qq t))(hd:qG (qq t)):StQ k q t d 0:=by
 refine⟨hf,qM.mono (by omega) (Nat.le_refl _) _ hw,hd,⟨1,by decide,fun pt=>?_⟩,fun j hj=>by omega⟩;have e:rpU k q 0 pt=pt:=by
  funext j
  unfold rpU;rw[if_neg (by omega)]
 rw[e,Rat.one_mul];rfl
theorem StQ.next{k:Nat}{q:Nat→Rat}{t:RP}{d i:Nat}(h:StQ k q t d i)(hi:i<4)(hq:RL (q i) 3)(hd:d≤200):StQ k q t d (i+1):=by
 have hcan:=(jJ (zP k q t i)).can.1;by_cases e:i=k
 ·have es:zP k q t (i+1)=zP k q t i:=by rw[zP,if_pos e]
  refine⟨by rw[es];exact h.fit,by rw[es];exact qM.mono (by omega) (Nat.le_refl _) _ h.lw,by rw[es];exact h.dig,?_,fun j hj hk=>by rw[es];exact h.oc j (by omega) hk⟩;obtain⟨c,hc,hv⟩:=h.val;refine⟨c,hc,fun pt=>?_⟩;have e2:rpU k q (i+1) pt=rpU k q i pt:=by
   funext j
   unfold rpU;by_cases h1:j<i∧j≠k
   ·rw[if_pos h1,if_pos ⟨by omega,h1.2⟩]
   ·rw[if_neg h1,if_neg (by omega)]
  rw[es,e2];exact hv pt
 ·have es:zP k q t (i+1)=AtC i (q i) (qq (zP k q t i)):=by rw[zP,if_neg e]
  have hac:=qfw i (q i) hcan;have ec:qq (zP k q t (i+1))=AtC i (q i) (qq (zP k q t i)):=by rw[es,qw hac]
  obtain⟨h1,h2⟩:=qk9 i hq h.lw h.dig;refine⟨by rw[es];exact zU.of_can hac h1 (by omega),by rw[ec];exact qM.mono (by omega) (Nat.le_refl _) _ h1,by rw[ec];exact h2,?_,fun j hj hk=>?_⟩
  ·obtain⟨c,hc,hv⟩:=h.val;obtain⟨c2,hc2,hv2⟩:=qj5 i hi (q i) hcan;refine⟨c2*c,Rat.mul_pos hc2 hc,fun pt=>?_⟩;have e2:rpU k q i (ptS pt i (q i))=rpU k q (i+1) pt:=by
    funext j
    unfold rpU ptS;by_cases h1:j<i∧j≠k
    ·rw[if_pos h1,if_pos ⟨by omega,h1.2⟩]
    ·rw[if_neg h1];by_cases h2:j=i
     ·subst h2;rw[if_pos rfl,if_pos ⟨by omega,e⟩]
     ·rw[if_neg h2,if_neg (by omega)]
   rw[ec,hv2,hv,e2];rw[Rat.mul_assoc]
  ·rw[ec];refine qlI (q i) hcan ?_;by_cases h3:j=i
   ·exact .inr h3
   ·exact .inl (h.oc j (by omega) hk)
theorem StQ.uni{k:Nat}(hk:k<4){q:Nat→Rat}{t:RP}{d:Nat}(h:StQ k q t d 4):qlF k (qq (zP k q t 4)):=by
 have hcan:=(jJ (zP k q t 4)).can.1;have ho:=h.oc;generalize qq (zP k q t 4)=T at*;refine⟨hcan,?_⟩;rcases qr hcan with⟨a,_⟩|⟨a,a4,_,_,_,c,_⟩
 ·exact .inl a
 ·have hl:T.lv=(k:Int)+1:=by
   apply Classical.byContradiction;intro hne;have:=ho (T.lv.toNat-1) (by omega) (by omega);exact(qS.1 this).1 (by omega)
  refine .inr ⟨hl,fun u hu=>?_⟩;have hu1:=c u hu;have hu0:=(jK hu1.2).1;apply Classical.byContradiction;intro hne;have:=ho (u.lv.toNat-1) (by omega) (by omega);exact(qS.1 ((qS.1 this).2 u hu)).1 (by omega)
theorem qgq(f:RP→Int)(ks:List RP):JC (ks.map f)=ks.map fun u=>((f u:Int):Rat):=by
 unfold JC;rw[List.map_map];rfl
theorem qjq{k:Nat}(hk:k<4){T:RP}(h:qlF k T)(pt:Nat→Rat)(y:Rat):pvR y (JC (JK T))=vT (ptS pt k y) T:=by
 unfold JK;rw[qjG];unfold Qz;rcases h.2 with hl|⟨hl,hu⟩
 ·rw[if_pos hl,zI,if_pos (by omega)];show((qb T.ng T.ds:Int):Rat)+y*0=_;rw[Rat.mul_zero,Rat.add_zero]
 ·rw[if_neg (by omega),qgq,zI,if_neg (by omega),if_neg (by omega),qkT,show T.lv.toNat-1=k by omega,show ptS pt k y k=y from if_pos rfl]
  congr 1
  refine List.map_congr_left fun u hu'=>?_;rw[zI,if_pos (by have:=hu u hu';omega)]
theorem qkB{k:Nat}(hk:k<4)(t:RP)(pt:Nat→Rat)(y:Rat):vT (ptS pt k y) (qq t)=pvR y ((jS ((k:Int)+1) t).map (vT pt)):=by
 have hcan:=(jJ t).can.1;unfold jS;by_cases hz:qW (qq t)=true
 ·rw[if_pos hz,JO hcan hz,yn];rfl
 ·rw[if_neg hz];have h1:=qhb hk (ptS pt k y) (zo ((k:Int)+1) (qq t)) (qq t) hcan (Nat.le_refl _);have hoc:=qi1 (k:=k) (zo ((k:Int)+1) (qq t)) (qq t) hcan;have hcl:=Yx ((k:Int)+1) (zo ((k:Int)+1) (qq t)) (qq t);rw[h1,show ptS pt k y k=y from if_pos rfl,qkS];generalize JV ((k:Int)+1) (zo ((k:Int)+1) (qq t)) (qq t)=cs at*;generalize zo ((k:Int)+1) (qq t)=n at*
  congr 1
  rw[List.map_map];apply List.ext_getElem?;intro i;rw[List.getElem?_map,List.getElem?_map];by_cases hi:i<n+1
  ·rw[List.getElem?_range hi,List.getElem?_eq_getElem (by omega)];have hm:cs[i]∈cs:=List.getElem_mem (by omega);simp only[Option.map_some,Option.some.injEq,Function.comp];rw[List.getD_eq_getElem?_getD,List.getElem?_eq_getElem (by omega)];show vT (ptS pt k y) cs[i]=vT pt (qq cs[i]);rw[qiH y pt _ (hoc _ hm),(jJ cs[i]).val pt]
  ·rw[List.getElem?_eq_none (by simp;omega),List.getElem?_eq_none (by omega)];rfl
theorem qiN{k:Nat}(hk:k<4){t:RP}{d:Nat}{pt:Nat→Rat}(h:StQ k pt t d 4):zy (JC (JK (qq (zP k pt t 4))))=zy ((jS ((k:Int)+1) t).map (vT pt)):=by
 obtain⟨c,hc,hv⟩:=h.val;refine qiv hc fun y=>?_;rw[qjq hk (h.uni hk) pt y,hv,←qkB hk t pt y]
 congr 2
 funext j
 unfold rpU ptS;by_cases h1:j<4∧j≠k
 ·rw[if_pos h1,if_neg h1.2]
 ·rw[if_neg h1]
abbrev xc4(x0 x1 x2 x3:QT):Array Value:=#[.bool x0.ng,.slice x0.A x0.ds.length x0.c,.slice x0.D x0.es.length x0.cd,.bool x1.ng,.slice x1.A x1.ds.length x1.c,.slice x1.D x1.es.length x1.cd,.bool x2.ng,.slice x2.A x2.ds.length x2.c,.slice x2.D x2.es.length x2.cd,.bool x3.ng,.slice x3.A x3.ds.length x3.c,.slice x3.D x3.es.length x3.cd]
theorem qaV(x0 x1 x2 x3:QT):xc4 x0 x1 x2 x3=([x0,x1,x2,x3].flatMap QT.cells).toArray:=rfl
theorem qln{x0 x1 x2 x3 x:QT}{i:Nat}(h:[x0,x1,x2,x3][i]? =some x){j:Nat}(hj:j<3):(xc4 x0 x1 x2 x3)[i*3+j]? =x.cells[j]?:=by
 rw[qaV];simpa using qdp [x0,x1,x2,x3] i j x h hj
structure YC (w:World) (B:Nat) (vs:List QT):Prop where
 nn:∀x∈vs,qh w B x.A x.c x.ds∧x.ds.length≤3
 nd:∀x∈vs,qh w B x.D x.cd x.es∧x.es.length≤3
theorem YC.below{w w':World}{B:Nat}{vs:List QT}(h:YC w B vs)(hb:Below B w w'):YC w' B vs:=⟨fun x hx=>⟨(h.nn x hx).1.below hb,(h.nn x hx).2⟩,fun x hx=>⟨(h.nd x hx).1.below hb,(h.nd x hx).2⟩⟩
theorem YC.rl{w:World}{B:Nat}{vs:List QT}(h:YC w B vs)(i:Nat):RL (yy vs i) 3:=
 qeO (by omega) (fun x hx=>⟨(h.nn x hx).2,(h.nd x hx).2,(h.nn x hx).1.dg,(h.nd x hx).1.dg⟩) i
theorem qj4(k:Nat)(q:Nat→Rat)(t:RP):qj (zP k q t 4)=true:=by
 have h:∀i,qj (AtC i (q i) (qq (zP k q t i)))=true:=fun i=>qfw i (q i) (jJ _).can.1;by_cases e:3=k
 ·have e1:zP k q t 4=zP k q t 3:=by rw[zP,if_pos e]
  have e2:zP k q t 3=AtC 2 (q 2) (qq (zP k q t 2)):=by rw[zP,if_neg (by omega)]
  rw[e1,e2];exact h 2
 ·rw[zP,if_neg e];exact h 3
structure qd8 (w W:World) (T:RP) (A:Option Addr) (c:Nat) (K:Option Addr) (kc:Nat):Prop where
 bel:Below w.heap.size w W
 box:qd W w.heap.size 28 #[.int .i64 T.lv,.bool T.ng,.slice A T.ds.length c,.slice K T.ks.length kc]
 tree:RV W (NeG w.heap.size W) T (qc T A c K kc)
theorem qd8.old{w W W1:World}{T:RP}{A K:Option Addr}{c kc:Nat}(h:qd8 w W T A c K kc)(hb:Below W.heap.size W W1):qd8 w W1 T A c K kc:=
 ⟨h.bel.trans (hb.mono h.bel.size),h.box.old hb,h.tree.negOld hb⟩
theorem qd8.put{w W W1:World}{T T':RP}{A K A' K':Option Addr}{c kc c' kc' base:Nat}(h:qd8 w W T A c K kc)(hb:Below W.heap.size W W1)(hbase:w.heap.size<base)(ht:RB W1 base T' (qc T' A' c' K' kc')):
 qd8 w (jl W1 w.heap.size 0 (.int .i64 T'.lv) (.bool T'.ng) (.slice A' T'.ds.length c') (.slice K' T'.ks.length kc')) T' A' c' K' kc':=by
 have hk:=h.box.old hb;obtain⟨s1,_,_⟩:=jt (k:=0) hk (.int .i64 T'.lv) (.bool T'.ng) (.slice A' T'.ds.length c') (.slice K' T'.ks.length kc');have hn:=RV.negS (S:=fun _=>False) (g:=w.heap.size) (RV.mono (fun _ k=> .inr k) _ _ ht) (fun _ k=>k.elim) hk hbase;refine⟨qe (h.bel.trans (hb.mono h.bel.size)) (Nat.le_refl _) _ _ _ _,s1,RV.mono (fun _ hb'=>⟨by rw[jQ];exact hb'.1,hb'.2⟩) _ _ (RV.keep (fun b hb' o=>set4_far W1 (Ne.symm hb'.2) 0 o _ _ _ _) _ _ hn)⟩
theorem qgl(k:Nat)(hk:k<4)(t:RP)(hf:zU 400 t)(d:Nat)(hd:d≤200)(hlw:qM d 5 (qq t))(x0 x1 x2 x3:QT)(A:Option Addr)(c:Nat)(K:Option Addr)(kc B:Nat)(w:World)(hB:B≤w.heap.size)(h:RV w (· <B) t (qc t A c K kc))(hp:YC w B [x0,x1,x2,x3]):
 Calls Tryz.prog 21 #[qn t A c K kc,.int .i64 ((k:Int)+1),.agg (xc4 x0 x1 x2 x3)] w (jI (JK (qq (zP k (yy [x0,x1,x2,x3]) t 4))) w):=by
 have HX:=Lib.hid (qK w 28 31 #[.int .i64 t.lv,.bool t.ng,.slice A t.ds.length c,.slice K t.ks.length kc] (xc4 x0 x1 x2 x3));have hdt:qG (qq t):=(jJ t).dig (RV.digT _ _ h);have hq:=hp.rl;have HQ0:=StQ.start k (yy [x0,x1,x2,x3]) hf hlw hdt;have HQS:Hid (∀i,i≤4→StQ k (yy [x0,x1,x2,x3]) t d i):=Lib.hid (fun i=>by
  induction i with
  |zero=>exact fun _=>HQ0
  |succ i ih=>exact fun hi=>(ih (by omega)).next (by omega) (hq i) hd)
 have HFT:=Lib.hid (fun(i:Nat)(hi:i≤4)=>show zU 400 (zP k (yy [x0,x1,x2,x3]) t i)from(HQS.out i hi).fit);have HLW:=Lib.hid (fun(i:Nat)(hi:i≤4)=>show qM (d+26*i) 5 (qq (zP k (yy [x0,x1,x2,x3]) t i))from(HQS.out i hi).lw);have HST:=Lib.hid (fun(i:Nat)=>show zP k (yy [x0,x1,x2,x3]) t (i+1)=if i=k then zP k (yy [x0,x1,x2,x3]) t i else AtC i (yy [x0,x1,x2,x3] i) (qq (zP k (yy [x0,x1,x2,x3]) t i))from rfl);have HPT:=Lib.hid (fun(W:World)(hW:Below w.heap.size w W)=>hp.below (hW.mono hB));have HR:=Lib.hid (fun(W:World)(hW:Below w.heap.size w W)=>h.below (hW.mono hB));have HB:=Lib.hid hB;have hlw5:=(HQS.out 4 (Nat.le_refl _)).lw;have h4c:=qw (qj4 k (yy [x0,x1,x2,x3]) t);rw[h4c]at hlw5;have HUN:=Lib.hid (fun(A:Option Addr)(c:Nat)(K:Option Addr)(kc:Nat)(W:World)(h:RV W (· <W.heap.size) (zP k (yy [x0,x1,x2,x3]) t 4) (qc (zP k (yy [x0,x1,x2,x3]) t 4) A c K kc))=>qil 400 (by omega) k hk (zP k (yy [x0,x1,x2,x3]) t 4) (HQS.out 4 (Nat.le_refl _)).fit (by have:=(HQS.out 4 (Nat.le_refl _)).uni hk;rw[h4c]at this;exact this) (hlw5.sm (by omega) (by omega)) A c K kc W.heap.size W (Nat.le_refl _) h);rw[h4c];have HTX:=Lib.hid (fun(i:Nat)(hi:i<4)=>show∃x,[x0,x1,x2,x3][i]? =some x from⟨_,List.getElem?_eq_getElem (by simpa using hi)⟩);have HTC:=Lib.hid (fun(i:Nat)(x:QT)(h:[x0,x1,x2,x3][i]? =some x)(j:Nat)(hj:j<3)=>qln h hj);have HTQ:=Lib.hid (fun(i:Nat)(x:QT)(h:[x0,x1,x2,x3][i]? =some x)=>qd2 h);have HS0:=Lib.hid (show zP k (yy [x0,x1,x2,x3]) t 0=t from rfl);unfold qcG qn at HUN;unfold qn jI;generalize hqq:yy [x0,x1,x2,x3]=q at*;generalize hst:zP k q t=st at*;generalize hvs:[x0,x1,x2,x3]=vs at*;generalize hcx:xc4 x0 x1 x2 x3=cx at*;have hcs:cx.size=12:=by rw[←hcx];rfl
 have HCS:=Lib.hid hcs;have HUI:=Lib.hid (fun(W:World)(hb:Below w.heap.size w W)(hk:qd W w.heap.size 28 #[.int .i64 t.lv,.bool t.ng,.slice A t.ds.length c,.slice K t.ks.length kc])=>show qd8 w W (st 0) A c K kc by
  rw[HS0.out];exact⟨hb,hk,RV.mono (fun b (hb':b<B)=>⟨by have:=HB.out;have:=hb.size;omega,by have:=HB.out;omega⟩) _ _ (HR.out W hb)⟩)
 clear HQS hf hlw hdt hq HQ0 hp h hB hlw5 h4c hqq hst hvs hcx hcs HR;go_enter Tryz.func21,Tryz.ntmps21
 go_upto_region 1 with(fail)
 obtain⟨hb0,k0,k1,hs⟩:=HX.out;clear HX hs;generalize (w.alloc (.cells #[.int .i64 t.lv,.bool t.ng,.slice A t.ds.length c,.slice K t.ks.length kc] 28)).alloc (.cells cx 31)=W at*;have HU0:=Lib.hid (HUI.out W hb0 k0);have HK5:=Lib.hid k1;clear hb0 k0 k1 HUI HS0;go_wp2_with fail
 go_loopg [7,10] 4 (fun gn _ ix wr=>∃i:Nat,i≤4∧gn=4-i∧ix= .int .i64 i∧∃(A':Option Addr)(c':Nat)(K':Option Addr)(k':Nat),qd8 w wr (st i) A' c' K' k'∧qd wr (w.heap.size+1) 31 cx)
 case atStart=>exact⟨0,Nat.zero_le _,rfl,rfl,A,c,K,kc,HU0.out,HK5.out⟩
 case round=>
  clear HU0 HK5;obtain⟨i,hi,hgi,rfl,A',c',K',k',hui,hk5⟩:=hrel;have HG:=Lib.hid hgi;have HUI:=Lib.hid hui;have hbw:=hui.bel;clear hgi;by_cases hlt:i<4
  ·by_cases hik:i=k
   ·have HSE:=Lib.hid (show st (i+1)=st i by rw[HST.out,if_pos hik]);have e1:((i:Int)+1 != (k:Int)+1)=false:=by simp[hik]
    have e2:((i:Int) != (k:Int))=false:=by simp[hik]
    have e3:((i:Int)+1==(k:Int)+1)=true:=by simp[hik]
    have HK5:=Lib.hid hk5;clear hik hui hk5;go_wp2_with fail
    go_roundg (4-(i+1))
    case rel=>exact⟨i+1,by omega,rfl,by go_num,A',c',K',k',by rw[HSE.out];exact HUI.out,HK5.out⟩
    case measure=>have:=HG.out;omega
   ·obtain⟨x,hx⟩:=HTX.out i hlt;have hxm:=List.mem_of_getElem? hx;have e1:((i:Int)+1 != (k:Int)+1)=true:=by simp;omega
    have e3:((i:Int)+1==(k:Int)+1)=false:=by simp;omega
    have hpw:=HPT.out wr hbw;have hBw:B≤wr.heap.size:=Nat.le_trans HB.out hbw.size;have HAT:=Lib.hid (fun(V:World)(hV:Below wr.heap.size wr V)=>show Calls Tryz.prog 44 #[qn (st i) A' c' K' k',.int .i64 ((i:Int)+1),.agg #[.bool x.ng,.slice x.A x.ds.length x.c,.slice x.D x.es.length x.cd]] V (q8 (st (i+1)) V)from by
     have hg:=qaN ((i:Int)+1) _ (HLW.out i hi);have:=qkj 400 (by omega) i hlt (st i) (HFT.out i hi) 10000 (d+26*i) 3 5 (by omega) (HLW.out i hi) (by omega) (by omega) (by omega) (by omega) (by omega) x (hpw.nn x hxm).2 (hpw.nd x hxm).2 A' c' K' k' V.heap.size V (Nat.le_refl _) (RV.mono (fun _ hb=>hb.1) _ _ (hui.old hV).tree) (((hpw.nn x hxm).1.below (hV.mono hBw)).more (Nat.le_trans hBw hV.size)) (((hpw.nd x hxm).1.below (hV.mono hBw)).more (Nat.le_trans hBw hV.size));rw[←HTQ.out i x hx]at this;rw[HST.out,if_neg hik];exact this)
    have hc0:cx[i*3]? =some (Value.bool x.ng):=HTC.out i x hx 0 (by omega);have hc1:cx[i*3+1]? =some (Value.slice x.A x.ds.length x.c):=HTC.out i x hx 1 (by omega);have hc2:cx[i*3+2]? =some (Value.slice x.D x.es.length x.cd):=HTC.out i x hx 2 (by omega);have KG:=Lib.hid (fun(V:World)(hV:Below wr.heap.size wr V)=>(hui.old hV).box);have HPUT:=Lib.hid (fun(V:World)(hV:Below wr.heap.size wr V)(A:Option Addr)(c:Nat)(K:Option Addr)(kc base:Nat)(hbs:w.heap.size<base)(ht:RB V base (st (i+1)) (qc (st (i+1)) A c K kc))=>hui.put hV hbs ht);have i3:(0:Int)≤(i:Int):=by omega
    have i4:(i:Int)<4:=by omega
    have i5:(i:Int).toNat=i:=Int.toNat_natCast i;have hwi:IntKind.i64.wrap ((i:Int)+1)=(i:Int)+1:=IntWalk.i64_in _ (by omega);have HLT:=Lib.hid hui.box.lt;have hne:w.heap.size+1≠w.heap.size:=by omega
    unfold q8 qn at HAT;clear hx hxm hpw hBw hik hui hbw HUI;generalize hTT:st (i+1)=T' at*;have HTT:=Lib.hid hTT;clear hTT;generalize st i=T at*;generalize x.ds.length=xl at*;generalize x.es.length=el at*;have KF:=Lib.hid (fun(V:World)(hV:Below wr.heap.size wr V)=>(⟨((hk5.old hV).cell (i*3)).trans hc0,((hk5.old hV).cell (i*3+1)).trans hc1,((hk5.old hV).cell (i*3+2)).trans hc2⟩:
     V.cell? ⟨w.heap.size+1,i*3,none⟩=some (.bool x.ng)∧V.cell? ⟨w.heap.size+1,i*3+1,none⟩=some (.slice x.A xl x.c)∧V.cell? ⟨w.heap.size+1,i*3+2,none⟩=some (.slice x.D el x.cd)))
    have KS:=Lib.hid (fun(V:World)(hV:Below wr.heap.size wr V)(a0 a1 a2 a3:Value)=>(⟨(((hk5.old hV).set4_far hne 0 a0 a1 a2 a3).cell (i*3)).trans hc0,(((hk5.old hV).set4_far hne 0 a0 a1 a2 a3).cell (i*3+1)).trans hc1,(((hk5.old hV).set4_far hne 0 a0 a1 a2 a3).cell (i*3+2)).trans hc2⟩:
     ((((V.setCell ⟨w.heap.size,0,none⟩ a0).setCell ⟨w.heap.size,1,none⟩ a1).setCell ⟨w.heap.size,2,none⟩ a2).setCell ⟨w.heap.size,3,none⟩ a3).cell? ⟨w.heap.size+1,i*3,none⟩=some (.bool x.ng)∧((((V.setCell ⟨w.heap.size,0,none⟩ a0).setCell ⟨w.heap.size,1,none⟩ a1).setCell ⟨w.heap.size,2,none⟩ a2).setCell ⟨w.heap.size,3,none⟩ a3).cell? ⟨w.heap.size+1,i*3+1,none⟩=some (.slice x.A xl x.c)∧((((V.setCell ⟨w.heap.size,0,none⟩ a0).setCell ⟨w.heap.size,1,none⟩ a1).setCell ⟨w.heap.size,2,none⟩ a2).setCell ⟨w.heap.size,3,none⟩ a3).cell? ⟨w.heap.size+1,i*3+2,none⟩=some (.slice x.D el x.cd)))
    have HK5S:=Lib.hid (fun(V:World)(hV:Below wr.heap.size wr V)(a0 a1 a2 a3:Value)=>(hk5.old hV).set4_far hne 0 a0 a1 a2 a3);have hb:Below wr.heap.size wr wr.drew:=(qm.drew _).below _;have s0:=(KG.out _ hb).cell 0;have s1:=(KG.out _ hb).cell 1;have s2:=(KG.out _ hb).cell 2;have s3:=(KG.out _ hb).cell 3;clear hc0 hc1 hc2 hk5 hne;go_wp2_with fail
    refine wp_region_held_drew (S:=fun w'=>w'.cell? ⟨w.heap.size+1,i*3,none⟩=some (.bool x.ng)∧w'.cell? ⟨w.heap.size+1,i*3+1,none⟩=some (.slice x.A xl x.c)∧w'.cell? ⟨w.heap.size+1,i*3+2,none⟩=some (.slice x.D el x.cd)) (by kernel_rfl) (KF.out _ hb) (fun hHeld=>?_);refine wpAnyH_take (i:=1) (v:=?v1) (by simp only[List.getElem?_toArray,List.getElem?_cons_succ,List.getElem?_cons_zero];rfl) (by kernel_rfl) (by kernel_rfl) (by kernel_rfl) (by exact fun _ _ _ h=>h) (Or.inl ⟨by rfl,?hy1⟩) (by assumption) ?rest1
    case hy1=>(intro w0 hSw;(try dsimp only at hSw);go_simp;(first|done|(with_reducible rfl)))
    simp only[Act.put,List.setIfInBounds_toArray,List.set_cons_zero,List.set_cons_succ];refine wpAnyH_take (i:=2) (v:=?v2) (by simp only[List.getElem?_toArray,List.getElem?_cons_succ,List.getElem?_cons_zero];rfl) (by kernel_rfl) (by kernel_rfl) (by kernel_rfl) (by exact fun _ _ _ h=>h) (Or.inl ⟨by rfl,?hy2⟩) (by assumption) ?rest2
    case hy2=>(intro w0 hSw;(try dsimp only at hSw);go_simp;(first|done|(with_reducible rfl)))
    simp only[Act.put,List.setIfInBounds_toArray,List.set_cons_zero,List.set_cons_succ];refine wpAnyH_take (i:=3) (v:=?v3) (by simp only[List.getElem?_toArray,List.getElem?_cons_succ,List.getElem?_cons_zero];rfl) (by kernel_rfl) (by kernel_rfl) (by kernel_rfl) (by exact fun _ _ _ h=>h) (Or.inl ⟨by rfl,?hy3⟩) (by assumption) ?rest3
    case hy3=>(intro w0 hSw;(try dsimp only at hSw);go_simp;(first|done|(with_reducible rfl)))
    simp only[Act.put,List.setIfInBounds_toArray,List.set_cons_zero,List.set_cons_succ];refine wpAnyH_take (i:=4) (v:=?v4) (by simp only[List.getElem?_toArray,List.getElem?_cons_succ,List.getElem?_cons_zero];rfl) (by kernel_rfl) (by kernel_rfl) (by kernel_rfl) (by exact fun _ _ _ h=>h) (Or.inl ⟨by rfl,?hy4⟩) (by assumption) ?rest4
    case hy4=>(intro w0 hSw;(try dsimp only at hSw);go_simp;(first|done|(with_reducible rfl)))
    simp only[Act.put,List.setIfInBounds_toArray,List.set_cons_zero,List.set_cons_succ];refine wpAnyH_take (i:=5) (v:=?v5) (by simp only[List.getElem?_toArray,List.getElem?_cons_succ,List.getElem?_cons_zero];rfl) (by kernel_rfl) (by kernel_rfl) (by kernel_rfl) (by exact fun _ _ _ h=>h) (Or.inl ⟨by rfl,?hy5⟩) (by assumption) ?rest5
    case hy5=>(intro w0 hSw;(try dsimp only at hSw);go_simp;(first|done|(with_reducible rfl)))
    simp only[Act.put,List.setIfInBounds_toArray,List.set_cons_zero,List.set_cons_succ];refine wpAnyH_ready (rs:=[0]) (by kernel_rfl) (by simp) ?_;refine AllReadyH.cons (by simp only[List.getElem?_toArray,List.getElem?_cons_zero];rfl) (fun K hK=>?_) AllReadyH.nil;go_simp
    refine hK.out _ _ (KF.out _ hb) (fun hHeld=>?_);clear hK K
    (try simp only[Act.put,List.setIfInBounds_toArray,List.set_cons_zero,List.set_cons_succ])
    refine wpAnyH_ready (rs:=[6]) (by kernel_rfl) (by simp) ?_;refine AllReadyH.cons (by simp only[List.getElem?_toArray,List.getElem?_cons_succ,List.getElem?_cons_zero];rfl) (fun K hK=>?_) AllReadyH.nil;clear s0 s1 s2 s3;go_simp
    go_at_call 44
    refine(HAT.out _ hb).mono ?_;rintro e v1 ⟨A4,c4,K4,k4,rfl,hr4,hk4⟩;have hb1:=hb.trans (hk4.mono hb.size);go_simp
    refine hK.out _ _ (KF.out _ hb1) (fun hHeld=>?_);clear hK K
    (try simp only[Act.put,List.setIfInBounds_toArray,List.set_cons_zero,List.set_cons_succ])
    refine wpAnyH_ready (rs:=[7]) (by kernel_rfl) (by simp) ?_;refine AllReadyH.cons (by simp only[List.getElem?_toArray,List.getElem?_cons_succ,List.getElem?_cons_zero];rfl) (fun K hK=>?_) AllReadyH.nil;have kk:=KG.out _ hb1;have d0:=kk.cell 0;have d1:=kk.cell 1;have d2:=kk.cell 2;have d3:=kk.cell 3;have f0:=kk.frozen 0;have f1:=kk.frozen 1;have f2:=kk.frozen 2;have f3:=kk.frozen 3;have zl:=kk.lt;clear kk;go_simp
    refine hK.out _ _ (KS.out _ hb1 _ _ _ _) (fun hHeld=>?_);clear hK K
    (try simp only[Act.put,List.setIfInBounds_toArray,List.set_cons_zero,List.set_cons_succ])
    refine wpAnyH_done (by kernel_rfl) ?_ _;have HN:=Lib.hid (HPUT.out v1 hb1 A4 c4 K4 k4 wr.drew.heap.size HLT.out hr4);have HN5:=Lib.hid (HK5S.out v1 hb1 (.int .i64 T'.lv) (.bool T'.ng) (.slice A4 T'.ds.length c4) (.slice K4 T'.ks.length k4));clear hr4 hb1 hb;go_wp2_with fail
    go_roundg (4-(i+1))
    case rel=>exact⟨i+1,by omega,rfl,by go_num,A4,c4,K4,k4,HTT.out▸HN.out,HN5.out⟩
    case measure=>have:=HG.out;omega
  ·obtain rfl:i=4:=by omega
   have HU:=Lib.hid (HUN.out A' c' K' k' wr (RV.mono (fun _ hb=>hb.1) _ _ hui.tree));have y0:=hui.box.cell 0;have y1:=hui.box.cell 1;have y2:=hui.box.cell 2;have y3:=hui.box.cell 3;have HBW:=Lib.hid hbw;clear hui hbw hk5 hlt HUI;generalize huv:JK (st 4)=uv at*;have HUVE:=Lib.hid huv;clear huv;go_wp2_with fail
   refine HU.out.mono ?_;rintro e w5 ⟨g,zs,rfl,hci⟩;have HC:=Lib.hid hci;clear hci HU y0 y1 y2 y3;generalize hul:uv.length=ul at*;have HULE:=Lib.hid hul;clear hul;go_wp2_with fail
   go_ret
   have hc:=HC.out;rw[HUVE.out];exact⟨g,zs,by rw[HULE.out];rfl,HBW.out.trans (hc.bel.mono HBW.out.size),hc.blk,hc.eq,hc.nb,hc.cn⟩
theorem qg9(k:Nat)(hk:k<4)(t:RP)(hf:zU 400 t)(d:Nat)(hd:d≤200)(hlw:qM d 5 (qq t))(x0 x1 x2 x3:QT)(A:Option Addr)(c:Nat)(K:Option Addr)(kc B:Nat)(w:World)(hB:B≤w.heap.size)(h:RV w (· <B) t (qc t A c K kc))(hp:YC w B [x0,x1,x2,x3]):
 Calls Tryz.prog 9 #[qn t A c K kc,.int .i64 ((k:Int)+1),.agg (xc4 x0 x1 x2 x3)] w (jI (JK (qq (zP k (yy [x0,x1,x2,x3]) t 4))) w):=by
 obtain⟨hb0,k0,k1,hs⟩:=qK w 28 31 #[.int .i64 t.lv,.bool t.ng,.slice A t.ds.length c,.slice K t.ks.length kc] (xc4 x0 x1 x2 x3);have HU:=Lib.hid (qgl k hk t hf d hd hlw x0 x1 x2 x3 A c K kc B _ (Nat.le_trans hB hb0.size) (h.below (hb0.mono hB)) (hp.below (hb0.mono hB)));have HB0:=Lib.hid hb0;have y0:=k0.cell 0;have y1:=k0.cell 1;have y2:=k0.cell 2;have y3:=k0.cell 3;have z0:=k1.cell 0;have z1:=k1.cell 1;have z2:=k1.cell 2;have z3:=k1.cell 3;have z4:=k1.cell 4;have z5:=k1.cell 5;have z6:=k1.cell 6;have z7:=k1.cell 7;have z8:=k1.cell 8;have z9:=k1.cell 9;have z10:=k1.cell 10;have z11:=k1.cell 11;have HPOST:=Lib.hid (fun(W W':World)(hW:Below w.heap.size w W)(e:Ending)(h:jI (JK (qq (zP k (yy [x0,x1,x2,x3]) t 4))) W e W')=>h.two hW);generalize JK (qq (zP k (yy [x0,x1,x2,x3]) t 4))=uv at*;unfold qn at HU ⊢;clear hf hlw h hp k0 k1 hs hb0 hB;have hxc:xc4 x0 x1 x2 x3=#[.bool x0.ng,.slice x0.A x0.ds.length x0.c,.slice x0.D x0.es.length x0.cd,.bool x1.ng,.slice x1.A x1.ds.length x1.c,.slice x1.D x1.es.length x1.cd,.bool x2.ng,.slice x2.A x2.ds.length x2.c,.slice x2.D x2.es.length x2.cd,.bool x3.ng,.slice x3.A x3.ds.length x3.c,.slice x3.D x3.es.length x3.cd]:=rfl;clear hxc;unfold jI at HU ⊢;go_enter Tryz.func9,Tryz.ntmps9
 go_wp2_with fail
 refine HU.out.mono ?_;rintro e w5 ⟨g,zs,rfl,hci⟩;have HC:=Lib.hid (HPOST.out _ w5 HB0.out _ ⟨g,zs,rfl,hci⟩);clear hci HU HPOST y0 y1 y2 y3 z0 z1 z2 z3 z4 z5 z6 z7 z8 z9 z10 z11;generalize hul:uv.length=ul at*;have HULE:=Lib.hid hul;clear hul;go_wp2_with fail
 go_ret
 obtain⟨g',zs',he,hc⟩:=HC.out
 injection he with he
 rw[HULE.out];exact⟨g',zs',by rw[←he];rfl,hc⟩
abbrev zp:Array Value:=#[.int .i64 1,.int .i64 0,.bool false,.slice none 0 0,.slice none 0 0,.int .i64 0,.bool false,.slice none 0 0,.slice none 0 0,.int .i64 0,.bool false,.slice none 0 0,.slice none 0 0,.int .i64 0,.bool false,.slice none 0 0,.slice none 0 0,.int .i64 1,.int .i64 0,.int .i64 0,.bool false,.slice none 0 0,.slice none 0 0,.slice none 0 0]
theorem Ys(j:Int)(h0:j=0∨j=1∨j=2∨j=3)(w:World):(Instr.index 85 (.agg #[.int .i64 0,.bool false,.slice none 0 0,.slice none 0 0,.int .i64 0,.bool false,.slice none 0 0,.slice none 0 0,.int .i64 0,.bool false,.slice none 0 0,.slice none 0 0,.int .i64 0,.bool false,.slice none 0 0,.slice none 0 0]) (.int .i64 j)).run Tryz.prog w= .ok (.agg #[.int .i64 0,.bool false,.slice none 0 0,.slice none 0 0]) w:=by
 obtain rfl|rfl|rfl|rfl:=h0<;>kernel_rfl
def qhy(t:RP)(r k:Int)(w:World)(e:Ending)(w':World):Prop:=
 jg t (qq t)∧∃M,Zx r (jS k t) M∧∃A c K kc L lc,e= .returned (.tuple #[ZP M A c K kc L lc,.int .i64 0])∧MV w' (yQ w' w.heap.size none) M (q9 M A c K kc L lc)∧Below w.heap.size w w'
theorem qiX{w V:World}{g base:Nat}{M:MX}{A K L:Option Addr}{c kc lc:Nat}(hk:qd V g 44 #[.int .i64 0,.int .i64 0,.int .i64 0,.bool false,.slice none 0 0,.slice none 0 0,.slice none 0 0])(hr:MV V (yQ V base none) M (q9 M A c K kc L lc))(hg:g<base)(hw:w.heap.size≤g)(hb:Below w.heap.size w V):
 qd (Jh V g (.int .i64 M.kd) (.int .i64 M.rl) (.int .i64 M.p.lv) (.bool M.p.ng) (.slice A M.p.ds.length c) (.slice K M.p.ks.length kc) (.slice L M.ks.length lc)) g 44 #[.int .i64 M.kd,.int .i64 M.rl,.int .i64 M.p.lv,.bool M.p.ng,.slice A M.p.ds.length c,.slice K M.p.ks.length kc,.slice L M.ks.length lc]∧
 MV (Jh V g (.int .i64 M.kd) (.int .i64 M.rl) (.int .i64 M.p.lv) (.bool M.p.ng) (.slice A M.p.ds.length c) (.slice K M.p.ks.length kc) (.slice L M.ks.length lc)) (yQ (Jh V g (.int .i64 M.kd) (.int .i64 M.rl) (.int .i64 M.p.lv) (.bool M.p.ng) (.slice A M.p.ds.length c) (.slice K M.p.ks.length kc) (.slice L M.ks.length lc)) w.heap.size none) M (q9 M A c K kc L lc)∧
 Below w.heap.size w (Jh V g (.int .i64 M.kd) (.int .i64 M.rl) (.int .i64 M.p.lv) (.bool M.p.ng) (.slice A M.p.ds.length c) (.slice K M.p.ks.length kc) (.slice L M.ks.length lc)):=by
 obtain⟨s1,s2,s3⟩:=JX hk (.int .i64 M.kd) (.int .i64 M.rl) (.int .i64 M.p.lv) (.bool M.p.ng) (.slice A M.p.ds.length c) (.slice K M.p.ks.length kc) (.slice L M.ks.length lc);obtain⟨k1,k2⟩:=yQ.keep (w:=V) (w':=Jh V g (.int .i64 M.kd) (.int .i64 M.rl) (.int .i64 M.p.lv) (.bool M.p.ng) (.slice A M.p.ds.length c) (.slice K M.p.ks.length kc) (.slice L M.ks.length lc)) (base:=base) (r:=none) (r':=none)
  (fun j cs h=>s2 j _ cs (jr h hk (by decide)) h) (fun j cs _ h=>s2 j _ cs (jr h hk (by decide)) h) (fun j cs hj _ h=>⟨s2 j _ cs (by omega) h,by simp⟩)
 refine⟨s1,MV.mono (fun b hb=>?_) _ _ (MV.keep k1 _ _ hr),hb.trans (s3 _ hw)⟩;rcases k2 b hb with h|⟨h1,h2,h3⟩
 ·exact .inl (h.mono (by omega))
 ·exact .inr ⟨by omega,h2,h3⟩
theorem qkK{P:Program}{fn:Func}{Q:Ending→World→Prop}{a:Act}{w:World}{p r:Tmp}{ty:TypeId}{g:Nat}{t:TypeId}{cs:Array Value}{d:TypeDesc}(hr:fn.results=#[.cell p ty,.tmp r])(hdf:a.defers=[])(hp:a.tmps.getD p undef= .pointer (some ⟨g,0,none⟩))(hb:qd w g t cs)
 (hu:P.underlying ty=some d)(hd:(match d with| .struct _| .array _ _=>true|_=>false)=true)(hi:(P.info? ty).map (·.size)=some cs.size)(h:Q (.returned (.tuple #[.agg cs,a.tmps.getD r undef])) w):bodyPost P fn Q Exit.ret a w:=by
 refine bodyPost_ret ?_ hdf h;have hp':a.tmps[p]?.getD undef= .pointer (some ⟨g,0,none⟩):=by simpa using hp
 simp[results,hr,hp',asAddr,run_loadVar_row w g t ty cs (0,0) d hb hu hd hi]
theorem qav:zU 400 qa:=⟨by decide,qM.few (n:=5) (by omega) _ (qM.zero 400 5),by decide⟩
set_option maxHeartbeats 4000000
theorem qg4(r k:Int)(hk0:0<k)(hk4:k≤4)(t:RP)(hf:zU 400 t)(hfc:zU 400 (qq t))(hcs:jg t (qq t)→(∀c∈JV k (zo k (qq t)) (qq t),jg c (qq c))→∀c∈jS k t,qj c=true∧qM 400 5 c)(hcl:(jS k t).length≤1000)(A:Option Addr)(c:Nat)(K:Option Addr)(kc B:Nat)(w:World)(hB:B≤w.heap.size)(h:RV w (· <B) t (qc t A c K kc)):
 Calls Tryz.prog 22 #[qn t A c K kc,.int .i64 r,.int .i64 k,.agg zp] w (qhy t r k w):=by
 have hb0:=(Below.refl w.heap.size w).alloc (Nat.le_refl _) (.cells #[.int .i64 t.lv,.bool t.ng,.slice A t.ds.length c,.slice K t.ks.length kc] 28);have hk0':=qd.new w 28 #[.int .i64 t.lv,.bool t.ng,.slice A t.ds.length c,.slice K t.ks.length kc];generalize hW1:w.alloc (.cells #[.int .i64 t.lv,.bool t.ng,.slice A t.ds.length c,.slice K t.ks.length kc] 28)=W1 at*;have hb1:=(Below.refl W1.heap.size W1).alloc (Nat.le_refl _) (.cells zp 46);have hk1:=qd.new W1 46 zp;generalize hW2:W1.alloc (.cells zp 46)=W2 at*;have hb2:=(Below.refl W2.heap.size W2).alloc (Nat.le_refl _) (.cells #[.int .i64 0,.int .i64 0,.int .i64 0,.bool false,.slice none 0 0,.slice none 0 0,.slice none 0 0] 44);have hk2:=qd.new W2 44 #[.int .i64 0,.int .i64 0,.int .i64 0,.bool false,.slice none 0 0,.slice none 0 0,.slice none 0 0];generalize hW3:W2.alloc (.cells #[.int .i64 0,.int .i64 0,.int .i64 0,.bool false,.slice none 0 0,.slice none 0 0,.slice none 0 0] 44)=W3 at*;have hs1:=hk0'.lt;have hs2:=hk1.lt;have hs3:=hk2.lt;have q1:=hb1.size;have q2:=hb2.size;have q0:=hb0.size;have HB3:=Lib.hid (hb0.trans ((hb1.trans (hb2.mono q1)).mono q0));have HK0:=Lib.hid ((hk0'.old hb1).old hb2);have HK1:=Lib.hid (hk1.old hb2);have HK2:=Lib.hid hk2;have HE:=Lib.hid (And.intro hW1 (And.intro hW2 hW3));have HBF:=Lib.hid (fun(W:World)(hW:Below w.heap.size w W)=>qeg r k hk0 hk4 t hf hfc hcs hcl A c K kc B W (Nat.le_trans hB hW.size) (h.below (hW.mono hB)));have HDG:=Lib.hid (fun(W:World)=>qdZ 400 (by omega) k qa qav (by rw[qw (show qj qa=true from rfl)];exact qav) none 0 none 0 0 W (Nat.zero_le _) RT.zero);have hdz:dgZ k qa=-1:=by unfold dgZ;rw[qw (show qj qa=true from rfl),if_pos (show qW qa=true from rfl)]
 rw[hdz]at HDG;have HG2:=Lib.hid (show w.heap.size≤W2.heap.size by omega);unfold J6 ZP qn at HBF;unfold qn at HDG ⊢;have i1:¬k<1:=by omega
 have i4:¬4<k:=by omega
 clear hdz h hf hfc hcs hcl hB hb0 hb1 hb2 hk1 hs1 hs2 hs3 q0 q1 q2 hk0' hk2;go_enter Tryz.func22,Tryz.ntmps22
 clear HE;have c0:=HK1.out.cell 0;have c1:=HK1.out.cell 1;have c2:=HK1.out.cell 2;have c3:=HK1.out.cell 3;have c4:=HK1.out.cell 4;have c5:=HK1.out.cell 5;have c6:=HK1.out.cell 6;have c7:=HK1.out.cell 7;have c8:=HK1.out.cell 8;have c9:=HK1.out.cell 9;have c10:=HK1.out.cell 10;have c11:=HK1.out.cell 11;have c12:=HK1.out.cell 12;have c13:=HK1.out.cell 13;have c14:=HK1.out.cell 14;have c15:=HK1.out.cell 15;have c16:=HK1.out.cell 16;go_wp2_with fail
 clear c0 c1 c2 c3 c4 c5 c6 c7 c8 c9 c10 c11 c12 c13 c14 c15 c16;go_loopg [38] 4 (fun gn ix wr=>∃j:Nat,j≤4∧gn=4-j∧ix= .int .i64 j∧Below W3.heap.size W3 wr)
 case atStart=>exact⟨0,by omega,rfl,rfl,Below.refl _ _⟩
 case round=>
  obtain⟨j,hj,hgj,rfl,hbw⟩:=hrel;have HG:=Lib.hid hgj;clear hgj;by_cases hlt:j<4
  ·obtain rfl|rfl|rfl|rfl:j=0∨j=1∨j=2∨j=3:=by omega
   all_goals
    have hal:=(Below.refl wr.heap.size wr).alloc (Nat.le_refl _) (.cells #[.int .i64 0,.bool false,.slice none 0 0,.slice none 0 0] 28);have HBW:=Lib.hid (hbw.trans (hal.mono hbw.size));clear hal hbw;have hix:=Ys 0 (by omega) wr;have hix1:=Ys 1 (by omega) wr;have hix2:=Ys 2 (by omega) wr;have hix3:=Ys 3 (by omega) wr;go_wp2_with fail
    clear hix hix1 hix2 hix3;refine(HDG.out _).mono ?_;rintro e w4 ⟨rfl,_,hb4⟩;have HB4:=Lib.hid (HBW.out.trans (hb4.mono HBW.out.size));clear hb4;go_wp2_with fail
   ·go_roundg 3
    case rel=>exact⟨1,by omega,rfl,rfl,HB4.out⟩
    case measure=>have:=HG.out;omega
   ·go_roundg 2
    case rel=>exact⟨2,by omega,rfl,rfl,HB4.out⟩
    case measure=>have:=HG.out;omega
   ·go_roundg 1
    case rel=>exact⟨3,by omega,rfl,rfl,HB4.out⟩
    case measure=>have:=HG.out;omega
   ·go_roundg 0
    case rel=>exact⟨4,by omega,rfl,rfl,HB4.out⟩
    case measure=>have:=HG.out;omega
  ·have hj4:j=4:=by omega
   subst hj4;have HBR:=Lib.hid (HB3.out.trans (hbw.mono HB3.out.size));have k0:=HK0.out.old hbw;have k1:=HK1.out.old hbw;have HK3:=Lib.hid (HK2.out.old hbw);have c0:=k1.cell 0;have x0:=k0.cell 0;have x1:=k0.cell 1;have x2:=k0.cell 2;have x3:=k0.cell 3;have HB1:=Lib.hid (HBF.out wr HBR.out);clear hbw k0 k1 HK0 HK1 HK2 HBF HDG;go_wp2_with fail
   refine HB1.out.mono ?_;rintro e w5 ⟨hct,M,hM,A2,c2,K2,kc2,L2,lc2,rfl,hmv,hb5⟩;have k1:=HK3.out.old hb5;have HFN:=Lib.hid (qiX (w:=w) (M:=M) k1 hmv HK3.out.lt HG2.out (HBR.out.trans (hb5.mono HBR.out.size)));have HMM:=Lib.hid hM;have HCT:=Lib.hid hct;have d0:=k1.cell 0;have d1:=k1.cell 1;have d2:=k1.cell 2;have d3:=k1.cell 3;have d4:=k1.cell 4;have d5:=k1.cell 5;have d6:=k1.cell 6;have f0:=k1.frozen 0;have f1:=k1.frozen 1;have f2:=k1.frozen 2;have f3:=k1.frozen 3;have f4:=k1.frozen 4;have f5:=k1.frozen 5;have f6:=k1.frozen 6;have z0:=k1.lt;clear hmv hb5 k1 hM hct HB1 HBR HB3 HK3 c0 x0 x1 x2 x3;go_wp2_with fail
   refine qkK Tryz.results22 rfl rfl HFN.out.1 Tryz.underlying44 rfl Tryz.sizeMat ⟨HCT.out,M,HMM.out,A2,c2,K2,kc2,L2,lc2,rfl,HFN.out.2⟩
mutual
def Yj:RP→Prop
 | .mk l _ _ ks=>qds l ks
def qds(l:Int):List RP→Prop
 |[]=>True
 |t::ts=>(1≤l→t.lv<l)∧Yj t∧qds l ts
end
theorem qds.mem{l:Int}{ts:List RP}:qds l ts↔∀u∈ts,(1≤l→u.lv<l)∧Yj u:=by
 induction ts with
 |nil=>simp[qds]
 |cons t ts ih=>simp[qds,ih,and_assoc]
theorem Yj.at_{t:RP}(h:Yj t):∀u∈t.ks,(1≤t.lv→u.lv<t.lv)∧Yj u:=by
 cases t
 simp only[Yj]at h;exact qds.mem.1 h
theorem Yj.mk{l:Int}{g:Bool}{ds:List Nat}{ks:List RP}(h:∀u∈ks,(1≤l→u.lv<l)∧Yj u):Yj (.mk l g ds ks):=by
 simp only[Yj];exact qds.mem.2 h
theorem Yj.zero:Yj qa:=Yj.mk (by simp)
theorem qcc:∀(t:RP),qj t=true→Yj t
 |t,h=>by
  rw[show t=RP.mk t.lv t.ng t.ds t.ks by cases t;rfl];refine Yj.mk fun u hu=>?_;rcases qr h with⟨_,k,_⟩|⟨_,_,_,_,_,c,_⟩
  ·rw[k]at hu;cases hu
  ·exact⟨fun _=>(c u hu).1,qcc u (c u hu).2⟩
termination_by t=>qv t
decreasing_by exact qD hu
theorem qio(k:Int)(n:Nat):∀(t:RP),qj t=true→∀c∈JV k n t,Yj c∧c.lv≤t.lv
 |t,hc,c,hm=>by
  have h0:=(jK hc).1;have hz:Yj qa∧qa.lv≤t.lv:=⟨Yj.zero,h0⟩;rw[JH]at hm
  split at hm
  ·rcases List.mem_cons.1 hm with rfl|hm
   ·exact⟨qcc _ hc,Int.le_refl _⟩
   ·rw[(List.mem_replicate.1 hm).2];exact hz
  ·split at hm
   ·rcases List.mem_append.1 hm with hm|hm
    ·have hm':=List.mem_of_mem_take hm;have:=(qcc _ hc).at_ c hm';refine⟨this.2,?_⟩;rcases qr hc with⟨_,k,_⟩|⟨a,_⟩
     ·rw[k]at hm';cases hm'
     ·have:=this.1 a;omega
    ·rw[(List.mem_replicate.1 hm).2];exact hz
   ·obtain⟨i,_,rfl⟩:=List.mem_map.1 hm;refine⟨Yj.mk fun u hu=>?_,Int.le_refl _⟩;obtain⟨x,hx,rfl⟩:=List.mem_map.1 hu;rcases qr hc with⟨_,k,_⟩|⟨a,_,_,_,_,c,_⟩
    ·rw[k]at hx;cases hx
    ·have hcx:=c x hx;have:=jX (i:=i) (d:=qa) (Q:=fun u:RP=>Yj u∧u.lv≤x.lv) (qio k n x hcx.2) ⟨Yj.zero,(jK hcx.2).1⟩;exact⟨fun _=>by have:=this.2;omega,this.1⟩
termination_by t=>qv t
decreasing_by exact qD hx
theorem qhs(k:Int)(n:Nat):∀(t:RP),qG t→∀c∈JV k n t,qG c
 |t,hw,c,hm=>by
  rw[JH]at hm
  split at hm
  ·rcases List.mem_cons.1 hm with rfl|hm
   ·exact hw
   ·rw[(List.mem_replicate.1 hm).2];exact qG.zero
  ·split at hm
   ·rcases List.mem_append.1 hm with hm|hm
    ·exact hw.at_.2 c (List.mem_of_mem_take hm)
    ·rw[(List.mem_replicate.1 hm).2];exact qG.zero
   ·obtain⟨i,_,rfl⟩:=List.mem_map.1 hm;refine qG.mk (by simp[qP]) fun u hu=>?_;obtain⟨x,hx,rfl⟩:=List.mem_map.1 hu;exact jX (qhs k n x (hw.at_.2 x hx)) qG.zero
termination_by t=>qv t
decreasing_by exact qD hx
mutual
theorem qa8{d n:Nat}:∀(t:RP)(m:Mo)(i:Nat),i<4→Yj t→qM d n t→gt m i≤0→∀x∈ji t m,gt x.2 i+1≤max (n:Int) 1
 | .mk l g ds ks,m,i,hi,h,hw,hm,x,hx=>by
   simp only[qM]at hw;simp only[ji]at hx;have c:=h.at_
   split at hx
   ·rw[List.mem_singleton]at hx;subst hx;show gt m i+1≤_;omega
   ·split at hx
    ·cases hx
    ·have c:∀u∈ks,(1≤l→u.lv<l)∧Yj u:=c;by_cases he:i=l.toNat-1
     ·subst he;rw[JI m hi]at hx;have:=qbp (n:=n) ks m (l.toNat-1) _ hi (fun u hu=>by have:=c u hu;exact⟨by have:=this.1 (by omega);omega,this.2⟩) x hx;omega
     ·exact ZN ks m (l.toNat-1) _ i (by omega) hi he (fun u hu=>(c u hu).2) hw.2.2 hm x hx
theorem qbp{n:Nat}:∀(ks:List RP)(m:Mo)(i:Nat)(e:Int),i<4→(∀u∈ks,u.lv≤(i:Int)∧Yj u)→∀x∈qX i ks m e,gt x.2 i+1≤e+ks.length
 |[],_,_,_,_,_,x,hx=>by simp[qX]at hx
 |k::ks,m,i,e,hi,h,x,hx=>by
  simp only[qX]at hx;rcases List.mem_append.1 hx with hx|hx
  ·have:=qd7 k (js m i e) i hi (h k List.mem_cons_self).1 (h k List.mem_cons_self).2 x hx;rw[this,jV m e hi hi,if_pos rfl];simp only[List.length_cons];omega
  ·have:=qbp (n:=n) ks m i (e+1) hi (fun u hu=>h u (List.mem_cons_of_mem _ hu)) x hx;simp only[List.length_cons];omega
theorem ZN{d n:Nat}:∀(ks:List RP)(m:Mo)(j:Nat)(e:Int)(i:Nat),j<4→i<4→i≠j→(∀u∈ks,Yj u)→Jd d n ks→gt m i≤0→∀x∈qX j ks m e,gt x.2 i+1≤max (n:Int) 1
 |[],_,_,_,_,_,_,_,_,_,_,x,hx=>by simp[qX]at hx
 |k::ks,m,j,e,i,hj,hi,hij,h,hw,hm,x,hx=>by
  simp only[Jd]at hw;simp only[qX]at hx;rcases List.mem_append.1 hx with hx|hx
  ·exact qa8 k (js m j e) i hi (h k List.mem_cons_self) hw.1 (by rw[jV m e hj hi,if_neg hij];exact hm) x hx
  ·exact ZN ks m j (e+1) i hj hi hij (fun u hu=>h u (List.mem_cons_of_mem _ hu)) hw.2 hm x hx
theorem qd7:∀(t:RP)(m:Mo)(i:Nat),i<4→t.lv≤(i:Int)→Yj t→∀x∈ji t m,gt x.2 i=gt m i
 | .mk l g ds ks,m,i,hi,hl,h,x,hx=>by
   simp only[ji]at hx;have c:=h.at_
   split at hx
   ·rw[List.mem_singleton]at hx;subst hx;rfl
   ·split at hx
    ·cases hx
    ·have c:∀u∈ks,(1≤l→u.lv<l)∧Yj u:=c;have hl:l≤(i:Int):=hl;exact qcU ks m (l.toNat-1) _ i (by omega) hi (by omega) (fun u hu=>by have:=c u hu;exact⟨by have:=this.1 (by omega);omega,this.2⟩) x hx
theorem qcU:∀(ks:List RP)(m:Mo)(j:Nat)(e:Int)(i:Nat),j<4→i<4→j<i→(∀u∈ks,u.lv≤(i:Int)∧Yj u)→∀x∈qX j ks m e,gt x.2 i=gt m i
 |[],_,_,_,_,_,_,_,_,x,hx=>by simp[qX]at hx
 |k::ks,m,j,e,i,hj,hi,hji,h,x,hx=>by
  simp only[qX]at hx;rcases List.mem_append.1 hx with hx|hx
  ·rw[qd7 k (js m j e) i hi (h k List.mem_cons_self).1 (h k List.mem_cons_self).2 x hx,jV m e hj hi,if_neg (by omega)]
  ·exact qcU ks m j (e+1) i hj hi hji (fun u hu=>h u (List.mem_cons_of_mem _ hu)) x hx
end
theorem qlY{d:Nat}{c:RP}(hl:Yj c)(hw:qM d 5 c)(hd:qG c)(hn:yj c≤1000):qM (d+1) 5 (qq c):=by
 rcases jJ c with⟨_,e⟩|⟨_,P,hP,hcf,e⟩
 ·rw[e];exact qM.mono (by omega) (Nat.le_refl _) _ hw
 ·rw[e];refine qap (by omega) 4 _ (by omega) fun s hs=>?_;refine⟨zK ?_,fun i hi=>?_⟩
  ·have h2:=Qs hs;have h3:=hP.nrm_le hcf;have h4:nrm (jY c)≤1000*pw d:=by
    refine Nat.le_trans (Jn _ (pw d) fun t ht=>?_) (Nat.mul_le_mul_right _ ?_)
    ·obtain⟨x,hx,rfl⟩:=List.mem_map.1 (show t∈(ji c (0,0,0,0)).map zH from ht);have h1:=(Jt c (0,0,0,0) 0 (qM.few (n:=5) (by omega) _ hw) (by simp[zm]) x hx).1;show(qb x.1.1 x.1.2).natAbs≤_;rw[qz];exact Nat.le_of_lt (Q1 (Ye c _ hd x hx) h1)
    ·rw[zL,List.length_map];exact Nat.le_trans (Qa c _) hn
   have h5:=J5 d;omega
  ·obtain⟨x,hx,e⟩:=QS hP hcf hs;have:=qa8 (d:=d) (n:=5) c (0,0,0,0) i hi hl hw (by rcases QA hi with rfl|rfl|rfl|rfl<;>exact Int.le_refl _) x hx;rw[←e];omega
theorem qho{k:Nat}(hk:k<4){t:RP}{d:Nat}(hw:qM d 5 (qq t))(hd:qG (qq t)):∀c∈jS ((k:Int)+1) t,qj c=true∧qM (d+1) 5 c∧qG c∧yI ((k:Int)+1) c=false:=by
 intro c hc;have hcan:=(jJ t).can.1;unfold jS at hc
 split at hc
 ·cases hc
 ·obtain⟨c0,h0,rfl⟩:=List.mem_map.1 hc;have hx:=jJ c0;have h1:=qhd ((k:Int)+1) _ (qq t) hw c0 h0;have h2:=qhs ((k:Int)+1) _ (qq t) hd c0 h0;have h3:=qeV ((k:Int)+1) _ (qq t) c0 h0;have h4:=(yw hcan hw).2.2;exact⟨hx.can.1,qlY (qio _ _ _ hcan c0 h0).1 h1 h2 (by omega),hx.dig h2,hx.oc hk (qi1 _ _ hcan c0 h0)⟩
theorem qfm{k:Nat}{t:RP}{d:Nat}(hw:qM d 5 (qq t)):(jS ((k:Int)+1) t).length≤6:=by
 unfold jS
 split
 ·exact Nat.zero_le _
 ·rw[List.length_map,Yx];have:=qaN ((k:Int)+1) _ hw;omega
def qiR(k d:Nat)(T:RP):Prop:=qj T=true∧qM d 5 T∧yI ((k:Int)+1) T=false
theorem qkx{k:Nat}{d:Nat}(i:Nat){c:RP}(hc:qj c=true)(hw:qM d 5 c)(hd:qG c)(ho:yI ((k:Int)+1) c=false):qj (sgc i c)=true∧qM (d+1) 5 (sgc i c)∧qG (sgc i c)∧yI ((k:Int)+1) (sgc i c)=false:=by
 unfold sgc;rw[qw hc]
 split
 ·exact⟨(Jg (-1) c hc).1,QD (e:=1) (by decide) c hw hd,YA _ _,qbe (by omega) _ _ ho⟩
 ·exact⟨hc,qM.mono (by omega) (Nat.le_refl _) _ hw,hd,ho⟩
theorem qeK{k d:Nat}(hk:k<4){c:RP}(hc:qj c=true)(hw:qM d 5 c)(hd:qG c)(ho:yI ((k:Int)+1) c=false):SgQ (qiR k (d+1)) c:=fun T hT=>by
 obtain⟨a,b⟩:=qkN hc hw hd hT;exact⟨a,b,hT.oc hk ho⟩
theorem qkh{k:Nat}(hk:k<4){t:RP}{d:Nat}{r:Int}{M:MX}(hw:qM d 5 (qq t))(hd:qG (qq t))(h:Zx r (jS ((k:Int)+1) t) M):YT (qiR k (d+3)) 1000 M:=by
 have ho:=qho hk hw hd;have hl:=qfm (k:=k) hw;refine h.mok (by omega) ?_ (fun c hc=>?_) (fun c hc i=>?_)
 ·exact qeK hk (by decide) (qM.zero _ _) qG.zero (yW (by omega))
 ·obtain⟨a,b,c1,e⟩:=ho c hc;exact qeK hk a (qM.mono (by omega) (Nat.le_refl _) _ b) c1 e
 ·obtain⟨a,b,c1,e⟩:=ho c hc;obtain⟨a2,b2,c2,e2⟩:=qkx (k:=k) i a b c1 e;exact qeK hk a2 b2 c2 e2
