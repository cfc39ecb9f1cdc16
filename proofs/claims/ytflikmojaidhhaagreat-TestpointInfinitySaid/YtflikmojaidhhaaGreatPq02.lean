import Derived.Deep.RegionHeld3
import Derived.Deep.DrawnRows
import Derived.Test.YtflikmojaidhhaaGreatPq01
namespace Go.Proofs.YtflikmojaidhhaaGreat
open Go.RowKit
structure qfr (w w':World) (pc o:Nat):Prop where
 blk:qd w' pc 134 #[.int .u32 (o:Int)]
 other:∀g t cs,g≠pc→qd w g t cs→qd w' g t cs
 below:∀B b,Below B b w→B≤pc→Below B b w'
set_option maxHeartbeats 400000
theorem qec(x y c pc s o:Nat)(hx:x<4294967296)(hy:y<4294967296)(hc:c≤1)(hs:s=(x+y+c)%4294967296)(ho:o=(x+y+c)/4294967296)(w:World)(hb:qd w pc 134 #[.int .u32 (c:Int)]):
 Calls Tryz.prog 150 #[.int .u32 (x:Int),.int .u32 (y:Int),.pointer (some ⟨pc,0,none⟩)] w fun e w'=>e= .returned (.int .u32 (s:Int))∧qfr w w' pc o:=by
 have h1:w.cell? ⟨pc,0,none⟩=some (.int .u32 (c:Int)):=by rw[hb.cell];rfl
 have h2:=hb.frozen 0;have h3:=hb.lt;have H1:=Lib.hid (yu x y c hx hy hc w);rw[←hs,←ho]at H1;clear hs ho;go_enter Tryz.func150,Tryz.ntmps150
 go_wp2_with (go_at_call 151;refine H1.out.mono ?_;rintro e w1 ⟨rfl,rfl⟩)
 go_ret
 exact⟨rfl,hb.set_ 0 _,fun g t cs hg h=>h.far hg _,fun B b h hB=>h.setCell hB _⟩
theorem jR{ds:List Nat}(h:qP ds)(k:Nat):ds.getD k 0<4294967296:=by
 rw[List.getD_eq_getElem?_getD];rcases Nat.lt_or_ge k ds.length with hk|hk
 ·rw[List.getElem?_eq_getElem hk];exact h _ (List.getElem_mem _)
 ·rw[List.getElem?_eq_none hk];decide
theorem qi5{p vz c xa xb va vb s o:Nat}(h:vz+p*c=va+vb)(hs:s=(xa+xb+c)%4294967296)(ho:o=(xa+xb+c)/4294967296):
 vz+p*s+p*4294967296*o=(va+p*xa)+(vb+p*xb):=by
 have e:xa+xb+c=s+4294967296*o:=by omega
 have e2:p*(xa+xb+c)=p*(s+4294967296*o):=by rw[e]
 rw[Nat.mul_add,Nat.mul_add,Nat.mul_add,←Nat.mul_assoc]at e2;omega
structure Zm (zs:List Nat) (c k n X:Nat):Prop where
 len:zs.length=n
 dg:qP zs
 zero:∀j,k≤j→j<n→zs.getD j 0=0
 sum:val zs+4294967296^k*c=X
 carry:c≤1
theorem Zm.step{zs:List Nat}{c k n va vb xa xb:Nat}(h:Zm zs c k n (va+vb))(hk:k<n)(hxa:xa<4294967296)(hxb:xb<4294967296):
 Zm (zs.set k ((xa+xb+c)%4294967296)) ((xa+xb+c)/4294967296) (k+1) n ((va+4294967296^k*xa)+(vb+4294967296^k*xb)):=by
 have hc:=h.carry;refine⟨by simp[h.len],fun d hd=>?_,fun j h1 h2=>?_,?_,by omega⟩
 ·rcases List.mem_or_eq_of_mem_set hd with hd|rfl
  ·exact h.dg d hd
  ·exact Nat.mod_lt _ (by decide)
 ·have:=h.zero j (by omega) h2;rw[List.getD_eq_getElem?_getD,List.getElem?_set_ne (by omega),←List.getD_eq_getElem?_getD];exact this
 ·have h0:=h.zero k (Nat.le_refl _) hk;have hs:=Jb (ds:=zs) (k:=k) (by rw[h.len];exact hk) ((xa+xb+c)%4294967296);rw[h0,Nat.mul_zero,Nat.add_zero]at hs;rw[hs,Nat.pow_succ];exact qi5 h.sum rfl rfl
theorem Zm.last{zs:List Nat}{c k n X:Nat}(h:Zm zs c k n X)(hk:k<n):qP (zs.set k c)∧val (zs.set k c)=X:=by
 have hc:=h.carry;refine⟨fun d hd=>?_,?_⟩
 ·rcases List.mem_or_eq_of_mem_set hd with hd|rfl
  ·exact h.dg d hd
  ·omega
 ·have h0:=h.zero k (Nat.le_refl _) hk;have hs:=Jb (ds:=zs) (k:=k) (by rw[h.len];exact hk) c;rw[h0,Nat.mul_zero,Nat.add_zero]at hs;rw[hs];exact h.sum
theorem qlw(n:Nat):Zm (List.replicate n 0) 0 0 n 0:=
 ⟨by simp,fun d hd=>by have:=List.eq_of_mem_replicate hd;omega,fun j _ h=>by simp[h],by simp[yd],by omega⟩
def qki(w:World)(B X:Nat)(u v:Value):Prop:=
 ∃(A A':Option Addr)(c c':Nat)(a b:List Nat),u= .slice A a.length c∧v= .slice A' b.length c'∧b.length≤a.length∧a.length≤900000∧qi w B 1 A a.length (qf a)∧qi w B 1 A' b.length (qf b)∧qP a∧qP b∧val a+val b=X
set_option maxHeartbeats 2000000
set_option maxRecDepth 100000
theorem ZK(A A':Option Addr)(c c' B:Nat)(ds es:List Nat)(w:World)(hB:B≤w.heap.size)(hc:ds.length≤c)(hc':es.length≤c')(hm:ds.length≤900000)(hm':es.length≤900000)
 (hr:qi w B 1 A ds.length (qf ds))(hr':qi w B 1 A' es.length (qf es))(hd:qP ds)(hd':qP es):
 Calls Tryz.prog 136 #[.slice A ds.length c,.slice A' es.length c'] w (qcw (val ds+val es) w):=by
 have h1:=qU A c B ds w hc (by omega) hr hd;have h2:=qU A' c' B es w hc' (by omega) hr' hd';have r1:=jo hr hd;have r2:=jo hr' hd';have l1:=qo hd;have l2:=qo hd';have g1:=qu (val ds);have g2:=qu (val es);have v1:=qp (val ds);have v2:=qp (val es);generalize val ds=x at*;generalize val es=y at*;generalize dig x=a at*;generalize dig y=b at*;have H1:=Lib.hid h1;have H2:=Lib.hid h2;have G1:=Lib.hid g1;have G2:=Lib.hid g2;have V1:=Lib.hid v1;have V2:=Lib.hid v2;clear h1 h2 g1 g2 v1 v2 hr hr' hd hd';go_enter Tryz.func136,Tryz.ntmps136
 go_wp2_with fail
 refine(H1.out).mono ?_;rintro e w1 ⟨rfl,rfl⟩;go_wp2_with fail
 refine(H2.out).mono ?_;rintro e w1 ⟨rfl,rfl⟩;go_upto_if 19 with(fail)
 go_cut [0,1] (fun u v wc=>qki w B (x+y) u v∧wc=w)
 case first=>
  by_cases hlt:a.length<b.length
  ·go_wp2_with fail
   go_meet
   case rel=>exact⟨⟨A',A,c',c,b,a,rfl,rfl,by omega,by omega,r2,r1,G2.out,G1.out,by rw[V1.out,V2.out,Nat.add_comm]⟩,rfl⟩
  ·go_wp2_with fail
   go_meet
   case rel=>exact⟨⟨A,A',c,c',a,b,rfl,rfl,by omega,by omega,r1,r2,G1.out,G2.out,by rw[V1.out,V2.out]⟩,rfl⟩
 case rest=>
  clear H1 H2 G1 G2 V1 V2 r1 r2 l1 l2;obtain⟨⟨A,A',c,c',a,b,rfl,rfl,hba,ha9,r1,r2,g1,g2,hv⟩,rfl⟩:=hcut;have G1:=Lib.hid g1;have G2:=Lib.hid g2;have V:=Lib.hid hv;clear g1 g2 hv;have hmk:=fun(W:World)=>Tryz.make_u32 (a.length+1) (by omega) W;rw[show((a.length+1:Nat):Int)=(a.length:Int)+1 by omega]at hmk;go_wp2_with fail
  clear hmk;have hbl0:Below wc.heap.size wc ((wc.alloc (.cells #[.int .u32 0] 134)).alloc (.cells (qf (List.replicate (a.length+1) 0)).toArray 134)):=((Below.refl _ wc).alloc (Nat.le_refl _) _).alloc (by simp) _;have hcb0:qd ((wc.alloc (.cells #[.int .u32 0] 134)).alloc (.cells (qf (List.replicate (a.length+1) 0)).toArray 134)) wc.heap.size 134 #[.int .u32 ((0:Nat):Int)]:=(qd.new wc 134 #[.int .u32 0]).alloc _;have hzb0:qd ((wc.alloc (.cells #[.int .u32 0] 134)).alloc (.cells (qf (List.replicate (a.length+1) 0)).toArray 134)) (wc.heap.size+1) 134 (qf (List.replicate (a.length+1) 0)).toArray:=by
   have:=qd.new (wc.alloc (.cells #[.int .u32 0] 134)) 134 (qf (List.replicate (a.length+1) 0)).toArray;simpa using this
  go_loopg [8,9,29] b.length (fun gn _ _ i wr=>∃(k:Nat)(zs:List Nat)(cr:Nat),k≤b.length∧gn=b.length-k∧i= .int .i64 k∧Zm zs cr k (a.length+1) (val (a.take k)+val (b.take k))∧qd wr wc.heap.size 134 #[.int .u32 (cr:Int)]∧qd wr (wc.heap.size+1) 134 (qf zs).toArray∧Below wc.heap.size wc wr)
  case atStart=>exact⟨0,_,0,Nat.zero_le _,rfl,rfl,qlw _,hcb0,hzb0,hbl0⟩
  case round=>
   clear hcb0 hzb0 hbl0;obtain⟨k,zs,cr,hk,hgk,rfl,hst,hcb,hzb,hd⟩:=hrel;have HG:=Lib.hid hgk;clear hgk;have hz:=hd.size;have hcr:=hst.carry;by_cases hlt:k<b.length
   ·obtain⟨b1,o1,rfl,q1,c1⟩:=jj (r1.below (hd.mono hB)) (k:=k) (by omega);obtain⟨b2,o2,rfl,q2,c2⟩:=jj (r2.below (hd.mono hB)) (k:=k) hlt;have hxa:=jR G1.out k;have hxb:=jR G2.out k;obtain⟨s,hs⟩:∃s,s=(a.getD k 0+b.getD k 0+cr)%4294967296:=⟨_,rfl⟩;obtain⟨o,ho⟩:∃o,o=(a.getD k 0+b.getD k 0+cr)/4294967296:=⟨_,rfl⟩;have hN:=hst.step (by omega) hxa hxb;rw[←hs,←ho]at hN;have HN:=Lib.hid hN;clear hN;have HS:=Lib.hid hs;have HO:=Lib.hid ho;clear hs ho;have HTA:=Lib.hid (qx (ds:=a) (k:=k) (by omega));have HTB:=Lib.hid (qx (ds:=b) (k:=k) hlt);generalize a.getD k 0=xa at*;generalize b.getD k 0=xb at*;have i1:(k:Int)<a.length:=by omega
    have i2:(k:Int)<b.length:=by omega
    have HST:=Lib.hid hst;clear hst;go_wp2_with (go_at_call 150;refine(qec xa xb cr wc.heap.size s o hxa hxb hcr HS.out HO.out _ hcb).mono ?_;rintro e w1 ⟨rfl,hcs⟩;refine Hid.out ?_)
    refine Lib.hid ?_;have hcb1:=hcs.blk;have hzb1:=hcs.other _ _ _ (by omega) hzb;have hd1:=hcs.below _ _ hd (Nat.le_refl _);clear hcs hcb hzb hd c1 c2;have hzl:k<zs.length:=by rw[HST.out.len];omega
    have c3:w1.cell? ⟨wc.heap.size+1,k,none⟩=some (.int .u32 ((zs.getD k 0:Nat):Int)):=(hzb1.cell k).trans (jn _ _ hzl);have f3:=hzb1.frozen k;generalize zs.getD k 0=zk at*;have z1:=hzb1.lt;have i3:(k:Int)<(a.length:Int)+1:=by omega
    go_wp2_with fail
    go_roundg (b.length-(k+1))
    case rel=>
     refine⟨k+1,zs.set k s,o,by omega,rfl,by go_num,?_,?_,?_,?_⟩
     ·rw[HTA.out,HTB.out];exact HN.out
     ·exact hcb1.far (by show _≠wc.heap.size+1;omega) _
     ·rw[←je];exact hzb1.set_ k _
     ·exact hd1.setCell (by show _≤wc.heap.size+1;omega) _
    case measure=>have:=HG.out;omega
   ·obtain rfl:k=b.length:=by omega
    rw[List.take_length]at hst;have HST0:=Lib.hid hst;clear hst;go_wp2_with fail
    go_loopg [10] (a.length-b.length) (fun gn i wr=>∃(k:Nat)(zs:List Nat)(cr:Nat),b.length≤k∧k≤a.length∧gn=a.length-k∧i= .int .i64 k∧Zm zs cr k (a.length+1) (val (a.take k)+val b)∧qd wr wc.heap.size 134 #[.int .u32 (cr:Int)]∧qd wr (wc.heap.size+1) 134 (qf zs).toArray∧Below wc.heap.size wc wr)
    case atStart=>exact⟨b.length,zs,cr,Nat.le_refl _,hba,rfl,rfl,HST0.out,hcb,hzb,hd⟩
    case round=>
     clear hcb hzb hd hz hcr HST0 HG;obtain⟨k,zs,cr,hbk,hk,hgk,rfl,hst,hcb,hzb,hd⟩:=hrel;have HG:=Lib.hid hgk;clear hgk;have hz:=hd.size;have hcr:=hst.carry;by_cases hlt:k<a.length
     ·obtain⟨b1,o1,rfl,q1,c1⟩:=jj (r1.below (hd.mono hB)) (k:=k) hlt;have hxa:=jR G1.out k;obtain⟨s,hs⟩:∃s,s=(a.getD k 0+0+cr)%4294967296:=⟨_,rfl⟩;obtain⟨o,ho⟩:∃o,o=(a.getD k 0+0+cr)/4294967296:=⟨_,rfl⟩;have hN:=hst.step (xb:=0) (by omega) hxa (by omega);rw[←hs,←ho,Nat.mul_zero,Nat.add_zero]at hN;have HN:=Lib.hid hN;clear hN;have HS:=Lib.hid hs;have HO:=Lib.hid ho;clear hs ho;have HTA:=Lib.hid (qx (ds:=a) (k:=k) (by omega));generalize a.getD k 0=xa at*;have i1:(k:Int)<a.length:=by omega
      have HST:=Lib.hid hst;clear hst;have HC:=Lib.hid (fun(w:World)(h:qd w wc.heap.size 134 #[.int .u32 (cr:Int)])=>qec xa 0 cr wc.heap.size s o hxa (by omega) hcr HS.out HO.out w h);go_wp2_with (go_at_call 150;refine(HC.out _ hcb).mono ?_;rintro e w1 ⟨rfl,hcs⟩;refine Hid.out ?_)
      refine Lib.hid ?_;have hcb1:=hcs.blk;have hzb1:=hcs.other _ _ _ (by omega) hzb;have hd1:=hcs.below _ _ hd (Nat.le_refl _);clear hcs hcb hzb hd c1;have hzl:k<zs.length:=by rw[HST.out.len];omega
      have c3:w1.cell? ⟨wc.heap.size+1,k,none⟩=some (.int .u32 ((zs.getD k 0:Nat):Int)):=(hzb1.cell k).trans (jn _ _ hzl);have f3:=hzb1.frozen k;generalize zs.getD k 0=zk at*;have z1:=hzb1.lt;have i3:(k:Int)<(a.length:Int)+1:=by omega
      go_wp2_with fail
      go_roundg (a.length-(k+1))
      case rel=>
       refine⟨k+1,zs.set k s,o,by omega,by omega,rfl,by go_num,?_,?_,?_,?_⟩
       ·rw[HTA.out];exact HN.out
       ·exact hcb1.far (by show _≠wc.heap.size+1;omega) _
       ·rw[←je];exact hzb1.set_ k _
       ·exact hd1.setCell (by show _≤wc.heap.size+1;omega) _
      case measure=>have:=HG.out;omega
     ·obtain rfl:k=a.length:=by omega
      rw[List.take_length]at hst;have hzl:a.length<zs.length:=by rw[hst.len];omega
      have hzlen:=hst.len;obtain⟨hdg,hval⟩:=hst.last (by omega);rw[V.out]at hval;have c0:wr.cell? ⟨wc.heap.size,0,none⟩=some (.int .u32 (cr:Int)):=(hcb.cell 0).trans rfl;have c3:wr.cell? ⟨wc.heap.size+1,a.length,none⟩=some (.int .u32 ((zs.getD a.length 0:Nat):Int)):=(hzb.cell a.length).trans (jn _ _ hzl);have f3:=hzb.frozen a.length;generalize zs.getD a.length 0=zk at*;have z0:=hcb.lt;have z1:=hzb.lt;have hzb2:qd (wr.setCell ⟨wc.heap.size+1,a.length,none⟩ (.int .u32 (cr:Int))) (wc.heap.size+1) 134 (qf (zs.set a.length cr)).toArray:=by rw[←je];exact hzb.set_ _ _
      have hd2:Below wc.heap.size wc (wr.setCell ⟨wc.heap.size+1,a.length,none⟩ (.int .u32 (cr:Int))):=hd.setCell (by show _≤wc.heap.size+1;omega) _;have hrd:=hzb2.reads (zs.set a.length cr).length (Nat.le_refl _);rw[List.take_length]at hrd;have htr:=qU (some ⟨wc.heap.size+1,0,none⟩) (a.length+1) _ (zs.set a.length cr) _ (by rw[List.length_set];omega) (by rw[List.length_set];omega) hrd hdg;have hrd2:=(zE.of_blk (Nat.le_succ wc.heap.size) hzb2).dig hdg;have hll:=qo hdg;rw[List.length_set,hzlen]at htr hll;rw[hval]at htr hrd2 hll;generalize hws:dig (x+y)=ws at*;have HW:=Lib.hid hws;clear hws;have HTR:=Lib.hid htr;have HRD:=Lib.hid hrd2;have HLL:=Lib.hid hll;have HD2:=Lib.hid hd2;clear htr hrd2 hll hrd hzb2 hd2 hst hdg hval hzlen hcb hzb hd;go_wp2_with fail
      refine(HTR.out).mono ?_;rintro e w5 ⟨rfl,rfl⟩;go_wp2_with fail
      go_ret
      exact⟨_,_,by rw[HW.out];rfl,by rw[HW.out];exact HLL.out,by rw[HW.out];exact HRD.out,HD2.out⟩
theorem qjL(A A':Option Addr)(c c' B:Nat)(ds es:List Nat)(w:World)(hB:B≤w.heap.size)(hc:ds.length≤c)(hc':es.length≤c')(hm:ds.length≤900000)(hm':es.length≤900000)
 (hr:qi w B 1 A ds.length (qf ds))(hr':qi w B 1 A' es.length (qf es))(hd:qP ds)(hd':qP es):
 Calls Tryz.prog 136 #[.slice A ds.length c,.slice A' es.length c'] w (jT (val ds+val es) w):=
 (ZK A A' c c' B ds es w hB hc hc' hm hm' hr hr' hd hd').mono fun _ _ h=>h.res
end Go.Proofs.YtflikmojaidhhaaGreat
namespace Go.Proofs.YtflikmojaidhhaaGreat
open Go.RowKit
set_option maxHeartbeats 400000
theorem qdY(x y c pc s o:Nat)(hx:x<4294967296)(hy:y<4294967296)(hc:c≤1)(hs:s=(x+4294967296-y-c)%4294967296)(ho:o=if x<y+c then 1 else 0)(w:World)(hb:qd w pc 134 #[.int .u32 (c:Int)]):
 Calls Tryz.prog 152 #[.int .u32 (x:Int),.int .u32 (y:Int),.pointer (some ⟨pc,0,none⟩)] w fun e w'=>e= .returned (.int .u32 (s:Int))∧qfr w w' pc o:=by
 have h1:w.cell? ⟨pc,0,none⟩=some (.int .u32 (c:Int)):=by rw[hb.cell];rfl
 have h2:=hb.frozen 0;have h3:=hb.lt;have H1:=Lib.hid (YF x y c hx hy hc w);rw[←hs,←ho]at H1;clear hs ho;go_enter Tryz.func152,Tryz.ntmps152
 go_wp2_with (go_at_call 153;refine H1.out.mono ?_;rintro e w1 ⟨rfl,rfl⟩)
 go_ret
 exact⟨rfl,hb.set_ 0 _,fun g t cs hg h=>h.far hg _,fun B b h hB=>h.setCell hB _⟩
theorem qij{p vz c xa xb va vb s o:Nat}(h:vz+vb=va+p*c)(hxa:xa<4294967296)(hxb:xb<4294967296)(hc:c≤1)(hs:s=(xa+4294967296-xb-c)%4294967296)(ho:o=if xa<xb+c then 1 else 0):
 vz+p*s+(vb+p*xb)=(va+p*xa)+p*4294967296*o:=by
 have e:s+xb+c=xa+4294967296*o:=by
  by_cases h:xa<xb+c
  ·rw[if_pos h]at ho;omega
  ·rw[if_neg h]at ho;omega
 have e2:p*(s+xb+c)=p*(xa+4294967296*o):=by rw[e]
 rw[Nat.mul_add,Nat.mul_add,Nat.mul_add,←Nat.mul_assoc]at e2;omega
structure Zh (zs:List Nat) (c k n X Y:Nat):Prop where
 len:zs.length=n
 dg:qP zs
 zero:∀j,k≤j→j<n→zs.getD j 0=0
 sum:val zs+Y=X+4294967296^k*c
 carry:c≤1
theorem Zh.step{zs:List Nat}{c k n va vb xa xb s o:Nat}(h:Zh zs c k n va vb)(hk:k<n)(hxa:xa<4294967296)(hxb:xb<4294967296)(hs0:s=(xa+4294967296-xb-c)%4294967296)(ho:o=if xa<xb+c then 1 else 0):
 Zh (zs.set k s) o (k+1) n (va+4294967296^k*xa) (vb+4294967296^k*xb):=by
 have hc:=h.carry;refine⟨by simp[h.len],fun d hd=>?_,fun j h1 h2=>?_,?_,by split at ho<;>omega⟩
 ·rcases List.mem_or_eq_of_mem_set hd with hd|rfl
  ·exact h.dg d hd
  ·rw[hs0];exact Nat.mod_lt _ (by decide)
 ·have:=h.zero j (by omega) h2;rw[List.getD_eq_getElem?_getD,List.getElem?_set_ne (by omega),←List.getD_eq_getElem?_getD];exact this
 ·have h0:=h.zero k (Nat.le_refl _) hk;have hs:=Jb (ds:=zs) (k:=k) (by rw[h.len];exact hk) s;rw[h0,Nat.mul_zero,Nat.add_zero]at hs;rw[hs,Nat.pow_succ];exact qij h.sum hxa hxb hc hs0 ho
theorem Zh.last{zs:List Nat}{c n X Y:Nat}(h:Zh zs c n n X Y)(hle:Y≤X):val zs=X-Y:=by
 have hc:=h.carry;have h1:=qT h.dg;rw[h.len]at h1;have h2:=h.sum;have:c=0∨c=1:=by omega
 rcases this with rfl|rfl
 ·omega
 ·generalize 4294967296^n=p at *; omega
theorem qlo(n:Nat):Zh (List.replicate n 0) 0 0 n 0 0:=
 ⟨by simp,fun d hd=>by have:=List.eq_of_mem_replicate hd;omega,fun j _ h=>by simp[h],by simp[yd],by omega⟩
def qcz(v:Nat)(w:World)(e:Ending)(w':World):Prop:=
 ∃A c,e= .returned (.tuple #[.slice A (dig v).length c,.bool true])∧(dig v).length≤c∧qk w' A (dig v)∧Below w.heap.size w w'
def qcg(v:Nat)(w:World)(e:Ending)(w':World):Prop:=
 ∃A c,e= .returned (.tuple #[.slice A (dig v).length c,.bool true])∧(dig v).length≤c∧zE w.heap.size w' A (dig v)∧Below w.heap.size w w'
theorem qcg.res{v:Nat}{w:World}{e:Ending}{w':World}(h:qcg v w e w'):qcz v w e w':=by
 obtain⟨A,c,h1,h2,h3,h4⟩:=h;exact⟨A,c,h1,h2,h3.nat,h4⟩
set_option maxHeartbeats 2000000
set_option maxRecDepth 100000
theorem qfb(A A':Option Addr)(c c' B:Nat)(ds es:List Nat)(w:World)(hB:B≤w.heap.size)(hc:ds.length≤c)(hc':es.length≤c')(hm:ds.length≤900000)(hm':es.length≤900000)
 (hr:qi w B 1 A ds.length (qf ds))(hr':qi w B 1 A' es.length (qf es))(hd:qP ds)(hd':qP es)(hle:val es≤val ds):
 Calls Tryz.prog 138 #[.slice A ds.length c,.slice A' es.length c'] w (qcg (val ds-val es) w):=by
 have h1:=qU A c B ds w hc (by omega) hr hd;have h2:=qU A' c' B es w hc' (by omega) hr' hd';have r1:=jo hr hd;have r2:=jo hr' hd';have l1:=qo hd;have l2:=qo hd';have g1:=qu (val ds);have g2:=qu (val es);have v1:=qp (val ds);have v2:=qp (val es);have hba:(dig (val es)).length≤(dig (val ds)).length:=by
  rcases Nat.lt_or_ge (dig (val ds)).length (dig (val es)).length with h|h
  ·have:=JS h;omega
  ·exact h
 generalize val ds=x at*;generalize val es=y at*;generalize dig x=a at*;generalize dig y=b at*;have h3:=qcE A A' c c' B a b w (by omega) (by omega) (by omega) (by omega) r1 r2 g1 g2;rw[v1,v2]at h3;have hcm:0≤Jy x y:=by unfold Jy;split;omega;split<;>omega
 generalize Jy x y=cm at*;have H1:=Lib.hid h1;have H2:=Lib.hid h2;have H3:=Lib.hid h3;have G1:=Lib.hid g1;have G2:=Lib.hid g2;have V1:=Lib.hid v1;have V2:=Lib.hid v2;clear h1 h2 h3 g1 g2 v1 v2 hr hr' hd hd';go_enter Tryz.func138,Tryz.ntmps138
 go_wp2_with fail
 refine(H1.out).mono ?_;rintro e w1 ⟨rfl,rfl⟩;go_wp2_with fail
 refine(H2.out).mono ?_;rintro e w1 ⟨rfl,rfl⟩;have hmk:=fun(W:World)=>Tryz.make_u32 a.length (by omega) W;go_wp2_with fail
 refine(H3.out).mono ?_;rintro e wc ⟨rfl,hdr⟩;have hwc:wc.heap.size=w.heap.size:=by rw[hdr.heap]
 have hbw:=hdr.below w.heap.size;have r1:=r1.drawn hdr;have r2:=r2.drawn hdr;have hB:B≤wc.heap.size:=by omega
 clear H1 H2 H3 hdr;have HWC:=Lib.hid hwc;have HBW:=Lib.hid hbw;clear hwc hbw;go_wp2_with fail
 clear hmk;have hbl0:Below wc.heap.size wc ((wc.alloc (.cells #[.int .u32 0] 134)).alloc (.cells (qf (List.replicate a.length 0)).toArray 134)):=((Below.refl _ wc).alloc (Nat.le_refl _) _).alloc (by simp) _;have hcb0:qd ((wc.alloc (.cells #[.int .u32 0] 134)).alloc (.cells (qf (List.replicate a.length 0)).toArray 134)) wc.heap.size 134 #[.int .u32 ((0:Nat):Int)]:=(qd.new wc 134 #[.int .u32 0]).alloc _;have hzb0:qd ((wc.alloc (.cells #[.int .u32 0] 134)).alloc (.cells (qf (List.replicate a.length 0)).toArray 134)) (wc.heap.size+1) 134 (qf (List.replicate a.length 0)).toArray:=by
  have:=qd.new (wc.alloc (.cells #[.int .u32 0] 134)) 134 (qf (List.replicate a.length 0)).toArray;simpa using this
 go_loopg [9,10,26] b.length (fun gn _ _ i wr=>∃(k:Nat)(zs:List Nat)(cr:Nat),k≤b.length∧gn=b.length-k∧i= .int .i64 k∧Zh zs cr k a.length (val (a.take k)) (val (b.take k))∧qd wr wc.heap.size 134 #[.int .u32 (cr:Int)]∧qd wr (wc.heap.size+1) 134 (qf zs).toArray∧Below wc.heap.size wc wr)
 case atStart=>exact⟨0,_,0,Nat.zero_le _,rfl,rfl,qlo _,hcb0,hzb0,hbl0⟩
 case round=>
  clear hcb0 hzb0 hbl0;obtain⟨k,zs,cr,hk,hgk,rfl,hst,hcb,hzb,hd⟩:=hrel;have HG:=Lib.hid hgk;clear hgk;have hz:=hd.size;have hcr:=hst.carry;by_cases hlt:k<b.length
  ·obtain⟨b1,o1,rfl,q1,c1⟩:=jj (r1.below (hd.mono hB)) (k:=k) (by omega);obtain⟨b2,o2,rfl,q2,c2⟩:=jj (r2.below (hd.mono hB)) (k:=k) hlt;have hxa:=jR G1.out k;have hxb:=jR G2.out k;obtain⟨s,hs⟩:∃s,s=(a.getD k 0+4294967296-b.getD k 0-cr)%4294967296:=⟨_,rfl⟩;obtain⟨o,ho⟩:∃o,o=(if a.getD k 0<b.getD k 0+cr then 1 else 0:Nat):=⟨_,rfl⟩;have hN:=hst.step (by omega) hxa hxb hs ho;have HN:=Lib.hid hN;clear hN;have HS:=Lib.hid hs;have HO:=Lib.hid ho;clear hs ho;have HTA:=Lib.hid (qx (ds:=a) (k:=k) (by omega));have HTB:=Lib.hid (qx (ds:=b) (k:=k) hlt);generalize a.getD k 0=xa at*;generalize b.getD k 0=xb at*;have i1:(k:Int)<a.length:=by omega
   have i2:(k:Int)<b.length:=by omega
   have HST:=Lib.hid hst;clear hst;go_wp2_with (go_at_call 152;refine(qdY xa xb cr wc.heap.size s o hxa hxb hcr HS.out HO.out _ hcb).mono ?_;rintro e w1 ⟨rfl,hcs⟩;refine Hid.out ?_)
   refine Lib.hid ?_;have hcb1:=hcs.blk;have hzb1:=hcs.other _ _ _ (by omega) hzb;have hd1:=hcs.below _ _ hd (Nat.le_refl _);clear hcs hcb hzb hd c1 c2;have hzl:k<zs.length:=by rw[HST.out.len];omega
   have c3:w1.cell? ⟨wc.heap.size+1,k,none⟩=some (.int .u32 ((zs.getD k 0:Nat):Int)):=(hzb1.cell k).trans (jn _ _ hzl);have f3:=hzb1.frozen k;generalize zs.getD k 0=zk at*;have z1:=hzb1.lt;have i3:(k:Int)<(a.length:Int):=by omega
   go_wp2_with fail
   go_roundg (b.length-(k+1))
   case rel=>
    refine⟨k+1,zs.set k s,o,by omega,rfl,by go_num,?_,?_,?_,?_⟩
    ·rw[HTA.out,HTB.out];exact HN.out
    ·exact hcb1.far (by show _≠wc.heap.size+1;omega) _
    ·rw[←je];exact hzb1.set_ k _
    ·exact hd1.setCell (by show _≤wc.heap.size+1;omega) _
   case measure=>have:=HG.out;omega
  ·obtain rfl:k=b.length:=by omega
   rw[List.take_length]at hst;have HST0:=Lib.hid hst;clear hst;go_wp2_with fail
   go_loopg [11] (a.length-b.length) (fun gn i wr=>∃(k:Nat)(zs:List Nat)(cr:Nat),b.length≤k∧k≤a.length∧gn=a.length-k∧i= .int .i64 k∧Zh zs cr k a.length (val (a.take k)) (val b)∧qd wr wc.heap.size 134 #[.int .u32 (cr:Int)]∧qd wr (wc.heap.size+1) 134 (qf zs).toArray∧Below wc.heap.size wc wr)
   case atStart=>exact⟨b.length,zs,cr,Nat.le_refl _,hba,rfl,rfl,HST0.out,hcb,hzb,hd⟩
   case round=>
    clear hcb hzb hd hz hcr HST0 HG;obtain⟨k,zs,cr,hbk,hk,hgk,rfl,hst,hcb,hzb,hd⟩:=hrel;have HG:=Lib.hid hgk;clear hgk;have hz:=hd.size;have hcr:=hst.carry;by_cases hlt:k<a.length
    ·obtain⟨b1,o1,rfl,q1,c1⟩:=jj (r1.below (hd.mono hB)) (k:=k) hlt;have hxa:=jR G1.out k;obtain⟨s,hs⟩:∃s,s=(a.getD k 0+4294967296-0-cr)%4294967296:=⟨_,rfl⟩;obtain⟨o,ho⟩:∃o,o=(if a.getD k 0<0+cr then 1 else 0:Nat):=⟨_,rfl⟩;have hN:=hst.step (xb:=0) (by omega) hxa (by omega) hs ho;rw[Nat.mul_zero,Nat.add_zero]at hN;have HN:=Lib.hid hN;clear hN;have HS:=Lib.hid hs;have HO:=Lib.hid ho;clear hs ho;have HTA:=Lib.hid (qx (ds:=a) (k:=k) (by omega));generalize a.getD k 0=xa at*;have i1:(k:Int)<a.length:=by omega
     have HST:=Lib.hid hst;clear hst;have HC:=Lib.hid (fun(w:World)(h:qd w wc.heap.size 134 #[.int .u32 (cr:Int)])=>qdY xa 0 cr wc.heap.size s o hxa (by omega) hcr HS.out HO.out w h);go_wp2_with (go_at_call 152;refine(HC.out _ hcb).mono ?_;rintro e w1 ⟨rfl,hcs⟩;refine Hid.out ?_)
     refine Lib.hid ?_;have hcb1:=hcs.blk;have hzb1:=hcs.other _ _ _ (by omega) hzb;have hd1:=hcs.below _ _ hd (Nat.le_refl _);clear hcs hcb hzb hd c1;have hzl:k<zs.length:=by rw[HST.out.len];omega
     have c3:w1.cell? ⟨wc.heap.size+1,k,none⟩=some (.int .u32 ((zs.getD k 0:Nat):Int)):=(hzb1.cell k).trans (jn _ _ hzl);have f3:=hzb1.frozen k;generalize zs.getD k 0=zk at*;have z1:=hzb1.lt;have i3:(k:Int)<(a.length:Int):=by omega
     go_wp2_with fail
     go_roundg (a.length-(k+1))
     case rel=>
      refine⟨k+1,zs.set k s,o,by omega,by omega,rfl,by go_num,?_,?_,?_,?_⟩
      ·rw[HTA.out];exact HN.out
      ·exact hcb1.far (by show _≠wc.heap.size+1;omega) _
      ·rw[←je];exact hzb1.set_ k _
      ·exact hd1.setCell (by show _≤wc.heap.size+1;omega) _
     case measure=>have:=HG.out;omega
    ·obtain rfl:k=a.length:=by omega
     rw[List.take_length]at hst;have hzlen:=hst.len;have hval:=hst.last (by rw[V1.out,V2.out];exact hle);have hdg:=hst.dg;rw[V1.out,V2.out]at hval;have hrd:=hzb.reads zs.length (Nat.le_refl _);rw[List.take_length]at hrd;have htr:=qU (some ⟨wc.heap.size+1,0,none⟩) a.length _ zs _ (by omega) (by omega) hrd hdg;have hrd2:=(zE.of_blk (b:=w.heap.size) (by rw[HWC.out];omega) hzb).dig hdg;have hll:=qo hdg;rw[hzlen]at htr hll;rw[hval]at htr hrd2 hll;generalize hws:dig (x-y)=ws at*;have HW:=Lib.hid hws;clear hws;have HTR:=Lib.hid htr;have HRD:=Lib.hid hrd2;have HLL:=Lib.hid hll;clear htr hrd2 hll hrd hst hdg hval hzlen hcb hzb;go_wp2_with fail
     refine(HTR.out).mono ?_;rintro e w5 ⟨rfl,rfl⟩;go_wp2_with fail
     go_ret2
     exact⟨_,_,by rw[HW.out];rfl,by rw[HW.out];exact HLL.out,by rw[HW.out];exact HRD.out,HBW.out.trans (hd.mono (by rw[HWC.out];omega))⟩
theorem qfP(A A':Option Addr)(c c' B:Nat)(ds es:List Nat)(w:World)(hB:B≤w.heap.size)(hc:ds.length≤c)(hc':es.length≤c')(hm:ds.length≤900000)(hm':es.length≤900000)
 (hr:qi w B 1 A ds.length (qf ds))(hr':qi w B 1 A' es.length (qf es))(hd:qP ds)(hd':qP es)(hle:val es≤val ds):
 Calls Tryz.prog 138 #[.slice A ds.length c,.slice A' es.length c'] w (qcz (val ds-val es) w):=
 (qfb A A' c c' B ds es w hB hc hc' hm hm' hr hr' hd hd' hle).mono fun _ _ h=>h.res
open Go.RowKit
theorem Qm{x y:Nat}(hx:x<4294967296)(hy:y<4294967296):x*y≤18446744065119617025:=by
 have:=Nat.mul_le_mul (show x≤4294967295 by omega) (show y≤4294967295 by omega);omega
set_option maxHeartbeats 400000
theorem YY(x y:Nat)(hx:x<4294967296)(hy:y<4294967296)(w:World):
 Calls Tryz.prog 175 #[.int .u32 (x:Int),.int .u32 (y:Int)] w fun e w'=>e= .returned (.tuple #[.int .u32 ((x*y/4294967296:Nat):Int),.int .u32 ((x*y%4294967296:Nat):Int)])∧w=w':=by
 have h1:(x:Int)*(y:Int)≤18446744065119617025:=by have:=Qm hx hy;rw[←Int.natCast_mul];omega
 have h0:0≤(x:Int)*(y:Int):=by rw[←Int.natCast_mul];omega
 have e1:((x*y/4294967296:Nat):Int)=(x:Int)*(y:Int)/4294967296:=by rw[Int.natCast_ediv,Int.natCast_mul];rfl
 have e2:((x*y%4294967296:Nat):Int)=(x:Int)*(y:Int)%4294967296:=by rw[Int.natCast_emod,Int.natCast_mul];rfl
 rw[e1,e2];clear e1 e2;go_enter Tryz.func175,Tryz.ntmps175
 go_wp2
 go_ret2
 exact⟨rfl,rfl⟩
structure Zj (zs:List Nat) (n m i V:Nat):Prop where
 len:zs.length=n
 dg:qP zs
 zero:∀j,i+m≤j→j<n→zs.getD j 0=0
 sum:val zs=V
structure Z4 (zs:List Nat) (n m i j c V:Nat):Prop where
 len:zs.length=n
 dg:qP zs
 zero:∀j,i+m≤j→j<n→zs.getD j 0=0
 sum:val zs+4294967296^(i+j)*c=V
 carry:c<4294967296
theorem qll(n m:Nat):Zj (List.replicate n 0) n m 0 0:=
 ⟨by simp,fun d hd=>by have:=List.eq_of_mem_replicate hd;omega,fun j _ h=>by simp[h],yd _⟩
theorem Zj.row{zs:List Nat}{n m i V:Nat}(h:Zj zs n m i V):Z4 zs n m i 0 0 V:=⟨h.len,h.dg,h.zero,by simp[h.sum],by omega⟩
theorem Zj.skip{zs:List Nat}{n m i V:Nat}(h:Zj zs n m i V):Zj zs n m (i+1) V:=⟨h.len,h.dg,fun j h1 h2=>h.zero j (by omega) h2,h.sum⟩
theorem Z4.step{zs:List Nat}{n m i j c V x y s o:Nat}(h:Z4 zs n m i j c V)(hj:i+j<n)(hjm:j<m)(hs:s<4294967296)(ho:o<4294967296)(he:s+4294967296*o=x*y+zs.getD (i+j) 0+c):
 Z4 (zs.set (i+j) s) n m i (j+1) o (V+4294967296^i*(x*(4294967296^j*y))):=by
 refine⟨by simp[h.len],fun d hd=>?_,fun k h1 h2=>?_,?_,ho⟩
 ·rcases List.mem_or_eq_of_mem_set hd with hd|rfl
  ·exact h.dg d hd
  ·exact hs
 ·have:=h.zero k h1 h2;rw[List.getD_eq_getElem?_getD,List.getElem?_set_ne (by omega),←List.getD_eq_getElem?_getD];exact this
 ·have hv:=Jb (ds:=zs) (k:=i+j) (by rw[h.len];exact hj) s;have h0:=h.sum;have e1:4294967296^(i+(j+1))*o=4294967296^(i+j)*(4294967296*o):=by rw[←Nat.add_assoc,Nat.pow_succ,Nat.mul_assoc]
  have e2:4294967296^i*(x*(4294967296^j*y))=4294967296^(i+j)*(x*y):=by
   rw[Nat.pow_add,Nat.mul_left_comm x,Nat.mul_assoc]
  have e3:4294967296^(i+j)*(s+4294967296*o)=4294967296^(i+j)*(x*y+zs.getD (i+j) 0+c):=by rw[he]
  rw[Nat.mul_add,Nat.mul_add,Nat.mul_add]at e3;rw[e1,e2];omega
theorem Z4.last{zs:List Nat}{n m i c V:Nat}(h:Z4 zs n m i m c V)(hj:i+m<n):Zj (zs.set (i+m) c) n m (i+1) V:=by
 refine⟨by simp[h.len],fun d hd=>?_,fun k h1 h2=>?_,?_⟩
 ·rcases List.mem_or_eq_of_mem_set hd with hd|rfl
  ·exact h.dg d hd
  ·exact h.carry
 ·have:=h.zero k (by omega) h2;rw[List.getD_eq_getElem?_getD,List.getElem?_set_ne (by omega),←List.getD_eq_getElem?_getD];exact this
 ·have hv:=Jb (ds:=zs) (k:=i+m) (by rw[h.len];exact hj) c;have h0:=h.sum;rw[h.zero (i+m) (Nat.le_refl _) hj,Nat.mul_zero,Nat.add_zero]at hv;omega
theorem qex{x y r c:Nat}(hx:x<4294967296)(hy:y<4294967296)(hr:r<4294967296)(hc:c<4294967296):
 x*y/4294967296+(x*y%4294967296+r+0)/4294967296+((x*y%4294967296+r+0)%4294967296+c+0)/4294967296<4294967296∧
 ((x*y%4294967296+r+0)%4294967296+c+0)%4294967296+4294967296*(x*y/4294967296+(x*y%4294967296+r+0)/4294967296+((x*y%4294967296+r+0)%4294967296+c+0)/4294967296)=x*y+r+c:=by
 have:=Qm hx hy;generalize x*y=p at*;omega
theorem qjs{p x v q y V:Nat}:V+p*(x*v)+p*(x*(q*y))=V+p*(x*(v+q*y)):=by
 rw[Nat.mul_add,Nat.mul_add,Nat.add_assoc]
theorem qkr{v p x b:Nat}:v*b+p*(x*b)=(v+p*x)*b:=by rw[Nat.add_mul,Nat.mul_assoc]
def qjJ(n v:Nat)(w:World)(e:Ending)(w':World):Prop:=
 ∃A c zs,e= .returned (.slice A (List.length zs) c)∧zs.length≤c∧zs.length=n∧qP zs∧val zs=v∧qk w' A zs∧Below w.heap.size w w'
def QW(n v:Nat)(w:World)(e:Ending)(w':World):Prop:=
 ∃A c zs,e= .returned (.slice A (List.length zs) c)∧zs.length≤c∧zs.length=n∧qP zs∧val zs=v∧zE w.heap.size w' A zs∧Below w.heap.size w w'
theorem QW.res{n v:Nat}{w:World}{e:Ending}{w':World}(h:QW n v w e w'):qjJ n v w e w':=by
 obtain⟨A,c,zs,h1,h2,h3,h4,h5,h6,h7⟩:=h;exact⟨A,c,zs,h1,h2,h3,h4,h5,h6.nat,h7⟩
set_option maxHeartbeats 2000000
theorem qep(A A':Option Addr)(c c' B:Nat)(a b:List Nat)(w:World)(hB:B≤w.heap.size)(hm:a.length+b.length≤900000)
 (r1:qi w B 1 A a.length (qf a))(r2:qi w B 1 A' b.length (qf b))(g1:qP a)(g2:qP b):
 Calls Tryz.prog 148 #[.slice A a.length c,.slice A' b.length c'] w (QW (a.length+b.length) (val a*val b) w):=by
 have G1:=Lib.hid g1;have G2:=Lib.hid g2;clear g1 g2;have hmk:=fun(W:World)=>Tryz.make_u32 (a.length+b.length) (by omega) W;rw[show((a.length+b.length:Nat):Int)=(a.length:Int)+(b.length:Int)by omega]at hmk;go_enter Tryz.func148,Tryz.ntmps148
 go_wp2_with fail
 clear hmk;go_loopg [6,7,8,9,10,11,12,13,14,23] a.length (fun gn _ _ _ _ _ _ _ _ _ i wr=>∃(k:Nat)(zs:List Nat),k≤a.length∧gn=a.length-k∧i= .int .i64 k∧Zj zs (a.length+b.length) b.length k (val (a.take k)*val b)∧qd wr w.heap.size 134 (qf zs).toArray∧Below w.heap.size w wr)
 case atStart=>exact⟨0,_,Nat.zero_le _,rfl,rfl,by simpa[val]using qll _ _,qd.new _ _ _,(Below.refl _ w).alloc (Nat.le_refl _) _⟩
 case round=>
  obtain⟨i,zs,hi,hgi,rfl,hst,hzb,hd⟩:=hrel;have HG:=Lib.hid hgi;clear hgi;have hz:=hd.size;by_cases hlt:i<a.length
  ·obtain⟨b1,o1,rfl,q1,c1⟩:=jj (r1.below (hd.mono hB)) (k:=i) hlt;have hx:=jR G1.out i;have HTA:=Lib.hid (qx (ds:=a) (k:=i) hlt);have i1:(i:Int)<a.length:=by omega
   generalize a.getD i 0=x at*;by_cases hx0:x=0
   ·subst hx0;have hs2:=hst.skip;have HS2:=Lib.hid hs2;clear hst hs2;go_wp2_with fail
    go_roundg (a.length-(i+1))
    case rel=>exact⟨i+1,zs,by omega,rfl,by go_num,by rw[HTA.out];simpa using HS2.out,hzb,hd⟩
    case measure=>have:=HG.out;omega
   ·have hxb:((x:Int)==0)=false:=by simpa using hx0
    have HX0:=Lib.hid hx0;clear hx0;have HST:=Lib.hid hst;clear hst;go_wp2_with fail
    go_loopg [9,10,11,12,13,14,35] b.length (fun gn cy _ _ _ _ _ j wr=>∃(q:Nat)(zs:List Nat)(o:Nat),q≤b.length∧gn=b.length-q∧j= .int .i64 q∧cy= .int .u32 (o:Int)∧Z4 zs (a.length+b.length) b.length i q o (val (a.take i)*val b+4294967296^i*(x*val (b.take q)))∧qd wr w.heap.size 134 (qf zs).toArray∧Below w.heap.size w wr)
    case atStart=>exact⟨0,zs,0,Nat.zero_le _,rfl,rfl,rfl,by simpa[val]using HST.out.row,hzb,hd⟩
    case round=>
     clear HST hzb hd hz c1;obtain⟨q,zs,cy,hq,hgq,rfl,rfl,hst,hzb,hd⟩:=hrel;have HGQ:=Lib.hid hgq;clear hgq;have hz:=hd.size;have hcy:=hst.carry;by_cases hlt2:q<b.length
     ·obtain⟨b2,o2,rfl,q2,c2⟩:=jj (r2.below (hd.mono hB)) (k:=q) hlt2;have hy:=jR G2.out q;have HTB:=Lib.hid (qx (ds:=b) (k:=q) hlt2);generalize b.getD q 0=y at*;have hzl:i+q<zs.length:=by rw[hst.len];omega
      have c3:wr.cell? ⟨w.heap.size,i+q,none⟩=some (.int .u32 ((zs.getD (i+q) 0:Nat):Int)):=(hzb.cell (i+q)).trans (jn _ _ hzl);have hrr:=jR hst.dg (i+q);have f3:=hzb.frozen (i+q);obtain⟨hd1,hd2⟩:=qex hx hy hrr hcy;have hmu:=YY x y hx hy;have hp:=Qm hx hy;have hlo:x*y%4294967296<4294967296:=Nat.mod_lt _ (by decide);have ha1:=yu (x*y%4294967296) (zs.getD (i+q) 0) 0 hlo hrr (by omega);have hs1:(x*y%4294967296+zs.getD (i+q) 0+0)%4294967296<4294967296:=Nat.mod_lt _ (by decide);have ha2:=yu ((x*y%4294967296+zs.getD (i+q) 0+0)%4294967296) cy 0 hs1 hcy (by omega);have hs2:((x*y%4294967296+zs.getD (i+q) 0+0)%4294967296+cy+0)%4294967296<4294967296:=Nat.mod_lt _ (by decide);have hN:=hst.step (x:=x) (y:=y) (by omega) hlt2 hs2 hd1 hd2;rw[qjs]at hN;generalize ((x*y%4294967296+zs.getD (i+q) 0+0)%4294967296+cy+0)%4294967296=s2 at*;generalize ((x*y%4294967296+zs.getD (i+q) 0+0)%4294967296+cy+0)/4294967296=k2 at*;generalize (x*y%4294967296+zs.getD (i+q) 0+0)%4294967296=s1 at*;generalize (x*y%4294967296+zs.getD (i+q) 0+0)/4294967296=k1 at*;generalize x*y%4294967296=lo at*;generalize x*y/4294967296=hi' at*;generalize zs.getD (i+q) 0=r at*;have HN:=Lib.hid hN;have HMU:=Lib.hid hmu;have HA1:=Lib.hid ha1;have HA2:=Lib.hid ha2;have HST:=Lib.hid hst;clear hN hmu ha1 ha2 hst hd2 hp;have i2:(q:Int)<b.length:=by omega
      have i3:(q:Int)<((a.length+b.length-i:Nat):Int):=by omega
      have z1:=hzb.lt;go_wp2_with fail
      refine(HMU.out _).mono ?_;rintro e w1 ⟨rfl,rfl⟩;go_wp2_with fail
      refine(HA1.out _).mono ?_;rintro e w1 ⟨rfl,rfl⟩;go_wp2_with fail
      refine(HA2.out _).mono ?_;rintro e w1 ⟨rfl,rfl⟩;go_wp2_with fail
      go_roundg (b.length-(q+1))
      case rel=>
       refine⟨q+1,zs.set (i+q) s2,hi'+k1+k2,by omega,rfl,by go_num,by go_num,?_,?_,hd.setCell (Nat.le_refl _) _⟩
       ·rw[HTB.out];exact HN.out
       ·rw[←je];exact hzb.set_ (i+q) _
      case measure=>have:=HGQ.out;omega
     ·obtain rfl:q=b.length:=by omega
      rw[List.take_length]at hst;have hl:=hst.last (by omega);rw[qkr]at hl;have hzl:i+b.length<zs.length:=by rw[hst.len];omega
      have c3:wr.cell? ⟨w.heap.size,i+b.length,none⟩=some (.int .u32 ((zs.getD (i+b.length) 0:Nat):Int)):=(hzb.cell (i+b.length)).trans (jn _ _ hzl);have f3:=hzb.frozen (i+b.length);generalize zs.getD (i+b.length) 0=r at*;have HL:=Lib.hid hl;clear hl hst;have i3:(b.length:Int)<((a.length+b.length-i:Nat):Int):=by omega
      have z1:=hzb.lt;go_wp2_with fail
      go_roundg (a.length-(i+1))
      case rel=>
       refine⟨i+1,zs.set (i+b.length) cy,by omega,rfl,by go_num,?_,?_,hd.setCell (Nat.le_refl _) _⟩
       ·rw[HTA.out];exact HL.out
       ·rw[←je];exact hzb.set_ (i+b.length) _
      case measure=>have:=HG.out;omega
  ·obtain rfl:i=a.length:=by omega
   rw[List.take_length]at hst;have HST:=Lib.hid hst;clear hst;go_wp2_with fail
   go_ret
   have hl:=HST.out.len;exact⟨some ⟨w.heap.size,0,none⟩,a.length+b.length,zs,by rw[hl];rfl,by omega,hl,HST.out.dg,HST.out.sum,.of_blk (Nat.le_refl _) hzb,hd⟩
open Go.RowKit
end Go.Proofs.YtflikmojaidhhaaGreat
namespace Go.Proofs.YtflikmojaidhhaaGreat
open Go.RowKit
theorem Tryz.sizeInt:(Tryz.prog.info? 25).map (·.size)=some 2:=by kernel_rfl
theorem qg{P:Program}{fn:Func}{Q:Ending→World→Prop}{a:Act}{w:World}{p:Tmp}{ty:TypeId}{g:Nat}{t:TypeId}{cs:Array Value}{d:TypeDesc}(hr:fn.results=#[.cell p ty])(hdf:a.defers=[])(hp:a.tmps.getD p undef= .pointer (some ⟨g,0,none⟩))(hb:qd w g t cs)
 (hu:P.underlying ty=some d)(hd:(match d with| .struct _| .array _ _=>true|_=>false)=true)(hi:(P.info? ty).map (·.size)=some cs.size)(h:Q (.returned (.agg cs)) w):bodyPost P fn Q Exit.ret a w:=
 bodyPost_ret (results_cell_row hr a.tmps w g t cs (0,0) d hp hb hu hd hi) hdf h
set_option maxHeartbeats 400000
theorem zO(ng:Bool)(A:Option Addr)(n c:Nat)(w:World):
 Calls Tryz.prog 111 #[.bool ng,.slice A n c] w fun e w'=>e= .returned (.agg #[.bool (ng&&decide (0<n)),.slice A n c])∧Below w.heap.size w w':=by
 cases ng
 ·go_enter Tryz.func111,Tryz.ntmps111
  go_wp2
  exact qg Tryz.results111 rfl rfl (qd.new w _ _) Tryz.underlying25 rfl Tryz.sizeInt ⟨rfl,(Below.refl _ w).alloc (Nat.le_refl _) _⟩
 ·by_cases h:0<n
  ·have hb:decide ((0:Int)<(n:Int))=true:=by simpa using h
   go_enter Tryz.func111,Tryz.ntmps111
   go_wp2
   exact qg Tryz.results111 rfl rfl (qd.new w _ _) Tryz.underlying25 rfl Tryz.sizeInt ⟨by simp[h],(Below.refl _ w).alloc (Nat.le_refl _) _⟩
  ·obtain rfl:n=0:=by omega
   go_enter Tryz.func111,Tryz.ntmps111
   go_wp2
   exact qg Tryz.results111 rfl rfl (qd.new w _ _) Tryz.underlying25 rfl Tryz.sizeInt ⟨rfl,(Below.refl _ w).alloc (Nat.le_refl _) _⟩
theorem qk.far{w:World}{A:Option Addr}{ds:List Nat}(h:qk w A ds){g:Nat}{t:TypeId}{cs:Array Value}(hb:qd w g t cs)(ht:t≠134)(o:Nat)(u:Value):qk (w.setCell ⟨g,o,none⟩ u) A ds:=
 h.keep fun g' cs' k=>k.far (by
  rintro rfl;unfold qd at k hb;rw[k]at hb
  injection hb with hb
  injection hb with _ h1
  exact ht h1.symm) u
theorem qk.store2{w:World}{A:Option Addr}{ds:List Nat}(h:qk w A ds){g:Nat}{t:TypeId}{cs:Array Value}(hb:qd w g t cs)(ht:t≠134)(u v:Value):qk ((w.setCell ⟨g,0,none⟩ u).setCell ⟨g,1,none⟩ v) A ds:=
 (h.far hb ht 0 u).far (hb.set_ 0 u) ht 1 v
def qb(ng:Bool)(ds:List Nat):Int:=if ng then -(val ds:Int)else(val ds:Int)
def qy(z:Int)(w:World)(e:Ending)(w':World):Prop:=
 ∃A c,e= .returned (.agg #[.bool (decide (z<0)),.slice A (dig z.natAbs).length c])∧(dig z.natAbs).length≤c∧qk w' A (dig z.natAbs)∧Below w.heap.size w w'
theorem qz(ng:Bool)(ds:List Nat):(qb ng ds).natAbs=val ds:=by unfold qb;cases ng<;>simp
theorem qit(ng:Bool)(ds:List Nat):decide (qb ng ds<0)=(ng&&decide (0<(dig (val ds)).length)):=by
 have:0<(dig (val ds)).length↔0<val ds:=by
  have:=@Js (val ds);omega
 unfold qb
 cases ng<;>simp[this]
set_option maxRecDepth 100000
theorem J7(ng:Bool)(A:Option Addr)(c B:Nat)(ds:List Nat)(w:World)(hB:B≤w.heap.size)(hc:ds.length≤c)(hm:ds.length≤1000000)(hr:qi w B 1 A ds.length (qf ds))(hd:qP ds):
 Calls Tryz.prog 78 #[.bool ng,.slice A ds.length c] w (qy (qb ng ds) w):=by
 have hbl0:=(Below.refl w.heap.size w).alloc (Nat.le_refl _) (.cells #[.bool false,.slice none 0 0] 25);have hn:=yq A c B ds _ (by simp;omega) hc hm (hr.below (hbl0.mono hB)) hd;have e1:=qit ng ds;have e2:=qz ng ds;have hblk:=qd.new w 25 #[.bool false,.slice none 0 0];unfold qy;rw[e1,e2];clear e1 e2;unfold jT at hn;generalize dig (val ds)=es at*;have HN:=Lib.hid hn;have HBL:=Lib.hid hbl0;have HBK:=Lib.hid hblk;clear hn hbl0 hblk;go_enter Tryz.func78,Tryz.ntmps78
 go_wp2_with fail
 refine HN.out.mono ?_;rintro e w1 ⟨A1,c1,rfl,h1,h2,h3⟩;have hs:=zO ng A1 es.length c1 w1;generalize hgg:(ng&&decide (0<es.length))=g at*;have HGG:=Lib.hid hgg;clear hgg;have HS:=Lib.hid hs;clear hs;go_wp2_with fail
 refine HS.out.mono ?_;rintro e w2 ⟨rfl,h4⟩;have hk:=(HBK.out.old h3).old h4;have d0:w2.cell? ⟨w.heap.size,0,none⟩=some (.bool false):=(hk.cell 0).trans rfl;have d1:w2.cell? ⟨w.heap.size,1,none⟩=some (.slice none 0 0):=(hk.cell 1).trans rfl;have f0:=hk.frozen 0;have f1:=hk.frozen 1;have z0:=hk.lt;go_wp2_with fail
 have hnb:=h2.old h4;have hbel:=(HBL.out.trans (h3.mono (by simp))).trans (h4.mono (by have:=h3.size;simp at this;omega));exact qg Tryz.results78 rfl rfl ((hk.set_ 0 _).set_ 1 _) Tryz.underlying25 rfl Tryz.sizeInt ⟨A1,c1,by rw[HGG.out];rfl,h1,hnb.store2 hk (by decide) _ _,(hbel.setCell (Nat.le_refl _) _).setCell (Nat.le_refl _) _⟩
end Go.Proofs.YtflikmojaidhhaaGreat
namespace Go.Proofs.YtflikmojaidhhaaGreat
open Go.RowKit
structure qh (w:World) (B:Nat) (A:Option Addr) (c:Nat) (ds:List Nat):Prop where
 rd:qi w B 1 A ds.length (qf ds)
 dg:qP ds
 cap:ds.length≤c
theorem qh.below{w w':World}{B c:Nat}{A:Option Addr}{ds:List Nat}(h:qh w B A c ds)(hb:Below B w w'):qh w' B A c ds:=⟨h.rd.below hb,h.dg,h.cap⟩
theorem qh.more{w:World}{B B' c:Nat}{A:Option Addr}{ds:List Nat}(h:qh w B A c ds)(hB:B≤B'):qh w B' A c ds:=⟨h.rd.more hB,h.dg,h.cap⟩
set_option maxHeartbeats 400000
set_option maxRecDepth 100000
theorem jH(ng:Bool)(A:Option Addr)(c B:Nat)(ds:List Nat)(w:World)(hB:B≤w.heap.size)(h:qh w B A c ds)(hm:ds.length≤1000000):
 Calls Tryz.prog 43 #[.agg #[.bool ng,.slice A ds.length c]] w (qy (qb ng ds) w):=by
 have hbl0:=((Below.refl w.heap.size w).alloc (Nat.le_refl _) (.cells #[.bool ng,.slice A ds.length c] 25)).alloc (by simp) (.cells #[.bool false,.slice none 0 0] 25);have hn:=J7 ng A c B ds _ (by simp;omega) h.cap hm (h.rd.below (hbl0.mono hB)) h.dg;have hblk:=qd.new (w.alloc (.cells #[.bool ng,.slice A ds.length c] 25)) 25 #[.bool false,.slice none 0 0];rw[show(w.alloc (.cells #[.bool ng,.slice A ds.length c] 25)).heap.size=w.heap.size+1 by simp]at hblk;have HN:=Lib.hid hn;have HBL:=Lib.hid hbl0;have HBK:=Lib.hid hblk;clear hn hbl0 hblk h;go_enter Tryz.func43,Tryz.ntmps43
 go_wp2_with fail
 refine HN.out.mono ?_;rintro e w2 ⟨A1,c1,rfl,h1,h2,h3⟩;generalize hz:qb ng ds=z at*;generalize he:dig z.natAbs=es at*;generalize hg:decide (z<0)=g at*;have HE:=Lib.hid he;have HG:=Lib.hid hg;clear he hg hz;have hk:=HBK.out.old h3;have d0:w2.cell? ⟨w.heap.size+1,0,none⟩=some (.bool false):=(hk.cell 0).trans rfl;have d1:w2.cell? ⟨w.heap.size+1,1,none⟩=some (.slice none 0 0):=(hk.cell 1).trans rfl;have f0:=hk.frozen 0;have f1:=hk.frozen 1;have z0:=hk.lt;go_wp2_with fail
 have hbel:=HBL.out.trans (h3.mono (by simp;omega));exact qg Tryz.results43 rfl rfl ((hk.set_ 0 _).set_ 1 _) Tryz.underlying25 rfl Tryz.sizeInt ⟨A1,c1,by rw[HE.out,HG.out];rfl,by rw[HE.out];exact h1,by rw[HE.out];exact h2.store2 hk (by decide) _ _,(hbel.setCell (by show _≤w.heap.size+1;omega) _).setCell (by show _≤w.heap.size+1;omega) _⟩
theorem qhj(ng:Bool)(A:Option Addr)(c B:Nat)(ds:List Nat)(w:World)(hB:B≤w.heap.size)(h:qh w B A c ds)(hm:ds.length≤1000000):
 Calls Tryz.prog 127 #[.agg #[.bool ng,.slice A ds.length c]] w (qy (-qb ng ds) w):=by
 have hbl0:=((Below.refl w.heap.size w).alloc (Nat.le_refl _) (.cells #[.bool ng,.slice A ds.length c] 25)).alloc (by simp) (.cells #[.bool false,.slice none 0 0] 25);have hn:=J7 (!ng) A c B ds _ (by simp;omega) h.cap hm (h.rd.below (hbl0.mono hB)) h.dg;have hblk:=qd.new (w.alloc (.cells #[.bool ng,.slice A ds.length c] 25)) 25 #[.bool false,.slice none 0 0];rw[show(w.alloc (.cells #[.bool ng,.slice A ds.length c] 25)).heap.size=w.heap.size+1 by simp]at hblk;rw[show qb (!ng) ds=-qb ng ds by unfold qb;cases ng<;>simp]at hn;have HN:=Lib.hid hn;have HBL:=Lib.hid hbl0;have HBK:=Lib.hid hblk;clear hn hbl0 hblk h;go_enter Tryz.func127,Tryz.ntmps127
 go_wp2_with fail
 refine HN.out.mono ?_;rintro e w2 ⟨A1,c1,rfl,h1,h2,h3⟩;generalize hz:-qb ng ds=z at*;generalize he:dig z.natAbs=es at*;generalize hg:decide (z<0)=g at*;have HE:=Lib.hid he;have HG:=Lib.hid hg;clear he hg hz;have hk:=HBK.out.old h3;have d0:w2.cell? ⟨w.heap.size+1,0,none⟩=some (.bool false):=(hk.cell 0).trans rfl;have d1:w2.cell? ⟨w.heap.size+1,1,none⟩=some (.slice none 0 0):=(hk.cell 1).trans rfl;have f0:=hk.frozen 0;have f1:=hk.frozen 1;have z0:=hk.lt;go_wp2_with fail
 have hbel:=HBL.out.trans (h3.mono (by simp;omega));exact qg Tryz.results127 rfl rfl ((hk.set_ 0 _).set_ 1 _) Tryz.underlying25 rfl Tryz.sizeInt ⟨A1,c1,by rw[HE.out,HG.out];rfl,by rw[HE.out];exact h1,by rw[HE.out];exact h2.store2 hk (by decide) _ _,(hbel.setCell (by show _≤w.heap.size+1;omega) _).setCell (by show _≤w.heap.size+1;omega) _⟩
def qB(z:Int):Int:=if z<0 then -1 else if z=0 then 0 else 1
theorem zQ(ng:Bool)(A:Option Addr)(c B:Nat)(ds:List Nat)(w:World)(hB:B≤w.heap.size)(h:qh w B A c ds)(hm:ds.length≤1000000):
 Calls Tryz.prog 18 #[.agg #[.bool ng,.slice A ds.length c]] w fun e w'=>e= .returned (.int .i64 (qB (qb ng ds)))∧w'=w.alloc (.cells #[.bool ng,.slice A ds.length c] 25):=by
 have hbl0:=(Below.refl w.heap.size w).alloc (Nat.le_refl _) (.cells #[.bool ng,.slice A ds.length c] 25);have hn:=QP A c B ds _ h.cap hm (h.rd.below (hbl0.mono hB)) h.dg;have hv:qB (qb ng ds)=if val ds=0 then 0 else if ng then -1 else 1:=by
  unfold qB qb
  cases ng
  ·by_cases h0:val ds=0
   ·simp[h0]
   ·rw[if_neg h0];simp;rw[if_neg (by omega),if_neg h0]
  ·by_cases h0:val ds=0
   ·simp[h0]
   ·rw[if_neg h0,if_pos rfl,if_pos (by simp;omega)];rfl
 rw[hv];by_cases h0:val ds=0
 ·have hb:(val ds==0)=true:=by simpa using h0
  rw[if_pos h0];rw[hb]at hn;have HN:=Lib.hid hn;clear hn hb h0 hv h;go_enter Tryz.func18,Tryz.ntmps18
  go_wp2_with fail
  refine HN.out.mono ?_;rintro e w2 ⟨rfl,rfl⟩;go_wp2_with fail
  go_ret
  exact⟨rfl,rfl⟩
 ·have hb:(val ds==0)=false:=by simpa using h0
  rw[if_neg h0];rw[hb]at hn;have HN:=Lib.hid hn;clear hn hb h0 hv h
  cases ng
  ·go_enter Tryz.func18,Tryz.ntmps18
   go_wp2_with fail
   refine HN.out.mono ?_;rintro e w2 ⟨rfl,rfl⟩;go_wp2_with fail
   go_ret
   exact⟨rfl,rfl⟩
  ·go_enter Tryz.func18,Tryz.ntmps18
   go_wp2_with fail
   refine HN.out.mono ?_;rintro e w2 ⟨rfl,rfl⟩;go_wp2_with fail
   go_ret
   exact⟨rfl,rfl⟩
open Go.RowKit
open Go.RowKit
set_option maxHeartbeats 1000000
theorem JP(x:Int)(h0:-9223372036854775808≤x)(h1:x≤9223372036854775807)(w:World):Calls Tryz.prog 35 #[.int .i64 x] w (qy x w):=by
 have hbl0:=(Below.refl w.heap.size w).alloc (Nat.le_refl _) (.cells #[.bool false,.slice none 0 0] 25);have hblk:=qd.new w 25 #[.bool false,.slice none 0 0];have hn:=qcm x.natAbs (by omega) (w.alloc (.cells #[.bool false,.slice none 0 0] 25));unfold jT at hn;unfold qy;generalize dig x.natAbs=es at*;have HBL:=Lib.hid hbl0;have HBK:=Lib.hid hblk;clear hbl0 hblk;by_cases hx:x<0
 ·rw[show decide (x<0)=true by simpa using hx];have hxe:((x.natAbs:Nat):Int)=IntKind.u64.wrap (-IntKind.u64.wrap x):=by
   simp only[IntKind.wrap,IntKind.bits,IntKind.signed,Bool.false_and,Bool.false_eq_true,if_false];omega
  rw[hxe]at hn;have HN:=Lib.hid hn;clear hn hxe;go_enter Tryz.func35,Tryz.ntmps35
  go_wp2_with fail
  refine HN.out.mono ?_;rintro e w2 ⟨A1,c1,rfl,h3,h4,h5⟩;have hk:=HBK.out.old h5;have d0:w2.cell? ⟨w.heap.size,0,none⟩=some (.bool false):=(hk.cell 0).trans rfl;have d1:w2.cell? ⟨w.heap.size,1,none⟩=some (.slice none 0 0):=(hk.cell 1).trans rfl;have f0:=hk.frozen 0;have f1:=hk.frozen 1;have z0:=hk.lt;go_wp2_with fail
  have hbel:=HBL.out.trans (h5.mono (by simp));exact qg Tryz.results35 rfl rfl ((hk.set_ 0 _).set_ 1 _) Tryz.underlying25 rfl Tryz.sizeInt ⟨A1,c1,rfl,h3,h4.store2 hk (by decide) _ _,(hbel.setCell (Nat.le_refl _) _).setCell (Nat.le_refl _) _⟩
 ·rw[show decide (x<0)=false by simpa using hx];have hxe:((x.natAbs:Nat):Int)=x:=by omega
  rw[hxe]at hn;have HN:=Lib.hid hn;clear hn hxe;go_enter Tryz.func35,Tryz.ntmps35
  go_wp2_with fail
  refine HN.out.mono ?_;rintro e w2 ⟨A1,c1,rfl,h3,h4,h5⟩;have hk:=HBK.out.old h5;have d0:w2.cell? ⟨w.heap.size,0,none⟩=some (.bool false):=(hk.cell 0).trans rfl;have d1:w2.cell? ⟨w.heap.size,1,none⟩=some (.slice none 0 0):=(hk.cell 1).trans rfl;have f0:=hk.frozen 0;have f1:=hk.frozen 1;have z0:=hk.lt;go_wp2_with fail
  have hbel:=HBL.out.trans (h5.mono (by simp));exact qg Tryz.results35 rfl rfl ((hk.set_ 0 _).set_ 1 _) Tryz.underlying25 rfl Tryz.sizeInt ⟨A1,c1,rfl,h3,h4.store2 hk (by decide) _ _,(hbel.setCell (Nat.le_refl _) _).setCell (Nat.le_refl _) _⟩
open Go.RowKit
attribute [local go_sem ↓] Go.wp_at_zero Go.wp_at_succ
theorem qib(ng ng':Bool)(ds es:List Nat):(qb ng ds*qb ng' es).natAbs=val ds*val es:=by
 rw[Int.natAbs_mul,qz,qz]
theorem jw{v:Nat}:0<(dig v).length↔0<v:=by
 have:=@Js v;omega
theorem qid(ng ng':Bool)(ds es:List Nat):decide (qb ng ds*qb ng' es<0)=((!ng==ng')&&decide (0<(dig (val ds*val es)).length)):=by
 have h0:((val ds:Nat):Int)*((val es:Nat):Int)=((val ds*val es:Nat):Int):=by simp
 have h1:=@jw (val ds*val es);unfold qb
 cases ng<;>cases ng'<;>simp only[if_true,Bool.false_eq_true,if_false,Int.neg_mul,Int.mul_neg,h0]<;>simp[h1]<;>omega
theorem qd.drewN{w:World}{g:Nat}{t:TypeId}{cs:Array Value}(h:qd w g t cs)(n:Nat):qd (w.drewN n) g t cs:=h
theorem jp{w:World}{g b o:Nat}{u v x:Value}(h:w.cell? ⟨b,o,none⟩=some x)(hne:b≠g):((w.setCell ⟨g,0,none⟩ u).setCell ⟨g,1,none⟩ v).cell? ⟨b,o,none⟩=some x:=by
 rw[World.cell?_setCell_other _ _ _ _ (fun e=>hne (congrArg Addr.block e).symm),World.cell?_setCell_other _ _ _ _ (fun e=>hne (congrArg Addr.block e).symm)];exact h
theorem JR(n:Nat):n≠n+1+1:=by omega
theorem Q2(n:Nat):n≠n+1:=by omega
theorem qK(w:World)(t0 t1:TypeId)(c0 c1:Array Value):Below w.heap.size w ((w.alloc (.cells c0 t0)).alloc (.cells c1 t1))∧qd ((w.alloc (.cells c0 t0)).alloc (.cells c1 t1)) w.heap.size t0 c0∧
 qd ((w.alloc (.cells c0 t0)).alloc (.cells c1 t1)) (w.heap.size+1) t1 c1∧((w.alloc (.cells c0 t0)).alloc (.cells c1 t1)).heap.size=w.heap.size+2:=by
 refine⟨((Below.refl w.heap.size w).alloc (Nat.le_refl _) _).alloc (by simp) _,(qd.new w t0 c0).alloc _,?_,by simp⟩;have k1:=qd.new (w.alloc (.cells c0 t0)) t1 c1;simpa using k1
theorem jF(w:World)(t0 t1 t2:TypeId)(c0 c1 c2:Array Value):Below w.heap.size w (((w.alloc (.cells c0 t0)).alloc (.cells c1 t1)).alloc (.cells c2 t2))∧qd (((w.alloc (.cells c0 t0)).alloc (.cells c1 t1)).alloc (.cells c2 t2)) w.heap.size t0 c0∧
 qd (((w.alloc (.cells c0 t0)).alloc (.cells c1 t1)).alloc (.cells c2 t2)) (w.heap.size+1) t1 c1∧qd (((w.alloc (.cells c0 t0)).alloc (.cells c1 t1)).alloc (.cells c2 t2)) (w.heap.size+2) t2 c2∧
 (((w.alloc (.cells c0 t0)).alloc (.cells c1 t1)).alloc (.cells c2 t2)).heap.size=w.heap.size+3:=by
 obtain⟨h1,h2,h3,h4⟩:=qK w t0 t1 c0 c1;refine⟨h1.alloc (by omega) _,h2.alloc _,h3.alloc _,?_,by simp⟩;have k2:=qd.new ((w.alloc (.cells c0 t0)).alloc (.cells c1 t1)) t2 c2;simpa using k2
open Go.RowKit
attribute [local go_sem ↓] Go.wp_at_zero Go.wp_at_succ
theorem qgT(ng:Bool)(ds es:List Nat):(qb ng ds+qb ng es).natAbs=val ds+val es∧decide (qb ng ds+qb ng es<0)=(ng&&decide (0<(dig (val ds+val es)).length)):=by
 have h1:=@jw (val ds+val es);unfold qb
 cases ng
 ·simp only[Bool.false_eq_true,if_false,Bool.false_and,decide_eq_false_iff_not];omega
 ·simp only[if_true,Bool.true_and,decide_eq_decide,h1];omega
theorem qj2(ng:Bool)(ds es:List Nat)(h:val es≤val ds):(qb ng ds+qb (!ng) es).natAbs=val ds-val es∧decide (qb ng ds+qb (!ng) es<0)=(ng&&decide (0<(dig (val ds-val es)).length)):=by
 have h1:=@jw (val ds-val es);unfold qb
 cases ng
 ·simp only[Bool.false_eq_true,if_false,Bool.false_and,Bool.not_false,if_true,decide_eq_false_iff_not];omega
 ·simp only[if_true,Bool.true_and,Bool.not_true,Bool.false_eq_true,if_false,decide_eq_decide,h1];omega
theorem qkw(ng:Bool)(ds es:List Nat)(h:val ds<val es):(qb ng ds+qb (!ng) es).natAbs=val es-val ds∧decide (qb ng ds+qb (!ng) es<0)=((!ng)&&decide (0<(dig (val es-val ds)).length)):=by
 have h1:=@jw (val es-val ds);unfold qb
 cases ng
 ·simp only[Bool.false_eq_true,if_false,Bool.not_false,if_true,Bool.true_and,decide_eq_decide,h1];omega
 ·simp only[if_true,Bool.not_true,Bool.false_eq_true,if_false,Bool.false_and,decide_eq_false_iff_not];omega
theorem qku{a b:Nat}(h:b≤a):0≤Jy a b:=by unfold Jy;split<;>(try split)<;>omega
theorem qks{a b:Nat}(h:a<b):Jy a b<0:=by unfold Jy;rw[if_pos h];omega
theorem qf9(ng:Bool)(A A':Option Addr)(c c' B:Nat)(ds es:List Nat)(w:World)(hB:B≤w.heap.size)(h:qh w B A c ds)(h':qh w B A' c' es)(hm:ds.length≤900000)(hm':es.length≤900000):
 Calls Tryz.prog 120 #[.agg #[.bool ng,.slice A ds.length c],.agg #[.bool ng,.slice A' es.length c']] w (qy (qb ng ds+qb ng es) w):=by
 obtain⟨e2,e1⟩:=qgT ng ds es;have hn:=fun(W:World)(hb:Below w.heap.size w W)=>qjL A A' c c' B ds es W (Nat.le_trans hB hb.size) h.cap h'.cap hm hm' (h.rd.below (hb.mono hB)) (h'.rd.below (hb.mono hB)) h.dg h'.dg;unfold qy;rw[e1,e2];clear e1 e2;unfold jT at hn;have hm1:=h.cap;have hm2:=h'.cap;clear h h';generalize dig (val ds+val es)=rs at*;have HN:=Lib.hid hn;have HX:=Lib.hid (jF w 25 25 25 #[.bool ng,.slice A ds.length c] #[.bool ng,.slice A' es.length c'] #[.bool false,.slice none 0 0]);clear hn;go_enter Tryz.func120,Tryz.ntmps120
 have hbb:(ng==ng)=true:=by simp
 go_wp2_with fail
 generalize ((w.alloc (.cells #[.bool ng,.slice A ds.length c] 25)).alloc (.cells #[.bool ng,.slice A' es.length c'] 25)).alloc (.cells #[.bool false,.slice none 0 0] 25)=W at*;obtain⟨hb0,k0,k1,k2,hs⟩:=HX.out;have HS:=Lib.hid hs;clear hs HX;have c0:W.cell? ⟨w.heap.size,0,none⟩=some (.bool ng):=k0.cell 0;have c1:W.cell? ⟨w.heap.size,1,none⟩=some (.slice A ds.length c):=k0.cell 1;have c3:W.cell? ⟨w.heap.size+1,1,none⟩=some (.slice A' es.length c'):=k1.cell 1;have l0:=k0.lt;have l1:=k1.lt;have l2:=k2.lt;have K2:qd W.drew (w.heap.size+2) 25 #[.bool false,.slice none 0 0]:=k2;have hb0':Below w.heap.size w W.drew:=hb0.trans ((qm.drew _).below _);go_region_held3 (fun w'=>w'.cell? ⟨w.heap.size,0,none⟩=some (.bool ng)∧w'.cell? ⟨w.heap.size,1,none⟩=some (.slice A ds.length c)∧w'.cell? ⟨w.heap.size+1,1,none⟩=some (.slice A' es.length c'))
  (first|exact⟨c0,c1,c3⟩|exact⟨(h3.cell l0).trans c0,(h3.cell l0).trans c1,(h3.cell l1).trans c3⟩|exact⟨q0,q1,q3⟩|exact⟨jp q0 (JR _),jp q1 (JR _),jp q3 (Q2 _)⟩)
  (first|(go_at_call 136;refine(HN.out _ hb0').mono ?_;rintro e w1 ⟨A1,c1',rfl,h1,h2,h3⟩)|(go_at_call 111;refine(zO _ _ _ _ _).mono ?_;rintro e w2 ⟨rfl,h4⟩;have kk:=(K2.old h3).old h4;have d0:w2.cell? ⟨w.heap.size+2,0,none⟩=some (.bool false):=kk.cell 0;have d1:w2.cell? ⟨w.heap.size+2,1,none⟩=some (.slice none 0 0):=kk.cell 1;have f0:=kk.frozen 0;have f1:=kk.frozen 1;have q0:=(h4.cell (Nat.lt_of_lt_of_le l0 h3.size)).trans ((h3.cell l0).trans c0);have q1:=(h4.cell (Nat.lt_of_lt_of_le l0 h3.size)).trans ((h3.cell l0).trans c1);have q3:=(h4.cell (Nat.lt_of_lt_of_le l1 h3.size)).trans ((h3.cell l1).trans c3)))
 clear q0 q1 q3 c0 c1 c3;go_wp2_with fail
 have hbel:=(hb0'.trans (h3.mono hb0'.size)).trans (h4.mono (Nat.le_trans hb0'.size h3.size));exact qg Tryz.results120 rfl rfl ((kk.set_ 0 _).set_ 1 _) Tryz.underlying25 rfl Tryz.sizeInt ⟨A1,c1',rfl,h1,(h2.old h4).store2 kk (by decide) _ _,(hbel.setCell (Nat.le_add_right _ 2) _).setCell (Nat.le_add_right _ 2) _⟩
theorem qei(ng:Bool)(A A':Option Addr)(c c' B:Nat)(ds es:List Nat)(w:World)(hB:B≤w.heap.size)(h:qh w B A c ds)(h':qh w B A' c' es)(hm:ds.length≤900000)(hm':es.length≤900000):
 Calls Tryz.prog 120 #[.agg #[.bool ng,.slice A ds.length c],.agg #[.bool (!ng),.slice A' es.length c']] w (qy (qb ng ds+qb (!ng) es) w):=by
 have hcp:=fun(W:World)(hb:Below w.heap.size w W)=>qcE A A' c c' B ds es W h.cap h'.cap (by omega) (by omega) (h.rd.below (hb.mono hB)) (h'.rd.below (hb.mono hB)) h.dg h'.dg;have HC:=Lib.hid hcp;clear hcp;have HX:=Lib.hid (jF w 25 25 25 #[.bool ng,.slice A ds.length c] #[.bool (!ng),.slice A' es.length c'] #[.bool false,.slice none 0 0]);have hm1:=h.cap;have hm2:=h'.cap;have hbb:(ng== !ng)=false:=by cases ng<;>rfl
 generalize hng:(!ng)=ng' at*;have HNG:=Lib.hid hng;clear hng;by_cases hle:val es≤val ds
 ·obtain⟨e2,e1⟩:=qj2 ng ds es hle;rw[HNG.out]at e1 e2;have hn:=fun(W:World)(hb:Below w.heap.size w W)=>qfP A A' c c' B ds es W (Nat.le_trans hB hb.size) h.cap h'.cap hm hm' (h.rd.below (hb.mono hB)) (h'.rd.below (hb.mono hB)) h.dg h'.dg hle;unfold qy;rw[e1,e2];clear e1 e2;unfold qcz at hn;clear h h';generalize dig (val ds-val es)=rs at*;have hk:=qku hle;generalize Jy (val ds) (val es)=kk at*;have HN:=Lib.hid hn;clear hn hle;go_enter Tryz.func120,Tryz.ntmps120
  go_wp2_with fail
  generalize ((w.alloc (.cells #[.bool ng,.slice A ds.length c] 25)).alloc (.cells #[.bool ng',.slice A' es.length c'] 25)).alloc (.cells #[.bool false,.slice none 0 0] 25)=W at*;obtain⟨hb0,k0,k1,k2,hs⟩:=HX.out;clear hs HX;refine(HC.out _ hb0).mono ?_;rintro e w1 ⟨rfl,hd⟩;obtain⟨nd,rfl⟩:=hd;have k0':=k0.drewN nd;have k1':=k1.drewN nd;have k2':=k2.drewN nd;have hb1:Below w.heap.size w (W.drewN nd):=hb0.trans ((qm.drewN _ _).below _);clear k0 k1 k2 hb0 HC;generalize W.drewN nd=W1 at*;have c0:W1.cell? ⟨w.heap.size,0,none⟩=some (.bool ng):=k0'.cell 0;have c1:W1.cell? ⟨w.heap.size,1,none⟩=some (.slice A ds.length c):=k0'.cell 1;have c3:W1.cell? ⟨w.heap.size+1,1,none⟩=some (.slice A' es.length c'):=k1'.cell 1;have l0:=k0'.lt;have l1:=k1'.lt;have l2:=k2'.lt;go_wp2_with fail
  refine(HN.out _ hb1).mono ?_;rintro e w2 ⟨A1,c1',rfl,h1,h2,h3⟩;have c0':=(h3.cell l0).trans c0;have k3:=k2'.old h3;clear c0 c1 c3;go_wp2_with fail
  refine(zO _ _ _ _ _).mono ?_;rintro e w3 ⟨rfl,h4⟩;have k4:=k3.old h4;have d0:w3.cell? ⟨w.heap.size+2,0,none⟩=some (.bool false):=k4.cell 0;have d1:w3.cell? ⟨w.heap.size+2,1,none⟩=some (.slice none 0 0):=k4.cell 1;have f0:=k4.frozen 0;have f1:=k4.frozen 1;go_wp2_with fail
  have hbel:=(hb1.trans (h3.mono hb1.size)).trans (h4.mono (Nat.le_trans hb1.size h3.size));exact qg Tryz.results120 rfl rfl ((k4.set_ 0 _).set_ 1 _) Tryz.underlying25 rfl Tryz.sizeInt ⟨A1,c1',rfl,h1,(h2.old h4).store2 k4 (by decide) _ _,(hbel.setCell (Nat.le_add_right _ 2) _).setCell (Nat.le_add_right _ 2) _⟩
 ·have hlt:val ds<val es:=by omega
  obtain⟨e2,e1⟩:=qkw ng ds es hlt;rw[HNG.out]at e1 e2;have hn:=fun(W:World)(hb:Below w.heap.size w W)=>qfP A' A c' c B es ds W (Nat.le_trans hB hb.size) h'.cap h.cap hm' hm (h'.rd.below (hb.mono hB)) (h.rd.below (hb.mono hB)) h'.dg h.dg (Nat.le_of_lt hlt);unfold qy;rw[e1,e2];clear e1 e2;unfold qcz at hn;clear h h';generalize dig (val es-val ds)=rs at*;have hk:=qks hlt;generalize Jy (val ds) (val es)=kk at*;have HN:=Lib.hid hn;clear hn hle hlt;go_enter Tryz.func120,Tryz.ntmps120
  go_wp2_with fail
  generalize ((w.alloc (.cells #[.bool ng,.slice A ds.length c] 25)).alloc (.cells #[.bool ng',.slice A' es.length c'] 25)).alloc (.cells #[.bool false,.slice none 0 0] 25)=W at*;obtain⟨hb0,k0,k1,k2,hs⟩:=HX.out;clear hs HX;refine(HC.out _ hb0).mono ?_;rintro e w1 ⟨rfl,hd⟩;obtain⟨nd,rfl⟩:=hd;have k0':=k0.drewN nd;have k1':=k1.drewN nd;have k2':=k2.drewN nd;have hb1:Below w.heap.size w (W.drewN nd):=hb0.trans ((qm.drewN _ _).below _);clear k0 k1 k2 hb0 HC;generalize W.drewN nd=W1 at*;have c1:W1.cell? ⟨w.heap.size,1,none⟩=some (.slice A ds.length c):=k0'.cell 1;have c2:W1.cell? ⟨w.heap.size+1,0,none⟩=some (.bool ng'):=k1'.cell 0;have c3:W1.cell? ⟨w.heap.size+1,1,none⟩=some (.slice A' es.length c'):=k1'.cell 1;have l0:=k0'.lt;have l1:=k1'.lt;have l2:=k2'.lt;go_wp2_with fail
  refine(HN.out _ hb1).mono ?_;rintro e w2 ⟨A1,c1',rfl,h1,h2,h3⟩;have c0':=(h3.cell l1).trans c2;have k3:=k2'.old h3;clear c1 c2 c3;go_wp2_with fail
  refine(zO _ _ _ _ _).mono ?_;rintro e w3 ⟨rfl,h4⟩;have k4:=k3.old h4;have d0:w3.cell? ⟨w.heap.size+2,0,none⟩=some (.bool false):=k4.cell 0;have d1:w3.cell? ⟨w.heap.size+2,1,none⟩=some (.slice none 0 0):=k4.cell 1;have f0:=k4.frozen 0;have f1:=k4.frozen 1;go_wp2_with fail
  have hbel:=(hb1.trans (h3.mono hb1.size)).trans (h4.mono (Nat.le_trans hb1.size h3.size));exact qg Tryz.results120 rfl rfl ((k4.set_ 0 _).set_ 1 _) Tryz.underlying25 rfl Tryz.sizeInt ⟨A1,c1',rfl,h1,(h2.old h4).store2 k4 (by decide) _ _,(hbel.setCell (Nat.le_add_right _ 2) _).setCell (Nat.le_add_right _ 2) _⟩
theorem ZU(ng ng':Bool)(A A':Option Addr)(c c' B:Nat)(ds es:List Nat)(w:World)(hB:B≤w.heap.size)(h:qh w B A c ds)(h':qh w B A' c' es)(hm:ds.length≤900000)(hm':es.length≤900000):
 Calls Tryz.prog 120 #[.agg #[.bool ng,.slice A ds.length c],.agg #[.bool ng',.slice A' es.length c']] w (qy (qb ng ds+qb ng' es) w):=by
 by_cases e:ng'=ng
 ·subst e;exact qf9 ng' A A' c c' B ds es w hB h h' hm hm'
 ·obtain rfl:ng'= !ng:=by cases ng<;>cases ng'<;>simp at e ⊢
  exact qei ng A A' c c' B ds es w hB h h' hm hm'
end Go.Proofs.YtflikmojaidhhaaGreat
