import Derived.Test.YtflikmojaidhhaaGreatDoorPq01
import Derived.Test.YtflikmojaidhhaaGreatDoorPqA
namespace Go.Proofs.YtflikmojaidhhaaGreatDoor
open Go.RowKit
structure qff (w w':World) (pc o:Nat):Prop where
 blk:qf w' pc 123 #[.int .u32 (o:Int)]
 other:∀g t cs,g≠pc->qf w g t cs->qf w' g t cs
 below:∀B b,Below B b w->B<=pc->Below B b w'
set_option maxHeartbeats 400000
theorem qcz(x y c pc s o:Nat)(hx:x<4294967296)(hy:y<4294967296)(hc:c<=1)(hs:s=(x+y+c)%4294967296)(ho:o=(x+y+c)/4294967296)(w:World)(hb:qf w pc 123 #[.int .u32 (c:Int)]):
 Calls Tryz.prog 149 #[.int .u32 (x:Int),.int .u32 (y:Int),.pointer (some ⟨pc,0,none⟩)] w fun e w'=>e= .returned (.int .u32 (s:Int))/\qff w w' pc o:=by
 have h1:w.cell? ⟨pc,0,none⟩=some (.int .u32 (c:Int)):=by rw[hb.cell];rfl
 have h2:=hb.frozen 0;have h3:=hb.lt;have H1:=Gh (yD x y c hx hy hc w);rw[<-hs,<-ho]at H1;clear hs ho;go_enter Tryz.func149,Tryz.ntmps149
 go_wp2_with (go_at_call 150;refine H1.out.mono ?_;rintro e w1 ⟨rfl,rfl⟩)
 go_ret
 exact⟨rfl,hb.set_ 0 _,fun g t cs hg h=>h.far hg _,fun B b h hB=>h.setCell hB _⟩
theorem jV{ds:List Nat}(h:jg ds)(k:Nat):ds.getD k 0<4294967296:=by
 rw[List.getD_eq_getElem?_getD];rcases Nat.lt_or_ge k ds.length with hk|hk
 ·rw[Gn hk];exact h _ (List.getElem_mem _)
 ·rw[List.getElem?_eq_none hk];decide
theorem qhl{p vz c xa xb va vb s o:Nat}(h:vz+p*c=va+vb)(hs:s=(xa+xb+c)%4294967296)(ho:o=(xa+xb+c)/4294967296):
 vz+p*s+p*4294967296*o=(va+p*xa)+(vb+p*xb):=by
 have e:xa+xb+c=s+4294967296*o:=by omega
 have e2:p*(xa+xb+c)=p*(s+4294967296*o):=by rw[e]
 rw[Nat.mul_add,Nat.mul_add,Nat.mul_add,<-Nat.mul_assoc]at e2;omega
structure Zb (zs:List Nat) (c k n X:Nat):Prop where
 len:zs.length=n
 dg:jg zs
 zero:∀j,k<=j->j<n->zs.getD j 0=0
 sum:val zs+4294967296^k*c=X
 carry:c<=1
theorem Zb.step{zs:List Nat}{c k n va vb xa xb:Nat}(h:Zb zs c k n (va+vb))(hk:k<n)(TP:xa<4294967296)(FD:xb<4294967296):
 Zb (zs.set k ((xa+xb+c)%4294967296)) ((xa+xb+c)/4294967296) (k+1) n ((va+4294967296^k*xa)+(vb+4294967296^k*xb)):=by
 have hc:=h.carry;refine⟨by simp[h.len],fun d hd=>?_,fun j h1 h2=>?_,?_,by omega⟩
 ·rcases List.mem_or_eq_of_mem_set hd with hd|rfl
  ·exact h.dg d hd
  ·exact Nat.mod_lt _ (by decide)
 ·have:=h.zero j (by omega) h2;rw[List.getD_eq_getElem?_getD,List.getElem?_set_ne (by omega),<-List.getD_eq_getElem?_getD];exact this
 ·have h0:=h.zero k (Gr _) hk;have hs:=Jb (ds:=zs) (k:=k) (by rw[h.len];exact hk) ((xa+xb+c)%4294967296);rw[h0,Nat.mul_zero,Nat.add_zero]at hs;rw[hs,Nat.pow_succ];exact qhl h.sum rfl rfl
theorem Zb.last{zs:List Nat}{c k n X:Nat}(h:Zb zs c k n X)(hk:k<n):jg (zs.set k c)/\val (zs.set k c)=X:=by
 have hc:=h.carry;refine⟨fun d hd=>?_,?_⟩
 ·rcases List.mem_or_eq_of_mem_set hd with hd|rfl
  ·exact h.dg d hd
  ·omega
 ·have h0:=h.zero k (Gr _) hk;have hs:=Jb (ds:=zs) (k:=k) (by rw[h.len];exact hk) c;rw[h0,Nat.mul_zero,Nat.add_zero]at hs;rw[hs];exact h.sum
theorem qkZ(n:Nat):Zb (List.replicate n 0) 0 0 n 0:=
 ⟨by simp,fun d hd=>by have:=List.eq_of_mem_replicate hd;omega,fun j _ h=>by simp[h],by simp[yj],by omega⟩
def qjN(w:World)(B X:Nat)(u v:Value):Prop:=
 ∃(A A':Oa)(c c':Nat)(a b:List Nat),u= .slice A a.length c/\v= .slice A' b.length c'/\b.length<=a.length/\a.length<=900000/\qu w B 1 A a.length (qp a)/\qu w B 1 A' b.length (qp b)/\jg a/\jg b/\val a+val b=X
set_option maxHeartbeats 2000000
set_option maxRecDepth 100000
theorem ZA(A A':Oa)(c c' B:Nat)(ds es:List Nat)(w:World)(hB:B<=w.heap.size)(hc:ds.length<=c)(RO:es.length<=c')(hm:ds.length<=900000)(UE:es.length<=900000)
 (hr:qu w B 1 A ds.length (qp ds))(TB:qu w B 1 A' es.length (qp es))(hd:jg ds)(VZ:jg es):
 Calls Tryz.prog 132 #[.slice A ds.length c,.slice A' es.length c'] w (qbM (val ds+val es) w):=by
 have h1:=ji A c B ds w hc (by omega) hr hd;have h2:=ji A' c' B es w RO (by omega) TB VZ;have r1:=jF hr hd;have r2:=jF TB VZ;have l1:=qw hd;have l2:=qw VZ;have g1:=qA (val ds);have g2:=qA (val es);have v1:=qB (val ds);have v2:=qB (val es);generalize val ds=x at*;generalize val es=y at*;generalize dig x=a at*;generalize dig y=b at*;have H1:=Gh h1;have H2:=Gh h2;have G1:=Gh g1;have G2:=Gh g2;have V1:=Gh v1;have V2:=Gh v2;clear h1 h2 g1 g2 v1 v2 hr TB hd VZ;go_enter Tryz.func132,Tryz.ntmps132
 go_wp2_with fail
 refine(H1).mono ?_;rintro e w1 ⟨rfl,rfl⟩;go_wp2_with fail
 refine(H2).mono ?_;rintro e w1 ⟨rfl,rfl⟩;go_upto_if 19 with(fail)
 go_cut [0,1] (fun u v wc=>qjN w B (x+y) u v/\wc=w)
 case first=>
  by_cases Xi:a.length<b.length
  ·go_wp2_with fail
   go_meet
   case rel=>exact⟨⟨A',A,c',c,b,a,rfl,rfl,by omega,by omega,r2,r1,G2,G1,by rw[V1,V2,Nat.add_comm]⟩,rfl⟩
  ·go_wp2_with fail
   go_meet
   case rel=>exact⟨⟨A,A',c,c',a,b,rfl,rfl,by omega,by omega,r1,r2,G1,G2,by rw[V1,V2.out]⟩,rfl⟩
 case rest=>
  clear H1 H2 G1 G2 V1 V2 r1 r2 l1 l2;obtain⟨⟨A,A',c,c',a,b,rfl,rfl,Tc,ha9,r1,r2,g1,g2,hv⟩,rfl⟩:=hcut;have G1:=Gh g1;have G2:=Gh g2;have V:=Gh hv;clear g1 g2 hv;have Uz:=fun(W:World)=>Tryz.make_u32 (a.length+1) (by omega) W;rw[show((a.length+1:Nat):Int)=(a.length:Int)+1 by omega]at Uz;go_wp2_with fail
  clear Uz;have Xq:Below wc.heap.size wc ((wc.alloc (.cells #[.int .u32 0] 123)).alloc (.cells (qp (List.replicate (a.length+1) 0)).toArray 123)):=((Below.refl _ wc).alloc (Gr _) _).alloc (by simp) _;have D0:qf ((wc.alloc (.cells #[.int .u32 0] 123)).alloc (.cells (qp (List.replicate (a.length+1) 0)).toArray 123)) wc.heap.size 123 #[.int .u32 ((0:Nat):Int)]:=(qf.new wc 123 #[.int .u32 0]).alloc _;have VM:qf ((wc.alloc (.cells #[.int .u32 0] 123)).alloc (.cells (qp (List.replicate (a.length+1) 0)).toArray 123)) (wc.heap.size+1) 123 (qp (List.replicate (a.length+1) 0)).toArray:=by
   have:=qf.new (wc.alloc (.cells #[.int .u32 0] 123)) 123 (qp (List.replicate (a.length+1) 0)).toArray;simpa using this
  go_loopg [8,9,29] b.length (fun gn _ _ i wr=>∃(k:Nat)(zs:List Nat)(cr:Nat),k<=b.length/\gn=b.length-k/\i= .int .i64 k/\Zb zs cr k (a.length+1) (val (a.take k)+val (b.take k))/\qf wr wc.heap.size 123 #[.int .u32 (cr:Int)]/\qf wr (wc.heap.size+1) 123 (qp zs).toArray/\Below wc.heap.size wc wr)
  case atStart=>exact⟨0,_,0,Nat.zero_le _,rfl,rfl,qkZ _,D0,VM,Xq⟩
  case round=>
   clear D0 VM Xq;obtain⟨k,zs,cr,hk,XG,rfl,Xs,XP,XD,hd⟩:=hrel;have HG:=Gh XG;clear XG;have hz:=hd.size;have UM:=Xs.carry;by_cases Xi:k<b.length
   ·obtain⟨b1,o1,rfl,q1,c1⟩:=jA (r1.below (hd.mono hB)) (k:=k) (by omega);obtain⟨b2,o2,rfl,q2,c2⟩:=jA (r2.below (hd.mono hB)) (k:=k) Xi;have TP:=jV G1 k;have FD:=jV G2 k;obtain⟨s,hs⟩:∃s,s=(a.getD k 0+b.getD k 0+cr)%4294967296:=⟨_,rfl⟩;obtain⟨o,ho⟩:∃o,o=(a.getD k 0+b.getD k 0+cr)/4294967296:=⟨_,rfl⟩;have hN:=Xs.step (by omega) TP FD;rw[<-hs,<-ho]at hN;have HN:=Gh hN;clear hN;have HS:=Gh hs;have HO:=Gh ho;clear hs ho;have Vt:=Gh (qE (ds:=a) (k:=k) (by omega));have TF:=Gh (qE (ds:=b) (k:=k) Xi);generalize a.getD k 0=xa at*;generalize b.getD k 0=xb at*;have i1:(k:Int)<a.length:=by omega
    have i2:(k:Int)<b.length:=by omega
    have XH:=Gh Xs;clear Xs;go_wp2_with (go_at_call 149;refine(qcz xa xb cr wc.heap.size s o TP FD UM HS HO _ XP).mono ?_;rintro e w1 ⟨rfl,XE⟩;refine Hid.out ?_)
    refine Gh ?_;have Fb:=XE.blk;have Uu:=XE.other _ _ _ (by omega) XD;have Rh:=XE.below _ _ hd (Gr _);clear XE XP XD hd c1 c2;have Ur:k<zs.length:=by rw[XH.out.len];omega
    have c3:w1.cell? ⟨wc.heap.size+1,k,none⟩=some (.int .u32 ((zs.getD k 0:Nat):Int)):=(Uu.cell k).trans (jC _ _ Ur);have f3:=Uu.frozen k;generalize zs.getD k 0=zk at*;have z1:=Uu.lt;have i3:(k:Int)<(a.length:Int)+1:=by omega
    go_wp2_with fail
    go_roundg (b.length-(k+1))
    case rel=>
     refine⟨k+1,zs.set k s,o,by omega,rfl,by go_num,?_,?_,?_,?_⟩
     ·rw[Vt,TF.out];exact HN
     ·exact Fb.far (by show _≠wc.heap.size+1;omega) _
     ·rw[<-jw];exact Uu.set_ k _
     ·exact Rh.setCell (by show _<=wc.heap.size+1;omega) _
    case measure=>have:=HG.out;omega
   ·obtain rfl:k=b.length:=by omega
    rw[List.take_length]at Xs;have Rt:=Gh Xs;clear Xs;go_wp2_with fail
    go_loopg [10] (a.length-b.length) (fun gn i wr=>∃(k:Nat)(zs:List Nat)(cr:Nat),b.length<=k/\k<=a.length/\gn=a.length-k/\i= .int .i64 k/\Zb zs cr k (a.length+1) (val (a.take k)+val b)/\qf wr wc.heap.size 123 #[.int .u32 (cr:Int)]/\qf wr (wc.heap.size+1) 123 (qp zs).toArray/\Below wc.heap.size wc wr)
    case atStart=>exact⟨b.length,zs,cr,Gr _,Tc,rfl,rfl,Rt,XP,XD,hd⟩
    case round=>
     clear XP XD hd hz UM Rt HG;obtain⟨k,zs,cr,UH,hk,XG,rfl,Xs,XP,XD,hd⟩:=hrel;have HG:=Gh XG;clear XG;have hz:=hd.size;have UM:=Xs.carry;by_cases Xi:k<a.length
     ·obtain⟨b1,o1,rfl,q1,c1⟩:=jA (r1.below (hd.mono hB)) (k:=k) Xi;have TP:=jV G1 k;obtain⟨s,hs⟩:∃s,s=(a.getD k 0+0+cr)%4294967296:=⟨_,rfl⟩;obtain⟨o,ho⟩:∃o,o=(a.getD k 0+0+cr)/4294967296:=⟨_,rfl⟩;have hN:=Xs.step (xb:=0) (by omega) TP (by omega);rw[<-hs,<-ho,Nat.mul_zero,Nat.add_zero]at hN;have HN:=Gh hN;clear hN;have HS:=Gh hs;have HO:=Gh ho;clear hs ho;have Vt:=Gh (qE (ds:=a) (k:=k) (by omega));generalize a.getD k 0=xa at*;have i1:(k:Int)<a.length:=by omega
      have XH:=Gh Xs;clear Xs;have HC:=Gh (fun(w:World)(h:qf w wc.heap.size 123 #[.int .u32 (cr:Int)])=>qcz xa 0 cr wc.heap.size s o TP (by omega) UM HS HO w h);go_wp2_with (go_at_call 149;refine(HC _ XP).mono ?_;rintro e w1 ⟨rfl,XE⟩;refine Hid.out ?_)
      refine Gh ?_;have Fb:=XE.blk;have Uu:=XE.other _ _ _ (by omega) XD;have Rh:=XE.below _ _ hd (Gr _);clear XE XP XD hd c1;have Ur:k<zs.length:=by rw[XH.out.len];omega
      have c3:w1.cell? ⟨wc.heap.size+1,k,none⟩=some (.int .u32 ((zs.getD k 0:Nat):Int)):=(Uu.cell k).trans (jC _ _ Ur);have f3:=Uu.frozen k;generalize zs.getD k 0=zk at*;have z1:=Uu.lt;have i3:(k:Int)<(a.length:Int)+1:=by omega
      go_wp2_with fail
      go_roundg (a.length-(k+1))
      case rel=>
       refine⟨k+1,zs.set k s,o,by omega,by omega,rfl,by go_num,?_,?_,?_,?_⟩
       ·rw[Vt.out];exact HN
       ·exact Fb.far (by show _≠wc.heap.size+1;omega) _
       ·rw[<-jw];exact Uu.set_ k _
       ·exact Rh.setCell (by show _<=wc.heap.size+1;omega) _
      case measure=>have:=HG.out;omega
     ·obtain rfl:k=a.length:=by omega
      rw[List.take_length]at Xs;have Ur:a.length<zs.length:=by rw[Xs.len];omega
      have TN:=Xs.len;obtain⟨Xr,E5⟩:=Xs.last (by omega);rw[V.out]at E5;have c0:wr.cell? ⟨wc.heap.size,0,none⟩=some (.int .u32 (cr:Int)):=(XP.cell 0).trans rfl;have c3:wr.cell? ⟨wc.heap.size+1,a.length,none⟩=some (.int .u32 ((zs.getD a.length 0:Nat):Int)):=(XD.cell a.length).trans (jC _ _ Ur);have f3:=XD.frozen a.length;generalize zs.getD a.length 0=zk at*;have z0:=XP.lt;have z1:=XD.lt;have Nz:qf (wr.setCell ⟨wc.heap.size+1,a.length,none⟩ (.int .u32 (cr:Int))) (wc.heap.size+1) 123 (qp (zs.set a.length cr)).toArray:=by rw[<-jw];exact XD.set_ _ _
      have Sa:Below wc.heap.size wc (wr.setCell ⟨wc.heap.size+1,a.length,none⟩ (.int .u32 (cr:Int))):=hd.setCell (by show _<=wc.heap.size+1;omega) _;have Xv:=Nz.reads (zs.set a.length cr).length (Gr _);rw[List.take_length]at Xv;have UG:=ji (some ⟨wc.heap.size+1,0,none⟩) (a.length+1) _ (zs.set a.length cr) _ (by rw[List.length_set];omega) (by rw[List.length_set];omega) Xv Xr;have UY:=(zA.of_blk (Nat.le_succ wc.heap.size) Nz).dig Xr;have TD:=qw Xr;rw[List.length_set,TN]at UG TD;rw[E5]at UG UY TD;generalize EC:dig (x+y)=ws at*;have HW:=Gh EC;clear EC;have VV:=Gh UG;have Sv:=Gh UY;have Fz:=Gh TD;have Lf:=Gh Sa;clear UG UY TD Xv Nz Sa Xs Xr E5 TN XP XD hd;go_wp2_with fail
      refine(VV).mono ?_;rintro e w5 ⟨rfl,rfl⟩;go_wp2_with fail
      go_ret
      exact⟨_,_,by rw[HW.out];rfl,by rw[HW.out];exact Fz,by rw[HW.out];exact Sv,Lf⟩
theorem qkg(A A':Oa)(c c' B:Nat)(ds es:List Nat)(w:World)(hB:B<=w.heap.size)(hc:ds.length<=c)(RO:es.length<=c')(hm:ds.length<=900000)(UE:es.length<=900000)
 (hr:qu w B 1 A ds.length (qp ds))(TB:qu w B 1 A' es.length (qp es))(hd:jg ds)(VZ:jg es):
 Calls Tryz.prog 132 #[.slice A ds.length c,.slice A' es.length c'] w (yg (val ds+val es) w):=
 (ZA A A' c c' B ds es w hB hc RO hm UE hr TB hd VZ).mono fun _ _ h=>h.res
set_option maxHeartbeats 400000
theorem qdJ(x y c pc s o:Nat)(hx:x<4294967296)(hy:y<4294967296)(hc:c<=1)(hs:s=(x+4294967296-y-c)%4294967296)(ho:o=if x<y+c then 1 else 0)(w:World)(hb:qf w pc 123 #[.int .u32 (c:Int)]):
 Calls Tryz.prog 151 #[.int .u32 (x:Int),.int .u32 (y:Int),.pointer (some ⟨pc,0,none⟩)] w fun e w'=>e= .returned (.int .u32 (s:Int))/\qff w w' pc o:=by
 have h1:w.cell? ⟨pc,0,none⟩=some (.int .u32 (c:Int)):=by rw[hb.cell];rfl
 have h2:=hb.frozen 0;have h3:=hb.lt;have H1:=Gh (YX x y c hx hy hc w);rw[<-hs,<-ho]at H1;clear hs ho;go_enter Tryz.func151,Tryz.ntmps151
 go_wp2_with (go_at_call 152;refine H1.out.mono ?_;rintro e w1 ⟨rfl,rfl⟩)
 go_ret
 exact⟨rfl,hb.set_ 0 _,fun g t cs hg h=>h.far hg _,fun B b h hB=>h.setCell hB _⟩
theorem qg5{p vz c xa xb va vb s o:Nat}(h:vz+vb=va+p*c)(TP:xa<4294967296)(FD:xb<4294967296)(hc:c<=1)(hs:s=(xa+4294967296-xb-c)%4294967296)(ho:o=if xa<xb+c then 1 else 0):
 vz+p*s+(vb+p*xb)=(va+p*xa)+p*4294967296*o:=by
 have e:s+xb+c=xa+4294967296*o:=by
  by_cases h:xa<xb+c
  ·rw[if_pos h]at ho;omega
  ·rw[if_neg h]at ho;omega
 have e2:p*(s+xb+c)=p*(xa+4294967296*o):=by rw[e]
 rw[Nat.mul_add,Nat.mul_add,Nat.mul_add,<-Nat.mul_assoc]at e2;omega
structure Ze (zs:List Nat) (c k n X Y:Nat):Prop where
 len:zs.length=n
 dg:jg zs
 zero:∀j,k<=j->j<n->zs.getD j 0=0
 sum:val zs+Y=X+4294967296^k*c
 carry:c<=1
theorem Ze.step{zs:List Nat}{c k n va vb xa xb s o:Nat}(h:Ze zs c k n va vb)(hk:k<n)(TP:xa<4294967296)(FD:xb<4294967296)(Sn:s=(xa+4294967296-xb-c)%4294967296)(ho:o=if xa<xb+c then 1 else 0):
 Ze (zs.set k s) o (k+1) n (va+4294967296^k*xa) (vb+4294967296^k*xb):=by
 have hc:=h.carry;refine⟨by simp[h.len],fun d hd=>?_,fun j h1 h2=>?_,?_,by split at ho<;>omega⟩
 ·rcases List.mem_or_eq_of_mem_set hd with hd|rfl
  ·exact h.dg d hd
  ·rw[Sn];exact Nat.mod_lt _ (by decide)
 ·have:=h.zero j (by omega) h2;rw[List.getD_eq_getElem?_getD,List.getElem?_set_ne (by omega),<-List.getD_eq_getElem?_getD];exact this
 ·have h0:=h.zero k (Gr _) hk;have hs:=Jb (ds:=zs) (k:=k) (by rw[h.len];exact hk) s;rw[h0,Nat.mul_zero,Nat.add_zero]at hs;rw[hs,Nat.pow_succ];exact qg5 h.sum TP FD hc Sn ho
theorem Ze.last{zs:List Nat}{c n X Y:Nat}(h:Ze zs c n n X Y)(Vo:Y<=X):val zs=X-Y:=by
 have hc:=h.carry;have h1:=jr h.dg;rw[h.len]at h1;have h2:=h.sum;have:c=0∨c=1:=by omega
 rcases this with rfl|rfl
 ·omega
 ·generalize 4294967296^n=p at *; omega
theorem qkB(n:Nat):Ze (List.replicate n 0) 0 0 n 0 0:=
 ⟨by simp,fun d hd=>by have:=List.eq_of_mem_replicate hd;omega,fun j _ h=>by simp[h],by simp[yj],by omega⟩
def qbP(v:Nat)(w:World)(e:Ending)(w':World):Prop:=
 ∃A c,e= .returned (.tuple #[.slice A (dig v).length c,.bool true])/\(dig v).length<=c/\qL w' A (dig v)/\Below w.heap.size w w'
def qbG(v:Nat)(w:World)(e:Ending)(w':World):Prop:=
 ∃A c,e= .returned (.tuple #[.slice A (dig v).length c,.bool true])/\(dig v).length<=c/\zA w.heap.size w' A (dig v)/\Below w.heap.size w w'
theorem qbG.res{v:Nat}{w:World}{e:Ending}{w':World}(h:qbG v w e w'):qbP v w e w':=by
 obtain⟨A,c,h1,h2,h3,h4⟩:=h;exact⟨A,c,h1,h2,h3.nat,h4⟩
set_option maxHeartbeats 2000000
theorem qfq(A A':Oa)(c c' B:Nat)(ds es:List Nat)(w:World)(hB:B<=w.heap.size)(hc:ds.length<=c)(RO:es.length<=c')(hm:ds.length<=900000)(UE:es.length<=900000)
 (hr:qu w B 1 A ds.length (qp ds))(TB:qu w B 1 A' es.length (qp es))(hd:jg ds)(VZ:jg es)(Vo:val es<=val ds):
 Calls Tryz.prog 134 #[.slice A ds.length c,.slice A' es.length c'] w (qbG (val ds-val es) w):=by
 have h1:=ji A c B ds w hc (by omega) hr hd;have h2:=ji A' c' B es w RO (by omega) TB VZ;have r1:=jF hr hd;have r2:=jF TB VZ;have l1:=qw hd;have l2:=qw VZ;have g1:=qA (val ds);have g2:=qA (val es);have v1:=qB (val ds);have v2:=qB (val es);have Tc:(dig (val es)).length<=(dig (val ds)).length:=by
  rcases Nat.lt_or_ge (dig (val ds)).length (dig (val es)).length with h|h
  ·have:=JF h;omega
  ·exact h
 generalize val ds=x at*;generalize val es=y at*;generalize dig x=a at*;generalize dig y=b at*;have h3:=QZ A A' c c' B a b w (by omega) (by omega) (by omega) (by omega) r1 r2 g1 g2;rw[v1,v2]at h3;have AW:0<=zp x y:=by unfold zp;split;omega;split<;>omega
 generalize zp x y=cm at*;have H1:=Gh h1;have H2:=Gh h2;have H3:=Gh h3;have G1:=Gh g1;have G2:=Gh g2;have V1:=Gh v1;have V2:=Gh v2;clear h1 h2 h3 g1 g2 v1 v2 hr TB hd VZ;go_enter Tryz.func134,Tryz.ntmps134
 go_wp2_with fail
 refine(H1).mono ?_;rintro e w1 ⟨rfl,rfl⟩;go_wp2_with fail
 refine(H2).mono ?_;rintro e w1 ⟨rfl,rfl⟩;have Uz:=fun(W:World)=>Tryz.make_u32 a.length (by omega) W;go_wp2_with fail
 refine(H3).mono ?_;rintro e wc ⟨rfl,Us⟩;have hwc:wc.heap.size=w.heap.size:=by rw[Us.heap]
 have Xe:=Us.below w.heap.size;have r1:=r1.drawn Us;have r2:=r2.drawn Us;have hB:B<=wc.heap.size:=by omega
 clear H1 H2 H3 Us;have HWC:=Gh hwc;have Xh:=Gh Xe;clear hwc Xe;go_wp2_with fail
 clear Uz;have Xq:Below wc.heap.size wc ((wc.alloc (.cells #[.int .u32 0] 123)).alloc (.cells (qp (List.replicate a.length 0)).toArray 123)):=((Below.refl _ wc).alloc (Gr _) _).alloc (by simp) _;have D0:qf ((wc.alloc (.cells #[.int .u32 0] 123)).alloc (.cells (qp (List.replicate a.length 0)).toArray 123)) wc.heap.size 123 #[.int .u32 ((0:Nat):Int)]:=(qf.new wc 123 #[.int .u32 0]).alloc _;have VM:qf ((wc.alloc (.cells #[.int .u32 0] 123)).alloc (.cells (qp (List.replicate a.length 0)).toArray 123)) (wc.heap.size+1) 123 (qp (List.replicate a.length 0)).toArray:=by
  have:=qf.new (wc.alloc (.cells #[.int .u32 0] 123)) 123 (qp (List.replicate a.length 0)).toArray;simpa using this
 go_loopg [9,10,26] b.length (fun gn _ _ i wr=>∃(k:Nat)(zs:List Nat)(cr:Nat),k<=b.length/\gn=b.length-k/\i= .int .i64 k/\Ze zs cr k a.length (val (a.take k)) (val (b.take k))/\qf wr wc.heap.size 123 #[.int .u32 (cr:Int)]/\qf wr (wc.heap.size+1) 123 (qp zs).toArray/\Below wc.heap.size wc wr)
 case atStart=>exact⟨0,_,0,Nat.zero_le _,rfl,rfl,qkB _,D0,VM,Xq⟩
 case round=>
  clear D0 VM Xq;obtain⟨k,zs,cr,hk,XG,rfl,Xs,XP,XD,hd⟩:=hrel;have HG:=Gh XG;clear XG;have hz:=hd.size;have UM:=Xs.carry;by_cases Xi:k<b.length
  ·obtain⟨b1,o1,rfl,q1,c1⟩:=jA (r1.below (hd.mono hB)) (k:=k) (by omega);obtain⟨b2,o2,rfl,q2,c2⟩:=jA (r2.below (hd.mono hB)) (k:=k) Xi;have TP:=jV G1 k;have FD:=jV G2 k;obtain⟨s,hs⟩:∃s,s=(a.getD k 0+4294967296-b.getD k 0-cr)%4294967296:=⟨_,rfl⟩;obtain⟨o,ho⟩:∃o,o=(if a.getD k 0<b.getD k 0+cr then 1 else 0:Nat):=⟨_,rfl⟩;have hN:=Xs.step (by omega) TP FD hs ho;have HN:=Gh hN;clear hN;have HS:=Gh hs;have HO:=Gh ho;clear hs ho;have Vt:=Gh (qE (ds:=a) (k:=k) (by omega));have TF:=Gh (qE (ds:=b) (k:=k) Xi);generalize a.getD k 0=xa at*;generalize b.getD k 0=xb at*;have i1:(k:Int)<a.length:=by omega
   have i2:(k:Int)<b.length:=by omega
   have XH:=Gh Xs;clear Xs;go_wp2_with (go_at_call 151;refine(qdJ xa xb cr wc.heap.size s o TP FD UM HS HO _ XP).mono ?_;rintro e w1 ⟨rfl,XE⟩;refine Hid.out ?_)
   refine Gh ?_;have Fb:=XE.blk;have Uu:=XE.other _ _ _ (by omega) XD;have Rh:=XE.below _ _ hd (Gr _);clear XE XP XD hd c1 c2;have Ur:k<zs.length:=by rw[XH.out.len];omega
   have c3:w1.cell? ⟨wc.heap.size+1,k,none⟩=some (.int .u32 ((zs.getD k 0:Nat):Int)):=(Uu.cell k).trans (jC _ _ Ur);have f3:=Uu.frozen k;generalize zs.getD k 0=zk at*;have z1:=Uu.lt;have i3:(k:Int)<(a.length:Int):=by omega
   go_wp2_with fail
   go_roundg (b.length-(k+1))
   case rel=>
    refine⟨k+1,zs.set k s,o,by omega,rfl,by go_num,?_,?_,?_,?_⟩
    ·rw[Vt,TF.out];exact HN
    ·exact Fb.far (by show _≠wc.heap.size+1;omega) _
    ·rw[<-jw];exact Uu.set_ k _
    ·exact Rh.setCell (by show _<=wc.heap.size+1;omega) _
   case measure=>have:=HG.out;omega
  ·obtain rfl:k=b.length:=by omega
   rw[List.take_length]at Xs;have Rt:=Gh Xs;clear Xs;go_wp2_with fail
   go_loopg [11] (a.length-b.length) (fun gn i wr=>∃(k:Nat)(zs:List Nat)(cr:Nat),b.length<=k/\k<=a.length/\gn=a.length-k/\i= .int .i64 k/\Ze zs cr k a.length (val (a.take k)) (val b)/\qf wr wc.heap.size 123 #[.int .u32 (cr:Int)]/\qf wr (wc.heap.size+1) 123 (qp zs).toArray/\Below wc.heap.size wc wr)
   case atStart=>exact⟨b.length,zs,cr,Gr _,Tc,rfl,rfl,Rt,XP,XD,hd⟩
   case round=>
    clear XP XD hd hz UM Rt HG;obtain⟨k,zs,cr,UH,hk,XG,rfl,Xs,XP,XD,hd⟩:=hrel;have HG:=Gh XG;clear XG;have hz:=hd.size;have UM:=Xs.carry;by_cases Xi:k<a.length
    ·obtain⟨b1,o1,rfl,q1,c1⟩:=jA (r1.below (hd.mono hB)) (k:=k) Xi;have TP:=jV G1 k;obtain⟨s,hs⟩:∃s,s=(a.getD k 0+4294967296-0-cr)%4294967296:=⟨_,rfl⟩;obtain⟨o,ho⟩:∃o,o=(if a.getD k 0<0+cr then 1 else 0:Nat):=⟨_,rfl⟩;have hN:=Xs.step (xb:=0) (by omega) TP (by omega) hs ho;rw[Nat.mul_zero,Nat.add_zero]at hN;have HN:=Gh hN;clear hN;have HS:=Gh hs;have HO:=Gh ho;clear hs ho;have Vt:=Gh (qE (ds:=a) (k:=k) (by omega));generalize a.getD k 0=xa at*;have i1:(k:Int)<a.length:=by omega
     have XH:=Gh Xs;clear Xs;have HC:=Gh (fun(w:World)(h:qf w wc.heap.size 123 #[.int .u32 (cr:Int)])=>qdJ xa 0 cr wc.heap.size s o TP (by omega) UM HS HO w h);go_wp2_with (go_at_call 151;refine(HC _ XP).mono ?_;rintro e w1 ⟨rfl,XE⟩;refine Hid.out ?_)
     refine Gh ?_;have Fb:=XE.blk;have Uu:=XE.other _ _ _ (by omega) XD;have Rh:=XE.below _ _ hd (Gr _);clear XE XP XD hd c1;have Ur:k<zs.length:=by rw[XH.out.len];omega
     have c3:w1.cell? ⟨wc.heap.size+1,k,none⟩=some (.int .u32 ((zs.getD k 0:Nat):Int)):=(Uu.cell k).trans (jC _ _ Ur);have f3:=Uu.frozen k;generalize zs.getD k 0=zk at*;have z1:=Uu.lt;have i3:(k:Int)<(a.length:Int):=by omega
     go_wp2_with fail
     go_roundg (a.length-(k+1))
     case rel=>
      refine⟨k+1,zs.set k s,o,by omega,by omega,rfl,by go_num,?_,?_,?_,?_⟩
      ·rw[Vt.out];exact HN
      ·exact Fb.far (by show _≠wc.heap.size+1;omega) _
      ·rw[<-jw];exact Uu.set_ k _
      ·exact Rh.setCell (by show _<=wc.heap.size+1;omega) _
     case measure=>have:=HG.out;omega
    ·obtain rfl:k=a.length:=by omega
     rw[List.take_length]at Xs;have TN:=Xs.len;have E5:=Xs.last (by rw[V1,V2.out];exact Vo);have Xr:=Xs.dg;rw[V1,V2.out]at E5;have Xv:=XD.reads zs.length (Gr _);rw[List.take_length]at Xv;have UG:=ji (some ⟨wc.heap.size+1,0,none⟩) a.length _ zs _ (by omega) (by omega) Xv Xr;have UY:=(zA.of_blk (b:=w.heap.size) (by rw[HWC.out];omega) XD).dig Xr;have TD:=qw Xr;rw[TN]at UG TD;rw[E5]at UG UY TD;generalize EC:dig (x-y)=ws at*;have HW:=Gh EC;clear EC;have VV:=Gh UG;have Sv:=Gh UY;have Fz:=Gh TD;clear UG UY TD Xv Xs Xr E5 TN XP XD;go_wp2_with fail
     refine(VV).mono ?_;rintro e w5 ⟨rfl,rfl⟩;go_wp2_with fail
     go_ret2
     exact⟨_,_,by rw[HW.out];rfl,by rw[HW.out];exact Fz,by rw[HW.out];exact Sv,Xh.out.trans (hd.mono (by rw[HWC.out];omega))⟩
theorem qfN(A A':Oa)(c c' B:Nat)(ds es:List Nat)(w:World)(hB:B<=w.heap.size)(hc:ds.length<=c)(RO:es.length<=c')(hm:ds.length<=900000)(UE:es.length<=900000)
 (hr:qu w B 1 A ds.length (qp ds))(TB:qu w B 1 A' es.length (qp es))(hd:jg ds)(VZ:jg es)(Vo:val es<=val ds):
 Calls Tryz.prog 134 #[.slice A ds.length c,.slice A' es.length c'] w (qbP (val ds-val es) w):=
 (qfq A A' c c' B ds es w hB hc RO hm UE hr TB hd VZ Vo).mono fun _ _ h=>h.res
theorem Qs{x y:Nat}(hx:x<4294967296)(hy:y<4294967296):x*y<=18446744065119617025:=by
 have:=Nat.mul_le_mul (show x<=4294967295 by omega) (show y<=4294967295 by omega);omega
set_option maxHeartbeats 400000
theorem YI(x y:Nat)(hx:x<4294967296)(hy:y<4294967296)(w:World):
 Calls Tryz.prog 181 #[.int .u32 (x:Int),.int .u32 (y:Int)] w fun e w'=>e= .returned (.tuple #[.int .u32 ((x*y/4294967296:Nat):Int),.int .u32 ((x*y%4294967296:Nat):Int)])/\w=w':=by
 have h1:(x:Int)*(y:Int)<=18446744065119617025:=by have:=Qs hx hy;rw[<-Int.natCast_mul];omega
 have h0:0<=(x:Int)*(y:Int):=by rw[<-Int.natCast_mul];omega
 have e1:((x*y/4294967296:Nat):Int)=(x:Int)*(y:Int)/4294967296:=by rw[Int.natCast_ediv,Int.natCast_mul];rfl
 have e2:((x*y%4294967296:Nat):Int)=(x:Int)*(y:Int)%4294967296:=by rw[Int.natCast_emod,Int.natCast_mul];rfl
 rw[e1,e2];clear e1 e2;go_enter Tryz.func181,Tryz.ntmps181
 go_wp2
 go_ret2
 exact⟨rfl,rfl⟩
structure Zl (zs:List Nat) (n m i V:Nat):Prop where
 len:zs.length=n
 dg:jg zs
 zero:∀j,i+m<=j->j<n->zs.getD j 0=0
 sum:val zs=V
structure Z7 (zs:List Nat) (n m i j c V:Nat):Prop where
 len:zs.length=n
 dg:jg zs
 zero:∀j,i+m<=j->j<n->zs.getD j 0=0
 sum:val zs+4294967296^(i+j)*c=V
 carry:c<4294967296
theorem qkC(n m:Nat):Zl (List.replicate n 0) n m 0 0:=
 ⟨by simp,fun d hd=>by have:=List.eq_of_mem_replicate hd;omega,fun j _ h=>by simp[h],yj _⟩
theorem Zl.row{zs:List Nat}{n m i V:Nat}(h:Zl zs n m i V):Z7 zs n m i 0 0 V:=⟨h.len,h.dg,h.zero,by simp[h.sum],by omega⟩
theorem Zl.skip{zs:List Nat}{n m i V:Nat}(h:Zl zs n m i V):Zl zs n m (i+1) V:=⟨h.len,h.dg,fun j h1 h2=>h.zero j (by omega) h2,h.sum⟩
theorem Z7.step{zs:List Nat}{n m i j c V x y s o:Nat}(h:Z7 zs n m i j c V)(hj:i+j<n)(hjm:j<m)(hs:s<4294967296)(ho:o<4294967296)(he:s+4294967296*o=x*y+zs.getD (i+j) 0+c):
 Z7 (zs.set (i+j) s) n m i (j+1) o (V+4294967296^i*(x*(4294967296^j*y))):=by
 refine⟨by simp[h.len],fun d hd=>?_,fun k h1 h2=>?_,?_,ho⟩
 ·rcases List.mem_or_eq_of_mem_set hd with hd|rfl
  ·exact h.dg d hd
  ·exact hs
 ·have:=h.zero k h1 h2;rw[List.getD_eq_getElem?_getD,List.getElem?_set_ne (by omega),<-List.getD_eq_getElem?_getD];exact this
 ·have hv:=Jb (ds:=zs) (k:=i+j) (by rw[h.len];exact hj) s;have h0:=h.sum;have e1:4294967296^(i+(j+1))*o=4294967296^(i+j)*(4294967296*o):=by rw[<-Nat.add_assoc,Nat.pow_succ,Nat.mul_assoc]
  have e2:4294967296^i*(x*(4294967296^j*y))=4294967296^(i+j)*(x*y):=by
   rw[Nat.pow_add,Nat.mul_left_comm x,Nat.mul_assoc]
  have e3:4294967296^(i+j)*(s+4294967296*o)=4294967296^(i+j)*(x*y+zs.getD (i+j) 0+c):=by rw[he]
  rw[Nat.mul_add,Nat.mul_add,Nat.mul_add]at e3;rw[e1,e2];omega
theorem Z7.last{zs:List Nat}{n m i c V:Nat}(h:Z7 zs n m i m c V)(hj:i+m<n):Zl (zs.set (i+m) c) n m (i+1) V:=by
 refine⟨by simp[h.len],fun d hd=>?_,fun k h1 h2=>?_,?_⟩
 ·rcases List.mem_or_eq_of_mem_set hd with hd|rfl
  ·exact h.dg d hd
  ·exact h.carry
 ·have:=h.zero k (by omega) h2;rw[List.getD_eq_getElem?_getD,List.getElem?_set_ne (by omega),<-List.getD_eq_getElem?_getD];exact this
 ·have hv:=Jb (ds:=zs) (k:=i+m) (by rw[h.len];exact hj) c;have h0:=h.sum;rw[h.zero (i+m) (Gr _) hj,Nat.mul_zero,Nat.add_zero]at hv;omega
theorem qee{x y r c:Nat}(hx:x<4294967296)(hy:y<4294967296)(hr:r<4294967296)(hc:c<4294967296):
 x*y/4294967296+(x*y%4294967296+r+0)/4294967296+((x*y%4294967296+r+0)%4294967296+c+0)/4294967296<4294967296/\
 ((x*y%4294967296+r+0)%4294967296+c+0)%4294967296+4294967296*(x*y/4294967296+(x*y%4294967296+r+0)/4294967296+((x*y%4294967296+r+0)%4294967296+c+0)/4294967296)=x*y+r+c:=by
 have:=Qs hx hy;generalize x*y=p at*;omega
theorem qkn{p x v q y V:Nat}:V+p*(x*v)+p*(x*(q*y))=V+p*(x*(v+q*y)):=by
 rw[Nat.mul_add,Nat.mul_add,Nat.add_assoc]
theorem qjw{v p x b:Nat}:v*b+p*(x*b)=(v+p*x)*b:=by rw[Nat.add_mul,Nat.mul_assoc]
def qaa(n v:Nat)(w:World)(e:Ending)(w':World):Prop:=
 ∃A c zs,e= .returned (.slice A (List.length zs) c)/\zs.length<=c/\zs.length=n/\jg zs/\val zs=v/\zA w.heap.size w' A zs/\Below w.heap.size w w'
set_option maxHeartbeats 2000000
theorem qeQ(A A':Oa)(c c' B:Nat)(a b:List Nat)(w:World)(hB:B<=w.heap.size)(hm:a.length+b.length<=900000)
 (r1:qu w B 1 A a.length (qp a))(r2:qu w B 1 A' b.length (qp b))(g1:jg a)(g2:jg b):
 Calls Tryz.prog 164 #[.slice A a.length c,.slice A' b.length c'] w (qaa (a.length+b.length) (val a*val b) w):=by
 have G1:=Gh g1;have G2:=Gh g2;clear g1 g2;have Uz:=fun(W:World)=>Tryz.make_u32 (a.length+b.length) (by omega) W;rw[show((a.length+b.length:Nat):Int)=(a.length:Int)+(b.length:Int)by omega]at Uz;go_enter Tryz.func164,Tryz.ntmps164
 go_wp2_with fail
 clear Uz;go_loopg [6,7,8,9,10,11,12,13,14,23] a.length (fun gn _ _ _ _ _ _ _ _ _ i wr=>∃(k:Nat)(zs:List Nat),k<=a.length/\gn=a.length-k/\i= .int .i64 k/\Zl zs (a.length+b.length) b.length k (val (a.take k)*val b)/\qf wr w.heap.size 123 (qp zs).toArray/\Below w.heap.size w wr)
 case atStart=>exact⟨0,_,Nat.zero_le _,rfl,rfl,by simpa[val]using qkC _ _,qf.new _ _ _,(Below.refl _ w).alloc (Gr _) _⟩
 case round=>
  obtain⟨i,zs,hi,RA,rfl,Xs,XD,hd⟩:=hrel;have HG:=Gh RA;clear RA;have hz:=hd.size;by_cases Xi:i<a.length
  ·obtain⟨b1,o1,rfl,q1,c1⟩:=jA (r1.below (hd.mono hB)) (k:=i) Xi;have hx:=jV G1 i;have Vt:=Gh (qE (ds:=a) (k:=i) Xi);have i1:(i:Int)<a.length:=by omega
   generalize a.getD i 0=x at*;by_cases Th:x=0
   ·subst Th;have RL:=Xs.skip;have RR:=Gh RL;clear Xs RL;go_wp2_with fail
    go_roundg (a.length-(i+1))
    case rel=>exact⟨i+1,zs,by omega,rfl,by go_num,by rw[Vt.out];simpa using RR.out,XD,hd⟩
    case measure=>have:=HG.out;omega
   ·have FD:((x:Int)==0)=false:=by simpa using Th
    have DG:=Gh Th;clear Th;have XH:=Gh Xs;clear Xs;go_wp2_with fail
    go_loopg [9,10,11,12,13,14,35] b.length (fun gn cy _ _ _ _ _ j wr=>∃(q:Nat)(zs:List Nat)(o:Nat),q<=b.length/\gn=b.length-q/\j= .int .i64 q/\cy= .int .u32 (o:Int)/\Z7 zs (a.length+b.length) b.length i q o (val (a.take i)*val b+4294967296^i*(x*val (b.take q)))/\qf wr w.heap.size 123 (qp zs).toArray/\Below w.heap.size w wr)
    case atStart=>exact⟨0,zs,0,Nat.zero_le _,rfl,rfl,rfl,by simpa[val]using XH.out.row,XD,hd⟩
    case round=>
     clear XH XD hd hz c1;obtain⟨q,zs,cy,hq,FH,rfl,rfl,Xs,XD,hd⟩:=hrel;have SY:=Gh FH;clear FH;have hz:=hd.size;have BO:=Xs.carry;by_cases E9:q<b.length
     ·obtain⟨b2,o2,rfl,q2,c2⟩:=jA (r2.below (hd.mono hB)) (k:=q) E9;have hy:=jV G2 q;have TF:=Gh (qE (ds:=b) (k:=q) E9);generalize b.getD q 0=y at*;have Ur:i+q<zs.length:=by rw[Xs.len];omega
      have c3:wr.cell? ⟨w.heap.size,i+q,none⟩=some (.int .u32 ((zs.getD (i+q) 0:Nat):Int)):=(XD.cell (i+q)).trans (jC _ _ Ur);have Oo:=jV Xs.dg (i+q);have f3:=XD.frozen (i+q);obtain⟨Rh,Sa⟩:=qee hx hy Oo BO;have hmu:=YI x y hx hy;have hp:=Qs hx hy;have AL:x*y%4294967296<4294967296:=Nat.mod_lt _ (by decide);have My:=yD (x*y%4294967296) (zs.getD (i+q) 0) 0 AL Oo (by omega);have Rg:(x*y%4294967296+zs.getD (i+q) 0+0)%4294967296<4294967296:=Nat.mod_lt _ (by decide);have Mx:=yD ((x*y%4294967296+zs.getD (i+q) 0+0)%4294967296) cy 0 Rg BO (by omega);have RL:((x*y%4294967296+zs.getD (i+q) 0+0)%4294967296+cy+0)%4294967296<4294967296:=Nat.mod_lt _ (by decide);have hN:=Xs.step (x:=x) (y:=y) (by omega) E9 RL Rh Sa;rw[qkn]at hN;generalize ((x*y%4294967296+zs.getD (i+q) 0+0)%4294967296+cy+0)%4294967296=s2 at*;generalize ((x*y%4294967296+zs.getD (i+q) 0+0)%4294967296+cy+0)/4294967296=k2 at*;generalize (x*y%4294967296+zs.getD (i+q) 0+0)%4294967296=s1 at*;generalize (x*y%4294967296+zs.getD (i+q) 0+0)/4294967296=k1 at*;generalize x*y%4294967296=lo at*;generalize x*y/4294967296=EL at*;generalize zs.getD (i+q) 0=r at*;have HN:=Gh hN;have UC:=Gh hmu;have VE:=Gh My;have RZ:=Gh Mx;have XH:=Gh Xs;clear hN hmu My Mx Xs Sa hp;have i2:(q:Int)<b.length:=by omega
      have i3:(q:Int)<((a.length+b.length-i:Nat):Int):=by omega
      have z1:=XD.lt;go_wp2_with fail
      refine(UC _).mono ?_;rintro e w1 ⟨rfl,rfl⟩;go_wp2_with fail
      refine(VE _).mono ?_;rintro e w1 ⟨rfl,rfl⟩;go_wp2_with fail
      refine(RZ _).mono ?_;rintro e w1 ⟨rfl,rfl⟩;go_wp2_with fail
      go_roundg (b.length-(q+1))
      case rel=>
       refine⟨q+1,zs.set (i+q) s2,EL+k1+k2,by omega,rfl,by go_num,by go_num,?_,?_,hd.setCell (Gr _) _⟩
       ·rw[TF.out];exact HN
       ·rw[<-jw];exact XD.set_ (i+q) _
      case measure=>have:=SY.out;omega
     ·obtain rfl:q=b.length:=by omega
      rw[List.take_length]at Xs;have hl:=Xs.last (by omega);rw[qjw]at hl;have Ur:i+b.length<zs.length:=by rw[Xs.len];omega
      have c3:wr.cell? ⟨w.heap.size,i+b.length,none⟩=some (.int .u32 ((zs.getD (i+b.length) 0:Nat):Int)):=(XD.cell (i+b.length)).trans (jC _ _ Ur);have f3:=XD.frozen (i+b.length);generalize zs.getD (i+b.length) 0=r at*;have HL:=Gh hl;clear hl Xs;have i3:(b.length:Int)<((a.length+b.length-i:Nat):Int):=by omega
      have z1:=XD.lt;go_wp2_with fail
      go_roundg (a.length-(i+1))
      case rel=>
       refine⟨i+1,zs.set (i+b.length) cy,by omega,rfl,by go_num,?_,?_,hd.setCell (Gr _) _⟩
       ·rw[Vt.out];exact HL
       ·rw[<-jw];exact XD.set_ (i+b.length) _
      case measure=>have:=HG.out;omega
  ·obtain rfl:i=a.length:=by omega
   rw[List.take_length]at Xs;have XH:=Gh Xs;clear Xs;go_wp2_with fail
   go_ret
   have hl:=XH.out.len;exact⟨some ⟨w.heap.size,0,none⟩,a.length+b.length,zs,by rw[hl];rfl,by omega,hl,XH.out.dg,XH.out.sum,.of_blk (Gr _) XD,hd⟩
