import Derived.Lib.ItoaNum
import Derived.Test.YtflikmojaidhhaaGreatDoorShelf
import Derived.Test.YtflikmojaidhhaaGreatDoorPq03
import Derived.Test.YtflikmojaidhhaaGreatDoorPqA
namespace Go.Proofs.YtflikmojaidhhaaGreatDoor
open Go.RowKit
theorem qiB{h l y:Nat}(hl:l<4294967296)(hy:h<y):(h*4294967296+l)/y<4294967296:=by
 rw[Nat.div_lt_iff_lt_mul (by omega)];have:(h+1)*4294967296<=y*4294967296:=Nat.mul_le_mul_right _ hy;rw[Nat.mul_comm 4294967296 y];omega
theorem JG{n:Nat}(h:n<18446744073709551616):IntKind.u64.wrap (n:Int)=(n:Int):=by
 simp only[IntKind.wrap,IntKind.bits,IntKind.signed];simp;omega
theorem qfw(h l:Nat)(hh:h<4294967296)(hl:l<4294967296):bits .or .u64 ((h:Int)*4294967296) (l:Int)=((h*4294967296+l:Nat):Int):=by
 have:=bits_join .u64 64 (by decide) (fun n h0 h1=>by obtain⟨m,rfl⟩:=Int.eq_ofNat_of_zero_le h0;exact JG (by omega)) 32 ((h:Int)*4294967296) (l:Int) (by omega) (by omega) (by omega) (by omega) (by omega) (by omega);rw[this];omega
set_option maxHeartbeats 400000
theorem qbA(h l y:Nat)(hh:h<y)(hl:l<4294967296)(hy:y<4294967296)(w:World):
 Calls Tryz.prog 182 #[.int .u32 (h:Int),.int .u32 (l:Int),.int .u32 (y:Int)] w fun e w'=>e= .returned (.tuple #[.int .u32 (((h*4294967296+l)/y:Nat):Int),.int .u32 (((h*4294967296+l)%y:Nat):Int)])/\qt w w':=by
 have g1:¬((y:Int)=0):=by omega
 have g2:¬((y:Int)<=(h:Int)):=by omega
 have Mm:=qfw h l (by omega) hl;have hq:=qiB hl hh;have hz:h*4294967296+l<18446744073709551616:=by omega
 have hr:(h*4294967296+l)%y<y:=Nat.mod_lt _ (by omega);generalize h*4294967296+l=z at*;have e0:(z:Int)/(y:Int)=((z/y:Nat):Int):=(Int.natCast_ediv _ _).symm;have e1:(z:Int)%(y:Int)=((z%y:Nat):Int):=(Int.natCast_emod _ _).symm;generalize z/y=q at*;generalize z%y=r at*;go_enter Tryz.func182,Tryz.ntmps182
 go_wp2
 go_region
 go_wp2
 go_ret2
 exact⟨rfl,qt.drew _⟩
structure qav (zs a:List Nat) (d r k:Nat):Prop where
 len:zs.length=a.length
 dg:jg zs
 zero:∀j,j<k->zs.getD j 0=0
 sum:val zs*d+4294967296^k*r=4294967296^k*val (a.drop k)
 rest:r<d
theorem qkN(a:List Nat){d:Nat}(hd:0<d):qav (List.replicate a.length 0) a d 0 a.length:=
 ⟨by simp,fun x hx=>by have:=List.eq_of_mem_replicate hx;omega,fun j h=>by simp[h],by simp[yj,val],hd⟩
theorem qhc{a:List Nat}{k:Nat}(hk:k<a.length):val (a.drop k)=a.getD k 0+4294967296*val (a.drop (k+1)):=by
 rw[List.drop_eq_getElem_cons hk,val];simp[Gn hk]
theorem qav.step{zs a:List Nat}{d r k q s:Nat}(h:qav zs a d r (k+1))(hk:k<a.length)(hq:q<4294967296)(hs:s<d)(he:q*d+s=r*4294967296+a.getD k 0):qav (zs.set k q) a d s k:=by
 refine⟨by simp[h.len],fun x hx=>?_,fun j hj=>?_,?_,hs⟩
 ·rcases List.mem_or_eq_of_mem_set hx with hx|rfl
  ·exact h.dg x hx
  ·exact hq
 ·have:=h.zero j (by omega);rw[List.getD_eq_getElem?_getD,List.getElem?_set_ne (by omega),<-List.getD_eq_getElem?_getD];exact this
 ·have hv:=Jb (ds:=zs) (k:=k) (by rw[h.len];exact hk) q;rw[h.zero k (by omega),Nat.mul_zero,Nat.add_zero]at hv;have h0:=h.sum;rw[hv,qhc hk,Nat.add_mul,Nat.mul_add];rw[Nat.pow_succ]at h0;generalize 4294967296^k=p at*;have e1:p*(q*d+s)=p*(r*4294967296+a.getD k 0):=by rw[he]
  have e2:p*(q*d)=p*q*d:=(Nat.mul_assoc _ _ _).symm;have e3:p*(r*4294967296)=p*4294967296*r:=by rw[Nat.mul_comm r,Nat.mul_assoc]
  have e4:p*(4294967296*val (a.drop (k+1)))=p*4294967296*val (a.drop (k+1)):=(Nat.mul_assoc _ _ _).symm;rw[Nat.mul_add,Nat.mul_add,e2,e3]at e1;rw[e4];omega
theorem qav.last{zs a:List Nat}{d r:Nat}(h:qav zs a d r 0):val zs=val a/d/\r=val a%d:=by
 have h0:=h.sum;simp at h0;have h1:=h.rest;have e:val a=r+d*val zs:=by rw[<-h0,Nat.mul_comm d];omega
 refine⟨?_,?_⟩
 ·rw[e,Nat.add_mul_div_left _ _ (by omega),Nat.div_eq_of_lt h1];omega
 ·rw[e,Nat.add_mul_mod_self_left,Nat.mod_eq_of_lt h1]
def qih(v d:Nat)(w:World)(e:Ending)(w':World):Prop:=
 ∃A c,e= .returned (.tuple #[.slice A (dig (v/d)).length c,.int .u32 ((v%d:Nat):Int),.bool true])/\(dig (v/d)).length<=c/\qL w' A (dig (v/d))/\Below w.heap.size w w'
set_option maxHeartbeats 2000000
set_option maxRecDepth 100000
theorem qbK(A:Oa)(c B:Nat)(ds:List Nat)(d:Nat)(w:World)(hB:B<=w.heap.size)(hc:ds.length<=c)(hm:ds.length<=900000)(SP:0<d)(Rh:d<4294967296)
 (hr:qu w B 1 A ds.length (qp ds))(hd:jg ds):
 Calls Tryz.prog 166 #[.slice A ds.length c,.int .u32 (d:Int)] w (qih (val ds) d w):=by
 have h1:=ji A c B ds w hc (by omega) hr hd;have r1:=jF hr hd;have l1:=qw hd;have g1:=qA (val ds);have v1:=qB (val ds);generalize val ds=x at*;generalize dig x=a at*;have H1:=Gh h1;have G1:=Gh g1;have V1:=Gh v1;clear h1 g1 v1 hr hd;have Uz:=fun(W:World)=>Tryz.make_u32 a.length (by omega) W;have EP:¬((d:Int)=0):=by omega
 go_enter Tryz.func166,Tryz.ntmps166
 go_wp2_with fail
 refine(H1).mono ?_;rintro e w1 ⟨rfl,rfl⟩;go_wp2_with fail
 clear Uz;have Xq:Below w.heap.size w (w.alloc (.cells (qp (List.replicate a.length 0)).toArray 123)):=(Below.refl _ w).alloc (Gr _) _;have VM:=qf.new w 123 (qp (List.replicate a.length 0)).toArray;go_loopg [8,9] a.length (fun gn rr ix wr=>∃(k r:Nat)(zs:List Nat),k<=a.length/\gn=k/\ix= .int .i64 ((k:Int)-1)/\rr= .int .u32 (r:Int)/\qav zs a d r k/\qf wr w.heap.size 123 (qp zs).toArray/\Below w.heap.size w wr)
 case atStart=>exact⟨a.length,0,_,Gr _,rfl,rfl,rfl,qkN a SP,VM,Xq⟩
 case round=>
  clear VM Xq;obtain⟨k,r,zs,hk,XG,rfl,rfl,Xs,XD,XX⟩:=hrel;have HG:=Gh XG;clear XG;rcases Nat.eq_zero_or_pos k with Xx|Xx
  ·subst Xx;have hl:=Xs.last;have TN:=Xs.len;have Xr:=Xs.dg;rw[V1.out]at hl;obtain⟨AM,EI⟩:=hl;have Xv:=XD.reads zs.length (Gr _);rw[List.take_length]at Xv;have UG:=ji (some ⟨w.heap.size,0,none⟩) a.length _ zs _ (by omega) (by omega) Xv Xr;have UY:=(qL.of_blk XD).dig Xr;have TD:=qw Xr;rw[TN]at UG TD;rw[AM]at UG UY TD;generalize EC:dig (x/d)=ws at*;have HW:=Gh EC;have Bf:=Gh EI;have VV:=Gh UG;have Sv:=Gh UY;have Fz:=Gh TD;clear UG UY TD Xv Xs Xr AM EI TN XD EC;go_wp2_with fail
   refine(VV).mono ?_;rintro e w5 ⟨rfl,rfl⟩;go_wp2_with fail
   refine bodyPost_ret (results_tmp3 rfl _ _ _) rfl ?_;exact⟨_,_,by rw[HW,<-Bf.out];rfl,by rw[HW.out];exact Fz,by rw[HW.out];exact Sv,XX⟩
  ·obtain⟨j,rfl⟩:∃j,k=j+1:=⟨k-1,by omega⟩;obtain⟨b1,o1,rfl,q1,c1⟩:=jA (r1.below (XX.mono hB)) (k:=j) (by omega);have TP:=jV G1 j;have SI:=Xs.rest;have hq:=qiB (h:=r) TP SI;have hs:(r*4294967296+a.getD j 0)%d<d:=Nat.mod_lt _ SP;have he:(r*4294967296+a.getD j 0)/d*d+(r*4294967296+a.getD j 0)%d=r*4294967296+a.getD j 0:=by rw[Nat.mul_comm];exact Nat.div_add_mod _ _
   have hN:=Xs.step (k:=j) (by omega) hq hs he;have Ur:j<zs.length:=by rw[Xs.len];omega
   have HC:=Gh (fun(W:World)=>qbA r (a.getD j 0) d SI TP Rh W);have c3:wr.cell? ⟨w.heap.size,j,none⟩=some (.int .u32 ((zs.getD j 0:Nat):Int)):=(XD.cell j).trans (jC _ _ Ur);have HN:=Gh hN;have XH:=Gh Xs;clear hN Xs hq hs he;generalize (r*4294967296+a.getD j 0)/d=q at*;generalize (r*4294967296+a.getD j 0)%d=s at*;generalize a.getD j 0=xa at*;generalize zs.getD j 0=zj at*;have z1:=XD.lt;have i1:(j:Int)<(a.length:Int):=by omega
   have i0:(0:Int)<=(j:Int):=by omega
   have ek:((j+1:Nat):Int)-1=(j:Int):=by omega
   rw[ek];have HEK:=Gh ek;clear ek Xx;go_wp2_with fail
   refine(HC _).mono ?_;rintro e w1 ⟨rfl,Us⟩;have Uu:=XD.drawn Us;have c4:w1.cell? ⟨w.heap.size,j,none⟩=some (.int .u32 (zj:Int)):=(Us.cell _).trans c3;have f4:=Uu.frozen j;have hbl1:=XX.trans (Us.below _);have z2:=Uu.lt;clear c1 c3 Us XD;go_wp2_with fail
   go_roundg j
   case rel=>
    refine⟨j,s,zs.set j q,by omega,rfl,rfl,rfl,HN,?_,hbl1.setCell (Gr _) _⟩;rw[<-jw];exact Uu.set_ j _
   case measure=>have:=HG.out;omega
end Go.Proofs.YtflikmojaidhhaaGreatDoor
namespace Go.Proofs.YtflikmojaidhhaaGreatDoor
structure Est (u w d:Nat):Prop where
 lt:d<4294967296
 le:d*w<=u
 ge:d=4294967295∨u<(d+1)*w
structure zY (u2 u1 u0 v1 v2 d r:Nat):Prop where
 lt:d<4294967296
 eq:d*v1+r=u2*4294967296+u1
 ge:d=4294967295∨(u2*4294967296+u1)*4294967296+u0<(d+1)*(v1*4294967296+v2)
theorem qlr{a u0 Y Z:Nat}(h:a<Y)(h0:u0<4294967296):a*4294967296+u0<Y*4294967296+Z:=by omega
theorem qlo{a u0 Y Z r:Nat}(hc:r*4294967296+u0<Z)(e:Y+r=a):a*4294967296+u0<Y*4294967296+Z:=by
 rw[<-e,Nat.add_mul,Nat.add_assoc];exact Nat.add_lt_add_left hc _
theorem zY.start{u2 u1 u0 v1 v2:Nat}(h2:u2<v1)(h0:u0<4294967296)(h1:u1<4294967296):zY u2 u1 u0 v1 v2 ((u2*4294967296+u1)/v1) ((u2*4294967296+u1)%v1) where
 lt:=by
  rw[Nat.div_lt_iff_lt_mul (by omega)];have:(u2+1)*4294967296<=v1*4294967296:=Nat.mul_le_mul_right _ (by omega);omega
 eq:=by rw[Nat.mul_comm];exact Nat.div_add_mod _ _
 ge:=by
  refine .inr ?_;have h:=Nat.lt_div_mul_add (a:=u2*4294967296+u1) (b:=v1) (by omega);generalize (u2*4294967296+u1)/v1=d at*;have h4:(d+1)*(v1*4294967296+v2)=(d*v1+v1)*4294967296+(d+1)*v2:=by rw[Nat.mul_add (d+1),<-Nat.mul_assoc,Nat.add_mul d 1 v1,Nat.one_mul]
  rw[h4];exact qlr h h0
theorem zY.top{u1 u0 v1 v2:Nat}:zY v1 u1 u0 v1 v2 4294967295 (u1+v1) where
 lt:=by decide
 eq:=by omega
 ge:= .inl rfl
theorem zY.done{u2 u1 u0 v1 v2 d r:Nat}(h:zY u2 u1 u0 v1 v2 d r)(hc:4294967296<=r∨d*v2<=r*4294967296+u0)(hv:v2<4294967296):Est ((u2*4294967296+u1)*4294967296+u0) (v1*4294967296+v2) d where
 lt:=h.lt
 le:=by
  have Vo:d*v2<=r*4294967296+u0:=by
   rcases hc with hc|hc
   ·have h1:d*v2<=4294967295*4294967295:=Nat.mul_le_mul (by have:=h.lt;omega) (by omega);have h2:4294967296*4294967296<=r*4294967296:=Nat.mul_le_mul_right _ hc;omega
   ·exact hc
  have e:(d*v1+r)*4294967296=(u2*4294967296+u1)*4294967296:=by rw[h.eq]
  have e2:d*(v1*4294967296+v2)=d*v1*4294967296+d*v2:=by rw[Nat.mul_add d,<-Nat.mul_assoc]
  omega
 ge:=h.ge
theorem zY.step{u2 u1 u0 v1 v2 d r:Nat}(h:zY u2 u1 u0 v1 v2 d r)(hc:r*4294967296+u0<d*v2):0<d/\zY u2 u1 u0 v1 v2 (d-1) (r+v1):=by
 have hd:0<d:=by
  rcases Nat.eq_zero_or_pos d with h0|h0
  ·rw[h0,Nat.zero_mul]at hc;omega
  ·exact h0
 obtain⟨k,rfl⟩:∃k,d=k+1:=⟨d-1,by omega⟩;refine⟨hd,by have:=h.lt;omega,?_,.inr ?_⟩
 ·have e:=h.eq;rw[Nat.add_mul,Nat.one_mul]at e;rw[Nat.add_sub_cancel];omega
 ·rw[Nat.add_sub_cancel];have e2:(k+1)*(v1*4294967296+v2)=(k+1)*v1*4294967296+(k+1)*v2:=by rw[Nat.mul_add (k+1),<-Nat.mul_assoc]
  rw[e2];exact qlo hc h.eq
theorem Est.near{U V u w d k ul vl:Nat}(h:Est u w d)(hU:U=u*k+ul)(hV:V=w*k+vl)(SG:ul<k)(S5:vl<k)(hw:4294967296<=w)(Xi:U<V*4294967296):
 (d*V<=U/\U-d*V<V)∨(U<d*V/\0<d/\(d-1)*V<=U/\U-(d-1)*V<V):=by
 have h1:d*V<U+V:=by
  have a1:d*(w*k)<=u*k:=by rw[<-Nat.mul_assoc];exact Nat.mul_le_mul_right _ h.le
  have a2:d*vl<=4294967295*vl:=Nat.mul_le_mul_right _ (by have:=h.lt;omega);have a3:4294967296*k<=w*k:=Nat.mul_le_mul_right _ hw;rw[hV,Nat.mul_add];omega
 by_cases hc:d*V<=U
 ·refine .inl ⟨hc,?_⟩;rcases h.ge with hd|hd
  ·have:V*4294967296=d*V+V:=by rw[hd];omega
   omega
  ·have a1:(u+1)*k<=(d+1)*w*k:=Nat.mul_le_mul_right _ hd;have a2:(d+1)*w*k<=(d+1)*V:=by rw[Nat.mul_assoc];exact Nat.mul_le_mul_left _ (by omega)
   rw[Nat.add_mul,Nat.one_mul]at a1;have a3:(d+1)*V=d*V+V:=by rw[Nat.add_mul,Nat.one_mul]
   omega
 ·have hd:0<d:=by
   rcases Nat.eq_zero_or_pos d with h0|h0
   ·rw[h0,Nat.zero_mul]at hc;omega
   ·exact h0
  obtain⟨j,rfl⟩:∃j,d=j+1:=⟨d-1,by omega⟩;refine .inr ⟨by omega,hd,?_,?_⟩<;>rw[Nat.add_sub_cancel]<;>rw[Nat.add_mul,Nat.one_mul]at h1 hc<;>omega
structure qbI (zs:List Nat) (c b k pu vv d:Nat):Prop where
 len:zs.length=k
 dg:jg zs
 sum:val zs+d*vv=pu+4294967296^k*(b+c)
 car:c<4294967296
 bor:b<=1
theorem qbI.nil(d:Nat):qbI [] 0 0 0 0 0 d:=⟨rfl,by simp[jg],by simp[val],by omega,by omega⟩
theorem qbI.step{zs:List Nat}{c b k pu vv d x y lo hi t b':Nat}(h:qbI zs c b k pu vv d)(hhi:hi<4294967296)(hm:hi*4294967296+lo=y*d+c)(ht:t<4294967296)(hb:b'<=1)(he:t+(lo+b)=x+4294967296*b'):
 qbI (zs++[t]) hi b' (k+1) (pu+4294967296^k*x) (vv+4294967296^k*y) d:=by
 refine⟨by simp[h.len],fun z hz=>?_,?_,hhi,hb⟩
 ·rcases List.mem_append.1 hz with hz|hz
  ·exact h.dg z hz
  ·rw[List.mem_singleton]at hz;rw[hz];exact ht
 ·have h0:=h.sum;have hv:=ja zs [t];rw[h.len]at hv;simp only[val,Nat.mul_zero,Nat.add_zero]at hv;rw[hv,Nat.pow_succ];generalize 4294967296^k=p at*;have e1:p*(t+(lo+b))=p*(x+4294967296*b'):=by rw[he]
  have e2:p*(hi*4294967296+lo)=p*(y*d+c):=by rw[hm]
  have e3:d*(vv+p*y)=d*vv+p*(y*d):=by rw[Nat.mul_add,Nat.mul_left_comm,Nat.mul_comm d y]
  rw[e3];simp only[Nat.mul_add]at e1 e2 h0 ⊢;have e4:p*(hi*4294967296)=p*4294967296*hi:=by rw[Nat.mul_comm hi,Nat.mul_assoc]
  have e5:p*(4294967296*b')=p*4294967296*b':=by rw[Nat.mul_assoc]
  omega
theorem Zg{l:List Nat}(h:jg l)(k:Nat):jg (l.take k):=fun d hd=>h d (List.mem_of_mem_take hd)
theorem qcO{l:List Nat}(h:jg l)(k:Nat):jg (l.drop k):=fun d hd=>h d (List.mem_of_mem_drop hd)
theorem qbU(l:List Nat){k:Nat}(hk:k<=l.length):val l=val (l.take k)+4294967296^k*val (l.drop k):=by
 have:=ja (l.take k) (l.drop k);rwa[List.take_append_drop,List.length_take,Nat.min_eq_left hk]at this
theorem Je{l:List Nat}(h:jg l){k:Nat}(hk:k<=l.length):val (l.take k)<4294967296^k:=by
 have:=jr (Zg h k);rwa[List.length_take,Nat.min_eq_left hk]at this
theorem qgA{l:List Nat}{k:Nat}(hk:k<=l.length)(h:val l<4294967296^k):val (l.drop k)=0/\val (l.take k)=val l:=by
 have e:=qbU l hk;rcases Nat.eq_zero_or_pos (val (l.drop k))with h0|h0
 ·rw[h0,Nat.mul_zero,Nat.add_zero]at e;exact⟨h0,e.symm⟩
 ·have:4294967296^k*1<=4294967296^k*val (l.drop k):=Nat.mul_le_mul_left _ h0;omega
theorem qac{l:List Nat}{m:Nat}(h:l.length=m+2):val l=(l.getD (m+1) 0*4294967296+l.getD m 0)*4294967296^m+val (l.take m):=by
 have e1:=qE (ds:=l) (k:=m) (by omega);have e2:=qE (ds:=l) (k:=m+1) (by omega);rw[show m+1+1=l.length by omega,List.take_length,e1,Nat.pow_succ]at e2;rw[e2,Nat.add_mul,Nat.mul_assoc (l.getD (m+1) 0),Nat.mul_comm (l.getD (m+1) 0),Nat.mul_comm (l.getD m 0),Nat.mul_comm 4294967296 (4294967296^m)];generalize 4294967296^m*4294967296*l.getD (m+1) 0=X;generalize 4294967296^m*l.getD m 0=Y;omega
theorem qdk{l:List Nat}{m:Nat}(h:l.length=m+3):val l=((l.getD (m+2) 0*4294967296+l.getD (m+1) 0)*4294967296+l.getD m 0)*4294967296^m+val (l.take m):=by
 have e1:=qE (ds:=l) (k:=m) (by omega);have h2:val l=(l.getD (m+2) 0*4294967296+l.getD (m+1) 0)*4294967296^(m+1)+val (l.take (m+1)):=qac (m:=m+1) h;rw[e1]at h2;rw[h2,Nat.add_mul _ (l.getD m 0),Nat.pow_succ,Nat.mul_assoc _ 4294967296 (4294967296^m),Nat.mul_comm 4294967296 (4294967296^m),Nat.mul_comm (l.getD m 0)];generalize (l.getD (m+2) 0*4294967296+l.getD (m+1) 0)*(4294967296^m*4294967296)=X;generalize 4294967296^m*l.getD m 0=Y;omega
structure Yu (u q:List Nat) (n j A V:Nat):Prop where
 du:jg u
 dq:jg q
 len:u.length=q.length+n
 le:j<=q.length
 rem:val (u.drop j)<V
 eq:val u+V*val q=A
 zero:∀i,i<j->q.getD i 0=0
def jK(u:List Nat)(n i:Nat):List Nat:=(u.drop i).take (n+1)
theorem Yu.part{u q v:List Nat}{n i A:Nat}(h:Yu u q n (i+1) A (val v))(hv:jg v)(hn:v.length=n)(h0:0<n):
 (jK u n i).length=n+1/\jg (jK u n i)/\val (jK u n i)=val (u.drop i)/\val (u.drop (i+n+1))=0/\val (jK u n i)<val v*4294967296:=by
 have hl:=h.len;have hj:=h.le;have hVn:val v<4294967296^n:=by rw[<-hn];exact jr hv
 have hi:i<u.length:=by omega
 have e:val (u.drop i)=u.getD i 0+4294967296*val (u.drop (i+1)):=by
  rw[List.drop_eq_getElem_cons hi,val,List.getD_eq_getElem?_getD,Gn hi];rfl
 have hd:u.getD i 0<4294967296:=by
  rw[List.getD_eq_getElem?_getD,Gn hi];exact h.du _ (List.getElem_mem hi)
 have Xi:val (u.drop i)<val v*4294967296:=by
  have:=h.rem;omega
 have E9:val (u.drop i)<4294967296^(n+1):=by
  rw[Nat.pow_succ];exact Gm Xi (Nat.mul_le_mul_right _ (Nat.le_of_lt hVn))
 have hk:n+1<=(u.drop i).length:=by rw[List.length_drop];omega
 obtain⟨s1,s2⟩:=qgA hk E9;rw[List.drop_drop]at s1;refine⟨by unfold jK;rw[List.length_take,Nat.min_eq_left hk],Zg (qcO h.du i) _,s2,?_,?_⟩
 ·rw[show i+n+1=i+(n+1)by omega];exact s1
 ·unfold jK;rw[s2];exact Xi
theorem Yu.step{u q v zs:List Nat}{n i A d:Nat}(h:Yu u q n (i+1) A (val v))(hv:jg v)(hn:v.length=n)(h0:0<n)(hd:d<4294967296)(hz:jg zs)(Ur:zs.length=n+1)(he:val zs+d*val v=val (jK u n i))(Xi:val zs<val v):
 Yu (u.take i++(zs++u.drop (i+n+1))) (q.set i d) n i A (val v):=by
 have hl:=h.len;have hj:=h.le;obtain⟨p1,p2,p3,p4,p5⟩:=h.part hv hn h0;have hi:i<q.length:=by omega
 have hti:(u.take i).length=i:=by rw[List.length_take];omega
 have Al:val (zs++u.drop (i+n+1))=val zs:=by rw[ja,p4,Nat.mul_zero,Nat.add_zero]
 refine⟨fun x hx=>?_,fun x hx=>?_,?_,by rw[List.length_set];omega,?_,?_,fun k hk=>?_⟩
 ·rcases List.mem_append.1 hx with hx|hx
  ·exact h.du x (List.mem_of_mem_take hx)
  ·rcases List.mem_append.1 hx with hx|hx
   ·exact hz x hx
   ·exact h.du x (List.mem_of_mem_drop hx)
 ·rcases List.mem_or_eq_of_mem_set hx with hx|hx
  ·exact h.dq x hx
  ·rw[hx];exact hd
 ·rw[List.length_set,List.length_append,List.length_append,hti,Ur,List.length_drop];omega
 ·rw[List.drop_append_of_le_length (by omega),show(u.take i).drop i=[]from List.drop_of_length_le (by omega),List.nil_append,Al];exact Xi
 ·have hs:=Jb (ds:=q) (k:=i) hi d;rw[h.zero i (by omega),Nat.mul_zero,Nat.add_zero]at hs;have hu:=qbU u (k:=i) (by omega);rw[<-p3,<-he]at hu;have hE:=h.eq;rw[ja,hti,Al,hs,<-hE,hu,Nat.mul_add (val v),Nat.mul_add (4294967296^i),Nat.mul_left_comm (val v) (4294967296^i),Nat.mul_comm (val v) d];generalize 4294967296^i*(d*val v)=X;generalize 4294967296^i*val zs=Y;generalize val v*val q=Z;omega
 ·rw[List.getD_eq_getElem?_getD,List.getElem?_set_ne (by omega),<-List.getD_eq_getElem?_getD];exact h.zero k (by omega)
theorem Yu.done{u q:List Nat}{n A V:Nat}(h:Yu u q n 0 A V):val q=A/V/\val u=A%V:=by
 have h1:=h.rem;rw[List.drop_zero]at h1;have h2:=h.eq;have hV:0<V:=by omega
 refine⟨?_,?_⟩
 ·rw[<-h2,Nat.add_mul_div_left _ _ hV,Nat.div_eq_of_lt h1,Nat.zero_add]
 ·rw[<-h2,Nat.add_mul_mod_self_left,Nat.mod_eq_of_lt h1]
theorem QJ{l:List Nat}(h:jg l)(k:Nat):l.getD k 0<4294967296:=by
 rw[List.getD_eq_getElem?_getD]
 cases hk:l[k]? with
 |none=>simp
 |some x=>exact h x (Gk hk)
theorem qlq{u2 v1 x y v2 k ul vl U V:Nat}(hU:U=(u2*4294967296+x)*4294967296*k+y)(hV:V=(v1*4294967296+v2)*k+vl)(S5:vl<k)(Mj:v2<4294967296)(h:U<V*4294967296)(_:ul=0):u2<=v1:=by
 refine Nat.le_of_not_lt fun Xi=>?_;have a1:V<(v1*4294967296+v2+1)*k:=by rw[hV,Nat.add_mul _ 1,Nat.one_mul];omega
 have a2:(v1*4294967296+v2+1)*k<=(u2*4294967296+x)*k:=Nat.mul_le_mul_right _ (by omega);have a3:V*4294967296<(u2*4294967296+x)*k*4294967296:=Nat.mul_lt_mul_of_pos_right (Gm a1 a2) (by decide);have a4:(u2*4294967296+x)*k*4294967296=(u2*4294967296+x)*4294967296*k:=Nat.mul_right_comm _ _ _;rw[a4]at a3;have a5:(u2*4294967296+x)*4294967296*k<=U:=by rw[hU];exact Nat.le_add_right _ _
 exact absurd (Gm a3 a5) (Nat.lt_asymm h)
def gU(p:List Nat)(m:Nat):Nat:=(p.getD (m+2) 0*4294967296+p.getD (m+1) 0)*4294967296+p.getD m 0
def gV(v:List Nat)(m:Nat):Nat:=v.getD (m+1) 0*4294967296+v.getD m 0
theorem qfS{p v:List Nat}{m:Nat}(hv:jg v)(U6:p.length=m+3)(S5:v.length=m+2)(h:val p<val v*4294967296):p.getD (m+2) 0<=v.getD (m+1) 0:=by
 have e1:=qdk U6;have e2:=qac S5;have l2:=Je hv (k:=m) (by omega);have d:=QJ hv m;rw[Nat.add_mul _ (p.getD m 0),Nat.add_assoc]at e1;exact qlq (ul:=0) e1 e2 l2 d h rfl
theorem qdY{p v:List Nat}{m d:Nat}(hp:jg p)(hv:jg v)(U6:p.length=m+3)(S5:v.length=m+2)(h:val p<val v*4294967296)(hb:1<=v.getD (m+1) 0)(he:Est (gU p m) (gV v m) d):
 (d*val v<=val p/\val p-d*val v<val v)∨(val p<d*val v/\0<d/\(d-1)*val v<=val p/\val p-(d-1)*val v<val v):=by
 refine he.near (qdk U6) (qac S5) (Je hp (by omega)) (Je hv (by omega)) ?_ h;exact Gl (Gl (Nat.le_of_eq (Nat.one_mul _).symm) (Nat.mul_le_mul_right _ hb)) (Nat.le_add_right _ _)
theorem Yu.start{u:List Nat}{n t V:Nat}(hu:jg u)(SG:u.length=t+n)(hn:0<n)(Xi:val u<4294967296^(t+n-1)*2147483648)(hV:4294967296^(n-1)*2147483648<=V):Yu u (List.replicate t 0) n t (val u) V where
 du:=hu
 dq:=fun d hd=>by rw[(List.mem_replicate.1 hd).2];decide
 len:=by rw[List.length_replicate];exact SG
 le:=by rw[List.length_replicate];exact Gr _
 rem:=by
  have e:=qbU u (k:=t) (by omega);have h1:4294967296^t*val (u.drop t)<4294967296^t*(4294967296^(n-1)*2147483648):=by
   rw[<-Nat.mul_assoc,<-Nat.pow_add,show t+(n-1)=t+n-1 by omega];omega
  exact Gm (Nat.lt_of_mul_lt_mul_left h1) hV
 eq:=by rw[yj,Nat.mul_zero,Nat.add_zero]
 zero:=fun i _=>by
  rw[List.getD_eq_getElem?_getD,List.getElem?_replicate]
  split<;>rfl
structure qbF (zs:List Nat) (c k pu vv:Nat):Prop where
 len:zs.length=k
 dg:jg zs
 sum:val zs+4294967296^k*c=pu+vv
 car:c<=1
theorem qbF.nil:qbF [] 0 0 0 0:=⟨rfl,by simp[jg],by simp[val],by omega⟩
theorem qbF.step{zs:List Nat}{c k pu vv x y t c':Nat}(h:qbF zs c k pu vv)(ht:t<4294967296)(hc:c'<=1)(he:t+4294967296*c'=x+y+c):qbF (zs++[t]) c' (k+1) (pu+4294967296^k*x) (vv+4294967296^k*y):=by
 refine⟨by simp[h.len],fun z hz=>?_,?_,hc⟩
 ·rcases List.mem_append.1 hz with hz|hz
  ·exact h.dg z hz
  ·rw[List.mem_singleton]at hz;rw[hz];exact ht
 ·have h0:=h.sum;have hv:=ja zs [t];rw[h.len]at hv;simp only[val,Nat.mul_zero,Nat.add_zero]at hv;rw[hv,Nat.pow_succ];generalize 4294967296^k=p at*;have e1:p*(t+4294967296*c')=p*(x+y+c):=by rw[he]
  simp only[Nat.mul_add]at e1;have e5:p*(4294967296*c')=p*4294967296*c':=by rw[Nat.mul_assoc]
  omega
theorem qbI.last{zs:List Nat}{c b k pu vv d x t b':Nat}(h:qbI zs c b k pu vv d)(ht:t<4294967296)(he:t+(c+b)=x+4294967296*b'):
 (zs++[t]).length=k+1/\jg (zs++[t])/\val (zs++[t])+d*vv=pu+4294967296^k*x+4294967296^(k+1)*b':=by
 refine⟨by simp[h.len],fun z hz=>?_,?_⟩
 ·rcases List.mem_append.1 hz with hz|hz
  ·exact h.dg z hz
  ·rw[List.mem_singleton]at hz;rw[hz];exact ht
 ·have h0:=h.sum;have hv:=ja zs [t];rw[h.len]at hv;simp only[val,Nat.mul_zero,Nat.add_zero]at hv;rw[hv,Nat.pow_succ];generalize 4294967296^k=p at*;have e1:p*(t+(c+b))=p*(x+4294967296*b'):=by rw[he]
  simp only[Nat.mul_add]at e1 h0 ⊢;have e5:p*(4294967296*b')=p*4294967296*b':=by rw[Nat.mul_assoc]
  omega
theorem qbF.last{zs:List Nat}{c k pu vv x t:Nat}(h:qbF zs c k pu vv)(ht:t=(x+c)%4294967296)(hx:x<4294967296):
 (zs++[t]).length=k+1/\jg (zs++[t])/\∃b',b'<=1/\val (zs++[t])+4294967296^(k+1)*b'=pu+4294967296^k*x+vv:=by
 refine⟨by simp[h.len],fun z hz=>?_,(x+c)/4294967296,by have:=h.car;omega,?_⟩
 ·rcases List.mem_append.1 hz with hz|hz
  ·exact h.dg z hz
  ·rw[List.mem_singleton]at hz;omega
 ·have h0:=h.sum;have hv:=ja zs [t];rw[h.len]at hv;simp only[val,Nat.mul_zero,Nat.add_zero]at hv;rw[hv,Nat.pow_succ];have e:=Nat.mod_add_div (x+c) 4294967296;rw[<-ht]at e;generalize (x+c)/4294967296=q at*;generalize 4294967296^k=p at*;have e1:p*(t+4294967296*q)=p*(x+c):=by rw[e]
  simp only[Nat.mul_add]at e1;have e5:p*(4294967296*q)=p*4294967296*q:=by rw[Nat.mul_assoc]
  omega
structure Zh (ys:List Nat) (t k va p:Nat):Prop where
 len:ys.length=k
 dg:jg ys
 lt:t<p
 sum:val ys+4294967296^k*t=va*p
theorem Zh.nil{p:Nat}(h:0<p):Zh [] 0 0 0 p:=⟨rfl,by simp[jg],h,by simp[val]⟩
theorem qfd{t x p q:Nat}(hp:p*q=4294967296)(ht:t<p):t+x*p%4294967296<4294967296/\p∣x*p%4294967296:=by
 have hq:0<q:=by
  rcases Nat.eq_zero_or_pos q with h|h
  ·rw[h,Nat.mul_zero]at hp;omega
  ·exact h
 have e:x*p%4294967296=p*(x%q):=by rw[<-hp,Nat.mul_comm x p,Nat.mul_mod_mul_left]
 have hx:x%q<q:=Nat.mod_lt _ hq;have h2:p*(x%q)+p<=p*q:=by
  have:p*(x%q+1)<=p*q:=Nat.mul_le_mul_left _ hx;rwa[Nat.mul_add,Nat.mul_one]at this
 rw[e];exact⟨by omega,⟨_,rfl⟩⟩
theorem Zh.step{ys:List Nat}{t k va p q x:Nat}(h:Zh ys t k va p)(hp:p*q=4294967296)(hx:x<4294967296):
 Zh (ys++[t+x*p%4294967296]) (x*p/4294967296) (k+1) (va+4294967296^k*x) p:=by
 have CV:0<p:=by have:=h.lt;omega
 refine⟨by simp[h.len],fun z hz=>?_,?_,?_⟩
 ·rcases List.mem_append.1 hz with hz|hz
  ·exact h.dg z hz
  ·rw[List.mem_singleton]at hz;rw[hz];exact(qfd hp h.lt).1
 ·rw[Nat.div_lt_iff_lt_mul (by decide),Nat.mul_comm p];exact Nat.mul_lt_mul_of_pos_right hx CV
 ·have h0:=h.sum;have hv:=ja ys [t+x*p%4294967296];rw[h.len]at hv;simp only[val,Nat.mul_zero,Nat.add_zero]at hv;have e:=Nat.mod_add_div (x*p) 4294967296;rw[hv,Nat.pow_succ,Nat.add_mul va,<-h0,Nat.mul_assoc (4294967296^k) x p];generalize x*p%4294967296=a at*;generalize x*p/4294967296=b at*;generalize 4294967296^k=w at*;have e2:w*(x*p)=w*a+w*(4294967296*b):=by rw[<-e,Nat.mul_add]
  rw[e2,Nat.mul_add w t,Nat.mul_assoc w 4294967296];generalize w*(4294967296*b)=X;generalize w*a=Y;omega
def Q9(p:Nat):List Nat->List Nat
 |[]=>[]
 |x::r=>((x+4294967296*r.headD 0)/p%4294967296)::Q9 p r
theorem qdi(p:Nat):∀l:List Nat,(Q9 p l).length=l.length
 |[]=>rfl
 |x::r=>by rw[Q9,List.length_cons,List.length_cons,qdi p r]
theorem qcH(p:Nat):∀l:List Nat,jg (Q9 p l)
 |[]=>by simp[Q9,jg]
 |x::r=>fun d hd=>by
  rw[Q9]at hd;rcases List.mem_cons.1 hd with hd|hd
  ·rw[hd];exact Nat.mod_lt _ (by decide)
  ·exact qcH p r d hd
theorem qcK{p q:Nat}(hp:p*q=4294967296):∀{l:List Nat},jg l->val (Q9 p l)=val l/p
 |[],_=>by simp[Q9,val]
 |x::r,h=>by
  have CV:0<p:=by
   rcases Nat.eq_zero_or_pos p with h0|h0
   ·rw[h0,Nat.zero_mul]at hp;omega
   ·exact h0
  have hx:x<4294967296:=h x (by simp);have ih:=qcK hp (l:=r) (fun d hd=>h d (List.mem_cons_of_mem _ hd));have hr:∃w,val r=r.headD 0+4294967296*w:=by
   cases r with
   |nil=>exact⟨0,by simp[val]⟩
   |cons y s=>exact⟨val s,rfl⟩
  obtain⟨w,hw⟩:=hr;rw[Q9,val,val,ih];generalize val r=v at*;generalize r.headD 0=y at*;have e1:(x+4294967296*v)/p/4294967296=v/p:=by
   rw[Nat.div_div_eq_div_mul,Nat.mul_comm p,<-Nat.div_div_eq_div_mul,Nat.add_mul_div_left _ _ (by decide),Nat.div_eq_of_lt hx,Nat.zero_add]
  have e2:(x+4294967296*v)/p%4294967296=(x+4294967296*y)/p%4294967296:=by
   have e3:x+4294967296*v=x+4294967296*y+p*(q*(4294967296*w)):=by
    rw[hw,<-Nat.mul_assoc p,hp,Nat.mul_add,Nat.add_assoc]
   rw[e3,Nat.add_mul_div_left _ _ CV,Nat.mul_left_comm q,Nat.add_mul_mod_self_left]
  have e4:=Nat.mod_add_div ((x+4294967296*v)/p) 4294967296;rw[e1,e2]at e4;exact e4
end Go.Proofs.YtflikmojaidhhaaGreatDoor
namespace Go.Proofs.YtflikmojaidhhaaGreatDoor
open Go.RowKit
theorem qk2{d v2 r u0:Nat}(h:d*v2/4294967296<r):d*v2<=r*4294967296+u0:=by
 generalize d*v2=x at*;omega
theorem qkQ{d v2 r u0:Nat}(h:d*v2/4294967296=r)(h2:d*v2%4294967296<=u0):d*v2<=r*4294967296+u0:=by
 generalize d*v2=x at*;omega
theorem qkX{d v2 r u0:Nat}(h0:u0<4294967296)(h:r<d*v2/4294967296∨d*v2/4294967296=r/\u0<d*v2%4294967296):r*4294967296+u0<d*v2:=by
 generalize d*v2=x at*;omega
set_option maxHeartbeats 2000000
set_option maxRecDepth 100000
theorem qbN(u2 u1 u0 v1 v2:Nat)(w:World)(h1:u1<4294967296)(h0:u0<4294967296)(g1:v1<4294967296)(g2:v2<4294967296)(Vo:u2<=v1)(hv:0<v1):
 Calls Tryz.prog 169 #[.int .u32 (u2:Int),.int .u32 (u1:Int),.int .u32 (u0:Int),.int .u32 (v1:Int),.int .u32 (v2:Int)] w fun e w'=>∃d:Nat,e= .returned (.int .u32 (d:Int))/\Est ((u2*4294967296+u1)*4294967296+u0) (v1*4294967296+v2) d/\qt w w':=by
 have SA:=Gh (fun r (hr:r<4294967296)(W:World)=>yD r v1 0 hr g1 (by omega) W);have UC:=Gh (fun d (hd:d<4294967296)(W:World)=>YI d v2 hd g2 W);have Nv:=Gh (fun d r (h:zY u2 u1 u0 v1 v2 d r) hc=>h.done hc g2);go_enter Tryz.func169,Tryz.ntmps169
 go_upto_if 18 with(fail)
 go_cut [11,12,13] (fun dv rv ov wc=>∃d r:Nat,dv= .int .u32 (d:Int)/\rv= .int .u32 ((r%4294967296:Nat):Int)/\ov= .int .u32 ((r/4294967296:Nat):Int)/\zY u2 u1 u0 v1 v2 d r/\r<8589934592/\qt w wc)
 case first=>
  by_cases Xi:u2<v1
  ·have k1:(u2:Int)<(v1:Int):=by omega
   have Ir:=Gh (fun(W:World)=>qbA u2 u1 v1 Xi h1 g1 W);have HS:=Gh (zY.start (u2:=u2) (u1:=u1) (u0:=u0) (v1:=v1) (v2:=v2) Xi h0 h1);have hr:(u2*4294967296+u1)%v1<v1:=Nat.mod_lt _ hv;generalize (u2*4294967296+u1)%v1=r at*;generalize (u2*4294967296+u1)/v1=d at*;go_wp2_with fail
   refine(Ir _).mono ?_;rintro e w1 ⟨rfl,Us⟩;go_wp2_with fail
   go_meet
   case rel=>exact⟨d,r,by go_num,by rw[Nat.mod_eq_of_lt (by omega)],by rw[Nat.div_eq_of_lt (by omega)];rfl,HS,by omega,Us⟩
  ·obtain rfl:u2=v1:=by omega
   have HS:=Gh (zY.top (u1:=u1) (u0:=u0) (v1:=u2) (v2:=v2));have HA:=Gh (fun W=>SA u1 h1 W);clear SA UC Nv Xi;go_wp2_with fail
   refine(HA _).mono ?_;rintro e w1 ⟨rfl,rfl⟩;go_wp2_with fail
   go_meet
   case rel=>exact⟨4294967295,u1+u2,rfl,rfl,rfl,HS,by omega,qt.refl _⟩
 case rest=>
  obtain⟨d,r,rfl,rfl,rfl,Xs,XK,Us⟩:=hcut;have XH:=Gh Xs;clear Xs;go_wp2_with fail
  go_loopg [11,12,13,14,15] d (fun gn dv rv ov _ _ wr=>∃d r:Nat,gn=d/\dv= .int .u32 (d:Int)/\rv= .int .u32 ((r%4294967296:Nat):Int)/\ov= .int .u32 ((r/4294967296:Nat):Int)/\zY u2 u1 u0 v1 v2 d r/\r<8589934592/\qt w wr)
  case atStart=>exact⟨d,r,rfl,rfl,rfl,rfl,XH,XK,Us⟩
  case round=>
   clear XH XK Us;obtain⟨d,r,XF,rfl,rfl,rfl,Xs,XK,Us⟩:=hrel;have HG:=Gh XF;have HS:=Gh Xs;clear XF;have hd:=Xs.lt;clear Xs;by_cases hr:r<4294967296
   ·rw[Nat.mod_eq_of_lt hr,Nat.div_eq_of_lt hr];have HM:=Gh (fun W=>UC d hd W);have HA:=Gh (fun W=>SA r hr W);have E1:=Gh (@qk2 d v2 r u0);have E2:=Gh (@qkQ d v2 r u0);have E3:=Gh (@qkX d v2 r u0 h0);have TC:d*v2%4294967296<4294967296:=Nat.mod_lt _ (by decide);have Sj:=Gh (fun hc=>Nv d r HS (.inr hc));have HSP:=Gh (fun hc=>HS.out.step hc);clear Nv UC SA;generalize d*v2%4294967296=lo at*;generalize d*v2/4294967296=hi at*;by_cases Es:hi<r
    ·have k1:(hi:Int)<(r:Int):=by omega
     have HN:=Gh (Sj (E1 Es));clear Es;go_wp2_with fail
     refine(HM _).mono ?_;rintro e w1 ⟨rfl,rfl⟩;go_wp2_with fail
     go_ret
     exact⟨d,rfl,HN,Us⟩
    ·have k1:¬(hi:Int)<(r:Int):=by omega
     by_cases BR:hi=r
     ·subst BR;have k2:((hi:Int)==(hi:Int))=true:=by simp
      by_cases OM:lo<=u0
      ·have k3:(lo:Int)<=(u0:Int):=by omega
       have HN:=Gh (Sj (E2 rfl OM));go_wp2_with fail
       refine(HM _).mono ?_;rintro e w1 ⟨rfl,rfl⟩;go_wp2_with fail
       go_ret
       exact⟨d,rfl,HN,Us⟩
      ·have k3:¬(lo:Int)<=(u0:Int):=by omega
       obtain⟨SP,Rg⟩:=HSP.out (E3 (.inr ⟨rfl,by omega⟩));have HN:=Gh Rg;clear Rg;have k4:(1:Int)<=(d:Int):=by omega
       go_wp2_with fail
       refine(HM _).mono ?_;rintro e w1 ⟨rfl,rfl⟩;go_wp2_with fail
       refine(HA _).mono ?_;rintro e w1 ⟨rfl,rfl⟩;go_wp2_with fail
       go_roundg (d-1)
       case rel=>exact⟨d-1,hi+v1,rfl,by go_num,rfl,rfl,HN,by omega,Us⟩
       case measure=>have:=HG.out;omega
     ·have k2:((hi:Int)==(r:Int))=false:=by simp;omega
      obtain⟨SP,Rg⟩:=HSP.out (E3 (.inl (by omega)));have HN:=Gh Rg;clear Rg BR;have k4:(1:Int)<=(d:Int):=by omega
      go_wp2_with fail
      refine(HM _).mono ?_;rintro e w1 ⟨rfl,rfl⟩;go_wp2_with fail
      refine(HA _).mono ?_;rintro e w1 ⟨rfl,rfl⟩;go_wp2_with fail
      go_roundg (d-1)
      case rel=>exact⟨d-1,r+v1,rfl,by go_num,rfl,rfl,HN,by omega,Us⟩
      case measure=>have:=HG.out;omega
   ·have HN:=Gh (Nv d r HS (.inl (by omega)));have k1:((((r/4294967296:Nat)):Int)==0)=false:=by simp;omega
    generalize r/4294967296=q at*;generalize r%4294967296=rm at*;go_wp2_with fail
    go_ret
    exact⟨d,rfl,HN,Us⟩
abbrev Wr(g:Nat)(w w':World):Prop:=w.grownBy w' (some g)
theorem Wr.refl(g:Nat)(w:World):Wr g w w:=⟨rfl,rfl,rfl,Gr _,fun _ _ _=>rfl⟩
theorem Wr.trans{g:Nat}{u v w:World}(h:Wr g u v)(k:Wr g v w):Wr g u w:=
 ⟨k.os.trans h.os,k.tape.trans h.tape,k.output.trans h.output,Gl h.size k.size,fun i hi hn=>(k.block i (Gm hi h.size) hn).trans (h.block i hi hn)⟩
theorem Wr.set_{g:Nat}(w:World)(o:Nat)(u:Value):Wr g w (w.setCell ⟨g,o,none⟩ u):=
 ⟨rfl,rfl,rfl,by simp,fun k _ hn=>Below.heap_setCell w ⟨g,o,none⟩ u k (fun e=>hn (by rw[e]))⟩
theorem Wr.below{g:Nat}{w w':World}(h:Wr g w w')(hg:g<w.heap.size):Below g w w':=
 ⟨h.os,h.tape,h.output,h.size,fun k hk=>h.block k (Nat.lt_trans hk hg) (fun e=>by injection e with e;omega)⟩
theorem qiK{us zs:List Nat}{j k:Nat}(hz:zs.length=k)(hl:j+k<us.length):(us.take j++(zs++us.drop (j+k))).getD (j+k) 0=us.getD (j+k) 0:=by
 have hj:(us.take j).length=j:=by rw[List.length_take];omega
 rw[List.getD_eq_getElem?_getD,List.getElem?_append_right (by omega),hj,List.getElem?_append_right (by omega),hz,List.getElem?_drop,List.getD_eq_getElem?_getD,show j+k+(j+k-j-k)=j+k by omega]
theorem qfG{us zs:List Nat}{j k t:Nat}(hz:zs.length=k)(hl:j+k<us.length):(us.take j++(zs++us.drop (j+k))).set (j+k) t=us.take j++((zs++[t])++us.drop (j+(k+1))):=by
 have hj:(us.take j).length=j:=by rw[List.length_take];omega
 rw[List.set_append_right _ _ (by omega),hj,show j+k-j=k by omega,List.set_append_right _ _ (by omega),hz,Nat.sub_self,List.drop_eq_getElem_cons hl,List.set_cons_zero,List.append_assoc];rfl
theorem Yr{us zs:List Nat}{j k:Nat}(hz:zs.length=k)(hl:j+k<=us.length):(us.take j++(zs++us.drop (j+k))).length=us.length:=by
 rw[List.length_append,List.length_append,List.length_take,List.length_drop];omega
theorem Jp{us:List Nat}{n j k:Nat}(hk:k<=n):(jK us n j).getD k 0=us.getD (j+k) 0:=by
 unfold jK;rw[List.getD_eq_getElem?_getD,List.getElem?_take,if_pos (by omega),List.getElem?_drop,List.getD_eq_getElem?_getD]
theorem qer{y d c:Nat}(hy:y<4294967296)(hd:d<4294967296)(hc:c<4294967296):
 y*d/4294967296+(y*d%4294967296+c+0)/4294967296<4294967296/\(y*d/4294967296+(y*d%4294967296+c+0)/4294967296)*4294967296+(y*d%4294967296+c+0)%4294967296=y*d+c:=by
 have:=Qs hy hd;generalize y*d=x at*;omega
theorem qbz{x l b:Nat}(hx:x<4294967296)(hl:l<4294967296)(hb:b<=1):(x+4294967296-l-b)%4294967296+(l+b)=x+4294967296*(if x<l+b then 1 else 0):=by
 split<;>omega
def qfz(us v:List Nat)(j n d g:Nat)(w:World)(e:Ending)(w':World):Prop:=
 ∃(zs:List Nat)(b:Nat),b<=1/\e= .returned (.bool (b != 0))/\zs.length=n+1/\jg zs/\val zs+d*val v=val (jK us n j)+4294967296^(n+1)*b/\qf w' g 123 (qp (us.take j++(zs++us.drop (j+(n+1))))).toArray/\Wr g w w'
set_option maxHeartbeats 4000000
theorem qef(A:Oa)(c cp B g j n d:Nat)(us v:List Nat)(w:World)(hB:B<=g)(hu:qf w g 123 (qp us).toArray)(SG:us.length<=900000)(hj:j+n+1<=us.length)(Lx:jg us)(hv:qu w B 1 A n (qp v))(S5:v.length=n)(Lu:jg v)(hd:d<4294967296):
 Calls Tryz.prog 170 #[.slice (some ⟨g,j,none⟩) (n+1) cp,.slice A n c,.int .u32 (d:Int)] w (qfz us v j n d g w):=by
 have HV:=Gh (fun(W:World)(hW:Wr g w W)=>hv.below ((hW.below hu.lt).mono hB));have ET:=Gh Lu;have C2:=Gh Lx;have Fv:=Gh S5;have HP:=Gh (show(jK us n j).length=n+1 by unfold jK;rw[List.length_take,List.length_drop];omega);have U8:qf w g 123 (qp (us.take j++([]++us.drop (j+0)))).toArray:=by rw[Nat.add_zero,List.nil_append,List.take_append_drop];exact hu
 clear hv Lu Lx hu S5;go_enter Tryz.func170,Tryz.ntmps170
 go_wp2_with fail
 go_loopg [7,8,9,10,11,12,13,17] n (fun gn cv bv _ _ _ _ _ kv wr=>∃(k cr b:Nat)(zs:List Nat),k<=n/\gn=n-k/\kv= .int .i64 k/\cv= .int .u32 (cr:Int)/\bv= .int .u32 (b:Int)/\qbI zs cr b k (val ((jK us n j).take k)) (val (v.take k)) d/\qf wr g 123 (qp (us.take j++(zs++us.drop (j+k)))).toArray/\Wr g w wr)
 case atStart=>exact⟨0,0,0,[],Nat.zero_le _,rfl,rfl,rfl,rfl,by simpa[val]using qbI.nil d,U8,Wr.refl _ _⟩
 case round=>
  clear U8;obtain⟨k,cr,b,zs,hk,XG,rfl,rfl,rfl,Xs,U8,Vf⟩:=hrel;have HG:=Gh XG;clear XG;have Ur:=Xs.len;have AE:us.getD (j+k) 0<4294967296:=QJ C2 _;have Fn:=Yr (us:=us) (zs:=zs) (j:=j) Ur (by omega);have c3:wr.cell? ⟨g,j+k,none⟩=some (.int .u32 ((us.getD (j+k) 0:Nat):Int)):=by
   have:=(U8.cell (j+k)).trans (jC _ _ (by rw[Fn];omega));rwa[qiK Ur (by omega)]at this
  have f3:=U8.frozen (j+k);have z3:=U8.lt;have UM:=Xs.car;have Xp:=Xs.bor;have C4:=Gh (qE (ds:=jK us n j) (k:=k) (by rw[HP.out];omega));rw[Jp hk]at C4;have hS:∀t,qf (wr.setCell ⟨g,j+k,none⟩ (.int .u32 ((t:Nat):Int))) g 123 (qp (us.take j++((zs++[t])++us.drop (j+(k+1))))).toArray:=fun t=>by
   rw[<-qfG Ur (by omega),<-jw];exact U8.set_ (j+k) _
  have HS:=Gh hS;have HW:=Gh (fun u=>Vf.trans (Wr.set_ wr (j+k) u));clear hS;by_cases Xi:k<n
  ·obtain⟨b2,o2,rfl,q2,c2⟩:=jA (ds:=v) (by rw[Fv.out];exact HV wr Vf) (k:=k) (by rw[Fv.out];exact Xi);have hy:=QJ ET k;have BX:=Gh (qE (ds:=v) (k:=k) (by rw[Fv.out];exact Xi));generalize v.getD k 0=y at*;generalize us.getD (j+k) 0=x at*;obtain⟨Rh,Sa⟩:=qer hy hd UM;have UC:=Gh (fun W=>YI y d hy hd W);have AL:y*d%4294967296<4294967296:=Nat.mod_lt _ (by decide);have SA:=Gh (fun W=>yD (y*d%4294967296) cr 0 AL UM (by omega) W);have EI:(y*d%4294967296+cr+0)%4294967296<4294967296:=Nat.mod_lt _ (by decide);have EW:=Gh (fun W=>YX x ((y*d%4294967296+cr+0)%4294967296) b AE EI Xp W);have Lz:=qbz AE EI Xp;have ht:(x+4294967296-(y*d%4294967296+cr+0)%4294967296-b)%4294967296<4294967296:=Nat.mod_lt _ (by decide);have VA:(if x<(y*d%4294967296+cr+0)%4294967296+b then 1 else 0)<=1:=by split<;>omega
   have hN:=Xs.step Rh Sa ht VA Lz;rw[<-C4,<-BX.out]at hN;generalize (if x<(y*d%4294967296+cr+0)%4294967296+b then 1 else 0)=b' at*;generalize (x+4294967296-(y*d%4294967296+cr+0)%4294967296-b)%4294967296=t at*;generalize (y*d%4294967296+cr+0)%4294967296=l2 at*;generalize (y*d%4294967296+cr+0)/4294967296=k1 at*;generalize y*d%4294967296=lo at*;generalize y*d/4294967296=EL at*;have HN:=Gh hN;clear hN Xs Lz Sa U8;have i2:(k:Int)<(n:Int):=by omega
   have i3:(k:Int)<(n:Int)+1:=by omega
   have i0:(0:Int)<=(k:Int):=by omega
   go_wp2_with fail
   refine(UC _).mono ?_;rintro e w1 ⟨rfl,rfl⟩;go_wp2_with fail
   refine(SA _).mono ?_;rintro e w1 ⟨rfl,rfl⟩;go_wp2_with fail
   refine(EW _).mono ?_;rintro e w1 ⟨rfl,rfl⟩;go_wp2_with fail
   go_roundg (n-(k+1))
   case rel=>exact⟨k+1,EL+k1,b',zs++[t],by omega,rfl,by go_num,by go_num,rfl,HN,HS t,HW _⟩
   case measure=>have:=HG.out;omega
  ·obtain rfl:k=n:=by omega
   have Lz:=qbz AE UM Xp;have EW:=Gh (fun W=>YX (us.getD (j+k) 0) cr b AE UM Xp W);have ht:(us.getD (j+k) 0+4294967296-cr-b)%4294967296<4294967296:=Nat.mod_lt _ (by decide);have VA:(if us.getD (j+k) 0<cr+b then 1 else 0)<=1:=by split<;>omega
   have hN:=Xs.last ht Lz;have U6:(jK us k j).take (k+1)=jK us k j:=List.take_of_length_le (by rw[HP.out];exact Gr _);rw[U6]at C4;rw[<-C4,show v.take k=v from List.take_of_length_le (by rw[Fv.out];exact Gr _)]at hN;generalize (if us.getD (j+k) 0<cr+b then 1 else 0)=b' at*;generalize (us.getD (j+k) 0+4294967296-cr-b)%4294967296=t at*;generalize us.getD (j+k) 0=x at*;have HN:=Gh hN;have HB:=Gh VA;clear hN Xs Lz U8 U6;have i3:(k:Int)<(k:Int)+1:=by omega
   have i0:(0:Int)<=(k:Int):=by omega
   go_wp2_with fail
   refine(EW _).mono ?_;rintro e w1 ⟨rfl,rfl⟩;rcases(by have:=HB.out;omega:b'=0∨b'=1)with rfl|rfl
   all_goals
    go_wp2_with fail
    go_ret
    exact⟨zs++[t],_,HB,rfl,HN.out.1,HN.out.2.1,HN.out.2.2,HS t,HW _⟩
def qfr(us v:List Nat)(j n g:Nat)(w:World)(e:Ending)(w':World):Prop:=
 ∃(zs:List Nat)(b:Nat),b<=1/\(∃u,e= .returned u)/\zs.length=n+1/\jg zs/\val zs+4294967296^(n+1)*b=val (jK us n j)+val v/\qf w' g 123 (qp (us.take j++(zs++us.drop (j+(n+1))))).toArray/\Wr g w w'
theorem qcN(A:Oa)(c cp B g j n:Nat)(us v:List Nat)(w:World)(hB:B<=g)(hu:qf w g 123 (qp us).toArray)(SG:us.length<=900000)(hj:j+n+1<=us.length)(Lx:jg us)(hv:qu w B 1 A n (qp v))(S5:v.length=n)(Lu:jg v):
 Calls Tryz.prog 171 #[.slice (some ⟨g,j,none⟩) (n+1) cp,.slice A n c] w (qfr us v j n g w):=by
 have HV:=Gh (fun(W:World)(hW:Wr g w W)=>hv.below ((hW.below hu.lt).mono hB));have ET:=Gh Lu;have C2:=Gh Lx;have Fv:=Gh S5;have HP:=Gh (show(jK us n j).length=n+1 by unfold jK;rw[List.length_take,List.length_drop];omega);have U8:qf w g 123 (qp (us.take j++([]++us.drop (j+0)))).toArray:=by rw[Nat.add_zero,List.nil_append,List.take_append_drop];exact hu
 clear hv Lu Lx hu S5;go_enter Tryz.func171,Tryz.ntmps171
 go_wp2_with fail
 go_loopg [4,5,6,9] n (fun gn cv _ _ kv wr=>∃(k cr:Nat)(zs:List Nat),k<=n/\gn=n-k/\kv= .int .i64 k/\cv= .int .u32 (cr:Int)/\qbF zs cr k (val ((jK us n j).take k)) (val (v.take k))/\qf wr g 123 (qp (us.take j++(zs++us.drop (j+k)))).toArray/\Wr g w wr)
 case atStart=>exact⟨0,0,[],Nat.zero_le _,rfl,rfl,rfl,by simpa[val]using qbF.nil,U8,Wr.refl _ _⟩
 case round=>
  clear U8;obtain⟨k,cr,zs,hk,XG,rfl,rfl,Xs,U8,Vf⟩:=hrel;have HG:=Gh XG;clear XG;have Ur:=Xs.len;have AE:us.getD (j+k) 0<4294967296:=QJ C2 _;have Fn:=Yr (us:=us) (zs:=zs) (j:=j) Ur (by omega);have c3:wr.cell? ⟨g,j+k,none⟩=some (.int .u32 ((us.getD (j+k) 0:Nat):Int)):=by
   have:=(U8.cell (j+k)).trans (jC _ _ (by rw[Fn];omega));rwa[qiK Ur (by omega)]at this
  have f3:=U8.frozen (j+k);have z3:=U8.lt;have UM:=Xs.car;have C4:=Gh (qE (ds:=jK us n j) (k:=k) (by rw[HP.out];omega));rw[Jp hk]at C4;have HS:Hid (∀(t:Nat)(u:Int),u=(t:Int)->qf (wr.setCell ⟨g,j+k,none⟩ (.int .u32 u)) g 123 (qp (us.take j++((zs++[t])++us.drop (j+(k+1))))).toArray):=Gh (fun t u hu=>by
   rw[hu,<-qfG Ur (by omega),<-jw];exact U8.set_ (j+k) _)
  have HW:=Gh (fun u=>Vf.trans (Wr.set_ wr (j+k) u));by_cases Xi:k<n
  ·obtain⟨b2,o2,rfl,q2,c2⟩:=jA (ds:=v) (by rw[Fv.out];exact HV wr Vf) (k:=k) (by rw[Fv.out];exact Xi);have hy:=QJ ET k;have BX:=Gh (qE (ds:=v) (k:=k) (by rw[Fv.out];exact Xi));generalize v.getD k 0=y at*;generalize us.getD (j+k) 0=x at*;have SA:=Gh (fun W=>yD x y cr AE hy UM W);have Rg:(x+y+cr)%4294967296<4294967296:=Nat.mod_lt _ (by decide);have RL:(x+y+cr)/4294967296<=1:=by omega
   have hN:=Xs.step (x:=x) (y:=y) Rg RL (Nat.mod_add_div _ _);rw[<-C4,<-BX.out]at hN;generalize (x+y+cr)%4294967296=t at*;generalize (x+y+cr)/4294967296=c' at*;have HN:=Gh hN;clear hN Xs U8;have i2:(k:Int)<(n:Int):=by omega
   have i3:(k:Int)<(n:Int)+1:=by omega
   have i0:(0:Int)<=(k:Int):=by omega
   go_wp2_with fail
   refine(SA _).mono ?_;rintro e w1 ⟨rfl,rfl⟩;go_wp2_with fail
   go_roundg (n-(k+1))
   case rel=>exact⟨k+1,c',zs++[t],by omega,rfl,by go_num,rfl,HN,HS t _ rfl,HW _⟩
   case measure=>have:=HG.out;omega
  ·obtain rfl:k=n:=by omega
   have U6:(jK us k j).take (k+1)=jK us k j:=List.take_of_length_le (by rw[HP.out];exact Gr _);rw[U6]at C4;have hN:=Xs.last (x:=us.getD (j+k) 0) rfl AE;rw[<-C4,show v.take k=v from List.take_of_length_le (by rw[Fv.out];exact Gr _)]at hN;obtain⟨n1,n2,b',n3,n4⟩:=hN;have HN:=Gh (And.intro n1 (And.intro n2 (And.intro n3 n4)));clear n1 n2 n3 n4 Xs U8 U6;generalize us.getD (j+k) 0=x at*;have i3:(k:Int)<(k:Int)+1:=by omega
   have i0:(0:Int)<=(k:Int):=by omega
   go_wp2_with fail
   first|(refine bodyPost_end (v:= .tuple #[]) (results_none rfl _ _ _) rfl ?_)|(refine bodyPost_ret (v:= .tuple #[]) (results_none rfl _ _ _) rfl ?_)
   exact⟨zs++[(x+cr)%4294967296],b',HN.out.2.2.1,⟨_,rfl⟩,HN.out.1,HN.out.2.1,HN.out.2.2.2,HS _ _ (by omega),HW _⟩
theorem qkz{t low s:Nat}(ht:t<2^s)(hd:2^s∣low)(h1:t<4294967296)(h2:low<4294967296):bits .or .u32 (t:Int) (low:Int)=((t+low:Nat):Int):=by
 obtain⟨y,rfl⟩:=hd;rw[u32_or_nat _ _ h1 h2,Nat.or_comm,<-Nat.two_pow_add_eq_or_of_lt ht,Nat.add_comm]
theorem qj8{ys:List Nat}{t k r a b:Nat}(h:ys.length=k):((ys++t::List.replicate (r+1) 0).set k a).set (k+1) b=(ys++[a])++b::List.replicate r 0:=by
 rw[List.set_append_right _ _ (by omega),h,Nat.sub_self,List.set_cons_zero,List.set_append_right _ _ (by omega),h,show k+1-k=1 by omega,List.replicate_succ];simp
set_option maxHeartbeats 2000000
theorem qeS(A:Oa)(c B s:Nat)(ds:List Nat)(w:World)(hB:B<=w.heap.size)(hc:ds.length<=c)(hl:ds.length<=900000)(hs:s<=31)(hr:qu w B 1 A ds.length (qp ds))(hd:jg ds):
 Calls Tryz.prog 168 #[.slice A ds.length c,.int .i64 (s:Int)] w (yg (val ds*2^s) w):=by
 have h1:=ji A c B ds w hc (by omega) hr hd;have r1:=jF hr hd;have l1:=qw hd;have g1:=qA (val ds);have v1:=qB (val ds);generalize val ds=x at*;by_cases Th:x=0
 ·subst Th;rw[qH]at h1;have H1:=Gh h1;clear h1 g1 v1 hr hd r1 l1;rw[Nat.zero_mul];go_enter Tryz.func168,Tryz.ntmps168
  go_wp2_with fail
  refine(H1).mono ?_;rintro e w1 ⟨rfl,rfl⟩;go_wp2_with fail
  go_ret
  exact⟨none,0,by rw[qH];rfl,by rw[qH];exact Gr _,.inl qH,Below.refl _ _⟩
 ·have Fo:0<(dig x).length:=jL.2 (by omega);generalize dig x=a at*;have H1:=Gh h1;have G1:=Gh g1;have V1:=Gh v1;clear h1 g1 v1 hr hd;have k1:(s:Int)<=31:=by omega
  have k0:(0:Int)<=(s:Int):=by omega
  have k2:((a.length:Int)==0)=false:=by simp only[beq_eq_false_iff_ne,ne_eq];omega
  have k5:min (s:Int) 16777216=(s:Int):=by omega
  have k6:(0:Int)+(a.length:Int)=(a.length:Int):=by omega
  have k3:(s:Int)/32=0:=by omega
  have k4:(s:Int)%32=s:=by omega
  have Uz:=fun(W:World)=>Tryz.make_u32 (a.length+1) (by omega) W;rw[show((a.length+1:Nat):Int)=(a.length:Int)+1 by omega]at Uz;go_enter Tryz.func168,Tryz.ntmps168
  go_wp2_with fail
  refine(H1).mono ?_;rintro e w1 ⟨rfl,rfl⟩;go_wp2_with fail
  clear Uz;have Xq:Below w.heap.size w (w.alloc (.cells (qp (List.replicate (a.length+1) 0)).toArray 123)):=(Below.refl _ w).alloc (Gr _) _;have VM:=qf.new w 123 (qp (List.replicate (a.length+1) 0)).toArray;have Va:2^s*2^(32-s)=4294967296:=by rw[<-Nat.pow_add,show s+(32-s)=32 by omega]
  have CV:0<2^s:=Nat.pow_pos (by decide);have Ph:Zh [] 0 0 (val (a.take 0)) (2^s):=by simpa[val]using Zh.nil CV
  have Ee:=Gh Va;clear Va CV;rw[show List.replicate (a.length+1) 0=[]++0::List.replicate (a.length-0) 0 from rfl]at VM;go_loopg [9,10,11,36] a.length (fun gn _ _ _ kv wr=>∃(k t:Nat)(ys:List Nat),k<=a.length/\gn=a.length-k/\kv= .int .i64 k/\Zh ys t k (val (a.take k)) (2^s)/\qf wr w.heap.size 123 (qp (ys++t::List.replicate (a.length-k) 0)).toArray/\Below w.heap.size w wr)
  case atStart=>exact⟨0,0,[],Nat.zero_le _,rfl,rfl,Ph,VM,Xq⟩
  case round=>
   clear Ph VM Xq;obtain⟨k,t,ys,hk,XG,rfl,Xs,XD,XX⟩:=hrel;have HG:=Gh XG;clear XG;have XH:=Gh Xs;have Ln:=Xs.len;clear Xs;by_cases Xi:k<a.length
   ·obtain⟨b1,o1,rfl,q1,c1⟩:=jA (r1.below (XX.mono hB)) (k:=k) Xi;have TP:=jV G1 k;have c3:wr.cell? ⟨w.heap.size,k,none⟩=some (.int .u32 (t:Int)):=by
     rw[XD.cell k];simp[qp,Ln]
    have f3:=XD.frozen k;have z3:=XD.lt;have c4:wr.cell? ⟨w.heap.size,k+1,none⟩=some (.int .u32 0):=by
     rw[XD.cell (k+1)];obtain⟨r,hr⟩:∃r,a.length-k=r+1:=⟨a.length-k-1,by omega⟩;rw[hr];simp[qp,Ln,List.replicate_succ]
    have f4:=XD.frozen (k+1);have Vt:=Gh (qE (ds:=a) (k:=k) Xi);generalize a.getD k 0=xa at*;have hp31:2^s<=2147483648:=Gl (Nat.pow_le_pow_right (by decide) hs) (by decide);have hxp:xa*2^s<=4294967295*2147483648:=Nat.mul_le_mul (by omega) hp31;have Vf:IntKind.u64.wrap ((xa:Int)*2^s)=((xa*2^s:Nat):Int):=by
     rw[show(xa:Int)*2^s=((xa*2^s:Nat):Int)by simp];exact JG (by omega)
    have i1:(k:Int)<(a.length:Int):=by omega
    have i0:(0:Int)<=(k:Int):=by omega
    have i2:(k:Int)<(a.length:Int)+1:=by omega
    have CV:=Nat.lt_of_le_of_lt (Nat.zero_le _) XH.out.lt;have CS:=qfd (x:=xa) Ee XH.out.lt;have AL:xa*2^s%4294967296<4294967296:=Nat.mod_lt _ (by decide);have Mm:=qkz XH.out.lt CS.2 (by have:=XH.out.lt;omega) AL;have hN:=XH.out.step Ee TP;rw[<-Vt.out]at hN;have HN:=Gh hN;obtain⟨r,hr⟩:∃r,a.length-k=r+1:=⟨a.length-k-1,by omega⟩;rw[hr]at XD;have SQ:=(XD.set_ k (.int .u32 ((t+xa*2^s%4294967296:Nat):Int))).set_ (k+1) (.int .u32 ((xa*2^s/4294967296:Nat):Int));rw[jw,jw,qj8 Ln]at SQ;have UQ:=Gh SQ;have Uq:=Gh ((XX.setCell (p:=⟨w.heap.size,k,none⟩) (Gr _) (.int .u32 ((t+xa*2^s%4294967296:Nat):Int))).setCell (p:=⟨w.heap.size,k+1,none⟩) (Gr _) (.int .u32 ((xa*2^s/4294967296:Nat):Int)));clear hN SQ XD XX;have e1:((xa*2^s%4294967296:Nat):Int)=(xa:Int)*2^s%4294967296:=by simp
    have e2:((xa*2^s/4294967296:Nat):Int)=(xa:Int)*2^s/4294967296%4294967296:=by
     rw[<-Nat.mod_eq_of_lt (show xa*2^s/4294967296<4294967296 by omega)];simp
    rw[e1]at Mm;rw[e2]at UQ Uq;have HOR:=Gh Mm;rw[<-HOR.out]at UQ Uq;clear Mm e1 e2;go_wp2_with fail
    go_roundg (a.length-(k+1))
    case rel=>exact⟨k+1,xa*2^s/4294967296,ys++[t+xa*2^s%4294967296],by omega,rfl,by go_num,HN,by rw[show a.length-(k+1)=r by omega];exact UQ,Uq⟩
    case measure=>have:=HG.out;omega
   ·obtain rfl:k=a.length:=by omega
    have VN:=XH.out.sum;rw[List.take_length,V1.out]at VN;rw[Nat.sub_self,List.replicate_zero]at XD;have EP:jg (ys++[t]):=fun z hz=>by
     rcases List.mem_append.1 hz with hz|hz
     ·exact XH.out.dg z hz
     ·rw[List.mem_singleton]at hz;rw[hz];have h1:=XH.out.lt;have h2:2^s<=2147483648:=Gl (Nat.pow_le_pow_right (by decide) hs) (by decide);omega
    have SF:val (ys++[t])=x*2^s:=by
     rw[ja,Ln,<-VN];simp[val]
    have R7:(ys++[t]).length=a.length+1:=by simp[Ln]
    generalize ys++[t]=zs at*;have Xv:=XD.reads zs.length (Gr _);rw[List.take_length]at Xv;have UG:=ji (some ⟨w.heap.size,0,none⟩) (a.length+1) _ zs _ (by omega) (by omega) Xv EP;have UY:=(qL.of_blk XD).dig EP;have TD:=qw EP;rw[SF,R7]at UG;rw[SF]at UY TD;generalize hV:x*2^s=V at*;have VV:=Gh UG;have Sv:=Gh UY;have Fz:=Gh (show(dig V).length<=a.length+1 by omega);have HB:=Gh XX;clear UG UY TD Xv XD XX hV VN EP SF R7;go_wp2_with fail
    refine(VV).mono ?_;rintro e w5 ⟨rfl,rfl⟩;go_wp2_with fail
    go_ret
    exact⟨_,_,rfl,Fz,Sv,HB⟩
theorem qfH(p:Nat):∀{l:List Nat} {k:Nat},k<l.length->(Q9 p l).getD k 0=(l.getD k 0+4294967296*l.getD (k+1) 0)/p%4294967296
 |[],k,h=>by simp at h
 |x::r,0,_=>by
  rw[Q9]
  cases r<;>simp
 |x::r,k+1,h=>by
  have:=qfH p (l:=r) (k:=k) (by simpa using h);rw[Q9];simpa using this
theorem qjs{L:List Nat}{k n:Nat}(h:L.length=n)(hk:k<n):(L.take k++List.replicate (n-k) 0).set k (L.getD k 0)=L.take (k+1)++List.replicate (n-(k+1)) 0:=by
 have hl:(L.take k).length=k:=by rw[List.length_take];omega
 rw[List.set_append_right _ _ (by omega),hl,Nat.sub_self,show n-k=(n-(k+1))+1 by omega,List.replicate_succ,List.set_cons_zero,List.take_succ_eq_append_getElem (by omega),List.append_assoc,List.getD_eq_getElem?_getD,Gn (by omega)];rfl
theorem qli{x y:Nat}(hx:x<4294967296)(hy:y<4294967296):bits .or .u64 (x:Int) ((y:Int)*4294967296)=((x+4294967296*y:Nat):Int):=by
 have h:=u64_or_nat x (y*4294967296) (by omega) (by omega);have h2:=Nat.two_pow_add_eq_or_of_lt (i:=32) (show x<2^32 by omega) y;rw[show(2:Nat)^32=4294967296 by decide]at h2;rw[show(y:Int)*4294967296=((y*4294967296:Nat):Int)by omega,h,Nat.or_comm,Nat.mul_comm y,<-h2,Nat.add_comm]
theorem qjh(A:Oa)(c B s:Nat)(ds:List Nat)(w:World)(hB:B<=w.heap.size)(hc:ds.length<=c)(hl:ds.length<=900000)(hs:s<=31)(hr:qu w B 1 A ds.length (qp ds))(hd:jg ds):
 Calls Tryz.prog 172 #[.slice A ds.length c,.int .i64 (s:Int)] w (yg (val ds/2^s) w):=by
 have h1:=ji A c B ds w hc (by omega) hr hd;have r1:=jF hr hd;have l1:=qw hd;have g1:=qA (val ds);have v1:=qB (val ds);generalize val ds=x at*;by_cases Th:x=0
 ·subst Th;rw[qH]at h1;have H1:=Gh h1;have k0:(0:Int)<=(s:Int):=by omega
  have k3:(s:Int)/32=0:=by omega
  have k4:(s:Int)%32=s:=by omega
  have k5:max (s:Int) 0=(s:Int):=by omega
  clear h1 g1 v1 hr hd r1 l1;rw[Nat.zero_div];go_enter Tryz.func172,Tryz.ntmps172
  go_wp2_with fail
  refine(H1).mono ?_;rintro e w1 ⟨rfl,rfl⟩;go_wp2_with fail
  go_ret
  exact⟨none,0,by rw[qH];rfl,by rw[qH];exact Gr _,.inl qH,Below.refl _ _⟩
 ·have Fo:0<(dig x).length:=jL.2 (by omega);generalize dig x=a at*;have Va:2^s*2^(32-s)=4294967296:=by rw[<-Nat.pow_add,show s+(32-s)=32 by omega]
  have O0:=Gh (show val (Q9 (2^s) a)=x/2^s by rw[qcK Va g1,v1]);have HSD:=Gh (qcH (2^s) a);have EE:=qdi (2^s) a;have Dg:=Gh (fun k (hk:k<a.length)=>qfH (2^s) (l:=a) hk);generalize hL:Q9 (2^s) a=L at*;clear hL Va;have EX:=Gh EE;clear EE;have H1:=Gh h1;have G1:=Gh g1;have V1:=Gh v1;clear h1 g1 v1 hr hd;have k1:(s:Int)<=31:=by omega
  have k0:(0:Int)<=(s:Int):=by omega
  have k3:(s:Int)/32=0:=by omega
  have k4:(s:Int)%32=s:=by omega
  have k5:max (s:Int) 0=(s:Int):=by omega
  have k6:(0:Int)<(a.length:Int):=by omega
  have k7:¬a=[]:=fun e=>by rw[e]at Fo;simp at Fo
  have Uz:=fun(W:World)=>Tryz.make_u32 a.length (by omega) W;go_enter Tryz.func172,Tryz.ntmps172
  go_wp2_with fail
  refine(H1).mono ?_;rintro e w1 ⟨rfl,rfl⟩;go_wp2_with fail
  clear Uz;have Xq:Below w.heap.size w (w.alloc (.cells (qp (List.replicate a.length 0)).toArray 123)):=(Below.refl _ w).alloc (Gr _) _;have VM:=qf.new w 123 (qp (List.replicate a.length 0)).toArray;clear k3 k4 k5;go_loopg [9,10,11,33] a.length (fun gn _ _ _ kv wr=>∃k:Nat,k<=a.length/\gn=a.length-k/\kv= .int .i64 k/\qf wr w.heap.size 123 (qp (L.take k++List.replicate (a.length-k) 0)).toArray/\Below w.heap.size w wr)
  case atStart=>exact⟨0,Nat.zero_le _,rfl,rfl,VM,Xq⟩
  case round=>
   clear VM Xq;obtain⟨k,hk,XG,rfl,XD,XX⟩:=hrel;have HG:=Gh XG;clear XG;by_cases Xi:k<a.length
   ·obtain⟨b1,o1,rfl,q1,c1⟩:=jA (r1.below (XX.mono hB)) (k:=k) Xi;have TP:=jV G1 k;have Ra:=Gh (Dg k Xi);have c3:∃u,wr.cell? ⟨w.heap.size,k,none⟩=some (.int .u32 u):=by
     rw[XD.cell k];have XC:(L.take k++List.replicate (a.length-k) 0).length=a.length:=by
      rw[List.length_append,List.length_take,List.length_replicate,EX.out];omega
     exact⟨_,jC _ _ (by rw[XC];exact Xi)⟩
    obtain⟨u3,c3⟩:=c3;have f3:=XD.frozen k;have z3:=XD.lt;have i1:(k:Int)<(a.length:Int):=by omega
    have i0:(0:Int)<=(k:Int):=by omega
    have UQ:=Gh (show qf (wr.setCell ⟨w.heap.size,k,none⟩ (.int .u32 ((L.getD k 0:Nat):Int))) w.heap.size 123 (qp (L.take (k+1)++List.replicate (a.length-(k+1)) 0)).toArray by
     rw[<-qjs EX Xi,<-jw];exact XD.set_ k _)
    have Uq:=Gh (fun u=>XX.setCell (p:=⟨w.heap.size,k,none⟩) (Gr _) u);by_cases Dz:k+1<a.length
    ·have c2:wr.cell? ⟨b1,o1+(k+1),none⟩=some (.int .u32 ((a.getD (k+1) 0:Nat):Int)):=by
      obtain⟨b2,o2,e,_,c2⟩:=jA (r1.below (XX.mono hB)) (k:=k+1) Dz
      injection e with e
      injection e with e1 e2
      subst e1;subst e2;exact c2
     have hya:=jV G1 (k+1);generalize a.getD (k+1) 0=ya at*;generalize a.getD k 0=xa at*;have i3:(k:Int)+1<(a.length:Int):=by omega
     have hE:bits .or .u64 (xa:Int) ((ya:Int)*4294967296)/2^s%4294967296=((L.getD k 0:Nat):Int):=by
      rw[qli TP hya,Ra.out];simp
     rw[<-hE]at UQ;clear hE XD XX;go_wp2_with fail
     go_roundg (a.length-(k+1))
     case rel=>exact⟨k+1,by omega,rfl,by go_num,UQ,Uq _⟩
     case measure=>have:=HG.out;omega
    ·have Lo:a.getD (k+1) 0=0:=by
      rw[List.getD_eq_getElem?_getD,List.getElem?_eq_none (by omega)];rfl
     rw[Lo,Nat.mul_zero,Nat.add_zero]at Ra;generalize a.getD k 0=xa at*;have i3:¬(k:Int)+1<(a.length:Int):=by omega
     have hE:(xa:Int)/2^s%4294967296=((L.getD k 0:Nat):Int):=by
      rw[Ra.out];simp
     rw[<-hE]at UQ;clear hE XD XX Lo;go_wp2_with fail
     go_roundg (a.length-(k+1))
     case rel=>exact⟨k+1,by omega,rfl,by go_num,UQ,Uq _⟩
     case measure=>have:=HG.out;omega
   ·obtain rfl:k=a.length:=by omega
    rw[Nat.sub_self,List.replicate_zero,List.append_nil,List.take_of_length_le (by rw[EX.out];exact Gr _)]at XD;have EP:=HSD.out;have SF:=O0.out;have R7:=EX.out;have Xv:=XD.reads L.length (Gr _);rw[List.take_length]at Xv;have UG:=ji (some ⟨w.heap.size,0,none⟩) a.length _ L _ (by omega) (by omega) Xv EP;have UY:=(qL.of_blk XD).dig EP;have TD:=qw EP;rw[SF,R7]at UG;rw[SF]at UY TD;generalize hV:x/2^s=V at*;have VV:=Gh UG;have Sv:=Gh UY;have Fz:=Gh (show(dig V).length<=a.length by omega);have HB:=Gh XX;clear UG UY TD Xv XD XX hV EP SF R7 Dg;go_wp2_with fail
    refine(VV).mono ?_;rintro e w5 ⟨rfl,rfl⟩;go_wp2_with fail
    go_ret
    exact⟨_,_,rfl,Fz,Sv,HB⟩
theorem Est.eq{u w d:Nat}(h:Est u w d)(hw:0<w):d=min 4294967295 (u/w):=by
 have h1:d<=u/w:=(Nat.le_div_iff_mul_le hw).2 h.le;rcases h.ge with e|e
 ·omega
 ·have h2:u/w<d+1:=(Nat.div_lt_iff_lt_mul hw).2 e;have:=h.lt;omega
def qax(u2 u1 u0 v1 v2:Nat):Nat:=min 4294967295 (((u2*4294967296+u1)*4294967296+u0)/(v1*4294967296+v2))
theorem qh9(u2 u1 u0 v1 v2:Nat):qax u2 u1 u0 v1 v2<4294967296:=by unfold qax;omega
theorem qgD{u w:Nat}(hw:0<w):Est u w (min 4294967295 (u/w)) where
 lt:=by omega
 le:=(Nat.le_div_iff_mul_le hw).1 (Nat.min_le_right _ _)
 ge:=by
  by_cases h:u/w<=4294967295
  ·rw[Nat.min_eq_right h];exact .inr ((Nat.div_lt_iff_lt_mul hw).1 (Nat.lt_succ_self _))
  ·exact .inl (by omega)
theorem qce(u2 u1 u0 v1 v2:Nat)(w:World)(h1:u1<4294967296)(h0:u0<4294967296)(g1:v1<4294967296)(g2:v2<4294967296)(Vo:u2<=v1)(hv:0<v1):
 Calls Tryz.prog 169 #[.int .u32 (u2:Int),.int .u32 (u1:Int),.int .u32 (u0:Int),.int .u32 (v1:Int),.int .u32 (v2:Int)] w fun e w'=>e= .returned (.int .u32 ((qax u2 u1 u0 v1 v2:Nat):Int))/\qt w w':=by
 refine(qbN u2 u1 u0 v1 v2 w h1 h0 g1 g2 Vo hv).mono ?_;rintro e w' ⟨d,rfl,he,hd⟩;have:=he.eq (by omega);unfold qax;rw[<-this];exact⟨rfl,hd⟩
theorem qlp(s:Nat)(h:s<=31):2^s<=2147483648:=by
 have:=Nat.pow_le_pow_right (n:=2) (by decide) h;simpa using this
theorem qlk{t:Nat}(h0:0<t)(h1:t<4294967296):∃s:Nat,s<=31/\32-(Lib.bitLen t:Int)=(s:Int)/\2147483648<=t*2^s/\(t+1)*2^s<=4294967296:=by
 obtain⟨b1,b2,b3⟩:=Lib.bitLenAux_bounds 64 t (by omega) (by omega);have b4:Lib.bitLen t<=32:=Lib.bitLen_le t 32 (by omega) (by omega);have e:Lib.bitLenAux 64 t=Lib.bitLen t:=rfl;rw[e]at b1 b2 b3;generalize Lib.bitLen t=b at*;refine⟨32-b,by omega,by omega,?_,?_⟩
 ·have:2^(b-1)*2^(32-b)<=t*2^(32-b):=Nat.mul_le_mul_right _ b2;rw[<-Nat.pow_add,show b-1+(32-b)=31 by omega]at this;exact this
 ·have:(t+1)*2^(32-b)<=2^b*2^(32-b):=Nat.mul_le_mul_right _ b3;rw[<-Nat.pow_add,show b+(32-b)=32 by omega]at this;exact this
theorem qjy{y n s:Nat}(hn:(dig y).length=n+1)(h1:2147483648<=(dig y).getD n 0*2^s)(h2:((dig y).getD n 0+1)*2^s<=4294967296):
 4294967296^n*2147483648<=y*2^s/\(dig (y*2^s)).length=n+1:=by
 have e:=qE (ds:=dig y) (k:=n) (by omega);rw[List.take_of_length_le (by omega),qB]at e;have l:=Je (qA y) (k:=n) (by omega);generalize (dig y).getD n 0=t at*;generalize val ((dig y).take n)=r at*;generalize hP:(2:Nat)^s=P at*;generalize hK:(4294967296:Nat)^n=K at*;have a1:K*2147483648<=y*P:=by
  rw[e,Nat.add_mul,Nat.mul_assoc];exact Gl (Nat.mul_le_mul_left K h1) (Nat.le_add_left _ _)
 have a2:y*P<K*4294967296:=by
  have:y<K*(t+1):=by rw[e,Nat.mul_add,Nat.mul_one];omega
  have hP0:0<P:=by rw[<-hP];exact Nat.pow_pos (by decide)
  exact Gm (Nat.mul_lt_mul_of_pos_right this hP0) (by rw[Nat.mul_assoc];exact Nat.mul_le_mul_left K h2)
 refine⟨a1,Nat.le_antisymm (qK (by rw[Nat.pow_succ,hK];exact a2)) ?_⟩;rcases Nat.lt_or_ge n (dig (y*P)).length with h|h
 ·exact h
 ·have l3:=jr (qA (y*P));rw[qB]at l3;have l4:=Nat.pow_le_pow_right (n:=4294967296) (by decide) h;rw[hK]at l4;have:0<K:=by rw[<-hK];exact Nat.pow_pos (by decide)
  omega
theorem qjj(x s:Nat)(hs:s<=31):(dig (x*2^s)).length<=(dig x).length+1/\x*2^s<4294967296^(dig x).length*2147483648:=by
 have l:=jr (qA x);rw[qB]at l;have h:=qlp s hs;have hp:0<2^s:=Nat.pow_pos (by decide);have a:x*2^s<4294967296^(dig x).length*2147483648:=Gm (Nat.mul_lt_mul_of_pos_right l hp) (Nat.mul_le_mul_left _ h);refine⟨qK ?_,a⟩;rw[Nat.pow_succ];exact Gm a (Nat.mul_le_mul_left _ (by decide))
theorem qfv{v m:Nat}:val (dig v++List.replicate m 0)=v:=by rw[ja,yj,Nat.mul_zero,Nat.add_zero,qB]
theorem qjq{v m:Nat}:jg (dig v++List.replicate m 0):=fun d hd=>by
 rcases List.mem_append.1 hd with h|h
 ·exact qA v d h
 ·rw[(List.mem_replicate.1 h).2];decide
theorem qd1{v m:Nat}:splice (qp (List.replicate m 0)) 0 (qp (dig v))=qp (dig v++List.replicate (m-(dig v).length) 0):=by
 simp[splice,qp]
theorem qf5(x y s:Nat):x*2^s/(y*2^s)=x/y:=Nat.mul_div_mul_right _ _ (Nat.pow_pos (by decide))
theorem qgy(x y s:Nat):x*2^s%(y*2^s)/2^s=x%y:=by
 rw[Nat.mul_mod_mul_right,Nat.mul_div_cancel _ (Nat.pow_pos (by decide))]
theorem qd8{y:Nat}(h:(dig y).length=1):(dig y).getD 0 0=y/\0<y/\y<4294967296:=by
 have h0:y≠0:=fun e=>by rw[e,qH]at h;simp at h
 have l:=jr (qA y);rw[qB,h]at l;refine⟨?_,by omega,by simpa using l⟩;rw[JH h0];simp;simpa using l
theorem qfL{y n:Nat}(h:(dig y).length=n+1):0<(dig y).getD n 0:=by
 have ht:=ZZ y;generalize dig y=l at*;have Xl:l≠[]:=fun e=>by rw[e]at h;simp at h
 have:=ht Xl;rw[List.getLast_eq_getElem]at this;rw[List.getD_eq_getElem?_getD,Gn (by omega)];simp only[h,Nat.add_sub_cancel]at this;simp only[Option.getD_some];omega
theorem qip(t s:Nat)(w:World)(h:t<4294967296)(hz:32-(Lib.bitLen t:Int)=(s:Int)):
 Calls Tryz.prog 167 #[.int .u32 (t:Int)] w fun e w'=>e= .returned (.int .i64 (s:Int))/\w'=w:=by
 have:=Tryz.bits_LeadingZeros32 (t:Int) w (by omega) (by omega);rwa[Int.toNat_natCast,hz]at this
theorem qkj{zv dv pv K b:Nat}(hz:zv<K)(hb:b<=1)(he:zv+dv=pv+K*b)(hl:dv<=pv):b=0/\zv+dv=pv:=by
 rcases(by omega:b=0∨b=1)with rfl|rfl
 ·exact⟨rfl,by omega⟩
 ·omega
theorem qjA{zv dv pv K b:Nat}(hb:b<=1)(he:zv+dv=pv+K*b)(hl:pv<dv):b=1:=by
 rcases(by omega:b=0∨b=1)with rfl|rfl
 ·omega
 ·rfl
theorem qi2{zv zw dv pv K V b:Nat}(hb:b<=1)(hw:zw<K)(he:zv+(dv+V)=pv+K)(hf:zw+K*b=zv+V)(hl:dv<=pv)(hv:pv-dv<V):zw+dv=pv/\zw<V:=by
 rcases(by omega:b=0∨b=1)with rfl|rfl
 ·omega
 ·omega
theorem qiw{us zs:List Nat}{i n:Nat}(hz:zs.length=n+1)(hl:i<=us.length):jK (us.take i++(zs++us.drop (i+(n+1)))) n i=zs:=by
 have hj:(us.take i).length=i:=by rw[List.length_take];omega
 unfold jK;rw[List.drop_append_of_le_length (by omega),show(us.take i).drop i=[]from List.drop_of_length_le (by omega),List.nil_append,<-hz,List.take_left]
theorem qjd{us zs zt:List Nat}{i n:Nat}(hz:zs.length=n+1)(hl:i<=us.length):
 (us.take i++(zs++us.drop (i+(n+1)))).take i++(zt++(us.take i++(zs++us.drop (i+(n+1)))).drop (i+(n+1)))=us.take i++(zt++us.drop (i+(n+1))):=by
 have hj:(us.take i).length=i:=by rw[List.length_take];omega
 have h1:(us.take i++(zs++us.drop (i+(n+1)))).take i=us.take i:=by
  rw[List.take_append_of_le_length (by omega),List.take_of_length_le (by omega)]
 have h2:(us.take i++(zs++us.drop (i+(n+1)))).drop (i+(n+1))=us.drop (i+(n+1)):=by
  rw[<-List.append_assoc,List.drop_append_of_le_length (by rw[List.length_append];omega),List.drop_of_length_le (by rw[List.length_append];omega),List.nil_append]
 rw[h1,h2]
