import Derived.Lib.ItoaNum
import Derived.Test.YtflikmojaidhhaaGreatShelf
import Derived.Test.YtflikmojaidhhaaGreatPq02
namespace Go.Proofs.YtflikmojaidhhaaGreat
open Go.RowKit
theorem qhS{h l y:Nat}(hl:l<4294967296)(hy:h<y):(h*4294967296+l)/y<4294967296:=by
 rw[Nat.div_lt_iff_lt_mul (by omega)];have:(h+1)*4294967296≤y*4294967296:=Nat.mul_le_mul_right _ hy;rw[Nat.mul_comm 4294967296 y];omega
theorem JJ{n:Nat}(h:n<18446744073709551616):IntKind.u64.wrap (n:Int)=(n:Int):=by
 simp only[IntKind.wrap,IntKind.bits,IntKind.signed];simp;omega
theorem qfk(h l:Nat)(hh:h<4294967296)(hl:l<4294967296):bits .or .u64 ((h:Int)*4294967296) (l:Int)=((h*4294967296+l:Nat):Int):=by
 have:=bits_join .u64 64 (by decide) (fun n h0 h1=>by obtain⟨m,rfl⟩:=Int.eq_ofNat_of_zero_le h0;exact JJ (by omega)) 32 ((h:Int)*4294967296) (l:Int) (by omega) (by omega) (by omega) (by omega) (by omega) (by omega);rw[this];omega
set_option maxHeartbeats 400000
theorem qbk(h l y:Nat)(hh:h<y)(hl:l<4294967296)(hy:y<4294967296)(w:World):
 Calls Tryz.prog 182 #[.int .u32 (h:Int),.int .u32 (l:Int),.int .u32 (y:Int)] w fun e w'=>e= .returned (.tuple #[.int .u32 (((h*4294967296+l)/y:Nat):Int),.int .u32 (((h*4294967296+l)%y:Nat):Int)])∧qm w w':=by
 have g1:¬((y:Int)=0):=by omega
 have g2:¬((y:Int)≤(h:Int)):=by omega
 have hor:=qfk h l (by omega) hl;have hq:=qhS hl hh;have hz:h*4294967296+l<18446744073709551616:=by omega
 have hr:(h*4294967296+l)%y<y:=Nat.mod_lt _ (by omega);generalize h*4294967296+l=z at*;have e0:(z:Int)/(y:Int)=((z/y:Nat):Int):=(Int.natCast_ediv _ _).symm;have e1:(z:Int)%(y:Int)=((z%y:Nat):Int):=(Int.natCast_emod _ _).symm;generalize z/y=q at*;generalize z%y=r at*;go_enter Tryz.func182,Tryz.ntmps182
 go_wp2
 go_region
 go_wp2
 go_ret2
 exact⟨rfl,qm.drew _⟩
structure qaG (zs a:List Nat) (d r k:Nat):Prop where
 len:zs.length=a.length
 dg:qP zs
 zero:∀j,j<k→zs.getD j 0=0
 sum:val zs*d+4294967296^k*r=4294967296^k*val (a.drop k)
 rest:r<d
theorem qld(a:List Nat){d:Nat}(hd:0<d):qaG (List.replicate a.length 0) a d 0 a.length:=
 ⟨by simp,fun x hx=>by have:=List.eq_of_mem_replicate hx;omega,fun j h=>by simp[h],by simp[yd,val],hd⟩
theorem qie{a:List Nat}{k:Nat}(hk:k<a.length):val (a.drop k)=a.getD k 0+4294967296*val (a.drop (k+1)):=by
 rw[List.drop_eq_getElem_cons hk,val];simp[List.getElem?_eq_getElem hk]
theorem qaG.step{zs a:List Nat}{d r k q s:Nat}(h:qaG zs a d r (k+1))(hk:k<a.length)(hq:q<4294967296)(hs:s<d)(he:q*d+s=r*4294967296+a.getD k 0):qaG (zs.set k q) a d s k:=by
 refine⟨by simp[h.len],fun x hx=>?_,fun j hj=>?_,?_,hs⟩
 ·rcases List.mem_or_eq_of_mem_set hx with hx|rfl
  ·exact h.dg x hx
  ·exact hq
 ·have:=h.zero j (by omega);rw[List.getD_eq_getElem?_getD,List.getElem?_set_ne (by omega),←List.getD_eq_getElem?_getD];exact this
 ·have hv:=Jb (ds:=zs) (k:=k) (by rw[h.len];exact hk) q;rw[h.zero k (by omega),Nat.mul_zero,Nat.add_zero]at hv;have h0:=h.sum;rw[hv,qie hk,Nat.add_mul,Nat.mul_add];rw[Nat.pow_succ]at h0;generalize 4294967296^k=p at*;have e1:p*(q*d+s)=p*(r*4294967296+a.getD k 0):=by rw[he]
  have e2:p*(q*d)=p*q*d:=(Nat.mul_assoc _ _ _).symm;have e3:p*(r*4294967296)=p*4294967296*r:=by rw[Nat.mul_comm r,Nat.mul_assoc]
  have e4:p*(4294967296*val (a.drop (k+1)))=p*4294967296*val (a.drop (k+1)):=(Nat.mul_assoc _ _ _).symm;rw[Nat.mul_add,Nat.mul_add,e2,e3]at e1;rw[e4];omega
theorem qaG.last{zs a:List Nat}{d r:Nat}(h:qaG zs a d r 0):val zs=val a/d∧r=val a%d:=by
 have h0:=h.sum;simp at h0;have h1:=h.rest;have e:val a=r+d*val zs:=by rw[←h0,Nat.mul_comm d];omega
 refine⟨?_,?_⟩
 ·rw[e,Nat.add_mul_div_left _ _ (by omega),Nat.div_eq_of_lt h1];omega
 ·rw[e,Nat.add_mul_mod_self_left,Nat.mod_eq_of_lt h1]
def qig(v d:Nat)(w:World)(e:Ending)(w':World):Prop:=
 ∃A c,e= .returned (.tuple #[.slice A (dig (v/d)).length c,.int .u32 ((v%d:Nat):Int),.bool true])∧(dig (v/d)).length≤c∧qk w' A (dig (v/d))∧Below w.heap.size w w'
set_option maxHeartbeats 2000000
set_option maxRecDepth 100000
theorem qbP(A:Option Addr)(c B:Nat)(ds:List Nat)(d:Nat)(w:World)(hB:B≤w.heap.size)(hc:ds.length≤c)(hm:ds.length≤900000)(hd0:0<d)(hd1:d<4294967296)
 (hr:qi w B 1 A ds.length (qf ds))(hd:qP ds):
 Calls Tryz.prog 168 #[.slice A ds.length c,.int .u32 (d:Int)] w (qig (val ds) d w):=by
 have h1:=qU A c B ds w hc (by omega) hr hd;have r1:=jo hr hd;have l1:=qo hd;have g1:=qu (val ds);have v1:=qp (val ds);generalize val ds=x at*;generalize dig x=a at*;have H1:=Lib.hid h1;have G1:=Lib.hid g1;have V1:=Lib.hid v1;clear h1 g1 v1 hr hd;have hmk:=fun(W:World)=>Tryz.make_u32 a.length (by omega) W;have hdz:¬((d:Int)=0):=by omega
 go_enter Tryz.func168,Tryz.ntmps168
 go_wp2_with fail
 refine(H1.out).mono ?_;rintro e w1 ⟨rfl,rfl⟩;go_wp2_with fail
 clear hmk;have hbl0:Below w.heap.size w (w.alloc (.cells (qf (List.replicate a.length 0)).toArray 134)):=(Below.refl _ w).alloc (Nat.le_refl _) _;have hzb0:=qd.new w 134 (qf (List.replicate a.length 0)).toArray;go_loopg [8,9] a.length (fun gn rr ix wr=>∃(k r:Nat)(zs:List Nat),k≤a.length∧gn=k∧ix= .int .i64 ((k:Int)-1)∧rr= .int .u32 (r:Int)∧qaG zs a d r k∧qd wr w.heap.size 134 (qf zs).toArray∧Below w.heap.size w wr)
 case atStart=>exact⟨a.length,0,_,Nat.le_refl _,rfl,rfl,rfl,qld a hd0,hzb0,hbl0⟩
 case round=>
  clear hzb0 hbl0;obtain⟨k,r,zs,hk,hgk,rfl,rfl,hst,hzb,hbl⟩:=hrel;have HG:=Lib.hid hgk;clear hgk;rcases Nat.eq_zero_or_pos k with hk0|hk0
  ·subst hk0;have hl:=hst.last;have hzlen:=hst.len;have hdg:=hst.dg;rw[V1.out]at hl;obtain⟨hl1,hl2⟩:=hl;have hrd:=hzb.reads zs.length (Nat.le_refl _);rw[List.take_length]at hrd;have htr:=qU (some ⟨w.heap.size,0,none⟩) a.length _ zs _ (by omega) (by omega) hrd hdg;have hrd2:=(qk.of_blk hzb).dig hdg;have hll:=qo hdg;rw[hzlen]at htr hll;rw[hl1]at htr hrd2 hll;generalize hws:dig (x/d)=ws at*;have HW:=Lib.hid hws;have HL2:=Lib.hid hl2;have HTR:=Lib.hid htr;have HRD:=Lib.hid hrd2;have HLL:=Lib.hid hll;clear htr hrd2 hll hrd hst hdg hl1 hl2 hzlen hzb hws;go_wp2_with fail
   refine(HTR.out).mono ?_;rintro e w5 ⟨rfl,rfl⟩;go_wp2_with fail
   refine bodyPost_ret (results_tmp3 rfl _ _ _) rfl ?_;exact⟨_,_,by rw[HW.out,←HL2.out];rfl,by rw[HW.out];exact HLL.out,by rw[HW.out];exact HRD.out,hbl⟩
  ·obtain⟨j,rfl⟩:∃j,k=j+1:=⟨k-1,by omega⟩;obtain⟨b1,o1,rfl,q1,c1⟩:=jj (r1.below (hbl.mono hB)) (k:=j) (by omega);have hxa:=jR G1.out j;have hrl:=hst.rest;have hq:=qhS (h:=r) hxa hrl;have hs:(r*4294967296+a.getD j 0)%d<d:=Nat.mod_lt _ hd0;have he:(r*4294967296+a.getD j 0)/d*d+(r*4294967296+a.getD j 0)%d=r*4294967296+a.getD j 0:=by rw[Nat.mul_comm];exact Nat.div_add_mod _ _
   have hN:=hst.step (k:=j) (by omega) hq hs he;have hzl:j<zs.length:=by rw[hst.len];omega
   have HC:=Lib.hid (fun(W:World)=>qbk r (a.getD j 0) d hrl hxa hd1 W);have c3:wr.cell? ⟨w.heap.size,j,none⟩=some (.int .u32 ((zs.getD j 0:Nat):Int)):=(hzb.cell j).trans (jn _ _ hzl);have HN:=Lib.hid hN;have HST:=Lib.hid hst;clear hN hst hq hs he;generalize (r*4294967296+a.getD j 0)/d=q at*;generalize (r*4294967296+a.getD j 0)%d=s at*;generalize a.getD j 0=xa at*;generalize zs.getD j 0=zj at*;have z1:=hzb.lt;have i1:(j:Int)<(a.length:Int):=by omega
   have i0:(0:Int)≤(j:Int):=by omega
   have ek:((j+1:Nat):Int)-1=(j:Int):=by omega
   rw[ek];have HEK:=Lib.hid ek;clear ek hk0;go_wp2_with fail
   refine(HC.out _).mono ?_;rintro e w1 ⟨rfl,hdr⟩;have hzb1:=hzb.drawn hdr;have c4:w1.cell? ⟨w.heap.size,j,none⟩=some (.int .u32 (zj:Int)):=(hdr.cell _).trans c3;have f4:=hzb1.frozen j;have hbl1:=hbl.trans (hdr.below _);have z2:=hzb1.lt;clear c1 c3 hdr hzb;go_wp2_with fail
   go_roundg j
   case rel=>
    refine⟨j,s,zs.set j q,by omega,rfl,rfl,rfl,HN.out,?_,hbl1.setCell (Nat.le_refl _) _⟩;rw[←je];exact hzb1.set_ j _
   case measure=>have:=HG.out;omega
end Go.Proofs.YtflikmojaidhhaaGreat
namespace Go.Proofs.YtflikmojaidhhaaGreat
structure Est (u w d:Nat):Prop where
 lt:d<4294967296
 le:d*w≤u
 ge:d=4294967295∨u<(d+1)*w
structure Ja (u2 u1 u0 v1 v2 d r:Nat):Prop where
 lt:d<4294967296
 eq:d*v1+r=u2*4294967296+u1
 ge:d=4294967295∨(u2*4294967296+u1)*4294967296+u0<(d+1)*(v1*4294967296+v2)
theorem qlU{a u0 Y Z:Nat}(h:a<Y)(h0:u0<4294967296):a*4294967296+u0<Y*4294967296+Z:=by omega
theorem qlW{a u0 Y Z r:Nat}(hc:r*4294967296+u0<Z)(e:Y+r=a):a*4294967296+u0<Y*4294967296+Z:=by
 rw[←e,Nat.add_mul,Nat.add_assoc];exact Nat.add_lt_add_left hc _
theorem Ja.start{u2 u1 u0 v1 v2:Nat}(h2:u2<v1)(h0:u0<4294967296)(h1:u1<4294967296):Ja u2 u1 u0 v1 v2 ((u2*4294967296+u1)/v1) ((u2*4294967296+u1)%v1) where
 lt:=by
  rw[Nat.div_lt_iff_lt_mul (by omega)];have:(u2+1)*4294967296≤v1*4294967296:=Nat.mul_le_mul_right _ (by omega);omega
 eq:=by rw[Nat.mul_comm];exact Nat.div_add_mod _ _
 ge:=by
  refine .inr ?_;have h:=Nat.lt_div_mul_add (a:=u2*4294967296+u1) (b:=v1) (by omega);generalize (u2*4294967296+u1)/v1=d at*;have h4:(d+1)*(v1*4294967296+v2)=(d*v1+v1)*4294967296+(d+1)*v2:=by rw[Nat.mul_add (d+1),←Nat.mul_assoc,Nat.add_mul d 1 v1,Nat.one_mul]
  rw[h4];exact qlU h h0
theorem Ja.top{u1 u0 v1 v2:Nat}:Ja v1 u1 u0 v1 v2 4294967295 (u1+v1) where
 lt:=by decide
 eq:=by omega
 ge:= .inl rfl
theorem Ja.done{u2 u1 u0 v1 v2 d r:Nat}(h:Ja u2 u1 u0 v1 v2 d r)(hc:4294967296≤r∨d*v2≤r*4294967296+u0)(hv:v2<4294967296):Est ((u2*4294967296+u1)*4294967296+u0) (v1*4294967296+v2) d where
 lt:=h.lt
 le:=by
  have hle:d*v2≤r*4294967296+u0:=by
   rcases hc with hc|hc
   ·have h1:d*v2≤4294967295*4294967295:=Nat.mul_le_mul (by have:=h.lt;omega) (by omega);have h2:4294967296*4294967296≤r*4294967296:=Nat.mul_le_mul_right _ hc;omega
   ·exact hc
  have e:(d*v1+r)*4294967296=(u2*4294967296+u1)*4294967296:=by rw[h.eq]
  have e2:d*(v1*4294967296+v2)=d*v1*4294967296+d*v2:=by rw[Nat.mul_add d,←Nat.mul_assoc]
  omega
 ge:=h.ge
theorem Ja.step{u2 u1 u0 v1 v2 d r:Nat}(h:Ja u2 u1 u0 v1 v2 d r)(hc:r*4294967296+u0<d*v2):0<d∧Ja u2 u1 u0 v1 v2 (d-1) (r+v1):=by
 have hd:0<d:=by
  rcases Nat.eq_zero_or_pos d with h0|h0
  ·rw[h0,Nat.zero_mul]at hc;omega
  ·exact h0
 obtain⟨k,rfl⟩:∃k,d=k+1:=⟨d-1,by omega⟩;refine⟨hd,by have:=h.lt;omega,?_,.inr ?_⟩
 ·have e:=h.eq;rw[Nat.add_mul,Nat.one_mul]at e;rw[Nat.add_sub_cancel];omega
 ·rw[Nat.add_sub_cancel];have e2:(k+1)*(v1*4294967296+v2)=(k+1)*v1*4294967296+(k+1)*v2:=by rw[Nat.mul_add (k+1),←Nat.mul_assoc]
  rw[e2];exact qlW hc h.eq
theorem Est.near{U V u w d k ul vl:Nat}(h:Est u w d)(hU:U=u*k+ul)(hV:V=w*k+vl)(hul:ul<k)(hvl:vl<k)(hw:4294967296≤w)(hlt:U<V*4294967296):
 (d*V≤U∧U-d*V<V)∨(U<d*V∧0<d∧(d-1)*V≤U∧U-(d-1)*V<V):=by
 have h1:d*V<U+V:=by
  have a1:d*(w*k)≤u*k:=by rw[←Nat.mul_assoc];exact Nat.mul_le_mul_right _ h.le
  have a2:d*vl≤4294967295*vl:=Nat.mul_le_mul_right _ (by have:=h.lt;omega);have a3:4294967296*k≤w*k:=Nat.mul_le_mul_right _ hw;rw[hV,Nat.mul_add];omega
 by_cases hc:d*V≤U
 ·refine .inl ⟨hc,?_⟩;rcases h.ge with hd|hd
  ·have:V*4294967296=d*V+V:=by rw[hd];omega
   omega
  ·have a1:(u+1)*k≤(d+1)*w*k:=Nat.mul_le_mul_right _ hd;have a2:(d+1)*w*k≤(d+1)*V:=by rw[Nat.mul_assoc];exact Nat.mul_le_mul_left _ (by omega)
   rw[Nat.add_mul,Nat.one_mul]at a1;have a3:(d+1)*V=d*V+V:=by rw[Nat.add_mul,Nat.one_mul]
   omega
 ·have hd:0<d:=by
   rcases Nat.eq_zero_or_pos d with h0|h0
   ·rw[h0,Nat.zero_mul]at hc;omega
   ·exact h0
  obtain⟨j,rfl⟩:∃j,d=j+1:=⟨d-1,by omega⟩;refine .inr ⟨by omega,hd,?_,?_⟩<;>rw[Nat.add_sub_cancel]<;>rw[Nat.add_mul,Nat.one_mul]at h1 hc<;>omega
structure qbR (zs:List Nat) (c b k pu vv d:Nat):Prop where
 len:zs.length=k
 dg:qP zs
 sum:val zs+d*vv=pu+4294967296^k*(b+c)
 car:c<4294967296
 bor:b≤1
theorem qbR.nil(d:Nat):qbR [] 0 0 0 0 0 d:=⟨rfl,by simp[qP],by simp[val],by omega,by omega⟩
theorem qbR.step{zs:List Nat}{c b k pu vv d x y lo hi t b':Nat}(h:qbR zs c b k pu vv d)(hhi:hi<4294967296)(hm:hi*4294967296+lo=y*d+c)(ht:t<4294967296)(hb:b'≤1)(he:t+(lo+b)=x+4294967296*b'):
 qbR (zs++[t]) hi b' (k+1) (pu+4294967296^k*x) (vv+4294967296^k*y) d:=by
 refine⟨by simp[h.len],fun z hz=>?_,?_,hhi,hb⟩
 ·rcases List.mem_append.1 hz with hz|hz
  ·exact h.dg z hz
  ·rw[List.mem_singleton]at hz;rw[hz];exact ht
 ·have h0:=h.sum;have hv:=qL zs [t];rw[h.len]at hv;simp only[val,Nat.mul_zero,Nat.add_zero]at hv;rw[hv,Nat.pow_succ];generalize 4294967296^k=p at*;have e1:p*(t+(lo+b))=p*(x+4294967296*b'):=by rw[he]
  have e2:p*(hi*4294967296+lo)=p*(y*d+c):=by rw[hm]
  have e3:d*(vv+p*y)=d*vv+p*(y*d):=by rw[Nat.mul_add,Nat.mul_left_comm,Nat.mul_comm d y]
  rw[e3];simp only[Nat.mul_add]at e1 e2 h0 ⊢;have e4:p*(hi*4294967296)=p*4294967296*hi:=by rw[Nat.mul_comm hi,Nat.mul_assoc]
  have e5:p*(4294967296*b')=p*4294967296*b':=by rw[Nat.mul_assoc]
  omega
theorem Zk{l:List Nat}(h:qP l)(k:Nat):qP (l.take k):=fun d hd=>h d (List.mem_of_mem_take hd)
theorem qdy{l:List Nat}(h:qP l)(k:Nat):qP (l.drop k):=fun d hd=>h d (List.mem_of_mem_drop hd)
theorem qcA(l:List Nat){k:Nat}(hk:k≤l.length):val l=val (l.take k)+4294967296^k*val (l.drop k):=by
 have:=qL (l.take k) (l.drop k);rwa[List.take_append_drop,List.length_take,Nat.min_eq_left hk]at this
theorem Jf{l:List Nat}(h:qP l){k:Nat}(hk:k≤l.length):val (l.take k)<4294967296^k:=by
 have:=qT (Zk h k);rwa[List.length_take,Nat.min_eq_left hk]at this
theorem qgi{l:List Nat}{k:Nat}(hk:k≤l.length)(h:val l<4294967296^k):val (l.drop k)=0∧val (l.take k)=val l:=by
 have e:=qcA l hk;rcases Nat.eq_zero_or_pos (val (l.drop k))with h0|h0
 ·rw[h0,Nat.mul_zero,Nat.add_zero]at e;exact⟨h0,e.symm⟩
 ·have:4294967296^k*1≤4294967296^k*val (l.drop k):=Nat.mul_le_mul_left _ h0;omega
theorem qaQ{l:List Nat}{m:Nat}(h:l.length=m+2):val l=(l.getD (m+1) 0*4294967296+l.getD m 0)*4294967296^m+val (l.take m):=by
 have e1:=qx (ds:=l) (k:=m) (by omega);have e2:=qx (ds:=l) (k:=m+1) (by omega);rw[show m+1+1=l.length by omega,List.take_length,e1,Nat.pow_succ]at e2;rw[e2,Nat.add_mul,Nat.mul_assoc (l.getD (m+1) 0),Nat.mul_comm (l.getD (m+1) 0),Nat.mul_comm (l.getD m 0),Nat.mul_comm 4294967296 (4294967296^m)];generalize 4294967296^m*4294967296*l.getD (m+1) 0=X;generalize 4294967296^m*l.getD m 0=Y;omega
theorem qc2{l:List Nat}{m:Nat}(h:l.length=m+3):val l=((l.getD (m+2) 0*4294967296+l.getD (m+1) 0)*4294967296+l.getD m 0)*4294967296^m+val (l.take m):=by
 have e1:=qx (ds:=l) (k:=m) (by omega);have h2:val l=(l.getD (m+2) 0*4294967296+l.getD (m+1) 0)*4294967296^(m+1)+val (l.take (m+1)):=qaQ (m:=m+1) h;rw[e1]at h2;rw[h2,Nat.add_mul _ (l.getD m 0),Nat.pow_succ,Nat.mul_assoc _ 4294967296 (4294967296^m),Nat.mul_comm 4294967296 (4294967296^m),Nat.mul_comm (l.getD m 0)];generalize (l.getD (m+2) 0*4294967296+l.getD (m+1) 0)*(4294967296^m*4294967296)=X;generalize 4294967296^m*l.getD m 0=Y;omega
structure Yh (u q:List Nat) (n j A V:Nat):Prop where
 du:qP u
 dq:qP q
 len:u.length=q.length+n
 le:j≤q.length
 rem:val (u.drop j)<V
 eq:val u+V*val q=A
 zero:∀i,i<j→q.getD i 0=0
def jz(u:List Nat)(n i:Nat):List Nat:=(u.drop i).take (n+1)
theorem Yh.part{u q v:List Nat}{n i A:Nat}(h:Yh u q n (i+1) A (val v))(hv:qP v)(hn:v.length=n)(h0:0<n):
 (jz u n i).length=n+1∧qP (jz u n i)∧val (jz u n i)=val (u.drop i)∧val (u.drop (i+n+1))=0∧val (jz u n i)<val v*4294967296:=by
 have hl:=h.len;have hj:=h.le;have hVn:val v<4294967296^n:=by rw[←hn];exact qT hv
 have hi:i<u.length:=by omega
 have e:val (u.drop i)=u.getD i 0+4294967296*val (u.drop (i+1)):=by
  rw[List.drop_eq_getElem_cons hi,val,List.getD_eq_getElem?_getD,List.getElem?_eq_getElem hi];rfl
 have hd:u.getD i 0<4294967296:=by
  rw[List.getD_eq_getElem?_getD,List.getElem?_eq_getElem hi];exact h.du _ (List.getElem_mem hi)
 have hlt:val (u.drop i)<val v*4294967296:=by
  have:=h.rem;omega
 have hlt2:val (u.drop i)<4294967296^(n+1):=by
  rw[Nat.pow_succ];exact Nat.lt_of_lt_of_le hlt (Nat.mul_le_mul_right _ (Nat.le_of_lt hVn))
 have hk:n+1≤(u.drop i).length:=by rw[List.length_drop];omega
 obtain⟨s1,s2⟩:=qgi hk hlt2;rw[List.drop_drop]at s1;refine⟨by unfold jz;rw[List.length_take,Nat.min_eq_left hk],Zk (qdy h.du i) _,s2,?_,?_⟩
 ·rw[show i+n+1=i+(n+1)by omega];exact s1
 ·unfold jz;rw[s2];exact hlt
theorem Yh.step{u q v zs:List Nat}{n i A d:Nat}(h:Yh u q n (i+1) A (val v))(hv:qP v)(hn:v.length=n)(h0:0<n)(hd:d<4294967296)(hz:qP zs)(hzl:zs.length=n+1)(he:val zs+d*val v=val (jz u n i))(hlt:val zs<val v):
 Yh (u.take i++(zs++u.drop (i+n+1))) (q.set i d) n i A (val v):=by
 have hl:=h.len;have hj:=h.le;obtain⟨p1,p2,p3,p4,p5⟩:=h.part hv hn h0;have hi:i<q.length:=by omega
 have hti:(u.take i).length=i:=by rw[List.length_take];omega
 have hrest:val (zs++u.drop (i+n+1))=val zs:=by rw[qL,p4,Nat.mul_zero,Nat.add_zero]
 refine⟨fun x hx=>?_,fun x hx=>?_,?_,by rw[List.length_set];omega,?_,?_,fun k hk=>?_⟩
 ·rcases List.mem_append.1 hx with hx|hx
  ·exact h.du x (List.mem_of_mem_take hx)
  ·rcases List.mem_append.1 hx with hx|hx
   ·exact hz x hx
   ·exact h.du x (List.mem_of_mem_drop hx)
 ·rcases List.mem_or_eq_of_mem_set hx with hx|hx
  ·exact h.dq x hx
  ·rw[hx];exact hd
 ·rw[List.length_set,List.length_append,List.length_append,hti,hzl,List.length_drop];omega
 ·rw[List.drop_append_of_le_length (by omega),show(u.take i).drop i=[]from List.drop_of_length_le (by omega),List.nil_append,hrest];exact hlt
 ·have hs:=Jb (ds:=q) (k:=i) hi d;rw[h.zero i (by omega),Nat.mul_zero,Nat.add_zero]at hs;have hu:=qcA u (k:=i) (by omega);rw[←p3,←he]at hu;have hE:=h.eq;rw[qL,hti,hrest,hs,←hE,hu,Nat.mul_add (val v),Nat.mul_add (4294967296^i),Nat.mul_left_comm (val v) (4294967296^i),Nat.mul_comm (val v) d];generalize 4294967296^i*(d*val v)=X;generalize 4294967296^i*val zs=Y;generalize val v*val q=Z;omega
 ·rw[List.getD_eq_getElem?_getD,List.getElem?_set_ne (by omega),←List.getD_eq_getElem?_getD];exact h.zero k (by omega)
theorem Yh.done{u q:List Nat}{n A V:Nat}(h:Yh u q n 0 A V):val q=A/V∧val u=A%V:=by
 have h1:=h.rem;rw[List.drop_zero]at h1;have h2:=h.eq;have hV:0<V:=by omega
 refine⟨?_,?_⟩
 ·rw[←h2,Nat.add_mul_div_left _ _ hV,Nat.div_eq_of_lt h1,Nat.zero_add]
 ·rw[←h2,Nat.add_mul_mod_self_left,Nat.mod_eq_of_lt h1]
theorem QB{l:List Nat}(h:qP l)(k:Nat):l.getD k 0<4294967296:=by
 rw[List.getD_eq_getElem?_getD]
 cases hk:l[k]? with
 |none=>simp
 |some x=>exact h x (List.mem_of_getElem? hk)
theorem qlP{u2 v1 x y v2 k ul vl U V:Nat}(hU:U=(u2*4294967296+x)*4294967296*k+y)(hV:V=(v1*4294967296+v2)*k+vl)(hvl:vl<k)(hv2:v2<4294967296)(h:U<V*4294967296)(_:ul=0):u2≤v1:=by
 refine Nat.le_of_not_lt fun hlt=>?_;have a1:V<(v1*4294967296+v2+1)*k:=by rw[hV,Nat.add_mul _ 1,Nat.one_mul];omega
 have a2:(v1*4294967296+v2+1)*k≤(u2*4294967296+x)*k:=Nat.mul_le_mul_right _ (by omega);have a3:V*4294967296<(u2*4294967296+x)*k*4294967296:=Nat.mul_lt_mul_of_pos_right (Nat.lt_of_lt_of_le a1 a2) (by decide);have a4:(u2*4294967296+x)*k*4294967296=(u2*4294967296+x)*4294967296*k:=Nat.mul_right_comm _ _ _;rw[a4]at a3;have a5:(u2*4294967296+x)*4294967296*k≤U:=by rw[hU];exact Nat.le_add_right _ _
 exact absurd (Nat.lt_of_lt_of_le a3 a5) (Nat.lt_asymm h)
def gU(p:List Nat)(m:Nat):Nat:=(p.getD (m+2) 0*4294967296+p.getD (m+1) 0)*4294967296+p.getD m 0
def gV(v:List Nat)(m:Nat):Nat:=v.getD (m+1) 0*4294967296+v.getD m 0
theorem qgp{p v:List Nat}{m:Nat}(hv:qP v)(hpl:p.length=m+3)(hvl:v.length=m+2)(h:val p<val v*4294967296):p.getD (m+2) 0≤v.getD (m+1) 0:=by
 have e1:=qc2 hpl;have e2:=qaQ hvl;have l2:=Jf hv (k:=m) (by omega);have d:=QB hv m;rw[Nat.add_mul _ (p.getD m 0),Nat.add_assoc]at e1;exact qlP (ul:=0) e1 e2 l2 d h rfl
theorem qes{p v:List Nat}{m d:Nat}(hp:qP p)(hv:qP v)(hpl:p.length=m+3)(hvl:v.length=m+2)(h:val p<val v*4294967296)(hb:1≤v.getD (m+1) 0)(he:Est (gU p m) (gV v m) d):
 (d*val v≤val p∧val p-d*val v<val v)∨(val p<d*val v∧0<d∧(d-1)*val v≤val p∧val p-(d-1)*val v<val v):=by
 refine he.near (qc2 hpl) (qaQ hvl) (Jf hp (by omega)) (Jf hv (by omega)) ?_ h;exact Nat.le_trans (Nat.le_trans (Nat.le_of_eq (Nat.one_mul _).symm) (Nat.mul_le_mul_right _ hb)) (Nat.le_add_right _ _)
theorem Yh.start{u:List Nat}{n t V:Nat}(hu:qP u)(hul:u.length=t+n)(hn:0<n)(hlt:val u<4294967296^(t+n-1)*2147483648)(hV:4294967296^(n-1)*2147483648≤V):Yh u (List.replicate t 0) n t (val u) V where
 du:=hu
 dq:=fun d hd=>by rw[(List.mem_replicate.1 hd).2];decide
 len:=by rw[List.length_replicate];exact hul
 le:=by rw[List.length_replicate];exact Nat.le_refl _
 rem:=by
  have e:=qcA u (k:=t) (by omega);have h1:4294967296^t*val (u.drop t)<4294967296^t*(4294967296^(n-1)*2147483648):=by
   rw[←Nat.mul_assoc,←Nat.pow_add,show t+(n-1)=t+n-1 by omega];omega
  exact Nat.lt_of_lt_of_le (Nat.lt_of_mul_lt_mul_left h1) hV
 eq:=by rw[yd,Nat.mul_zero,Nat.add_zero]
 zero:=fun i _=>by
  rw[List.getD_eq_getElem?_getD,List.getElem?_replicate]
  split<;>rfl
structure qb2 (zs:List Nat) (c k pu vv:Nat):Prop where
 len:zs.length=k
 dg:qP zs
 sum:val zs+4294967296^k*c=pu+vv
 car:c≤1
theorem qb2.nil:qb2 [] 0 0 0 0:=⟨rfl,by simp[qP],by simp[val],by omega⟩
theorem qb2.step{zs:List Nat}{c k pu vv x y t c':Nat}(h:qb2 zs c k pu vv)(ht:t<4294967296)(hc:c'≤1)(he:t+4294967296*c'=x+y+c):qb2 (zs++[t]) c' (k+1) (pu+4294967296^k*x) (vv+4294967296^k*y):=by
 refine⟨by simp[h.len],fun z hz=>?_,?_,hc⟩
 ·rcases List.mem_append.1 hz with hz|hz
  ·exact h.dg z hz
  ·rw[List.mem_singleton]at hz;rw[hz];exact ht
 ·have h0:=h.sum;have hv:=qL zs [t];rw[h.len]at hv;simp only[val,Nat.mul_zero,Nat.add_zero]at hv;rw[hv,Nat.pow_succ];generalize 4294967296^k=p at*;have e1:p*(t+4294967296*c')=p*(x+y+c):=by rw[he]
  simp only[Nat.mul_add]at e1;have e5:p*(4294967296*c')=p*4294967296*c':=by rw[Nat.mul_assoc]
  omega
theorem qbR.last{zs:List Nat}{c b k pu vv d x t b':Nat}(h:qbR zs c b k pu vv d)(ht:t<4294967296)(he:t+(c+b)=x+4294967296*b'):
 (zs++[t]).length=k+1∧qP (zs++[t])∧val (zs++[t])+d*vv=pu+4294967296^k*x+4294967296^(k+1)*b':=by
 refine⟨by simp[h.len],fun z hz=>?_,?_⟩
 ·rcases List.mem_append.1 hz with hz|hz
  ·exact h.dg z hz
  ·rw[List.mem_singleton]at hz;rw[hz];exact ht
 ·have h0:=h.sum;have hv:=qL zs [t];rw[h.len]at hv;simp only[val,Nat.mul_zero,Nat.add_zero]at hv;rw[hv,Nat.pow_succ];generalize 4294967296^k=p at*;have e1:p*(t+(c+b))=p*(x+4294967296*b'):=by rw[he]
  simp only[Nat.mul_add]at e1 h0 ⊢;have e5:p*(4294967296*b')=p*4294967296*b':=by rw[Nat.mul_assoc]
  omega
theorem qb2.last{zs:List Nat}{c k pu vv x t:Nat}(h:qb2 zs c k pu vv)(ht:t=(x+c)%4294967296)(hx:x<4294967296):
 (zs++[t]).length=k+1∧qP (zs++[t])∧∃b',b'≤1∧val (zs++[t])+4294967296^(k+1)*b'=pu+4294967296^k*x+vv:=by
 refine⟨by simp[h.len],fun z hz=>?_,(x+c)/4294967296,by have:=h.car;omega,?_⟩
 ·rcases List.mem_append.1 hz with hz|hz
  ·exact h.dg z hz
  ·rw[List.mem_singleton]at hz;omega
 ·have h0:=h.sum;have hv:=qL zs [t];rw[h.len]at hv;simp only[val,Nat.mul_zero,Nat.add_zero]at hv;rw[hv,Nat.pow_succ];have e:=Nat.mod_add_div (x+c) 4294967296;rw[←ht]at e;generalize (x+c)/4294967296=q at*;generalize 4294967296^k=p at*;have e1:p*(t+4294967296*q)=p*(x+c):=by rw[e]
  simp only[Nat.mul_add]at e1;have e5:p*(4294967296*q)=p*4294967296*q:=by rw[Nat.mul_assoc]
  omega
structure Zf (ys:List Nat) (t k va p:Nat):Prop where
 len:ys.length=k
 dg:qP ys
 lt:t<p
 sum:val ys+4294967296^k*t=va*p
theorem Zf.nil{p:Nat}(h:0<p):Zf [] 0 0 0 p:=⟨rfl,by simp[qP],h,by simp[val]⟩
theorem qfU{t x p q:Nat}(hp:p*q=4294967296)(ht:t<p):t+x*p%4294967296<4294967296∧p∣x*p%4294967296:=by
 have hq:0<q:=by
  rcases Nat.eq_zero_or_pos q with h|h
  ·rw[h,Nat.mul_zero]at hp;omega
  ·exact h
 have e:x*p%4294967296=p*(x%q):=by rw[←hp,Nat.mul_comm x p,Nat.mul_mod_mul_left]
 have hx:x%q<q:=Nat.mod_lt _ hq;have h2:p*(x%q)+p≤p*q:=by
  have:p*(x%q+1)≤p*q:=Nat.mul_le_mul_left _ hx;rwa[Nat.mul_add,Nat.mul_one]at this
 rw[e];exact⟨by omega,⟨_,rfl⟩⟩
theorem Zf.step{ys:List Nat}{t k va p q x:Nat}(h:Zf ys t k va p)(hp:p*q=4294967296)(hx:x<4294967296):
 Zf (ys++[t+x*p%4294967296]) (x*p/4294967296) (k+1) (va+4294967296^k*x) p:=by
 have hpp:0<p:=by have:=h.lt;omega
 refine⟨by simp[h.len],fun z hz=>?_,?_,?_⟩
 ·rcases List.mem_append.1 hz with hz|hz
  ·exact h.dg z hz
  ·rw[List.mem_singleton]at hz;rw[hz];exact(qfU hp h.lt).1
 ·rw[Nat.div_lt_iff_lt_mul (by decide),Nat.mul_comm p];exact Nat.mul_lt_mul_of_pos_right hx hpp
 ·have h0:=h.sum;have hv:=qL ys [t+x*p%4294967296];rw[h.len]at hv;simp only[val,Nat.mul_zero,Nat.add_zero]at hv;have e:=Nat.mod_add_div (x*p) 4294967296;rw[hv,Nat.pow_succ,Nat.add_mul va,←h0,Nat.mul_assoc (4294967296^k) x p];generalize x*p%4294967296=a at*;generalize x*p/4294967296=b at*;generalize 4294967296^k=w at*;have e2:w*(x*p)=w*a+w*(4294967296*b):=by rw[←e,Nat.mul_add]
  rw[e2,Nat.mul_add w t,Nat.mul_assoc w 4294967296];generalize w*(4294967296*b)=X;generalize w*a=Y;omega
def Q7(p:Nat):List Nat→List Nat
 |[]=>[]
 |x::r=>((x+4294967296*r.headD 0)/p%4294967296)::Q7 p r
theorem qcR(p:Nat):∀l:List Nat,(Q7 p l).length=l.length
 |[]=>rfl
 |x::r=>by rw[Q7,List.length_cons,List.length_cons,qcR p r]
theorem qdm(p:Nat):∀l:List Nat,qP (Q7 p l)
 |[]=>by simp[Q7,qP]
 |x::r=>fun d hd=>by
  rw[Q7]at hd;rcases List.mem_cons.1 hd with hd|hd
  ·rw[hd];exact Nat.mod_lt _ (by decide)
  ·exact qdm p r d hd
theorem qc3{p q:Nat}(hp:p*q=4294967296):∀{l:List Nat},qP l→val (Q7 p l)=val l/p
 |[],_=>by simp[Q7,val]
 |x::r,h=>by
  have hpp:0<p:=by
   rcases Nat.eq_zero_or_pos p with h0|h0
   ·rw[h0,Nat.zero_mul]at hp;omega
   ·exact h0
  have hx:x<4294967296:=h x (by simp);have ih:=qc3 hp (l:=r) (fun d hd=>h d (List.mem_cons_of_mem _ hd));have hr:∃w,val r=r.headD 0+4294967296*w:=by
   cases r with
   |nil=>exact⟨0,by simp[val]⟩
   |cons y s=>exact⟨val s,rfl⟩
  obtain⟨w,hw⟩:=hr;rw[Q7,val,val,ih];generalize val r=v at*;generalize r.headD 0=y at*;have e1:(x+4294967296*v)/p/4294967296=v/p:=by
   rw[Nat.div_div_eq_div_mul,Nat.mul_comm p,←Nat.div_div_eq_div_mul,Nat.add_mul_div_left _ _ (by decide),Nat.div_eq_of_lt hx,Nat.zero_add]
  have e2:(x+4294967296*v)/p%4294967296=(x+4294967296*y)/p%4294967296:=by
   have e3:x+4294967296*v=x+4294967296*y+p*(q*(4294967296*w)):=by
    rw[hw,←Nat.mul_assoc p,hp,Nat.mul_add,Nat.add_assoc]
   rw[e3,Nat.add_mul_div_left _ _ hpp,Nat.mul_left_comm q,Nat.add_mul_mod_self_left]
  have e4:=Nat.mod_add_div ((x+4294967296*v)/p) 4294967296;rw[e1,e2]at e4;exact e4
open Go.RowKit
theorem qlg{d v2 r u0:Nat}(h:d*v2/4294967296<r):d*v2≤r*4294967296+u0:=by
 generalize d*v2=x at*;omega
theorem qlu{d v2 r u0:Nat}(h:d*v2/4294967296=r)(h2:d*v2%4294967296≤u0):d*v2≤r*4294967296+u0:=by
 generalize d*v2=x at*;omega
theorem qlh{d v2 r u0:Nat}(h0:u0<4294967296)(h:r<d*v2/4294967296∨d*v2/4294967296=r∧u0<d*v2%4294967296):r*4294967296+u0<d*v2:=by
 generalize d*v2=x at*;omega
set_option maxHeartbeats 2000000
set_option maxRecDepth 100000
theorem qbU(u2 u1 u0 v1 v2:Nat)(w:World)(h1:u1<4294967296)(h0:u0<4294967296)(g1:v1<4294967296)(g2:v2<4294967296)(hle:u2≤v1)(hv:0<v1):
 Calls Tryz.prog 171 #[.int .u32 (u2:Int),.int .u32 (u1:Int),.int .u32 (u0:Int),.int .u32 (v1:Int),.int .u32 (v2:Int)] w fun e w'=>∃d:Nat,e= .returned (.int .u32 (d:Int))∧Est ((u2*4294967296+u1)*4294967296+u0) (v1*4294967296+v2) d∧qm w w':=by
 have HAD:=Lib.hid (fun r (hr:r<4294967296)(W:World)=>yu r v1 0 hr g1 (by omega) W);have HMU:=Lib.hid (fun d (hd:d<4294967296)(W:World)=>YY d v2 hd g2 W);have HDO:=Lib.hid (fun d r (h:Ja u2 u1 u0 v1 v2 d r) hc=>h.done hc g2);go_enter Tryz.func171,Tryz.ntmps171
 go_upto_if 18 with(fail)
 go_cut [11,12,13] (fun dv rv ov wc=>∃d r:Nat,dv= .int .u32 (d:Int)∧rv= .int .u32 ((r%4294967296:Nat):Int)∧ov= .int .u32 ((r/4294967296:Nat):Int)∧Ja u2 u1 u0 v1 v2 d r∧r<8589934592∧qm w wc)
 case first=>
  by_cases hlt:u2<v1
  ·have k1:(u2:Int)<(v1:Int):=by omega
   have HDI:=Lib.hid (fun(W:World)=>qbk u2 u1 v1 hlt h1 g1 W);have HS:=Lib.hid (Ja.start (u2:=u2) (u1:=u1) (u0:=u0) (v1:=v1) (v2:=v2) hlt h0 h1);have hr:(u2*4294967296+u1)%v1<v1:=Nat.mod_lt _ hv;generalize (u2*4294967296+u1)%v1=r at*;generalize (u2*4294967296+u1)/v1=d at*;go_wp2_with fail
   refine(HDI.out _).mono ?_;rintro e w1 ⟨rfl,hdr⟩;go_wp2_with fail
   go_meet
   case rel=>exact⟨d,r,by go_num,by rw[Nat.mod_eq_of_lt (by omega)],by rw[Nat.div_eq_of_lt (by omega)];rfl,HS.out,by omega,hdr⟩
  ·obtain rfl:u2=v1:=by omega
   have HS:=Lib.hid (Ja.top (u1:=u1) (u0:=u0) (v1:=u2) (v2:=v2));have HA:=Lib.hid (fun W=>HAD.out u1 h1 W);clear HAD HMU HDO hlt;go_wp2_with fail
   refine(HA.out _).mono ?_;rintro e w1 ⟨rfl,rfl⟩;go_wp2_with fail
   go_meet
   case rel=>exact⟨4294967295,u1+u2,rfl,rfl,rfl,HS.out,by omega,qm.refl _⟩
 case rest=>
  obtain⟨d,r,rfl,rfl,rfl,hst,hr2,hdr⟩:=hcut;have HST:=Lib.hid hst;clear hst;go_wp2_with fail
  go_loopg [11,12,13,14,15] d (fun gn dv rv ov _ _ wr=>∃d r:Nat,gn=d∧dv= .int .u32 (d:Int)∧rv= .int .u32 ((r%4294967296:Nat):Int)∧ov= .int .u32 ((r/4294967296:Nat):Int)∧Ja u2 u1 u0 v1 v2 d r∧r<8589934592∧qm w wr)
  case atStart=>exact⟨d,r,rfl,rfl,rfl,rfl,HST.out,hr2,hdr⟩
  case round=>
   clear HST hr2 hdr;obtain⟨d,r,hgd,rfl,rfl,rfl,hst,hr2,hdr⟩:=hrel;have HG:=Lib.hid hgd;have HS:=Lib.hid hst;clear hgd;have hd:=hst.lt;clear hst;by_cases hr:r<4294967296
   ·rw[Nat.mod_eq_of_lt hr,Nat.div_eq_of_lt hr];have HM:=Lib.hid (fun W=>HMU.out d hd W);have HA:=Lib.hid (fun W=>HAD.out r hr W);have E1:=Lib.hid (@qlg d v2 r u0);have E2:=Lib.hid (@qlu d v2 r u0);have E3:=Lib.hid (@qlh d v2 r u0 h0);have hm1:d*v2%4294967296<4294967296:=Nat.mod_lt _ (by decide);have HD1:=Lib.hid (fun hc=>HDO.out d r HS.out (.inr hc));have HSP:=Lib.hid (fun hc=>HS.out.step hc);clear HDO HMU HAD;generalize d*v2%4294967296=lo at*;generalize d*v2/4294967296=hi at*;by_cases hc1:hi<r
    ·have k1:(hi:Int)<(r:Int):=by omega
     have HN:=Lib.hid (HD1.out (E1.out hc1));clear hc1;go_wp2_with fail
     refine(HM.out _).mono ?_;rintro e w1 ⟨rfl,rfl⟩;go_wp2_with fail
     go_ret
     exact⟨d,rfl,HN.out,hdr⟩
    ·have k1:¬(hi:Int)<(r:Int):=by omega
     by_cases hc2:hi=r
     ·subst hc2;have k2:((hi:Int)==(hi:Int))=true:=by simp
      by_cases hc3:lo≤u0
      ·have k3:(lo:Int)≤(u0:Int):=by omega
       have HN:=Lib.hid (HD1.out (E2.out rfl hc3));go_wp2_with fail
       refine(HM.out _).mono ?_;rintro e w1 ⟨rfl,rfl⟩;go_wp2_with fail
       go_ret
       exact⟨d,rfl,HN.out,hdr⟩
      ·have k3:¬(lo:Int)≤(u0:Int):=by omega
       obtain⟨hd0,hs1⟩:=HSP.out (E3.out (.inr ⟨rfl,by omega⟩));have HN:=Lib.hid hs1;clear hs1;have k4:(1:Int)≤(d:Int):=by omega
       go_wp2_with fail
       refine(HM.out _).mono ?_;rintro e w1 ⟨rfl,rfl⟩;go_wp2_with fail
       refine(HA.out _).mono ?_;rintro e w1 ⟨rfl,rfl⟩;go_wp2_with fail
       go_roundg (d-1)
       case rel=>exact⟨d-1,hi+v1,rfl,by go_num,rfl,rfl,HN.out,by omega,hdr⟩
       case measure=>have:=HG.out;omega
     ·have k2:((hi:Int)==(r:Int))=false:=by simp;omega
      obtain⟨hd0,hs1⟩:=HSP.out (E3.out (.inl (by omega)));have HN:=Lib.hid hs1;clear hs1 hc2;have k4:(1:Int)≤(d:Int):=by omega
      go_wp2_with fail
      refine(HM.out _).mono ?_;rintro e w1 ⟨rfl,rfl⟩;go_wp2_with fail
      refine(HA.out _).mono ?_;rintro e w1 ⟨rfl,rfl⟩;go_wp2_with fail
      go_roundg (d-1)
      case rel=>exact⟨d-1,r+v1,rfl,by go_num,rfl,rfl,HN.out,by omega,hdr⟩
      case measure=>have:=HG.out;omega
   ·have HN:=Lib.hid (HDO.out d r HS.out (.inl (by omega)));have k1:((((r/4294967296:Nat)):Int)==0)=false:=by simp;omega
    generalize r/4294967296=q at*;generalize r%4294967296=rm at*;go_wp2_with fail
    go_ret
    exact⟨d,rfl,HN.out,hdr⟩
open Go.RowKit
abbrev Wr(g:Nat)(w w':World):Prop:=w.grownBy w' (some g)
theorem Wr.refl(g:Nat)(w:World):Wr g w w:=⟨rfl,rfl,rfl,Nat.le_refl _,fun _ _ _=>rfl⟩
theorem Wr.trans{g:Nat}{u v w:World}(h:Wr g u v)(k:Wr g v w):Wr g u w:=
 ⟨k.os.trans h.os,k.tape.trans h.tape,k.output.trans h.output,Nat.le_trans h.size k.size,fun i hi hn=>(k.block i (Nat.lt_of_lt_of_le hi h.size) hn).trans (h.block i hi hn)⟩
theorem Wr.set_{g:Nat}(w:World)(o:Nat)(u:Value):Wr g w (w.setCell ⟨g,o,none⟩ u):=
 ⟨rfl,rfl,rfl,by simp,fun k _ hn=>Below.heap_setCell w ⟨g,o,none⟩ u k (fun e=>hn (by rw[e]))⟩
theorem Wr.below{g:Nat}{w w':World}(h:Wr g w w')(hg:g<w.heap.size):Below g w w':=
 ⟨h.os,h.tape,h.output,h.size,fun k hk=>h.block k (Nat.lt_trans hk hg) (fun e=>by injection e with e;omega)⟩
theorem qhI{us zs:List Nat}{j k:Nat}(hz:zs.length=k)(hl:j+k<us.length):(us.take j++(zs++us.drop (j+k))).getD (j+k) 0=us.getD (j+k) 0:=by
 have hj:(us.take j).length=j:=by rw[List.length_take];omega
 rw[List.getD_eq_getElem?_getD,List.getElem?_append_right (by omega),hj,List.getElem?_append_right (by omega),hz,List.getElem?_drop,List.getD_eq_getElem?_getD,show j+k+(j+k-j-k)=j+k by omega]
theorem qfV{us zs:List Nat}{j k t:Nat}(hz:zs.length=k)(hl:j+k<us.length):(us.take j++(zs++us.drop (j+k))).set (j+k) t=us.take j++((zs++[t])++us.drop (j+(k+1))):=by
 have hj:(us.take j).length=j:=by rw[List.length_take];omega
 rw[List.set_append_right _ _ (by omega),hj,show j+k-j=k by omega,List.set_append_right _ _ (by omega),hz,Nat.sub_self,List.drop_eq_getElem_cons hl,List.set_cons_zero,List.append_assoc];rfl
theorem Yc{us zs:List Nat}{j k:Nat}(hz:zs.length=k)(hl:j+k≤us.length):(us.take j++(zs++us.drop (j+k))).length=us.length:=by
 rw[List.length_append,List.length_append,List.length_take,List.length_drop];omega
theorem Jv{us:List Nat}{n j k:Nat}(hk:k≤n):(jz us n j).getD k 0=us.getD (j+k) 0:=by
 unfold jz;rw[List.getD_eq_getElem?_getD,List.getElem?_take,if_pos (by omega),List.getElem?_drop,List.getD_eq_getElem?_getD]
theorem qek{y d c:Nat}(hy:y<4294967296)(hd:d<4294967296)(hc:c<4294967296):
 y*d/4294967296+(y*d%4294967296+c+0)/4294967296<4294967296∧(y*d/4294967296+(y*d%4294967296+c+0)/4294967296)*4294967296+(y*d%4294967296+c+0)%4294967296=y*d+c:=by
 have:=Qm hy hd;generalize y*d=x at*;omega
theorem qbv{x l b:Nat}(hx:x<4294967296)(hl:l<4294967296)(hb:b≤1):(x+4294967296-l-b)%4294967296+(l+b)=x+4294967296*(if x<l+b then 1 else 0):=by
 split<;>omega
def qfN(us v:List Nat)(j n d g:Nat)(w:World)(e:Ending)(w':World):Prop:=
 ∃(zs:List Nat)(b:Nat),b≤1∧e= .returned (.bool (b != 0))∧zs.length=n+1∧qP zs∧val zs+d*val v=val (jz us n j)+4294967296^(n+1)*b∧qd w' g 134 (qf (us.take j++(zs++us.drop (j+(n+1))))).toArray∧Wr g w w'
set_option maxHeartbeats 4000000
theorem qew(A:Option Addr)(c cp B g j n d:Nat)(us v:List Nat)(w:World)(hB:B≤g)(hu:qd w g 134 (qf us).toArray)(hul:us.length≤900000)(hj:j+n+1≤us.length)(hud:qP us)(hv:qi w B 1 A n (qf v))(hvl:v.length=n)(hvd:qP v)(hd:d<4294967296):
 Calls Tryz.prog 172 #[.slice (some ⟨g,j,none⟩) (n+1) cp,.slice A n c,.int .u32 (d:Int)] w (qfN us v j n d g w):=by
 have HV:=Lib.hid (fun(W:World)(hW:Wr g w W)=>hv.below ((hW.below hu.lt).mono hB));have HVD:=Lib.hid hvd;have HUD:=Lib.hid hud;have HVL:=Lib.hid hvl;have HP:=Lib.hid (show(jz us n j).length=n+1 by unfold jz;rw[List.length_take,List.length_drop];omega);have hub:qd w g 134 (qf (us.take j++([]++us.drop (j+0)))).toArray:=by rw[Nat.add_zero,List.nil_append,List.take_append_drop];exact hu
 clear hv hvd hud hu hvl;go_enter Tryz.func172,Tryz.ntmps172
 go_wp2_with fail
 go_loopg [7,8,9,10,11,12,13,17] n (fun gn cv bv _ _ _ _ _ kv wr=>∃(k cr b:Nat)(zs:List Nat),k≤n∧gn=n-k∧kv= .int .i64 k∧cv= .int .u32 (cr:Int)∧bv= .int .u32 (b:Int)∧qbR zs cr b k (val ((jz us n j).take k)) (val (v.take k)) d∧qd wr g 134 (qf (us.take j++(zs++us.drop (j+k)))).toArray∧Wr g w wr)
 case atStart=>exact⟨0,0,0,[],Nat.zero_le _,rfl,rfl,rfl,rfl,by simpa[val]using qbR.nil d,hub,Wr.refl _ _⟩
 case round=>
  clear hub;obtain⟨k,cr,b,zs,hk,hgk,rfl,rfl,rfl,hst,hub,hwr⟩:=hrel;have HG:=Lib.hid hgk;clear hgk;have hzl:=hst.len;have hxk:us.getD (j+k) 0<4294967296:=QB HUD.out _;have hml:=Yc (us:=us) (zs:=zs) (j:=j) hzl (by omega);have c3:wr.cell? ⟨g,j+k,none⟩=some (.int .u32 ((us.getD (j+k) 0:Nat):Int)):=by
   have:=(hub.cell (j+k)).trans (jn _ _ (by rw[hml];omega));rwa[qhI hzl (by omega)]at this
  have f3:=hub.frozen (j+k);have z3:=hub.lt;have hcr:=hst.car;have hb1:=hst.bor;have HTP:=Lib.hid (qx (ds:=jz us n j) (k:=k) (by rw[HP.out];omega));rw[Jv hk]at HTP;have hS:∀t,qd (wr.setCell ⟨g,j+k,none⟩ (.int .u32 ((t:Nat):Int))) g 134 (qf (us.take j++((zs++[t])++us.drop (j+(k+1))))).toArray:=fun t=>by
   rw[←qfV hzl (by omega),←je];exact hub.set_ (j+k) _
  have HS:=Lib.hid hS;have HW:=Lib.hid (fun u=>hwr.trans (Wr.set_ wr (j+k) u));clear hS;by_cases hlt:k<n
  ·obtain⟨b2,o2,rfl,q2,c2⟩:=jj (ds:=v) (by rw[HVL.out];exact HV.out wr hwr) (k:=k) (by rw[HVL.out];exact hlt);have hy:=QB HVD.out k;have HTV:=Lib.hid (qx (ds:=v) (k:=k) (by rw[HVL.out];exact hlt));generalize v.getD k 0=y at*;generalize us.getD (j+k) 0=x at*;obtain⟨hd1,hd2⟩:=qek hy hd hcr;have HMU:=Lib.hid (fun W=>YY y d hy hd W);have hlo:y*d%4294967296<4294967296:=Nat.mod_lt _ (by decide);have HAD:=Lib.hid (fun W=>yu (y*d%4294967296) cr 0 hlo hcr (by omega) W);have hl2:(y*d%4294967296+cr+0)%4294967296<4294967296:=Nat.mod_lt _ (by decide);have HSU:=Lib.hid (fun W=>YF x ((y*d%4294967296+cr+0)%4294967296) b hxk hl2 hb1 W);have hss:=qbv hxk hl2 hb1;have ht:(x+4294967296-(y*d%4294967296+cr+0)%4294967296-b)%4294967296<4294967296:=Nat.mod_lt _ (by decide);have hbb:(if x<(y*d%4294967296+cr+0)%4294967296+b then 1 else 0)≤1:=by split<;>omega
   have hN:=hst.step hd1 hd2 ht hbb hss;rw[←HTP.out,←HTV.out]at hN;generalize (if x<(y*d%4294967296+cr+0)%4294967296+b then 1 else 0)=b' at*;generalize (x+4294967296-(y*d%4294967296+cr+0)%4294967296-b)%4294967296=t at*;generalize (y*d%4294967296+cr+0)%4294967296=l2 at*;generalize (y*d%4294967296+cr+0)/4294967296=k1 at*;generalize y*d%4294967296=lo at*;generalize y*d/4294967296=hi' at*;have HN:=Lib.hid hN;clear hN hst hss hd2 hub;have i2:(k:Int)<(n:Int):=by omega
   have i3:(k:Int)<(n:Int)+1:=by omega
   have i0:(0:Int)≤(k:Int):=by omega
   go_wp2_with fail
   refine(HMU.out _).mono ?_;rintro e w1 ⟨rfl,rfl⟩;go_wp2_with fail
   refine(HAD.out _).mono ?_;rintro e w1 ⟨rfl,rfl⟩;go_wp2_with fail
   refine(HSU.out _).mono ?_;rintro e w1 ⟨rfl,rfl⟩;go_wp2_with fail
   go_roundg (n-(k+1))
   case rel=>exact⟨k+1,hi'+k1,b',zs++[t],by omega,rfl,by go_num,by go_num,rfl,HN.out,HS.out t,HW.out _⟩
   case measure=>have:=HG.out;omega
  ·obtain rfl:k=n:=by omega
   have hss:=qbv hxk hcr hb1;have HSU:=Lib.hid (fun W=>YF (us.getD (j+k) 0) cr b hxk hcr hb1 W);have ht:(us.getD (j+k) 0+4294967296-cr-b)%4294967296<4294967296:=Nat.mod_lt _ (by decide);have hbb:(if us.getD (j+k) 0<cr+b then 1 else 0)≤1:=by split<;>omega
   have hN:=hst.last ht hss;have hpl:(jz us k j).take (k+1)=jz us k j:=List.take_of_length_le (by rw[HP.out];exact Nat.le_refl _);rw[hpl]at HTP;rw[←HTP.out,show v.take k=v from List.take_of_length_le (by rw[HVL.out];exact Nat.le_refl _)]at hN;generalize (if us.getD (j+k) 0<cr+b then 1 else 0)=b' at*;generalize (us.getD (j+k) 0+4294967296-cr-b)%4294967296=t at*;generalize us.getD (j+k) 0=x at*;have HN:=Lib.hid hN;have HB:=Lib.hid hbb;clear hN hst hss hub hpl;have i3:(k:Int)<(k:Int)+1:=by omega
   have i0:(0:Int)≤(k:Int):=by omega
   go_wp2_with fail
   refine(HSU.out _).mono ?_;rintro e w1 ⟨rfl,rfl⟩;rcases(by have:=HB.out;omega:b'=0∨b'=1)with rfl|rfl
   all_goals
    go_wp2_with fail
    go_ret
    exact⟨zs++[t],_,HB.out,rfl,HN.out.1,HN.out.2.1,HN.out.2.2,HS.out t,HW.out _⟩
open Go.RowKit
def qfq(us v:List Nat)(j n g:Nat)(w:World)(e:Ending)(w':World):Prop:=
 ∃(zs:List Nat)(b:Nat),b≤1∧(∃u,e= .returned u)∧zs.length=n+1∧qP zs∧val zs+4294967296^(n+1)*b=val (jz us n j)+val v∧qd w' g 134 (qf (us.take j++(zs++us.drop (j+(n+1))))).toArray∧Wr g w w'
theorem qcP(A:Option Addr)(c cp B g j n:Nat)(us v:List Nat)(w:World)(hB:B≤g)(hu:qd w g 134 (qf us).toArray)(hul:us.length≤900000)(hj:j+n+1≤us.length)(hud:qP us)(hv:qi w B 1 A n (qf v))(hvl:v.length=n)(hvd:qP v):
 Calls Tryz.prog 173 #[.slice (some ⟨g,j,none⟩) (n+1) cp,.slice A n c] w (qfq us v j n g w):=by
 have HV:=Lib.hid (fun(W:World)(hW:Wr g w W)=>hv.below ((hW.below hu.lt).mono hB));have HVD:=Lib.hid hvd;have HUD:=Lib.hid hud;have HVL:=Lib.hid hvl;have HP:=Lib.hid (show(jz us n j).length=n+1 by unfold jz;rw[List.length_take,List.length_drop];omega);have hub:qd w g 134 (qf (us.take j++([]++us.drop (j+0)))).toArray:=by rw[Nat.add_zero,List.nil_append,List.take_append_drop];exact hu
 clear hv hvd hud hu hvl;go_enter Tryz.func173,Tryz.ntmps173
 go_wp2_with fail
 go_loopg [4,5,6,9] n (fun gn cv _ _ kv wr=>∃(k cr:Nat)(zs:List Nat),k≤n∧gn=n-k∧kv= .int .i64 k∧cv= .int .u32 (cr:Int)∧qb2 zs cr k (val ((jz us n j).take k)) (val (v.take k))∧qd wr g 134 (qf (us.take j++(zs++us.drop (j+k)))).toArray∧Wr g w wr)
 case atStart=>exact⟨0,0,[],Nat.zero_le _,rfl,rfl,rfl,by simpa[val]using qb2.nil,hub,Wr.refl _ _⟩
 case round=>
  clear hub;obtain⟨k,cr,zs,hk,hgk,rfl,rfl,hst,hub,hwr⟩:=hrel;have HG:=Lib.hid hgk;clear hgk;have hzl:=hst.len;have hxk:us.getD (j+k) 0<4294967296:=QB HUD.out _;have hml:=Yc (us:=us) (zs:=zs) (j:=j) hzl (by omega);have c3:wr.cell? ⟨g,j+k,none⟩=some (.int .u32 ((us.getD (j+k) 0:Nat):Int)):=by
   have:=(hub.cell (j+k)).trans (jn _ _ (by rw[hml];omega));rwa[qhI hzl (by omega)]at this
  have f3:=hub.frozen (j+k);have z3:=hub.lt;have hcr:=hst.car;have HTP:=Lib.hid (qx (ds:=jz us n j) (k:=k) (by rw[HP.out];omega));rw[Jv hk]at HTP;have HS:Hid (∀(t:Nat)(u:Int),u=(t:Int)→qd (wr.setCell ⟨g,j+k,none⟩ (.int .u32 u)) g 134 (qf (us.take j++((zs++[t])++us.drop (j+(k+1))))).toArray):=Lib.hid (fun t u hu=>by
   rw[hu,←qfV hzl (by omega),←je];exact hub.set_ (j+k) _)
  have HW:=Lib.hid (fun u=>hwr.trans (Wr.set_ wr (j+k) u));by_cases hlt:k<n
  ·obtain⟨b2,o2,rfl,q2,c2⟩:=jj (ds:=v) (by rw[HVL.out];exact HV.out wr hwr) (k:=k) (by rw[HVL.out];exact hlt);have hy:=QB HVD.out k;have HTV:=Lib.hid (qx (ds:=v) (k:=k) (by rw[HVL.out];exact hlt));generalize v.getD k 0=y at*;generalize us.getD (j+k) 0=x at*;have HAD:=Lib.hid (fun W=>yu x y cr hxk hy hcr W);have hs1:(x+y+cr)%4294967296<4294967296:=Nat.mod_lt _ (by decide);have hs2:(x+y+cr)/4294967296≤1:=by omega
   have hN:=hst.step (x:=x) (y:=y) hs1 hs2 (Nat.mod_add_div _ _);rw[←HTP.out,←HTV.out]at hN;generalize (x+y+cr)%4294967296=t at*;generalize (x+y+cr)/4294967296=c' at*;have HN:=Lib.hid hN;clear hN hst hub;have i2:(k:Int)<(n:Int):=by omega
   have i3:(k:Int)<(n:Int)+1:=by omega
   have i0:(0:Int)≤(k:Int):=by omega
   go_wp2_with fail
   refine(HAD.out _).mono ?_;rintro e w1 ⟨rfl,rfl⟩;go_wp2_with fail
   go_roundg (n-(k+1))
   case rel=>exact⟨k+1,c',zs++[t],by omega,rfl,by go_num,rfl,HN.out,HS.out t _ rfl,HW.out _⟩
   case measure=>have:=HG.out;omega
  ·obtain rfl:k=n:=by omega
   have hpl:(jz us k j).take (k+1)=jz us k j:=List.take_of_length_le (by rw[HP.out];exact Nat.le_refl _);rw[hpl]at HTP;have hN:=hst.last (x:=us.getD (j+k) 0) rfl hxk;rw[←HTP.out,show v.take k=v from List.take_of_length_le (by rw[HVL.out];exact Nat.le_refl _)]at hN;obtain⟨n1,n2,b',n3,n4⟩:=hN;have HN:=Lib.hid (And.intro n1 (And.intro n2 (And.intro n3 n4)));clear n1 n2 n3 n4 hst hub hpl;generalize us.getD (j+k) 0=x at*;have i3:(k:Int)<(k:Int)+1:=by omega
   have i0:(0:Int)≤(k:Int):=by omega
   go_wp2_with fail
   first|(refine bodyPost_end (v:= .tuple #[]) (results_none rfl _ _ _) rfl ?_)|(refine bodyPost_ret (v:= .tuple #[]) (results_none rfl _ _ _) rfl ?_)
   exact⟨zs++[(x+cr)%4294967296],b',HN.out.2.2.1,⟨_,rfl⟩,HN.out.1,HN.out.2.1,HN.out.2.2.2,HS.out _ _ (by omega),HW.out _⟩
open Go.RowKit
theorem qk2{t low s:Nat}(ht:t<2^s)(hd:2^s∣low)(h1:t<4294967296)(h2:low<4294967296):bits .or .u32 (t:Int) (low:Int)=((t+low:Nat):Int):=by
 obtain⟨y,rfl⟩:=hd;rw[u32_or_nat _ _ h1 h2,Nat.or_comm,←Nat.two_pow_add_eq_or_of_lt ht,Nat.add_comm]
theorem qjR{ys:List Nat}{t k r a b:Nat}(h:ys.length=k):((ys++t::List.replicate (r+1) 0).set k a).set (k+1) b=(ys++[a])++b::List.replicate r 0:=by
 rw[List.set_append_right _ _ (by omega),h,Nat.sub_self,List.set_cons_zero,List.set_append_right _ _ (by omega),h,show k+1-k=1 by omega,List.replicate_succ];simp
set_option maxHeartbeats 2000000
theorem qfH(A:Option Addr)(c B s:Nat)(ds:List Nat)(w:World)(hB:B≤w.heap.size)(hc:ds.length≤c)(hl:ds.length≤900000)(hs:s≤31)(hr:qi w B 1 A ds.length (qf ds))(hd:qP ds):
 Calls Tryz.prog 170 #[.slice A ds.length c,.int .i64 (s:Int)] w (jT (val ds*2^s) w):=by
 have h1:=qU A c B ds w hc (by omega) hr hd;have r1:=jo hr hd;have l1:=qo hd;have g1:=qu (val ds);have v1:=qp (val ds);generalize val ds=x at*;by_cases hx0:x=0
 ·subst hx0;rw[qt]at h1;have H1:=Lib.hid h1;clear h1 g1 v1 hr hd r1 l1;rw[Nat.zero_mul];go_enter Tryz.func170,Tryz.ntmps170
  go_wp2_with fail
  refine(H1.out).mono ?_;rintro e w1 ⟨rfl,rfl⟩;go_wp2_with fail
  go_ret
  exact⟨none,0,by rw[qt];rfl,by rw[qt];exact Nat.le_refl _,.inl qt,Below.refl _ _⟩
 ·have hl0:0<(dig x).length:=jw.2 (by omega);generalize dig x=a at*;have H1:=Lib.hid h1;have G1:=Lib.hid g1;have V1:=Lib.hid v1;clear h1 g1 v1 hr hd;have k1:(s:Int)≤31:=by omega
  have k0:(0:Int)≤(s:Int):=by omega
  have k2:((a.length:Int)==0)=false:=by simp only[beq_eq_false_iff_ne,ne_eq];omega
  have k5:min (s:Int) 16777216=(s:Int):=by omega
  have k6:(0:Int)+(a.length:Int)=(a.length:Int):=by omega
  have k3:(s:Int)/32=0:=by omega
  have k4:(s:Int)%32=s:=by omega
  have hmk:=fun(W:World)=>Tryz.make_u32 (a.length+1) (by omega) W;rw[show((a.length+1:Nat):Int)=(a.length:Int)+1 by omega]at hmk;go_enter Tryz.func170,Tryz.ntmps170
  go_wp2_with fail
  refine(H1.out).mono ?_;rintro e w1 ⟨rfl,rfl⟩;go_wp2_with fail
  clear hmk;have hbl0:Below w.heap.size w (w.alloc (.cells (qf (List.replicate (a.length+1) 0)).toArray 134)):=(Below.refl _ w).alloc (Nat.le_refl _) _;have hzb0:=qd.new w 134 (qf (List.replicate (a.length+1) 0)).toArray;have hpq:2^s*2^(32-s)=4294967296:=by rw[←Nat.pow_add,show s+(32-s)=32 by omega]
  have hpp:0<2^s:=Nat.pow_pos (by decide);have hst0:Zf [] 0 0 (val (a.take 0)) (2^s):=by simpa[val]using Zf.nil hpp
  have HPQ:=Lib.hid hpq;clear hpq hpp;rw[show List.replicate (a.length+1) 0=[]++0::List.replicate (a.length-0) 0 from rfl]at hzb0;go_loopg [9,10,11,36] a.length (fun gn _ _ _ kv wr=>∃(k t:Nat)(ys:List Nat),k≤a.length∧gn=a.length-k∧kv= .int .i64 k∧Zf ys t k (val (a.take k)) (2^s)∧qd wr w.heap.size 134 (qf (ys++t::List.replicate (a.length-k) 0)).toArray∧Below w.heap.size w wr)
  case atStart=>exact⟨0,0,[],Nat.zero_le _,rfl,rfl,hst0,hzb0,hbl0⟩
  case round=>
   clear hst0 hzb0 hbl0;obtain⟨k,t,ys,hk,hgk,rfl,hst,hzb,hbl⟩:=hrel;have HG:=Lib.hid hgk;clear hgk;have HST:=Lib.hid hst;have hyl:=hst.len;clear hst;by_cases hlt:k<a.length
   ·obtain⟨b1,o1,rfl,q1,c1⟩:=jj (r1.below (hbl.mono hB)) (k:=k) hlt;have hxa:=jR G1.out k;have c3:wr.cell? ⟨w.heap.size,k,none⟩=some (.int .u32 (t:Int)):=by
     rw[hzb.cell k];simp[qf,hyl]
    have f3:=hzb.frozen k;have z3:=hzb.lt;have c4:wr.cell? ⟨w.heap.size,k+1,none⟩=some (.int .u32 0):=by
     rw[hzb.cell (k+1)];obtain⟨r,hr⟩:∃r,a.length-k=r+1:=⟨a.length-k-1,by omega⟩;rw[hr];simp[qf,hyl,List.replicate_succ]
    have f4:=hzb.frozen (k+1);have HTA:=Lib.hid (qx (ds:=a) (k:=k) hlt);generalize a.getD k 0=xa at*;have hp31:2^s≤2147483648:=Nat.le_trans (Nat.pow_le_pow_right (by decide) hs) (by decide);have hxp:xa*2^s≤4294967295*2147483648:=Nat.mul_le_mul (by omega) hp31;have hwr:IntKind.u64.wrap ((xa:Int)*2^s)=((xa*2^s:Nat):Int):=by
     rw[show(xa:Int)*2^s=((xa*2^s:Nat):Int)by simp];exact JJ (by omega)
    have i1:(k:Int)<(a.length:Int):=by omega
    have i0:(0:Int)≤(k:Int):=by omega
    have i2:(k:Int)<(a.length:Int)+1:=by omega
    have hpp:=Nat.lt_of_le_of_lt (Nat.zero_le _) HST.out.lt;have hsf:=qfU (x:=xa) HPQ.out HST.out.lt;have hlo:xa*2^s%4294967296<4294967296:=Nat.mod_lt _ (by decide);have hor:=qk2 HST.out.lt hsf.2 (by have:=HST.out.lt;omega) hlo;have hN:=HST.out.step HPQ.out hxa;rw[←HTA.out]at hN;have HN:=Lib.hid hN;obtain⟨r,hr⟩:∃r,a.length-k=r+1:=⟨a.length-k-1,by omega⟩;rw[hr]at hzb;have hSB:=(hzb.set_ k (.int .u32 ((t+xa*2^s%4294967296:Nat):Int))).set_ (k+1) (.int .u32 ((xa*2^s/4294967296:Nat):Int));rw[je,je,qjR hyl]at hSB;have HSB:=Lib.hid hSB;have HBL:=Lib.hid ((hbl.setCell (p:=⟨w.heap.size,k,none⟩) (Nat.le_refl _) (.int .u32 ((t+xa*2^s%4294967296:Nat):Int))).setCell (p:=⟨w.heap.size,k+1,none⟩) (Nat.le_refl _) (.int .u32 ((xa*2^s/4294967296:Nat):Int)));clear hN hSB hzb hbl;have e1:((xa*2^s%4294967296:Nat):Int)=(xa:Int)*2^s%4294967296:=by simp
    have e2:((xa*2^s/4294967296:Nat):Int)=(xa:Int)*2^s/4294967296%4294967296:=by
     rw[←Nat.mod_eq_of_lt (show xa*2^s/4294967296<4294967296 by omega)];simp
    rw[e1]at hor;rw[e2]at HSB HBL;have HOR:=Lib.hid hor;rw[←HOR.out]at HSB HBL;clear hor e1 e2;go_wp2_with fail
    go_roundg (a.length-(k+1))
    case rel=>exact⟨k+1,xa*2^s/4294967296,ys++[t+xa*2^s%4294967296],by omega,rfl,by go_num,HN.out,by rw[show a.length-(k+1)=r by omega];exact HSB.out,HBL.out⟩
    case measure=>have:=HG.out;omega
   ·obtain rfl:k=a.length:=by omega
    have hsum:=HST.out.sum;rw[List.take_length,V1.out]at hsum;rw[Nat.sub_self,List.replicate_zero]at hzb;have hdz:qP (ys++[t]):=fun z hz=>by
     rcases List.mem_append.1 hz with hz|hz
     ·exact HST.out.dg z hz
     ·rw[List.mem_singleton]at hz;rw[hz];have h1:=HST.out.lt;have h2:2^s≤2147483648:=Nat.le_trans (Nat.pow_le_pow_right (by decide) hs) (by decide);omega
    have hvz:val (ys++[t])=x*2^s:=by
     rw[qL,hyl,←hsum];simp[val]
    have hlz:(ys++[t]).length=a.length+1:=by simp[hyl]
    generalize ys++[t]=zs at*;have hrd:=hzb.reads zs.length (Nat.le_refl _);rw[List.take_length]at hrd;have htr:=qU (some ⟨w.heap.size,0,none⟩) (a.length+1) _ zs _ (by omega) (by omega) hrd hdz;have hrd2:=(qk.of_blk hzb).dig hdz;have hll:=qo hdz;rw[hvz,hlz]at htr;rw[hvz]at hrd2 hll;generalize hV:x*2^s=V at*;have HTR:=Lib.hid htr;have HRD:=Lib.hid hrd2;have HLL:=Lib.hid (show(dig V).length≤a.length+1 by omega);have HB:=Lib.hid hbl;clear htr hrd2 hll hrd hzb hbl hV hsum hdz hvz hlz;go_wp2_with fail
    refine(HTR.out).mono ?_;rintro e w5 ⟨rfl,rfl⟩;go_wp2_with fail
    go_ret
    exact⟨_,_,rfl,HLL.out,HRD.out,HB.out⟩
open Go.RowKit
theorem qfo(p:Nat):∀{l:List Nat} {k:Nat},k<l.length→(Q7 p l).getD k 0=(l.getD k 0+4294967296*l.getD (k+1) 0)/p%4294967296
 |[],k,h=>by simp at h
 |x::r,0,_=>by
  rw[Q7]
  cases r<;>simp
 |x::r,k+1,h=>by
  have:=qfo p (l:=r) (k:=k) (by simpa using h);rw[Q7];simpa using this
theorem qky{L:List Nat}{k n:Nat}(h:L.length=n)(hk:k<n):(L.take k++List.replicate (n-k) 0).set k (L.getD k 0)=L.take (k+1)++List.replicate (n-(k+1)) 0:=by
 have hl:(L.take k).length=k:=by rw[List.length_take];omega
 rw[List.set_append_right _ _ (by omega),hl,Nat.sub_self,show n-k=(n-(k+1))+1 by omega,List.replicate_succ,List.set_cons_zero,List.take_succ_eq_append_getElem (by omega),List.append_assoc,List.getD_eq_getElem?_getD,List.getElem?_eq_getElem (by omega)];rfl
theorem qlZ{x y:Nat}(hx:x<4294967296)(hy:y<4294967296):bits .or .u64 (x:Int) ((y:Int)*4294967296)=((x+4294967296*y:Nat):Int):=by
 have h:=u64_or_nat x (y*4294967296) (by omega) (by omega);have h2:=Nat.two_pow_add_eq_or_of_lt (i:=32) (show x<2^32 by omega) y;rw[show(2:Nat)^32=4294967296 by decide]at h2;rw[show(y:Int)*4294967296=((y*4294967296:Nat):Int)by omega,h,Nat.or_comm,Nat.mul_comm y,←h2,Nat.add_comm]
theorem qkD(A:Option Addr)(c B s:Nat)(ds:List Nat)(w:World)(hB:B≤w.heap.size)(hc:ds.length≤c)(hl:ds.length≤900000)(hs:s≤31)(hr:qi w B 1 A ds.length (qf ds))(hd:qP ds):
 Calls Tryz.prog 174 #[.slice A ds.length c,.int .i64 (s:Int)] w (jT (val ds/2^s) w):=by
 have h1:=qU A c B ds w hc (by omega) hr hd;have r1:=jo hr hd;have l1:=qo hd;have g1:=qu (val ds);have v1:=qp (val ds);generalize val ds=x at*;by_cases hx0:x=0
 ·subst hx0;rw[qt]at h1;have H1:=Lib.hid h1;have k0:(0:Int)≤(s:Int):=by omega
  have k3:(s:Int)/32=0:=by omega
  have k4:(s:Int)%32=s:=by omega
  have k5:max (s:Int) 0=(s:Int):=by omega
  clear h1 g1 v1 hr hd r1 l1;rw[Nat.zero_div];go_enter Tryz.func174,Tryz.ntmps174
  go_wp2_with fail
  refine(H1.out).mono ?_;rintro e w1 ⟨rfl,rfl⟩;go_wp2_with fail
  go_ret
  exact⟨none,0,by rw[qt];rfl,by rw[qt];exact Nat.le_refl _,.inl qt,Below.refl _ _⟩
 ·have hl0:0<(dig x).length:=jw.2 (by omega);generalize dig x=a at*;have hpq:2^s*2^(32-s)=4294967296:=by rw[←Nat.pow_add,show s+(32-s)=32 by omega]
  have HVS:=Lib.hid (show val (Q7 (2^s) a)=x/2^s by rw[qc3 hpq g1,v1]);have HSD:=Lib.hid (qdm (2^s) a);have hsl:=qcR (2^s) a;have HSA:=Lib.hid (fun k (hk:k<a.length)=>qfo (2^s) (l:=a) hk);generalize hL:Q7 (2^s) a=L at*;clear hL hpq;have HSL:=Lib.hid hsl;clear hsl;have H1:=Lib.hid h1;have G1:=Lib.hid g1;have V1:=Lib.hid v1;clear h1 g1 v1 hr hd;have k1:(s:Int)≤31:=by omega
  have k0:(0:Int)≤(s:Int):=by omega
  have k3:(s:Int)/32=0:=by omega
  have k4:(s:Int)%32=s:=by omega
  have k5:max (s:Int) 0=(s:Int):=by omega
  have k6:(0:Int)<(a.length:Int):=by omega
  have k7:¬a=[]:=fun e=>by rw[e]at hl0;simp at hl0
  have hmk:=fun(W:World)=>Tryz.make_u32 a.length (by omega) W;go_enter Tryz.func174,Tryz.ntmps174
  go_wp2_with fail
  refine(H1.out).mono ?_;rintro e w1 ⟨rfl,rfl⟩;go_wp2_with fail
  clear hmk;have hbl0:Below w.heap.size w (w.alloc (.cells (qf (List.replicate a.length 0)).toArray 134)):=(Below.refl _ w).alloc (Nat.le_refl _) _;have hzb0:=qd.new w 134 (qf (List.replicate a.length 0)).toArray;clear k3 k4 k5;go_loopg [9,10,11,33] a.length (fun gn _ _ _ kv wr=>∃k:Nat,k≤a.length∧gn=a.length-k∧kv= .int .i64 k∧qd wr w.heap.size 134 (qf (L.take k++List.replicate (a.length-k) 0)).toArray∧Below w.heap.size w wr)
  case atStart=>exact⟨0,Nat.zero_le _,rfl,rfl,hzb0,hbl0⟩
  case round=>
   clear hzb0 hbl0;obtain⟨k,hk,hgk,rfl,hzb,hbl⟩:=hrel;have HG:=Lib.hid hgk;clear hgk;by_cases hlt:k<a.length
   ·obtain⟨b1,o1,rfl,q1,c1⟩:=jj (r1.below (hbl.mono hB)) (k:=k) hlt;have hxa:=jR G1.out k;have HDG:=Lib.hid (HSA.out k hlt);have c3:∃u,wr.cell? ⟨w.heap.size,k,none⟩=some (.int .u32 u):=by
     rw[hzb.cell k];have hlen:(L.take k++List.replicate (a.length-k) 0).length=a.length:=by
      rw[List.length_append,List.length_take,List.length_replicate,HSL.out];omega
     exact⟨_,jn _ _ (by rw[hlen];exact hlt)⟩
    obtain⟨u3,c3⟩:=c3;have f3:=hzb.frozen k;have z3:=hzb.lt;have i1:(k:Int)<(a.length:Int):=by omega
    have i0:(0:Int)≤(k:Int):=by omega
    have HSB:=Lib.hid (show qd (wr.setCell ⟨w.heap.size,k,none⟩ (.int .u32 ((L.getD k 0:Nat):Int))) w.heap.size 134 (qf (L.take (k+1)++List.replicate (a.length-(k+1)) 0)).toArray by
     rw[←qky HSL.out hlt,←je];exact hzb.set_ k _)
    have HBL:=Lib.hid (fun u=>hbl.setCell (p:=⟨w.heap.size,k,none⟩) (Nat.le_refl _) u);by_cases hk1:k+1<a.length
    ·have c2:wr.cell? ⟨b1,o1+(k+1),none⟩=some (.int .u32 ((a.getD (k+1) 0:Nat):Int)):=by
      obtain⟨b2,o2,e,_,c2⟩:=jj (r1.below (hbl.mono hB)) (k:=k+1) hk1
      injection e with e
      injection e with e1 e2
      subst e1;subst e2;exact c2
     have hya:=jR G1.out (k+1);generalize a.getD (k+1) 0=ya at*;generalize a.getD k 0=xa at*;have i3:(k:Int)+1<(a.length:Int):=by omega
     have hE:bits .or .u64 (xa:Int) ((ya:Int)*4294967296)/2^s%4294967296=((L.getD k 0:Nat):Int):=by
      rw[qlZ hxa hya,HDG.out];simp
     rw[←hE]at HSB;clear hE hzb hbl;go_wp2_with fail
     go_roundg (a.length-(k+1))
     case rel=>exact⟨k+1,by omega,rfl,by go_num,HSB.out,HBL.out _⟩
     case measure=>have:=HG.out;omega
    ·have hy0:a.getD (k+1) 0=0:=by
      rw[List.getD_eq_getElem?_getD,List.getElem?_eq_none (by omega)];rfl
     rw[hy0,Nat.mul_zero,Nat.add_zero]at HDG;generalize a.getD k 0=xa at*;have i3:¬(k:Int)+1<(a.length:Int):=by omega
     have hE:(xa:Int)/2^s%4294967296=((L.getD k 0:Nat):Int):=by
      rw[HDG.out];simp
     rw[←hE]at HSB;clear hE hzb hbl hy0;go_wp2_with fail
     go_roundg (a.length-(k+1))
     case rel=>exact⟨k+1,by omega,rfl,by go_num,HSB.out,HBL.out _⟩
     case measure=>have:=HG.out;omega
   ·obtain rfl:k=a.length:=by omega
    rw[Nat.sub_self,List.replicate_zero,List.append_nil,List.take_of_length_le (by rw[HSL.out];exact Nat.le_refl _)]at hzb;have hdz:=HSD.out;have hvz:=HVS.out;have hlz:=HSL.out;have hrd:=hzb.reads L.length (Nat.le_refl _);rw[List.take_length]at hrd;have htr:=qU (some ⟨w.heap.size,0,none⟩) a.length _ L _ (by omega) (by omega) hrd hdz;have hrd2:=(qk.of_blk hzb).dig hdz;have hll:=qo hdz;rw[hvz,hlz]at htr;rw[hvz]at hrd2 hll;generalize hV:x/2^s=V at*;have HTR:=Lib.hid htr;have HRD:=Lib.hid hrd2;have HLL:=Lib.hid (show(dig V).length≤a.length by omega);have HB:=Lib.hid hbl;clear htr hrd2 hll hrd hzb hbl hV hdz hvz hlz HSA;go_wp2_with fail
    refine(HTR.out).mono ?_;rintro e w5 ⟨rfl,rfl⟩;go_wp2_with fail
    go_ret
    exact⟨_,_,rfl,HLL.out,HRD.out,HB.out⟩
open Go.RowKit
theorem Est.eq{u w d:Nat}(h:Est u w d)(hw:0<w):d=min 4294967295 (u/w):=by
 have h1:d≤u/w:=(Nat.le_div_iff_mul_le hw).2 h.le;rcases h.ge with e|e
 ·omega
 ·have h2:u/w<d+1:=(Nat.div_lt_iff_lt_mul hw).2 e;have:=h.lt;omega
def qas(u2 u1 u0 v1 v2:Nat):Nat:=min 4294967295 (((u2*4294967296+u1)*4294967296+u0)/(v1*4294967296+v2))
theorem qiU(u2 u1 u0 v1 v2:Nat):qas u2 u1 u0 v1 v2<4294967296:=by unfold qas;omega
theorem qgr{u w:Nat}(hw:0<w):Est u w (min 4294967295 (u/w)) where
 lt:=by omega
 le:=(Nat.le_div_iff_mul_le hw).1 (Nat.min_le_right _ _)
 ge:=by
  by_cases h:u/w≤4294967295
  ·rw[Nat.min_eq_right h];exact .inr ((Nat.div_lt_iff_lt_mul hw).1 (Nat.lt_succ_self _))
  ·exact .inl (by omega)
theorem qcD(u2 u1 u0 v1 v2:Nat)(w:World)(h1:u1<4294967296)(h0:u0<4294967296)(g1:v1<4294967296)(g2:v2<4294967296)(hle:u2≤v1)(hv:0<v1):
 Calls Tryz.prog 171 #[.int .u32 (u2:Int),.int .u32 (u1:Int),.int .u32 (u0:Int),.int .u32 (v1:Int),.int .u32 (v2:Int)] w fun e w'=>e= .returned (.int .u32 ((qas u2 u1 u0 v1 v2:Nat):Int))∧qm w w':=by
 refine(qbU u2 u1 u0 v1 v2 w h1 h0 g1 g2 hle hv).mono ?_;rintro e w' ⟨d,rfl,he,hd⟩;have:=he.eq (by omega);unfold qas;rw[←this];exact⟨rfl,hd⟩
theorem qlQ(s:Nat)(h:s≤31):2^s≤2147483648:=by
 have:=Nat.pow_le_pow_right (n:=2) (by decide) h;simpa using this
theorem qlS{t:Nat}(h0:0<t)(h1:t<4294967296):∃s:Nat,s≤31∧32-(Lib.bitLen t:Int)=(s:Int)∧2147483648≤t*2^s∧(t+1)*2^s≤4294967296:=by
 obtain⟨b1,b2,b3⟩:=Lib.bitLenAux_bounds 64 t (by omega) (by omega);have b4:Lib.bitLen t≤32:=Lib.bitLen_le t 32 (by omega) (by omega);have e:Lib.bitLenAux 64 t=Lib.bitLen t:=rfl;rw[e]at b1 b2 b3;generalize Lib.bitLen t=b at*;refine⟨32-b,by omega,by omega,?_,?_⟩
 ·have:2^(b-1)*2^(32-b)≤t*2^(32-b):=Nat.mul_le_mul_right _ b2;rw[←Nat.pow_add,show b-1+(32-b)=31 by omega]at this;exact this
 ·have:(t+1)*2^(32-b)≤2^b*2^(32-b):=Nat.mul_le_mul_right _ b3;rw[←Nat.pow_add,show b+(32-b)=32 by omega]at this;exact this
theorem qkG{y n s:Nat}(hn:(dig y).length=n+1)(h1:2147483648≤(dig y).getD n 0*2^s)(h2:((dig y).getD n 0+1)*2^s≤4294967296):
 4294967296^n*2147483648≤y*2^s∧(dig (y*2^s)).length=n+1:=by
 have e:=qx (ds:=dig y) (k:=n) (by omega);rw[List.take_of_length_le (by omega),qp]at e;have l:=Jf (qu y) (k:=n) (by omega);generalize (dig y).getD n 0=t at*;generalize val ((dig y).take n)=r at*;generalize hP:(2:Nat)^s=P at*;generalize hK:(4294967296:Nat)^n=K at*;have a1:K*2147483648≤y*P:=by
  rw[e,Nat.add_mul,Nat.mul_assoc];exact Nat.le_trans (Nat.mul_le_mul_left K h1) (Nat.le_add_left _ _)
 have a2:y*P<K*4294967296:=by
  have:y<K*(t+1):=by rw[e,Nat.mul_add,Nat.mul_one];omega
  have hP0:0<P:=by rw[←hP];exact Nat.pow_pos (by decide)
  exact Nat.lt_of_lt_of_le (Nat.mul_lt_mul_of_pos_right this hP0) (by rw[Nat.mul_assoc];exact Nat.mul_le_mul_left K h2)
 refine⟨a1,Nat.le_antisymm (qC (by rw[Nat.pow_succ,hK];exact a2)) ?_⟩;rcases Nat.lt_or_ge n (dig (y*P)).length with h|h
 ·exact h
 ·have l3:=qT (qu (y*P));rw[qp]at l3;have l4:=Nat.pow_le_pow_right (n:=4294967296) (by decide) h;rw[hK]at l4;have:0<K:=by rw[←hK];exact Nat.pow_pos (by decide)
  omega
theorem qka(x s:Nat)(hs:s≤31):(dig (x*2^s)).length≤(dig x).length+1∧x*2^s<4294967296^(dig x).length*2147483648:=by
 have l:=qT (qu x);rw[qp]at l;have h:=qlQ s hs;have hp:0<2^s:=Nat.pow_pos (by decide);have a:x*2^s<4294967296^(dig x).length*2147483648:=Nat.lt_of_lt_of_le (Nat.mul_lt_mul_of_pos_right l hp) (Nat.mul_le_mul_left _ h);refine⟨qC ?_,a⟩;rw[Nat.pow_succ];exact Nat.lt_of_lt_of_le a (Nat.mul_le_mul_left _ (by decide))
theorem qfI{v m:Nat}:val (dig v++List.replicate m 0)=v:=by rw[qL,yd,Nat.mul_zero,Nat.add_zero,qp]
theorem qjK{v m:Nat}:qP (dig v++List.replicate m 0):=fun d hd=>by
 rcases List.mem_append.1 hd with h|h
 ·exact qu v d h
 ·rw[(List.mem_replicate.1 h).2];decide
theorem qeZ{v m:Nat}:splice (qf (List.replicate m 0)) 0 (qf (dig v))=qf (dig v++List.replicate (m-(dig v).length) 0):=by
 simp[splice,qf]
theorem qg1(x y s:Nat):x*2^s/(y*2^s)=x/y:=Nat.mul_div_mul_right _ _ (Nat.pow_pos (by decide))
theorem qgQ(x y s:Nat):x*2^s%(y*2^s)/2^s=x%y:=by
 rw[Nat.mul_mod_mul_right,Nat.mul_div_cancel _ (Nat.pow_pos (by decide))]
theorem qey{y:Nat}(h:(dig y).length=1):(dig y).getD 0 0=y∧0<y∧y<4294967296:=by
 have h0:y≠0:=fun e=>by rw[e,qt]at h;simp at h
 have l:=qT (qu y);rw[qp,h]at l;refine⟨?_,by omega,by simpa using l⟩;rw[JT h0];simp;simpa using l
theorem qfn{y n:Nat}(h:(dig y).length=n+1):0<(dig y).getD n 0:=by
 have ht:=qaD y;generalize dig y=l at*;have hne:l≠[]:=fun e=>by rw[e]at h;simp at h
 have:=ht hne;rw[List.getLast_eq_getElem]at this;rw[List.getD_eq_getElem?_getD,List.getElem?_eq_getElem (by omega)];simp only[h,Nat.add_sub_cancel]at this;simp only[Option.getD_some];omega
theorem qiY(t s:Nat)(w:World)(h:t<4294967296)(hz:32-(Lib.bitLen t:Int)=(s:Int)):
 Calls Tryz.prog 169 #[.int .u32 (t:Int)] w fun e w'=>e= .returned (.int .i64 (s:Int))∧w'=w:=by
 have:=Tryz.bits_LeadingZeros32 (t:Int) w (by omega) (by omega);rwa[Int.toNat_natCast,hz]at this
theorem qjW{zv dv pv K b:Nat}(hz:zv<K)(hb:b≤1)(he:zv+dv=pv+K*b)(hl:dv≤pv):b=0∧zv+dv=pv:=by
 rcases(by omega:b=0∨b=1)with rfl|rfl
 ·exact⟨rfl,by omega⟩
 ·omega
theorem qjj{zv dv pv K b:Nat}(hb:b≤1)(he:zv+dv=pv+K*b)(hl:pv<dv):b=1:=by
 rcases(by omega:b=0∨b=1)with rfl|rfl
 ·omega
 ·rfl
theorem qkd{zv zw dv pv K V b:Nat}(hb:b≤1)(hw:zw<K)(he:zv+(dv+V)=pv+K)(hf:zw+K*b=zv+V)(hl:dv≤pv)(hv:pv-dv<V):zw+dv=pv∧zw<V:=by
 rcases(by omega:b=0∨b=1)with rfl|rfl
 ·omega
 ·omega
theorem qhh{us zs:List Nat}{i n:Nat}(hz:zs.length=n+1)(hl:i≤us.length):jz (us.take i++(zs++us.drop (i+(n+1)))) n i=zs:=by
 have hj:(us.take i).length=i:=by rw[List.length_take];omega
 unfold jz;rw[List.drop_append_of_le_length (by omega),show(us.take i).drop i=[]from List.drop_of_length_le (by omega),List.nil_append,←hz,List.take_left]
theorem qkf{us zs zt:List Nat}{i n:Nat}(hz:zs.length=n+1)(hl:i≤us.length):
 (us.take i++(zs++us.drop (i+(n+1)))).take i++(zt++(us.take i++(zs++us.drop (i+(n+1)))).drop (i+(n+1)))=us.take i++(zt++us.drop (i+(n+1))):=by
 have hj:(us.take i).length=i:=by rw[List.length_take];omega
 have h1:(us.take i++(zs++us.drop (i+(n+1)))).take i=us.take i:=by
  rw[List.take_append_of_le_length (by omega),List.take_of_length_le (by omega)]
 have h2:(us.take i++(zs++us.drop (i+(n+1)))).drop (i+(n+1))=us.drop (i+(n+1)):=by
  rw[←List.append_assoc,List.drop_append_of_le_length (by rw[List.length_append];omega),List.drop_of_length_le (by rw[List.length_append];omega),List.nil_append]
 rw[h1,h2]
