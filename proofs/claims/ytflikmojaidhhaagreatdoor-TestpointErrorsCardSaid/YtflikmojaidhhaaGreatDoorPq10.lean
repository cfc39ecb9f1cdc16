import Derived.RangeFuncNested
import Derived.RangeFuncBound
import Derived.RangeFuncCalls
import Derived.RangeFuncLeaves
import Derived.Shelf.Abstract
import Derived.Shelf.RegionOpen
import Derived.OwnWalkIn
import Derived.TacticsInMore
import Derived.LoopNIn
import Derived.LoopIn
import Derived.Sort.LoopGhostIn
import Derived.Test.YtflikmojaidhhaaGreatDoorPq07
import Derived.Test.YtflikmojaidhhaaGreatDoorPq09
import Derived.Test.YtflikmojaidhhaaGreatDoorPqA
namespace Go.Proofs.YtflikmojaidhhaaGreatDoor
open Go.RowKit
structure YF (w w':World) (g:Nat):Prop where
 other:∀g' t cs,g'≠g->qf w g' t cs->qf w' g' t cs
 below:∀B b,Below B b w->B<=g->Below B b w'
theorem YF.refl(w:World)(g:Nat):YF w w g:=⟨fun _ _ _ _ h=>h,fun _ _ h _=>h⟩
theorem YF.set{w w':World}{g:Nat}(h:YF w w' g)(k:Nat)(v:Value):YF w (w'.setCell ⟨g,k,none⟩ v) g:=
 ⟨fun g' t cs hg hb=>(h.other g' t cs hg hb).far hg _,fun B b hb hB=>(h.below B b hb hB).setCell hB _⟩
structure qf2 (zs:List Nat) (n i c X:Nat):Prop where
 len:zs.length=n
 dg:jg zs
 sum:val zs+4294967296^i*c=X
 carry:c<=1
theorem qf2.step{zs:List Nat}{n i c X y:Nat}(h:qf2 zs n i c X)(hi:i<n)(hy:y<4294967296):
 qf2 (zs.set i ((zs.getD i 0+y+c)%4294967296)) n (i+1) ((zs.getD i 0+y+c)/4294967296) (X+4294967296^i*y):=by
 have hc:=h.carry;have hz:=jV h.dg i;refine⟨by simp[h.len],fun d hd=>?_,?_,by omega⟩
 ·rcases List.mem_or_eq_of_mem_set hd with hd|rfl
  ·exact h.dg d hd
  ·exact Nat.mod_lt _ (by decide)
 ·have hv:=Jb (ds:=zs) (k:=i) (by rw[h.len];exact hi) ((zs.getD i 0+y+c)%4294967296);have h0:=h.sum;obtain⟨s,hs⟩:∃s,s=(zs.getD i 0+y+c)%4294967296:=⟨_,rfl⟩;obtain⟨o,ho⟩:∃o,o=(zs.getD i 0+y+c)/4294967296:=⟨_,rfl⟩;rw[<-hs]at hv ⊢;rw[<-ho];have e:zs.getD i 0+y+c=s+4294967296*o:=by omega
  clear hs ho;generalize zs.getD i 0=z at*;have e2:4294967296^i*(z+y+c)=4294967296^i*(s+4294967296*o):=by rw[e]
  rw[Nat.mul_add,Nat.mul_add,Nat.mul_add,<-Nat.mul_assoc]at e2;rw[Nat.pow_succ];omega
def qkP(w:World)(g:Nat)(A:Oa)(es:List Nat):Prop:=
 es=[]∨∃h xs,A=some ⟨h,0,none⟩/\h≠g/\qf w h 123 (qp xs).toArray/\es=xs.take es.length
theorem qj9{w wr:World}{g:Nat}{A:Oa}{es:List Nat}(h:qkP w g A es)(hi:YF w wr g){k:Nat}(hk:k<es.length):
 ∃b,A=some ⟨b,0,none⟩/\b<wr.heap.size/\wr.cell? ⟨b,k,none⟩=some (.int .u32 ((es.getD k 0:Nat):Int)):=by
 rcases h with rfl|⟨b,xs,rfl,hg,hb,he⟩
 ·simp at hk
 ·have Xf:=hi.other _ _ _ hg hb;have hl:es.length<=xs.length:=by
   have:=congrArg List.length he;rw[List.length_take]at this;omega
  refine⟨b,rfl,Xf.lt,?_⟩;rw[Xf.cell k];refine(jC xs k (by omega)).trans ?_;have e:es.getD k 0=xs.getD k 0:=by
   rw[List.getD_eq_getElem?_getD,List.getD_eq_getElem?_getD]
   conv=>lhs;rw[he]
   rw[List.getElem?_take];simp[hk]
  rw[e]
set_option maxHeartbeats 2000000
set_option maxRecDepth 100000
theorem Zj(g o m cz:Nat)(zs:List Nat)(A:Oa)(c:Nat)(es:List Nat)(w:World)(hm:o+m=zs.length)(hl:zs.length<=1000000)(hem:es.length<=m)
 (hz:qf w g 123 (qp zs).toArray)(gz:jg zs)(ge:jg es)(hx:qkP w g A es)(UZ:val zs+4294967296^o*val es<4294967296^zs.length):
 Calls Tryz.prog 165 #[.slice (some ⟨g,o,none⟩) m cz,.slice A es.length c] w fun e w'=>e= .returned (.tuple #[])/\YF w w' g/\∃zs',zs'.length=zs.length/\jg zs'/\val zs'=val zs+4294967296^o*val es/\qf w' g 123 (qp zs').toArray:=by
 have GE:=Gh ge;have HX:=Gh hx;have TA:=Gh UZ;have Rt:=Gh (show qf2 zs zs.length (o+0) 0 (val zs+4294967296^o*val (es.take 0))from⟨rfl,gz,by simp[val],by omega⟩);have BT:=Gh hz;clear ge hx UZ gz hz;go_enter Tryz.func165,Tryz.ntmps165
 go_wp2_with fail
 go_loopg [4,5,6,10] es.length (fun gn cy _ _ j wr=>∃(k:Nat)(zt:List Nat)(q:Nat),k<=es.length/\gn=es.length-k/\j= .int .i64 k/\cy= .int .u32 (q:Int)/\qf2 zt zs.length (o+k) q (val zs+4294967296^o*val (es.take k))/\qf wr g 123 (qp zt).toArray/\YF w wr g)
 case atStart=>exact⟨0,zs,0,Nat.zero_le _,rfl,rfl,rfl,Rt,BT,YF.refl _ _⟩
 case round=>
  clear Rt BT;obtain⟨k,zt,q,hk,XG,rfl,rfl,Xs,XD,Un⟩:=hrel;have HG:=Gh XG;clear XG;have hq:=Xs.carry;by_cases Xi:k<es.length
  ·obtain⟨b1,rfl,q1,c1⟩:=qj9 HX Un Xi;have hy:=jV GE k;have HT:=Gh (qE (ds:=es) (k:=k) Xi);have Ur:o+k<zt.length:=by rw[Xs.len];omega
   have c3:wr.cell? ⟨g,o+k,none⟩=some (.int .u32 ((zt.getD (o+k) 0:Nat):Int)):=(XD.cell (o+k)).trans (jC _ _ Ur);have RK:=jV Xs.dg (o+k);have f3:=XD.frozen (o+k);have z1:=XD.lt;generalize es.getD k 0=y at*;have HN:=Gh (Xs.step (by omega) hy);have HA:=Gh (yD (zt.getD (o+k) 0) y q RK hy hq);generalize zt.getD (o+k) 0=z at*;generalize (z+y+q)%4294967296=s at*;generalize (z+y+q)/4294967296=cy at*;have EQ:=Gh XD;have Rl:=Gh Un;clear Xs XD Un RK hy;have i1:(k:Int)<es.length:=by omega
   have i2:(k:Int)<(m:Int):=by omega
   go_wp2_with fail
   refine(HA _).mono ?_;rintro e w1 ⟨rfl,rfl⟩;go_wp2_with fail
   go_roundg (es.length-(k+1))
   case rel=>
    refine⟨k+1,zt.set (o+k) s,cy,by omega,rfl,by go_num,rfl,?_,?_,Rl.out.set _ _⟩
    ·have h:=HN.out;rw[HT,Nat.mul_add,<-Nat.mul_assoc,<-Nat.pow_add];rw[Nat.add_assoc (val zs)]at h;exact h
    ·rw[<-jw];exact EQ.out.set_ (o+k) _
   case measure=>have:=HG.out;omega
  ·obtain rfl:k=es.length:=by omega
   rw[List.take_length]at Xs;have Rt:=Gh Xs;clear Xs;go_wp2_with fail
   go_loopg [4,7] (m-es.length) (fun gn cy i wr=>∃(k:Nat)(zt:List Nat)(q:Nat),es.length<=k/\k<=m/\gn=m-k/\i= .int .i64 k/\cy= .int .u32 (q:Int)/\qf2 zt zs.length (o+k) q (val zs+4294967296^o*val es)/\qf wr g 123 (qp zt).toArray/\YF w wr g)
   case atStart=>exact⟨es.length,zt,q,Gr _,hem,rfl,rfl,rfl,Rt,XD,Un⟩
   case round=>
    clear Rt XD Un hq HG;obtain⟨k,zt,q,hek,hk,XG,rfl,rfl,Xs,XD,Un⟩:=hrel;have HG:=Gh XG;clear XG;have hq:=Xs.carry;by_cases Ds:q=0
    ·subst Ds;have XH:=Gh Xs;have EQ:=Gh XD;have Rl:=Gh Un;clear Xs XD Un;go_wp2_with fail
     first|(refine bodyPost_end (v:= .tuple #[]) (results_none rfl _ _ _) rfl ?_)|(refine bodyPost_ret (v:= .tuple #[]) (results_none rfl _ _ _) rfl ?_)
     refine⟨rfl,?_⟩;exact⟨Rl,zt,XH.out.len,XH.out.dg,by have:=XH.out.sum;rw[Nat.mul_zero,Nat.add_zero]at this;exact this,EQ⟩
    ·obtain rfl:q=1:=by omega
     by_cases Xi:k<m
     ·have Ur:o+k<zt.length:=by rw[Xs.len];omega
      have c3:wr.cell? ⟨g,o+k,none⟩=some (.int .u32 ((zt.getD (o+k) 0:Nat):Int)):=(XD.cell (o+k)).trans (jC _ _ Ur);have RK:=jV Xs.dg (o+k);have f3:=XD.frozen (o+k);have z1:=XD.lt;have HN:=Gh (Xs.step (y:=0) (by omega) (by omega));have HA:=Gh (yD (zt.getD (o+k) 0) 0 1 RK (by omega) (by omega));generalize zt.getD (o+k) 0=z at*;generalize (z+0+1)%4294967296=s at*;generalize (z+0+1)/4294967296=cy at*;have EQ:=Gh XD;have Rl:=Gh Un;clear Xs XD Un RK;have i2:(k:Int)<(m:Int):=by omega
      go_wp2_with fail
      refine(HA _).mono ?_;rintro e w1 ⟨rfl,rfl⟩;go_wp2_with fail
      go_roundg (m-(k+1))
      case rel=>
       refine⟨k+1,zt.set (o+k) s,cy,by omega,by omega,rfl,by go_num,rfl,?_,?_,Rl.out.set _ _⟩
       ·have h:=HN.out;rw[Nat.mul_zero,Nat.add_zero]at h;exact h
       ·rw[<-jw];exact EQ.out.set_ (o+k) _
      case measure=>have:=HG.out;omega
     ·exfalso;obtain rfl:k=m:=by omega
      have h:=Xs.sum;have h2:=TA.out;rw[hm]at h;omega
theorem yc{w:World}{B b o c:Nat}{l:List Nat}(h:qx w B (some ⟨b,o,none⟩) c l){k:Nat}(hk:k<=l.length):qx w B (some ⟨b,o,none⟩) c (l.take k):=by
 refine⟨⟨by simp[qp],fun hp=>?_⟩,fun d hd=>h.dg d (List.mem_of_mem_take hd),?_⟩
 ·rw[List.length_take]at hp;obtain⟨b1,o1,e,hb,hc⟩:=h.rd.2 (by omega);refine⟨b1,o1,e,hb,fun j u hu=>hc j u ?_⟩;simp[qp,List.getElem?_take]at hu ⊢;exact hu.2
 ·have:=h.cap;rw[List.length_take];omega
theorem yd{w:World}{B b o c:Nat}{l:List Nat}(h:qx w B (some ⟨b,o,none⟩) c l){k:Nat}(hk:k<=l.length):qx w B (some ⟨b,o+k,none⟩) (c-k) (l.drop k):=by
 refine⟨⟨by simp[qp],fun hp=>?_⟩,fun d hd=>h.dg d (List.mem_of_mem_drop hd),?_⟩
 ·rw[List.length_drop]at hp;obtain⟨b1,o1,e,hb,hc⟩:=h.rd.2 (by omega)
  injection e with e;injection e with e1 e2 _;subst e1;subst e2
  refine⟨b,o+k,rfl,hb,fun j u hu=>?_⟩;rw[Nat.add_assoc];refine hc (k+j) u ?_;simp[qp,List.getElem?_drop]at hu ⊢;exact hu
 ·have:=h.cap;rw[List.length_drop];omega
theorem qeT{a b:List Nat}(ha:jg a)(hb:jg b):jg (a++b):=fun d hd=>by
 rcases List.mem_append.1 hd with h|h
 ·exact ha d h
 ·exact hb d h
theorem qia(n:Nat):jg (List.replicate n 0):=fun d hd=>by have:=List.eq_of_mem_replicate hd;omega
theorem zS(l:List Nat):(qp l).length=l.length:=by simp[qp]
theorem qcQ(zs xs:List Nat)(o:Nat):splice (qp zs) o (qp xs)=qp (zs.take o++xs++zs.drop (o+xs.length)):=by
 simp[splice,qp,List.map_take,List.map_drop]
theorem qhV(al ah bl bh:Nat):(al+ah)*(bl+bh)-(al*bl+ah*bh)=al*bh+ah*bl/\al*bl+ah*bh<=(al+ah)*(bl+bh):=by
 have e:(al+ah)*(bl+bh)=al*bl+ah*bh+(al*bh+ah*bl):=by
  rw[Nat.add_mul,Nat.mul_add,Nat.mul_add];omega
 omega
theorem qiU(al ah bl bh P:Nat):al*bl+P*P*(ah*bh)+P*(al*bh+ah*bl)=(al+P*ah)*(bl+P*bh):=by
 rw[Nat.add_mul,Nat.mul_add,Nat.mul_add,Nat.mul_add];have e1:al*(P*bh)=P*(al*bh):=Nat.mul_left_comm _ _ _;have e2:P*ah*bl=P*(ah*bl):=Nat.mul_assoc _ _ _;have e3:P*ah*(P*bh)=P*P*(ah*bh):=Nat.mul_mul_mul_comm _ _ _ _;rw[e1,e2,e3];omega
theorem qa0{P m n k v:Nat}(hP:P=4294967296^k)(hn:n=k+m)(h:P*v<4294967296^n):v<4294967296^m:=by
 rw[hn,Nat.pow_add,<-hP]at h;exact Nat.lt_of_mul_lt_mul_left h
theorem qfj{b g:Nat}{w:World}{A:Oa}{ds:List Nat}(h:zA b w A ds)(hg:g<b):qkP w g A ds:=by
 rcases h with rfl|⟨k,zs,rfl,hk,hb,he⟩
 ·exact .inl rfl
 ·exact .inr ⟨k,zs,rfl,by omega,hb,he⟩
def qi3(w:World)(B n X:Nat)(u v:Value):Prop:=
 ∃(A A':Oa)(c c':Nat)(a b:List Nat),u= .slice A a.length c/\v= .slice A' b.length c'/\b.length<=a.length/\a.length+b.length=n/\qx w B A c a/\qx w B A' c' b/\val a*val b=X
def qhw(n:Nat):Prop:=∀(A A':Oa)(c c' B:Nat)(a b:List Nat)(w:World),a.length+b.length<n->B<=w.heap.size->qx w B A c a->qx w B A' c' b->
 Calls Tryz.prog 140 #[.slice A a.length c,.slice A' b.length c'] w (qaa (a.length+b.length) (val a*val b) w)
theorem zA.into{b g:Nat}{w w':World}{A:Oa}{ds:List Nat}(h:zA b w A ds)(hg:g<b)(hi:YF w w' g):zA b w' A ds:=by
 rcases h with rfl|⟨k,zs,rfl,hk,hb,he⟩
 ·exact .inl rfl
 ·exact .inr ⟨k,zs,rfl,hk,hi.other _ _ _ (by omega) hb,he⟩
theorem yT{P:Program}{w:World}{ops:Array Oper}{rest:List Oper}{o:Oper}{a:Act}{Q:Exit->Act->World->Prop}(XF:o.guard=none)(d s:Operand)(dT sT:TypeId)
 (ho:o.op= .call {callee:= .builtin .copy,args:=#[d,s],argTypes:=#[dT,sT]})(elem:TypeId)(hu:P.underlying dT=some (.slice elem))(XV:(P.info? elem).map (·.size)=some 1)
 (dp sp:Oa)(dLen dCap sLen sCap:Nat)(hd:a.eval d= .slice dp dLen dCap)(hs:a.eval s= .slice sp sLen sCap)
 (g off:Nat)(cur:List Value)(t:TypeId)(hg:qf w g t cur.toArray)(cs:List Value)(hn:cs.length=Nat.min sLen dLen)
 (SC:0<cs.length->dp=some ⟨g,off,none⟩/\∃ad,sp=some ad/\∀j v,cs[j]? =some v->w.cell? (ad.add j)=some v)
 (UZ:off+cs.length<=cur.length)(h1:∀v∈cs,v.oneCell'=true)
 (h:∀w',Hid (qf w' g t (splice cur off cs).toArray)->YF w w' g->wpList P ops Q rest (a.put o.dst (goInt cs.length)) w'):
 wpList P ops Q (o::rest) a w:=by
 by_cases h0:cs.length=0
 ·obtain rfl:cs=[]:=List.eq_nil_of_length_eq_zero h0;refine wpList_copy_nothing XF d s dT sT ho elem hu XV dp sp dLen dCap sLen sCap hd hs (by simpa using hn.symm) ?_;exact h w (show qf _ _ _ _ by simpa[splice]using hg) (YF.refl _ _)
 ·obtain⟨rfl,ad,rfl,SB⟩:=SC (by omega);refine wpList_copy_own XF d s dT sT ho elem hu XV g off dLen dCap ad sLen sCap hd hs cur.toArray t hg cs hn SB (by simpa using UZ) h1 ?_;refine h _ (show _=_ by simpa[splice]using setRow_heap w g _ _ t _ hg) ⟨fun g' t' cs' Xl hb=>(setRow_other w g g' _ Xl).trans hb,fun B b hb hB=>below_setRow hb hB _⟩
theorem qh4{w:World}{A:Oa}{c:Nat}{ds:List Nat}(h:qL w A ds)(hd:jg ds)(hc:ds.length<=c):qx w w.heap.size A c ds:=⟨h.reads,hd,hc⟩
theorem qdS{z1 z2:List Nat}{n h:Nat}(h1:z1.length=h)(h2:z2.length=n-h)(hn:h<=n):splice (qp (z1++List.replicate (n-h) 0)) h (qp z2)=qp (z1++z2):=by
 rw[qcQ]
 congr 1
 subst h1;rw[List.take_left,List.append_assoc]
 congr 1
 rw[List.drop_of_length_le (by rw[List.length_append,List.length_replicate,h2];omega),List.append_nil]
theorem qcf{w:World}{A:Oa}{ds:List Nat}(h:qL w A ds):0<(qp ds).length->∃ad,A=some ad/\∀j v,(qp ds)[j]? =some v->w.cell? (ad.add j)=some v:=fun hp=>by
 obtain⟨b,o,e,_,XM⟩:=h.reads.2 (by simpa[qp]using hp);refine⟨⟨b,o,none⟩,e,fun j v hv=>?_⟩;have h1:=XM j v hv;have e3:(⟨b,o,none⟩:Addr).add j=⟨b,o+j,none⟩:=by simp[Addr.add]
 rw[e3];exact h1
theorem qaB{zs:List Nat}{m n:Nat}(h:zs.length=m)(Vo:m<=n):(qp zs).length=Nat.min m n:=by
 rw[zS,h];exact(Nat.min_eq_left Vo).symm
theorem Za{zs:List Nat}{n m:Nat}(h:zs.length=m):splice (qp (List.replicate n 0)) 0 (qp zs)=qp (zs++List.replicate (n-m) 0):=by
 rw[qcQ];simp[h]
theorem qdT{zs:List Nat}{k:Nat}:val (zs++List.replicate k 0)=val zs:=by rw[ja,yj,Nat.mul_zero,Nat.add_zero]
theorem qaa.zero{w w':World}{n:Nat}(hb:qf w' w.heap.size 123 (qp (List.replicate n 0)).toArray)(h:Below w.heap.size w w'):qaa n 0 w (.returned (.slice (some ⟨w.heap.size,0,none⟩) n n)) w':=
 ⟨some ⟨w.heap.size,0,none⟩,n,List.replicate n 0,by rw[List.length_replicate],by rw[List.length_replicate];exact Gr _,List.length_replicate ..,qia n,yj n,.of_blk (Gr _) hb,h⟩
theorem Jt{w:World}{B c:Nat}{A:Oa}{ds:List Nat}(h:qx w B A c ds)(hm:ds.length<=900000){bv:Bool}(hv:(val ds==0)=bv)(W:World)(hB:B<=w.heap.size)(hW:Below w.heap.size w W):
 Calls Tryz.prog 85 #[.slice A ds.length c] W fun e w'=>e= .returned (.bool bv)/\W=w':=by
 have h2:=h.below (hW.mono hB);have:=qaC A c B ds W h2.cap (by omega) h2.rd h2.dg;rwa[hv]at this
set_option maxHeartbeats 4000000
theorem qb8(n:Nat)(hIH:qhw n)(A A':Oa)(c c' B:Nat)(a b:List Nat)(w:World)(hn:a.length+b.length=n)(hB:B<=w.heap.size)(hm:n<=900000)(h:qx w B A c a)(h':qx w B A' c' b):
 Calls Tryz.prog 140 #[.slice A a.length c,.slice A' b.length c'] w (qaa n (val a*val b) w):=by
 have U5:=Gh hIH;have HI:=Gh h;have WW:=Gh h';obtain⟨X,hX⟩:∃X,val a*val b=X:=⟨_,rfl⟩;rw[hX];have HX:=Gh hX;clear hIH h h' hX;go_enter Tryz.func140,Tryz.ntmps140
 go_upto_if 14 with(fail)
 go_cut [0,1] (fun u v wc=>qi3 w B n X u v/\wc=w)
 case first=>
  by_cases Xi:a.length<b.length
  ·go_wp2_with fail
   go_meet
   case rel=>exact⟨⟨A',A,c',c,b,a,rfl,rfl,by omega,by omega,WW,HI,by rw[Nat.mul_comm];exact HX⟩,rfl⟩
  ·go_wp2_with fail
   go_meet
   case rel=>exact⟨⟨A,A',c,c',a,b,rfl,rfl,by omega,by omega,HI,WW,HX⟩,rfl⟩
 case rest=>
  clear HI WW HX hn;obtain⟨⟨A,A',c,c',a,b,rfl,rfl,Tc,hn,h,h',hX⟩,rfl⟩:=hcut;by_cases h48:b.length<48
  ·have hs:=qeQ A' A c' c B b a wc hB (by omega) h'.rd h.rd h'.dg h.dg;rw[Nat.add_comm b.length,hn,Nat.mul_comm,hX]at hs;have HS:=Gh hs;clear h h' hX hs hn U5;go_wp2_with fail
   refine HS.out.mono ?_;rintro e w1 ⟨A1,c1,zs,rfl,k1,k2,k3,k4,k5,k6⟩;have K2:=Gh k2;have K3:=Gh k3;have K4:=Gh k4;have K5:=Gh k5;have K6:=Gh k6;clear k2 k3 k4 k5 k6 HS;go_wp2_with fail
   go_ret
   exact⟨A1,c1,zs,rfl,k1,K2,K3,K4,K5,K6⟩
  ·have BS:a.length+b.length<=900000:=by omega
   have Uz:=fun(W:World)=>Tryz.make_u32 (a.length+b.length) (by omega) W;rw[show((a.length+b.length:Nat):Int)=(a.length:Int)+(b.length:Int)by omega]at Uz;have Xq:=Gb wc (.cells (qp (List.replicate (a.length+b.length) 0)).toArray 123);have EQ:=Gh (qf.new wc 123 (qp (List.replicate (a.length+b.length) 0)).toArray);have Uq:=Gh Xq;by_cases za:val a=0
   ·have HZ:=Gh (Jt h (by omega) (bv:=true) (by rw[za];rfl) _ hB Xq);have HX:=Gh (show X=0 by rw[<-hX,za,Nat.zero_mul]);have HN:=Gh hn;clear h h' hX hn Xq za;go_wp2_with fail
    refine HZ.out.mono ?_;rintro e w1 ⟨rfl,rfl⟩;go_wp2_with fail
    go_ret
    rw[HX,<-HN.out];exact qaa.zero EQ Uq.out
   ·have Mf:(val a==0)=false:=by simpa using za
    by_cases zb:val b=0
    ·have HZ:=Gh (Jt h (by omega) Mf _ hB Xq);have ME:=Gh (Jt h' (by omega) (bv:=true) (by rw[zb];rfl) _ hB Xq);have HX:=Gh (show X=0 by rw[<-hX,zb,Nat.mul_zero]);have HN:=Gh hn;clear h h' hX hn Xq za zb Mf;go_wp2_with fail
     refine HZ.out.mono ?_;rintro e w1 ⟨rfl,rfl⟩;go_wp2_with fail
     refine ME.out.mono ?_;rintro e w1 ⟨rfl,rfl⟩;go_wp2_with fail
     go_ret
     rw[HX,<-HN.out];exact qaa.zero EQ Uq.out
    ·have HZ:=Gh (Jt h (by omega) Mf _ hB Xq);have ME:=Gh (Jt h' (by omega) (bv:=false) (by simpa using zb) _ hB Xq);obtain⟨ba,oa,rfl,_,_⟩:=h.rd.2 (by omega);obtain⟨bb,ob,rfl,_,_⟩:=h'.rd.2 (by omega);obtain⟨half,At⟩:∃half,half=(a.length+1)/2:=⟨_,rfl⟩;have hhI:((a.length:Int)+1)/2=(half:Int):=by omega
     clear za zb Mf;have hha:half<a.length:=by omega
     have Rc:half<=a.length:=by omega
     have lt:(a.take half).length=half:=by rw[List.length_take];omega
     have ld:(a.drop half).length=a.length-half:=List.length_drop ..;have Sm:X<4294967296^(a.length+b.length):=by rw[<-hX,Nat.pow_add];exact Nat.mul_lt_mul'' (jr h.dg) (jr h'.dg)
     have hcut:val a=val (a.take half)+4294967296^half*val (a.drop half):=by
      conv=>lhs;rw[<-List.take_append_drop half a]
      rw[ja,lt]
     have i1:(half:Int)<=(c:Int):=by have:=h.cap;omega
     have i2:(half:Int)<=(a.length:Int):=by omega
     have e1:¬(c=half):=by have:=h.cap;omega
     have e2:¬(a.length+b.length=half):=by omega
     have i3:(half:Int)<=(a.length:Int)+(b.length:Int):=by omega
     by_cases hu:b.length<=half
     ·have F8:=fun(W:World)(hW:Below wc.heap.size wc W)=>U5 (some ⟨ba,oa,none⟩) (some ⟨bb,ob,none⟩) c c' B (a.take half) b W (by rw[lt];omega) (Gl hB hW.size) ((yc h Rc).below (hW.mono hB)) (h'.below (hW.mono hB));have F7:=fun(W:World)(hW:Below wc.heap.size wc W)=>U5 (some ⟨ba,oa+half,none⟩) (some ⟨bb,ob,none⟩) (c-half) c' B (a.drop half) b W (by rw[ld];omega) (Gl hB hW.size) ((yd h Rc).below (hW.mono hB)) (h'.below (hW.mono hB));rw[lt]at F8;rw[ld]at F7;have PK:val (a.take half)*val b+4294967296^half*(val (a.drop half)*val b)=X:=by rw[<-hX,hcut,Nat.add_mul,Nat.mul_assoc]
      have R7:(dig (val (a.drop half)*val b)).length<=a.length+b.length-half:=by
       refine qK (qa0 (k:=half) rfl (show a.length+b.length=half+_ by omega) ?_);omega
      have Ey:=Gh F8;have DK:=Gh F7;have B6:=Gh R7;have Vl:=Gh PK;have MF:=Gh Sm;have HN:=Gh hn;have Rq:=Gh (And.intro hha (And.intro hu BS));clear h h' hX hn F8 F7 R7 PK Sm hcut lt ld At U5;generalize val (a.take half)=al at*;generalize val (a.drop half)=ah at*;generalize val b=bv at*;go_wp2_with fail
      refine HZ.out.mono ?_;rintro e w1 ⟨rfl,rfl⟩;go_wp2_with fail
      refine ME.out.mono ?_;rintro e w1 ⟨rfl,rfl⟩;go_wp2_with fail
      refine(Ey _ Uq).mono ?_;rintro e w1 ⟨A1,c1,z1,rfl,k1,k2,k3,k4,k5,k6⟩;have Kn:=Gh (EQ.out.old k6);have Ud:=Gh (qaB (n:=a.length+b.length) (rfl:z1.length=z1.length) (by have:=Rq.out;omega));have Tz:=Gh (qcf k5.nat);have TA:=Gh (show 0+(qp z1).length<=(qp (List.replicate (a.length+b.length) 0)).length by rw[zS,zS,List.length_replicate];have:=Rq.out;omega);have UK:=Gh (Uq.out.trans (k6.mono Xq.size));have K2:=Gh k2;have K3:=Gh k3;have K4:=Gh k4;clear k1 k2 k3 k4 k5 k6 Ey HZ ME EQ Uq Xq;go_wp2_with (first|(guard_target =~ wpList _ _ _ (Oper.mk (some 50) _ _ _ _ _::_) _ _;refine yT (o:=⟨some 50,_,_,_,_,_⟩) rfl (.tmp 44) (.tmp 49) 23 23 rfl 123 Tryz.underlying23 Tryz.size_u32 _ _ (a.length+b.length) (a.length+b.length) z1.length c1 rfl rfl wc.heap.size 0 _ 123 Kn (qp z1) Ud (fun hp=>⟨rfl,Tz hp⟩) TA (Qe _) ?_;intro w2 TV Xf))
      obtain⟨zt,lz,dz,vz,Xy⟩:∃zt:List Nat,zt.length=a.length+b.length/\jg zt/\val zt=al*bv/\qf w2 wc.heap.size 123 (qp zt).toArray:=by
       have h1:=TV.out;rw[Za K2.out]at h1;refine⟨_,?_,qeT K3 (qia _),by rw[qdT];exact K4,h1⟩;have:=Rq.out;rw[List.length_append,List.length_replicate,K2.out];omega
      have Xw:=Gh (Xf.below _ _ UK (Gr _));have VV:=Gh (fun(V:World)(A2:Oa)(c2:Nat)(z2:List Nat)(m1:z2.length<=c2)(m2:z2.length=a.length-half+b.length)(m3:jg z2)(m4:val z2=ah*bv)(m5:qL V A2 z2)=>
       (show Calls Tryz.prog 109 #[.slice A2 z2.length c2] V fun e w'=>e= .returned (.slice A2 (dig (ah*bv)).length c2)/\V=w' by
         have:=ji A2 c2 V.heap.size z2 V m1 (by have:=Rq.out;omega) m5.reads m3;rwa[m4]at this))
      have SA:=Gh (fun(V:World)(A2:Oa)(c2:Nat)(z2:List Nat)(hV:Below w2.heap.size w2 V)(m3:jg z2)(m4:val z2=ah*bv)(m5:zA w2.drew.heap.size V A2 z2)=>
       Zj wc.heap.size half (a.length+b.length-half) (a.length+b.length-half) zt A2 c2 (dig (ah*bv)) V (by rw[lz];have:=Rq.out;omega) (by rw[lz];have:=Rq.out;omega) B6 (Xy.old hV) dz (qA _) (qfj (by have:=m5.dig m3;rwa[m4]at this) (show wc.heap.size<w2.drew.heap.size from Xy.lt)) (by rw[qB,vz,Vl,lz];exact MF))
      rw[qB,vz,Vl,lz]at SA;have hb:Below wc.heap.size wc w2.drew:=Xw.out.trans ((qt.drew _).below _);have Xb:Below w2.heap.size w2 w2.drew:=(qt.drew _).below _;clear TV Xf Kn Ud Tz TA UK K2 K3 K4 lz dz vz Xy B6 MF Vl Rq;go_wp2_with fail
      go_region_held3 (fun _=>True) (exact trivial)
       (first
         |(go_at_call 140;(with_reducible refine(DK.out _ hb).mono ?_);rintro e w4 ⟨A2,c2,z2,rfl,m1,m2,m3,m4,m5,m6⟩;replace m2:=Gh m2;replace m4:=Gh m4)
         |(go_at_call 109;(with_reducible refine(VV.out _ A2 c2 z2 m1 m2.out m3 m4.out m5.nat).mono ?_);rintro e w5 ⟨rfl,rfl⟩)
         |(go_at_call 165;(with_reducible refine(SA.out _ A2 c2 z2 (Gt Xb m6) m3 m4.out m5).mono ?_);rintro e w6 ⟨rfl,Un,zs',j1,j2,j3,j4⟩;replace j1:=Gh j1;replace j3:=Gh j3))
      have J1:=j1;have J2:=Gh j2;have J3:=j3;have J4:=Gh j4;have RX:=Gh (Un.below _ _ (hb.trans (m6.mono (Gl Xw.out.size (Gr _)))) (Gr _));clear j1 j2 j3 j4 m1 m2 m3 m4 m5 m6 Un hb Xb VV SA DK Xw;go_wp2_with fail
      go_ret
      exact⟨some ⟨wc.heap.size,0,none⟩,a.length+b.length,zs',by rw[J1.out];rfl,by rw[J1.out];exact Gr _,by rw[J1.out];exact HN,J2,J3,.of_blk (Gr _) J4,RX⟩
     ·have VA:half<=b.length:=by omega
      have mt:(b.take half).length=half:=by rw[List.length_take];omega
      have md:(b.drop half).length=b.length-half:=List.length_drop ..;have F8:=fun(W:World)(hW:Below wc.heap.size wc W)=>U5 (some ⟨ba,oa,none⟩) (some ⟨bb,ob,none⟩) c c' B (a.take half) (b.take half) W (by rw[lt,mt];omega) (Gl hB hW.size) ((yc h Rc).below (hW.mono hB)) ((yc h' VA).below (hW.mono hB));have F7:=fun(W:World)(hW:Below wc.heap.size wc W)=>U5 (some ⟨ba,oa+half,none⟩) (some ⟨bb,ob+half,none⟩) (c-half) (c'-half) B (a.drop half) (b.drop half) W (by rw[ld,md];omega) (Gl hB hW.size) ((yd h Rc).below (hW.mono hB)) ((yd h' VA).below (hW.mono hB));have My:=fun(W:World)(hW:Below wc.heap.size wc W)=>ZA (some ⟨ba,oa,none⟩) (some ⟨ba,oa+half,none⟩) c (c-half) B (a.take half) (a.drop half) W (Gl hB hW.size) (yc h Rc).cap (yd h Rc).cap (by rw[lt];omega) (by rw[ld];omega) ((yc h Rc).below (hW.mono hB)).rd ((yd h Rc).below (hW.mono hB)).rd (yc h Rc).dg (yd h Rc).dg;have Mx:=fun(W:World)(hW:Below wc.heap.size wc W)=>ZA (some ⟨bb,ob,none⟩) (some ⟨bb,ob+half,none⟩) c' (c'-half) B (b.take half) (b.drop half) W (Gl hB hW.size) (yc h' VA).cap (yd h' VA).cap (by rw[mt];omega) (by rw[md];omega) ((yc h' VA).below (hW.mono hB)).rd ((yd h' VA).below (hW.mono hB)).rd (yc h' VA).dg (yd h' VA).dg;rw[lt,ld]at My;rw[mt,md]at Mx;rw[lt,mt]at F8;rw[ld,md]at F7;have AA:val b=val (b.take half)+4294967296^half*val (b.drop half):=by
       conv=>lhs;rw[<-List.take_append_drop half b]
       rw[ja,mt]
      have g1:=jr (yc h Rc).dg;have g2:=jr (yd h Rc).dg;have g3:=jr (yc h' VA).dg;have g4:=jr (yd h' VA).dg;rw[lt]at g1;rw[ld]at g2;rw[mt]at g3;rw[md]at g4;have p1:4294967296^(a.length-half)<=4294967296^half:=Nat.pow_le_pow_right (by decide) (by omega);have p2:4294967296^(b.length-half)<=4294967296^half:=Nat.pow_le_pow_right (by decide) (by omega);have s1:(dig (val (a.take half)+val (a.drop half))).length<=half+1:=qK (by rw[Nat.pow_succ];omega);have s2:(dig (val (b.take half)+val (b.drop half))).length<=half+1:=qK (by rw[Nat.pow_succ];omega);have IK:=fun(V:World)(A3 A4:Oa)(c3 c4:Nat)(l3:(dig (val (a.take half)+val (a.drop half))).length<=c3)(l4:(dig (val (b.take half)+val (b.drop half))).length<=c4)(n3:qL V A3 (dig (val (a.take half)+val (a.drop half))))(n4:qL V A4 (dig (val (b.take half)+val (b.drop half))))=>
       U5 A3 A4 c3 c4 V.heap.size _ _ V (by omega) (Gr _) (qh4 n3 (qA _) l3) (qh4 n4 (qA _) l4)
      simp only[qB]at IK;have VN:=qiU (val (a.take half)) (val (a.drop half)) (val (b.take half)) (val (b.drop half)) (4294967296^half);rw[<-hcut,<-AA,hX]at VN;obtain⟨Mq,Py⟩:=qhV (val (a.take half)) (val (a.drop half)) (val (b.take half)) (val (b.drop half));have R7:(dig (val (a.take half)*val (b.drop half)+val (a.drop half)*val (b.take half))).length<=a.length+b.length-half:=by
       refine qK (qa0 (k:=half) rfl (show a.length+b.length=half+_ by omega) ?_);omega
      have i4:(half:Int)<=(c':Int):=by have:=h'.cap;omega
      have i5:(half:Int)<=(b.length:Int):=by omega
      have e3:¬(c'=half):=by have:=h'.cap;omega
      obtain⟨h2,hh2⟩:∃h2,h2=half+half:=⟨_,rfl⟩;have i6:(2:Int)*(half:Int)=(h2:Int):=by omega
      have i7:(h2:Int)<=(a.length:Int)+(b.length:Int):=by omega
      have e4:¬(a.length+b.length=h2):=by omega
      have Ey:=Gh F8;have DK:=Gh F7;have CH:=Gh IK;have VE:=Gh My;have RZ:=Gh Mx;have B6:=Gh R7;have HMD:=Gh Mq;have P1:=Gh Py;have HL3:=Gh s1;have HL4:=Gh s2;have Vl:=Gh VN;have MF:=Gh Sm;have HN:=Gh hn;have Rq:=Gh (show half<a.length/\half<b.length/\a.length+b.length<=900000/\a.length<=2*half/\48<=b.length/\h2=half+half from⟨hha,by omega,BS,by omega,by omega,hh2⟩);clear h h' hX hn F8 F7 IK My Mx R7 Mq Py s1 s2 VN Sm hcut AA lt ld mt md g1 g2 g3 g4 p1 p2 At U5 hh2 VA;generalize val (a.take half)=al at*;generalize val (a.drop half)=ah at*;generalize val (b.take half)=bl at*;generalize val (b.drop half)=bh at*;go_wp2_with fail
      refine HZ.out.mono ?_;rintro e w1 ⟨rfl,rfl⟩;go_wp2_with fail
      refine ME.out.mono ?_;rintro e w1 ⟨rfl,rfl⟩;have hu:¬(b.length<=half):=by have:=Rq.out;omega
      generalize hW0:wc.alloc (.cells (qp (List.replicate (a.length+b.length) 0)).toArray 123)=W0 at*;clear hW0 Uz;have hb:Below wc.heap.size wc W0.drew:=Xq.trans ((qt.drew _).below _);go_wp2_with fail
      go_region_held3 (fun _=>True) (exact trivial)
       (first
         |(go_at_call 140;(with_reducible refine(Ey.out _ hb).mono ?_);rintro e w1 ⟨A1,c1,z1,rfl,k1,k2,k3,k4,k5,k6⟩;replace k2:=Gh k2;replace k4:=Gh k4))
      have X7:=EQ.out.old ((qt.drew W0).below _ |>.trans k6);have UK:=Gh (hb.trans (k6.mono (show wc.heap.size<=W0.drew.heap.size from Xq.size)));have Vc:=Gh X7;have HG1:=Gh (show wc.heap.size<W0.drew.heap.size from EQ.out.lt);have K1:=Gh k1;have K3:=Gh k3;have K5:=Gh k5;have hb:Below wc.heap.size wc w1.drew:=UK.out.trans ((qt.drew _).below _);clear X7 k1 k3 k5 k6 EQ Xq Uq HZ ME Ey;go_wp2_with fail
      go_region_held3 (fun _=>True) (exact trivial)
       (first
         |(go_at_call 140;(with_reducible refine(DK.out _ hb).mono ?_);rintro e w2 ⟨A2,c2,z2,rfl,m1,m2,m3,m4,m5,m6⟩;replace m2:=Gh m2;replace m4:=Gh m4))
      have Sa:=((qt.drew w1).below _ |>.trans m6);have ER:=Gh (Vc.out.old Sa);have K5':=Gh (K5.out.old Sa);have Xw:=Gh (Gt UK Sa);have Lb:=Gh (show wc.heap.size<w1.drew.heap.size from Vc.out.lt);have M1:=Gh m1;have M3:=Gh m3;have M5:=Gh m5;clear m1 m3 m5 m6 Sa Vc K5 UK DK;have hb:Below wc.heap.size wc w2.drew:=Xw.out.trans ((qt.drew _).below _);have hk:Below w2.heap.size w2 w2.drew:=(qt.drew _).below _;go_wp2_with fail
      go_region_held3 (fun _=>True) (exact trivial)
       (first
         |(go_at_call 132;(first
            |((with_reducible refine(VE.out _ hb).mono ?_);rintro e w3 ⟨A3,c3,rfl,l3,n3,Rz⟩;(try replace n4:=zA.old n4 Rz);replace hb:=Gt hb Rz;replace hk:=Gt hk Rz)
            |((with_reducible refine(RZ.out _ hb).mono ?_);rintro e w4 ⟨A4,c4,rfl,l4,n4,Xj⟩;(try replace n3:=zA.old n3 Xj);replace hb:=Gt hb Xj;replace hk:=Gt hk Xj)))
         |(go_at_call 140;(with_reducible refine(CH.out _ A3 A4 c3 c4 l3 l4 n3.nat n4.nat).mono ?_);rintro e w5 ⟨A5,c5,z5,rfl,j1,j2,j3,j4,j5,j6⟩;replace j2:=Gh j2;replace j4:=Gh j4;replace hb:=Gt hb j6;replace hk:=Gt hk j6))
      have HZ5:=Gh (ER.out.old hk);have N1:=Gh (K5'.out.old hk);have N2:=Gh (M5.out.old hk);have N5:=Gh j5;have XZ:=Gh hb;have J1:=Gh j1;have J3:=Gh j3;have X7:z1.length<=900000:=by have:=k2.out;have:=Rq.out;omega
      have Xy:z2.length<=900000:=by have:=m2.out;have:=Rq.out;omega
      have hz5:z5.length<=900000:=by have:=j2.out;have:=Rq.out;have:=HL3.out;have:=HL4.out;omega
      have hq:(dig (al*bl+ah*bh)).length<=z5.length:=qK (Nat.lt_of_le_of_lt P1 (by rw[<-j4.out];exact jr j3));have I5:=fun(V:World)(hV:Below w5.heap.size w5 V)=>ZA A1 A2 c1 c2 V.heap.size z1 z2 V (Gr _) K1 M1 X7 Xy (N1.out.old hV).nat.reads (N2.out.old hV).nat.reads K3 M3.out;rw[k4.out,m4.out]at I5;have EF:=fun(V:World)(A6:Oa)(c6:Nat)(l6:(dig (al*bl+ah*bh)).length<=c6)(hV:Below w5.heap.size w5 V)(n6:qL V A6 (dig (al*bl+ah*bh)))=>
       qfq A5 A6 c5 c6 V.heap.size z5 (dig (al*bl+ah*bh)) V (Gr _) J1 l6 hz5 (by omega) (N5.out.old hV).nat.reads n6.reads J3 (qA _) (by rw[qB,j4.out];exact P1)
      rw[j4.out]at EF;simp only[qB]at EF;rw[HMD.out]at EF;have TM:=Gh (I5 w5 (Below.refl _ _));have O5:=Gh EF;clear I5 EF X7 Xy hz5 hq j1 j3 j5 j6 hb hk Rz Xj l3 l4 n3 n4 CH VE RZ ER K5' M5 Xw;generalize Dp:al*bh+ah*bl=vm at*;have HVM:=Gh Dp;clear Dp;go_wp2_with fail
      refine TM.out.mono ?_;rintro e w6 ⟨A6,c6,rfl,l6,n6,XY⟩;have HS:=Gh (O5 w6 A6 c6 l6 XY n6.nat);have Wo:=Gh (HZ5.out.old XY);have N1':=Gh (N1.out.old XY);have N2':=Gh (N2.out.old XY);have TL:=Gh (Gt XZ XY);clear XY l6 n6 O5 TM HZ5 N1 N2 N5 XZ;go_wp2_with fail
      refine HS.out.mono ?_;rintro e w7 ⟨A7,c7,rfl,l7,n7,Ft⟩;have HZ7:=Gh (Wo.out.old Ft);have N1:=Gh (N1'.out.old Ft);have N2:=Gh (N2'.out.old Ft);have FC:=Gh (Gt TL Ft);have Dn:=Gh (show wc.heap.size<w6.heap.size from Wo.out.lt);have N7:=Gh n7;clear Ft l7 n7 HS Wo N1' N2' TL;have Ud:=Gh (qaB (n:=a.length+b.length) (rfl:z1.length=z1.length) (by have:=k2.out;have:=Rq.out;omega));have Tz:=Gh (qcf N1.out.nat);have TA:=Gh (show 0+(qp z1).length<=(qp (List.replicate (a.length+b.length) 0)).length by rw[zS,zS,List.length_replicate,k2.out];have:=Rq.out;omega);go_wp2_with (first|(guard_target =~ wpList _ _ _ (Oper.mk (some 101) _ _ _ _ _::_) _ _;refine yT (o:=⟨some 101,_,_,_,_,_⟩) rfl (.tmp 99) (.tmp 100) 23 23 rfl 123 Tryz.underlying23 Tryz.size_u32 _ _ (a.length+b.length) (a.length+b.length) z1.length c1 rfl rfl wc.heap.size 0 _ 123 HZ7 (qp z1) Ud (fun hp=>⟨rfl,Tz hp⟩) TA (Qe _) ?_;intro w8 hg8 hi8;refine Hid.out ?_))
      refine Gh ?_;have HZ8:=Gh (show qf w8 wc.heap.size 123 (qp (z1++List.replicate (a.length+b.length-h2) 0)).toArray by
       have h1:=hg8.out;have hq:=k2.out;rwa[Za (show z1.length=h2 by have:=Rq.out;omega)]at h1)
      have N2':=Gh (N2.out.into Lb hi8);have N7':=Gh (N7.out.into Dn hi8);have RY:=Gh (hi8.below _ _ FC (Gr _));clear hg8 hi8 HZ7 Ud Tz TA N1 N2 N7 FC;have Ud:=Gh (qaB (n:=a.length+b.length-h2) (rfl:z2.length=z2.length) (by have:=m2.out;have:=Rq.out;omega));have Tz:=Gh (qcf N2'.out.nat);have TA:=Gh (show h2+(qp z2).length<=(qp (z1++List.replicate (a.length+b.length-h2) 0)).length by rw[zS,zS,List.length_append,List.length_replicate,k2.out,m2.out];have:=Rq.out;omega);go_wp2_with (first|(guard_target =~ wpList _ _ _ (Oper.mk (some 107) _ _ _ _ _::_) _ _;refine yT (o:=⟨some 107,_,_,_,_,_⟩) rfl (.tmp 105) (.tmp 106) 23 23 rfl 123 Tryz.underlying23 Tryz.size_u32 _ _ (a.length+b.length-h2) (a.length+b.length-h2) z2.length c2 rfl rfl wc.heap.size h2 _ 123 HZ8 (qp z2) Ud (fun hp=>⟨rfl,Tz hp⟩) TA (Qe _) ?_;intro w9 hg9 hi9))
      have Mg:qf w9 wc.heap.size 123 (qp (z1++z2)).toArray:=by
       have h1:=hg9.out;have hq:=k2.out;rwa[qdS (show z1.length=h2 by have:=Rq.out;omega) (by rw[m2.out];have:=Rq.out;omega) (by have:=Rq.out;omega)]at h1
      have Ib:=Gh (N7'.out.into Dn hi9);have FB:=Gh (hi9.below _ _ RY (Gr _));have R7:(z1++z2).length=a.length+b.length:=by rw[List.length_append,k2.out,m2.out];have:=Rq.out;omega
      have SF:val (z1++z2)+4294967296^half*vm=X:=by
       rw[ja,k4.out,m4.out,k2.out,Nat.pow_add];exact Vl
      have EP:=qeT K3 M3.out;clear hg9 hi9 HZ8 Ud Tz TA N2' N7' RY;generalize z1++z2=zt at*;have SM:(dig vm).length<=a.length+b.length-half:=B6.out;have I4:=Zj wc.heap.size half (a.length+b.length-half) (a.length+b.length-half) zt A7 c7 (dig vm) w9 (by rw[R7];have:=Rq.out;omega) (by rw[R7];have:=Rq.out;omega) SM Mg EP (qA _) (qfj Ib Dn) (by rw[qB,SF,R7];exact MF);rw[qB,SF,R7]at I4;have SA:=Gh I4;clear I4 SM SF R7 EP Mg;go_wp2_with fail
      refine SA.out.mono ?_;rintro e w10 ⟨rfl,Un,zs',y1,y2,y3,y4⟩;have Y1:=Gh y1;have Y2:=Gh y2;have Y3:=Gh y3;have Y4:=Gh y4;have RX:=Gh (Un.below _ _ FB (Gr _));clear y1 y2 y3 y4 Un SA;go_wp2_with fail
      go_ret
      exact⟨some ⟨wc.heap.size,0,none⟩,a.length+b.length,zs',by rw[Y1.out];rfl,by rw[Y1.out];exact Gr _,by rw[Y1.out];exact HN,Y2,Y3,.of_blk (Gr _) Y4,RX⟩
theorem qdr:∀n:Nat,n<=900001->qhw n:=by
 intro n
 induction n with
 |zero=>intro _ A A' c c' B a b w h;exact absurd h (Nat.not_lt_zero _)
 |succ n ih=>
  intro hn A A' c c' B a b w hl hB h h';exact qb8 _ (fun A A' c c' B a' b' w hl'=>ih (by omega) A A' c c' B a' b' w (by omega)) A A' c c' B a b w rfl hB (by omega) h h'
set_option maxHeartbeats 1000000
theorem qjE(A A':Oa)(c c' B:Nat)(ds es:List Nat)(w:World)(hB:B<=w.heap.size)(hc:ds.length<=c)(RO:es.length<=c')(hm:ds.length+es.length<=900000)
 (hr:qu w B 1 A ds.length (qp ds))(TB:qu w B 1 A' es.length (qp es))(hd:jg ds)(VZ:jg es):
 Calls Tryz.prog 123 #[.slice A ds.length c,.slice A' es.length c'] w (yg (val ds*val es) w):=by
 have h1:=ji A c B ds w hc (by omega) hr hd;have h2:=ji A' c' B es w RO (by omega) TB VZ;have l1:=qw hd;have l2:=qw VZ;have h3:=qdr 900001 (Gr _) A A' c c' B (dig (val ds)) (dig (val es)) w (by omega) hB ⟨jF hr hd,qA _,by omega⟩ ⟨jF TB VZ,qA _,by omega⟩;rw[qB,qB]at h3;have HN:Hid (dig (val ds)=dig (val ds)):=rfl;generalize val ds=x at*;generalize val es=y at*;generalize dig x=a at*;generalize dig y=b at*;have H1:=Gh h1;have H2:=Gh h2;have H3:=Gh h3;clear h1 h2 h3 hr TB hd VZ HN;go_enter Tryz.func123,Tryz.ntmps123
 go_wp2_with fail
 refine(H1).mono ?_;rintro e w1 ⟨rfl,rfl⟩;go_wp2_with fail
 refine(H2).mono ?_;rintro e w1 ⟨rfl,rfl⟩;go_wp2_with fail
 refine(H3).mono ?_;rintro e w1 ⟨A1,c1,zs,rfl,k1,k2,k3,k4,k5',k6⟩;have k5:=k5'.nat;clear k5';have h4:=ji A1 c1 _ zs w1 k1 (by omega) k5.reads k3;have r4:=k5.dig k3;have l4:=qw k3;rw[k4]at h4 r4 l4;generalize EC:dig (x*y)=ws at*;have HW:=Gh EC;have H4:=Gh h4;clear EC h4 k2 k3 k4 k5;go_wp2_with fail
 refine(H4).mono ?_;rintro e w5 ⟨rfl,rfl⟩;go_wp2_with fail
 go_ret
 exact⟨A1,c1,by rw[HW.out];rfl,by rw[HW.out];omega,by rw[HW.out];exact r4,k6⟩
theorem qdo(ng ng':Bool)(A A':Oa)(c c' B:Nat)(ds es:List Nat)(w:World)(hB:B<=w.heap.size)(h:qx w B A c ds)(h':qx w B A' c' es)(hm:ds.length+es.length<=900000):
 Calls Tryz.prog 106 #[.agg #[.bool ng,.slice A ds.length c],.agg #[.bool ng',.slice A' es.length c']] w (qX (qj ng ds*qj ng' es) w):=by
 have e1:=qiF ng ng' ds es;have e2:=qg2 ng ng' ds es;have hn:=fun(W:World)(hb:Below w.heap.size w W)=>qjE A A' c c' B ds es W (Gl hB hb.size) h.cap h'.cap hm (h.rd.below (hb.mono hB)) (h'.rd.below (hb.mono hB)) h.dg h'.dg;unfold qX;rw[e1,e2];clear e1 e2;unfold yg at hn;have TC:=h.cap;have VY:=h'.cap;clear h h';generalize dig (val ds*val es)=rs at*;have HN:=Gh hn;have HX:=Gh (jN w 25 25 25 #[.bool ng,.slice A ds.length c] #[.bool ng',.slice A' es.length c'] #[.bool false,.slice none 0 0]);clear hn;go_enter Tryz.func106,Tryz.ntmps106
 go_wp2_with fail
 generalize ((w.alloc (.cells #[.bool ng,.slice A ds.length c] 25)).alloc (.cells #[.bool ng',.slice A' es.length c'] 25)).alloc (.cells #[.bool false,.slice none 0 0] 25)=W at*;obtain⟨Xb,k0,k1,k2,hs⟩:=HX.out;have HS:=Gh hs;clear hs HX;have c0:W.cell? ⟨w.heap.size,0,none⟩=some (.bool ng):=k0.cell 0;have c1:W.cell? ⟨w.heap.size,1,none⟩=some (.slice A ds.length c):=k0.cell 1;have c2:W.cell? ⟨w.heap.size+1,0,none⟩=some (.bool ng'):=k1.cell 0;have c3:W.cell? ⟨w.heap.size+1,1,none⟩=some (.slice A' es.length c'):=k1.cell 1;have l0:=k0.lt;have l1:=k1.lt;have l2:=k2.lt;have K2:qf W.drew (w.heap.size+2) 25 #[.bool false,.slice none 0 0]:=k2;have Rs:Below w.heap.size w W.drew:=Xb.trans ((qt.drew _).below _);go_region_held3 (fun w'=>w'.cell? ⟨w.heap.size,0,none⟩=some (.bool ng)/\w'.cell? ⟨w.heap.size,1,none⟩=some (.slice A ds.length c)/\w'.cell? ⟨w.heap.size+1,0,none⟩=some (.bool ng')/\w'.cell? ⟨w.heap.size+1,1,none⟩=some (.slice A' es.length c'))
  (first|exact⟨c0,c1,c2,c3⟩|exact⟨(h3.cell l0).trans c0,(h3.cell l0).trans c1,(h3.cell l1).trans c2,(h3.cell l1).trans c3⟩|exact⟨q0,q1,q2,q3⟩|exact⟨jE q0 (JP _),jE q1 (JP _),jE q2 (Yp _),jE q3 (Yp _)⟩)
  (first|(go_at_call 123;refine(HN _ Rs).mono ?_;rintro e w1 ⟨A1,c1',rfl,h1,h2,h3⟩)|(go_at_call 108;refine(zH _ _ _ _ _).mono ?_;rintro e w2 ⟨rfl,h4⟩;have kk:=(K2.old h3).old h4;have d0:w2.cell? ⟨w.heap.size+2,0,none⟩=some (.bool false):=kk.cell 0;have d1:w2.cell? ⟨w.heap.size+2,1,none⟩=some (.slice none 0 0):=kk.cell 1;have f0:=kk.frozen 0;have f1:=kk.frozen 1;have q0:=(h4.cell (Gm l0 h3.size)).trans ((h3.cell l0).trans c0);have q1:=(h4.cell (Gm l0 h3.size)).trans ((h3.cell l0).trans c1);have q2:=(h4.cell (Gm l1 h3.size)).trans ((h3.cell l1).trans c2);have q3:=(h4.cell (Gm l1 h3.size)).trans ((h3.cell l1).trans c3)))
 clear q0 q1 q2 q3 c0 c1 c2 c3;go_wp2_with fail
 have Ug:=(Gt Rs h3).trans (h4.mono (Gl Rs.size h3.size));exact qo Tryz.results106 rfl rfl ((kk.set_ 0 _).set_ 1 _) Tryz.underlying25 rfl Tryz.sizeInt ⟨A1,c1',rfl,h1,(h2.old h4).store2 kk (by decide) _ _,(Ug.setCell (Nat.le_add_right _ 2) _).setCell (Nat.le_add_right _ 2) _⟩
attribute [local go_sem ↓] Go.wp_at_zero Go.wp_at_succ
end Go.Proofs.YtflikmojaidhhaaGreatDoor
namespace Go.Proofs.YtflikmojaidhhaaGreatDoor
open Go.RowKit Go.Shelf
attribute [local go_sem] Oper.semAt_some
def qiM(F:Mo->Int)(N:Nat)(E:Int)(M:Nat)(w:World)(e:Ending)(w':World):Prop:=
 ∃b A c ps,e= .returned (.func (.func 141) #[] #[.pointer (some ⟨b,0,none⟩)])/\qf w' b 107 #[.slice A ps.length c]/\w.heap.size<=b/\zP w' w.heap.size (.slice A ps.length c) ps F N E M/\Below w.heap.size w w'
set_option maxHeartbeats 1000000
theorem qge(A:Oa)(c B N:Nat)(E:Int)(M:Nat)(ps:List PT)(w:World)(hB:B<=w.heap.size)(h:PIn w B A ps N E M)(hN:N<=50000)(hM:M<Big):
 Calls Tryz.prog 124 #[.slice A ps.length c] w (qiM (cf (ps.map PT.tm)) N E M w):=by
 have HN:=Gh (yY A c B N E M ps w hB h hN hM);clear h;go_enter Tryz.func124,Tryz.ntmps124
 go_wp2_with fail
 refine HN.out.mono ?_;rintro e w1 ⟨A1,c1,qs,rfl,hg,hb⟩;have HG:=Gh hg;clear hg;go_wp2_with fail
 go_ret
 have Tc:=Gb w1 (.cells #[.slice A1 qs.length c1] 107);exact⟨_,A1,c1,qs,rfl,qf.new w1 _ _,hb.size,HG.out.old Tc,hb.alloc hb.size _⟩
def qhq(x:PT):Array Value:=#[.agg (Jv x.m),.agg #[.bool x.ng,.slice x.A x.ds.length x.c]]
def KT(Bs base:Nat)(v:Value)(ps:List PT)(W W':World):Prop:=(yl W base v ps->yl W' base v ps)/\(qf W Bs 107 #[v]->qf W' Bs 107 #[v])/\W.heap.size<=W'.heap.size
theorem KT.trans{Bs base:Nat}{v:Value}{ps:List PT}{A B C:World}(h:KT Bs base v ps A B)(k:KT Bs base v ps B C):KT Bs base v ps A C:=⟨fun x=>k.1 (h.1 x),fun x=>k.2.1 (h.2.1 x),Gl h.2.2 k.2.2⟩
theorem KT.old{Bs base:Nat}{v:Value}{ps:List PT}{W W':World}(h:Below W.heap.size W W'):KT Bs base v ps W W':=⟨fun x=>x.old h,fun x=>x.old h,h.size⟩
theorem yl.keep{W W':World}{base:Nat}{v:Value}{ps:List PT}(h:yl W base v ps)(hk:∀g t cs,qf W g t cs->(t=127∨t=123)->qf W' g t cs):yl W' base v ps:=by
 refine⟨⟨h.row.1,h.row.2.imp id ?_⟩,fun p hp=>⟨(h.dg p hp).1.keep fun g cs hb=>hk g _ cs hb (.inr rfl),(h.dg p hp).2⟩,h.cn⟩;rintro⟨g,cap,cur,h1,h2,h3,h4⟩;exact⟨g,cap,cur,h1,h2,hk g _ cur h3 (.inl rfl),h4⟩
theorem qf.ne_t{W:World}{g g':Nat}{t t':TypeId}{cs cs':Array Value}(h:qf W g t cs)(h':qf W g' t' cs')(Xl:t≠t'):g≠g':=by
 rintro rfl;unfold qf at h h';rw[h]at h'
 injection h' with h'
 injection h' with _ e
 exact Xl e
theorem KT.set{Bs base:Nat}{v:Value}{ps:List PT}{W:World}{g o:Nat}{t:TypeId}{cs:Array Value}(hb:qf W g t cs)(h1:t≠127)(h2:t≠123)(h3:t≠107)(u:Value):KT Bs base v ps W (W.setCell ⟨g,o,none⟩ u):=
 ⟨fun x=>x.keep fun g' t' cs' Ux ht=>Ux.far (Ux.ne_t hb (by rcases ht with rfl|rfl<;>exact fun e=>by first|exact h1 e.symm|exact h2 e.symm)) u,fun x=>x.far (x.ne_t hb (Ne.symm h3)) u,by simp⟩
theorem KT.put{Bs base:Nat}{v:Value}{ps:List PT}{W:World}{l:Nat}{o:Obj}(o':Obj)(hl:W.heap[l]? =some o)(ho:o.isCells=false):KT Bs base v ps W (W.putObj l o'):=by
 have hk:∀g t cs,qf W g t cs->qf (W.putObj l o') g t cs:=fun g t cs hb=>by
  have Xl:g≠l:=by
   rintro rfl;unfold qf at hb;rw[hb]at hl
   injection hl with hl
   subst hl
   cases ho
  exact(World.putObj_heap_other Xl).trans hb
 exact⟨fun x=>x.keep fun g t cs hb _=>hk g t cs hb,fun x=>hk _ _ _ x,by simp⟩
set_option maxRecDepth 100000
set_option maxHeartbeats 4000000
theorem qfU(n:Nat)(hn:1<=n)(l Bs base:Nat)(A:Oa)(c:Nat)(ps:List PT)(W0:World)(J Jx:List PT->World->Prop)(hJ:AbidesFrom W0.heap.size J)(XC:ps.length<=100000)
 (hY:∀pre x W,J pre W->qx W W.heap.size x.A x.c x.ds->Cn x->x.ds.length<=1000->pre.map PT.tm++[x.tm]=(ps.take (pre.length+1)).map PT.tm->pre.length<ps.length->YieldAt Fence.wide (n-1) Tryz.prog l (qhq x) W fun e W'=>
   (e= .returned (.bool true)/\J (pre++[x]) W'/\KT Bs base (.slice A ps.length c) ps W W')∨(e= .returned (.bool false)/\Jx (pre++[x]) W'))
 (Wh:qf W0 Bs 107 #[.slice A ps.length c])(Un:yl W0 base (.slice A ps.length c) ps)(Uo:∀p∈ps,p.ds.length<=1000)(h0:J [] W0):
 CallsIn Fence.wide n Tryz.prog 141 #[.func (.yield l) #[] #[],.pointer (some ⟨Bs,0,none⟩)] W0 fun e W'=>(∃v,e= .returned v)/\
  ((∃ys,ys.map PT.tm=ps.map PT.tm/\J ys W')∨(∃pre,(∃k,pre.map PT.tm=(ps.take k).map PT.tm)/\Jx pre W')):=by
 refine callsIn_of_wp Tryz.func141 rfl trivial ?_ rfl;simp only[Tryz.ntmps141,List.size_toArray,List.length_cons,List.length_nil,Nat.reduceAdd,Nat.reduceSub,Array.replicate_succ,Array.replicate_zero,List.push_toArray,List.append_toArray,List.nil_append,List.cons_append];have hBc:W0.cell? ⟨Bs,0,none⟩=some (.slice A ps.length c):=Wh.cell 0
 gi_wp2
 gi_loopw [4,7] (fun _ i wr=>∃(k:Nat)(pre:List PT),k<=ps.length/\i= .int .i64 k/\pre.length=k/\pre.map PT.tm=(ps.take k).map PT.tm/\J pre wr/\yl wr base (.slice A ps.length c) ps/\W0.heap.size<=wr.heap.size) (fun _ i _=>ps.length-(intOf i).toNat)
 case atStart=>exact⟨0,[],Nat.zero_le _,rfl,rfl,rfl,h0,Un,Gr _⟩
 case round=>
  obtain⟨k,pre,hk,rfl,U6,VR,hJs,Xn,Mh⟩:=hrel;by_cases Xi:k<ps.length
  ·obtain⟨p,hp⟩:∃p,ps[k]? =some p:=⟨_,Gn Xi⟩;have U4:=Gk hp;obtain⟨b,o,rfl,VA,d0,d1,d2,d3,d4,d5⟩:=Xn.polyIn.at_ hp;have i1:(k:Int)<(ps.length:Int):=by omega
   have i0:(0:Int)<=(k:Int):=by omega
   have Rl:=Gh (Xn.nin U4);have HP:=Gh hp;have Tr:=Gh U6;have Rk:=Gh VR;have HC:=Gh Xn.cn;have HD:=Gh Uo;clear hp U6 VR Uo;have UH:=Gb wr (.cells p.cells.toArray 127);have HK:=Gh (qf.new wr 127 p.cells.toArray);have UO:=Gh (fun(W:World)(hW:Below wr.heap.size wr W)=>yZ p.ng p.A p.c wr.heap.size p.ds W hW.size (Rl.out.below hW) (by have:=HD.out p (Gk HP);omega));have HYY:=Gh (fun(W3:World)(A3:Oa)(c3:Nat)(hW:Below wr.heap.size wr W3)(h4:qL W3 A3 (dig (qj p.ng p.ds).natAbs))(h3:(dig (qj p.ng p.ds).natAbs).length<=c3)=>
    show∃fn tmps assign body,(Instr.yield l #[.agg #[.int .i64 p.m.1,.int .i64 p.m.2.1,.int .i64 p.m.2.2.1,.int .i64 p.m.2.2.2],.agg #[.bool (decide (qj p.ng p.ds<0)),.slice A3 (dig (qj p.ng p.ds).natAbs).length c3]]).run Tryz.prog W3= .ok (.round l fn tmps assign body) W3/\
     RoundIn Fence.wide (n-1) Tryz.prog l fn tmps assign body W3 (fun e W'=>∃bb:Bool,e= .returned (.bool bb)/\((bb=true/\J (pre++[mkP (qj p.ng p.ds) A3 c3 p.m]) W'/\KT Bs base (.slice (some ⟨b,o,none⟩) ps.length c) ps W3 W')∨(bb=false/\Jx (pre++[mkP (qj p.ng p.ds) A3 c3 p.m]) W')))by
     have MC:J pre W3:=hJ pre wr W3 none hJs ⟨hW.os,hW.tape,hW.output,hW.size,fun k hk _=>hW.block k hk⟩ (fun r e=>by cases e);have Pq:=Gk HP.out;have EP:(dig (qj p.ng p.ds).natAbs).length<=1000:=by
      have h1:=(HC p Pq).ds;have h2:=HD.out p Pq;rw[h1]at h2;exact h2
     obtain⟨fn,tmps,assign,body,hy,hR⟩:=hY pre (mkP (qj p.ng p.ds) A3 c3 p.m) W3 MC (yf h4 h3) (qcj _ _ _ _) EP (by rw[JK,Rk,Tr,yK HP.out];rfl) (by rw[Tr.out];exact Xi);refine⟨fn,tmps,assign,body,hy,hR.mono ?_⟩;rintro e W' (⟨rfl,h1,h2⟩|⟨rfl,h1⟩)
     ·exact⟨true,rfl,.inl ⟨rfl,h1,h2⟩⟩
     ·exact⟨false,rfl,.inr ⟨rfl,h1⟩⟩)
   have O4:=Gh (show p.tm=(qj p.ng p.ds,p.m)from rfl);have hmix:Tryz.prog.follows .mixedOrders=true:=by kernel_rfl
   simp only[PT.cells]at HK UH;unfold qX at UO;generalize qj p.ng p.ds=zz at*
   gi_wp2
   have hk:=HK.out;generalize wr.alloc (.cells #[.bool p.ng,.slice p.A p.ds.length p.c,.int .i64 p.m.1,.int .i64 p.m.2.1,.int .i64 p.m.2.2.1,.int .i64 p.m.2.2.2] 127)=X at*;have c0:X.cell? ⟨wr.heap.size,0,none⟩=some (.bool p.ng):=hk.cell 0;have c1:X.cell? ⟨wr.heap.size,1,none⟩=some (.slice p.A p.ds.length p.c):=hk.cell 1;have c2:X.cell? ⟨wr.heap.size,2,none⟩=some (.int .i64 p.m.1):=hk.cell 2;have c3:X.cell? ⟨wr.heap.size,3,none⟩=some (.int .i64 p.m.2.1):=hk.cell 3;have c4:X.cell? ⟨wr.heap.size,4,none⟩=some (.int .i64 p.m.2.2.1):=hk.cell 4;have c5:X.cell? ⟨wr.heap.size,5,none⟩=some (.int .i64 p.m.2.2.2):=hk.cell 5;have lx:=hk.lt;have Et:Below wr.heap.size wr X.drew:=UH.trans ((qt.drew _).below _);clear d0 d1 d2 d3 d4 d5
   gi_region_with_o (first|(refine⟨trivial,?_⟩;gi_at_call 47;refine(callsIn_wide.2 (UO _ Et)).mono ?_;rintro e w3 ⟨A3,c3',rfl,h3,h4,h5⟩;obtain⟨fn,tmps,assign,body,hy,hR⟩:=HYY.out w3 A3 c3' (Gt Et h5) h4 h3;have z2:=(h5.cell lx).trans c2;have z3:=(h5.cell lx).trans c3;have z4:=(h5.cell lx).trans c4;have z5:=(h5.cell lx).trans c5)|(refine hR.mono ?_;rintro e W4 ⟨bb,rfl,XE⟩))
   all_goals
    have XB:=Gt Et h5;clear c0 c1 c2 c3 c4 c5 z2 z3 z4 z5 hy hR;rcases XE with⟨rfl,MC,Rz⟩|⟨rfl,hJx3⟩
    ·gi_wp2
     go_roundw
     case rel=>exact⟨k+1,pre++[mkP zz A3 c3' p.m],by omega,by simp,by simp[Tr.out],by rw[List.map_append,List.map_cons,List.map_nil,JK,Rk,yK HP,O4.out],MC,Rz.1 (Xn.old XB),Gl Mh (Gl XB.size Rz.2.2)⟩
     case measure=>simp[intOf];omega
    ·gi_wp2
     refine bodyPost_ret (results_none rfl _ _ _) rfl ?_;exact⟨⟨_,rfl⟩,.inr ⟨_,⟨k+1,by rw[List.map_append,List.map_cons,List.map_nil,JK,Rk,yK HP,O4.out]⟩,hJx3⟩⟩
  ·obtain rfl:k=ps.length:=by omega
   rw[List.take_length]at VR;have Rk:=Gh VR;clear VR
   gi_wp2
   go_end0
   exact⟨⟨_,rfl⟩,.inl ⟨pre,Rk,hJs⟩⟩
end Go.Proofs.YtflikmojaidhhaaGreatDoor
namespace Go.Proofs.YtflikmojaidhhaaGreatDoor
open Go.RowKit
attribute [local go_sem ↓] Go.wp_at_zero Go.wp_at_succ
theorem qiq(v:Nat)(hv:v≠0):(dig v).getD ((dig v).length-1) 0≠0:=by
 induction v using Nat.strongRecOn with
 |_ v ih=>
  rw[JH hv];by_cases h:v/4294967296=0
  ·rw[h,qH];simp;omega
  ·have hl:0<(dig (v/4294967296)).length:=jL.2 (by omega);have e:(v%4294967296::dig (v/4294967296)).length-1=((dig (v/4294967296)).length-1)+1:=by simp;omega
   rw[e,List.getD_cons_succ];exact ih _ (by omega) h
end Go.Proofs.YtflikmojaidhhaaGreatDoor
namespace Go.Proofs.YtflikmojaidhhaaGreatDoor
open Go.RowKit
attribute [local go_sem ↓] Go.wp_at_zero Go.wp_at_succ
end Go.Proofs.YtflikmojaidhhaaGreatDoor
namespace Go.Proofs.YtflikmojaidhhaaGreatDoor
open Go.RowKit
attribute [local go_sem ↓] Go.wp_at_zero Go.wp_at_succ
end Go.Proofs.YtflikmojaidhhaaGreatDoor
namespace Go.Proofs.YtflikmojaidhhaaGreatDoor
theorem qiv(q:Rat)(a b:Nat):q^(a+b)=q^a*q^b:=by
 induction b with
 |zero=>rw[Nat.add_zero,Rat.pow_zero,Rat.mul_one]
 |succ b ih=>rw[Nat.add_succ,Rat.pow_succ,ih,Rat.pow_succ,Rat.mul_assoc]
