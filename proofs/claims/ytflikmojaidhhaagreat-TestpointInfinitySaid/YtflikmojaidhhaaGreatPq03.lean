import Derived.IntWalk
import Derived.Test.YtflikmojaidhhaaGreatPq02
namespace Go.Proofs.YtflikmojaidhhaaGreat
open Go.RowKit
inductive RP where
 |mk (lv:Int) (ng:Bool) (ds:List Nat) (ks:List RP)
namespace RP
def lv:RP→Int|mk l _ _ _=>l
def ng:RP→Bool|mk _ g _ _=>g
def ds:RP→List Nat|mk _ _ d _=>d
def ks:RP→List RP|mk _ _ _ k=>k
end RP
theorem qlz{l:List Nat}(h:qP l)(k:Nat):l.getD k 0<4294967296:=by
 rw[List.getD_eq_getElem?_getD]
 cases hk:l[k]? with
 |none=>simp
 |some x=>exact h x (List.mem_of_getElem? hk)
mutual
def qv:RP→Nat
 | .mk _ _ _ ks=>Qb ks+1
def Qb:List RP→Nat
 |[]=>0
 |t::ts=>max (qv t) (Qb ts)
end
theorem qiw{ks:List RP}{t:RP}(h:t∈ks):qv t≤Qb ks:=by
 induction ks with
 |nil=>cases h
 |cons s ks ih=>
  simp only[Qb];rcases List.mem_cons.1 h with rfl|h
  ·omega
  ·have:=ih h;omega
theorem qD{t u:RP}(h:u∈t.ks):qv u<qv t:=by
 cases t with
 |mk l g d ks=>
  have:=qiw (show u∈ks from h);simp only[qv];omega
def jd(w:World)(S:Nat→Prop)(size:Nat)(A:Option Addr)(n:Nat)(xs:List Value):Prop:=
 xs.length=n*size∧(0<n→∃b o,A=some ⟨b,o,none⟩∧S b∧∀j u,xs[j]? =some u→w.cell? ⟨b,o+j,none⟩=some u)
section
variable {w w':World} {S S':Nat→Prop} {size n B:Nat} {A:Option Addr} {xs:List Value}
theorem jd.keep(h:jd w S size A n xs)(hk:∀b,S b→∀o,w'.cell? ⟨b,o,none⟩=w.cell? ⟨b,o,none⟩):jd w' S size A n xs:=
 ⟨h.1,fun hp=>by obtain⟨b,o,e,hb,hc⟩:=h.2 hp;exact⟨b,o,e,hb,fun j u hu=>(hk b hb _).trans (hc j u hu)⟩⟩
theorem jd.mono(h:jd w S size A n xs)(hS:∀b,S b→S' b):jd w S' size A n xs:=
 ⟨h.1,fun hp=>by obtain⟨b,o,e,hb,hc⟩:=h.2 hp;exact⟨b,o,e,hS b hb,hc⟩⟩
theorem jd.to(h:jd w S size A n xs)(hS:∀b,S b→b<B):qi w B size A n xs:=
 ⟨h.1,fun hp=>by obtain⟨b,o,e,hb,hc⟩:=h.2 hp;exact⟨b,o,e,hS b hb,hc⟩⟩
theorem jd.of(h:qi w B size A n xs)(hS:∀b,b<B→S b):jd w S size A n xs:=
 ⟨h.1,fun hp=>by obtain⟨b,o,e,hb,hc⟩:=h.2 hp;exact⟨b,o,e,hS b hb,hc⟩⟩
end
def qc(t:RP)(A:Option Addr)(c:Nat)(K:Option Addr)(kc:Nat):List Value:=[.int .i64 t.lv,.bool t.ng,.slice A t.ds.length c,.slice K t.ks.length kc]
mutual
def RV(w:World)(S:Nat→Prop):RP→List Value→Prop
 | .mk l g ds ks,vs=>∃A c K kc,vs=qc (.mk l g ds ks) A c K kc∧jd w S 1 A ds.length (qf ds)∧qP ds∧ds.length≤c∧ks.length≤kc∧∃rows,jd w S 4 K ks.length rows.flatten∧qH w S ks rows
def qH(w:World)(S:Nat→Prop):List RP→List (List Value)→Prop
 |[],rows=>rows=[]
 |t::ts,rows=>∃r rs,rows=r::rs∧RV w S t r∧qH w S ts rs
end
section
variable {w w':World} {S S':Nat→Prop}
mutual
theorem RV.keep(hk:∀b,S b→∀o,w'.cell? ⟨b,o,none⟩=w.cell? ⟨b,o,none⟩):∀(t:RP)(vs:List Value),RV w S t vs→RV w' S t vs
 | .mk l g ds ks,vs,h=>by
   unfold RV at h ⊢;obtain⟨A,c,K,kc,h1,h2,h3,h4,h5,rows,h6,h7⟩:=h;exact⟨A,c,K,kc,h1,h2.keep hk,h3,h4,h5,rows,h6.keep hk,qH.keep hk ks rows h7⟩
theorem qH.keep(hk:∀b,S b→∀o,w'.cell? ⟨b,o,none⟩=w.cell? ⟨b,o,none⟩):∀(ts:List RP)(rows:List (List Value)),qH w S ts rows→qH w' S ts rows
 |[],rows,h=>by unfold qH at h ⊢; exact h
 |t::ts,rows,h=>by
  unfold qH at h ⊢;obtain⟨r,rs,h1,h2,h3⟩:=h;exact⟨r,rs,h1,RV.keep hk t r h2,qH.keep hk ts rs h3⟩
end
mutual
theorem RV.mono(hS:∀b,S b→S' b):∀(t:RP)(vs:List Value),RV w S t vs→RV w S' t vs
 | .mk l g ds ks,vs,h=>by
   unfold RV at h ⊢;obtain⟨A,c,K,kc,h1,h2,h3,h4,h5,rows,h6,h7⟩:=h;exact⟨A,c,K,kc,h1,h2.mono hS,h3,h4,h5,rows,h6.mono hS,qH.mono hS ks rows h7⟩
theorem qH.mono(hS:∀b,S b→S' b):∀(ts:List RP)(rows:List (List Value)),qH w S ts rows→qH w S' ts rows
 |[],rows,h=>by unfold qH at h ⊢; exact h
 |t::ts,rows,h=>by
  unfold qH at h ⊢;obtain⟨r,rs,h1,h2,h3⟩:=h;exact⟨r,rs,h1,RV.mono hS t r h2,qH.mono hS ts rs h3⟩
end
theorem RV.cells{t:RP}{vs:List Value}(h:RV w S t vs):∃A c K kc,vs=qc t A c K kc:=by
 cases t with
 |mk l g ds ks=>
  unfold RV at h;obtain⟨A,c,K,kc,h1,_⟩:=h;exact⟨A,c,K,kc,h1⟩
theorem RV.four{t:RP}{vs:List Value}(h:RV w S t vs):vs.length=4:=by
 obtain⟨A,c,K,kc,rfl⟩:=h.cells;rfl
theorem qH.at_:∀(ts:List RP)(rows:List (List Value)),qH w S ts rows→(∀r∈rows,r.length=4)∧rows.length=ts.length∧∀(i:Nat)(t:RP),ts[i]? =some t→∃r,rows[i]? =some r∧RV w S t r
 |[],rows,h=>by
  unfold qH at h;subst h;simp
 |t::ts,rows,h=>by
  unfold qH at h;obtain⟨r,rs,rfl,h2,h3⟩:=h;obtain⟨a1,a2,a3⟩:=qH.at_ ts rs h3;refine⟨fun x hx=>?_,by simp[a2],fun i u hu=>?_⟩
  ·rcases List.mem_cons.1 hx with rfl|hx
   ·exact h2.four
   ·exact a1 x hx
  ·cases i with
   |zero=>simp at hu;subst hu;exact⟨r,rfl,h2⟩
   |succ i=>simp at hu;obtain⟨x,hx,hv⟩:=a3 i u hu;exact⟨x,by simpa using hx,hv⟩
theorem Je:∀(rows:List (List Value))(_:∀r∈rows,r.length=4)(i:Nat)(r:List Value)(_:rows[i]? =some r)(j:Nat)(_:j<4),rows.flatten[i*4+j]? =r[j]?
 |[],_,i,r,h,_,_=>by simp at h
 |x::rows,h4,0,r,h,j,hj=>by
  simp at h;subst h;have:=h4 x List.mem_cons_self;rw[List.flatten_cons,Nat.zero_mul,Nat.zero_add,List.getElem?_append_left (by omega)]
 |x::rows,h4,i+1,r,h,j,hj=>by
  have h1:=h4 x List.mem_cons_self;rw[List.flatten_cons,List.getElem?_append_right (by omega),h1,show(i+1)*4+j-4=i*4+j by omega];exact Je rows (fun y hy=>h4 y (List.mem_cons_of_mem _ hy)) i r (by simpa using h) j hj
theorem RV.node{t:RP}{A:Option Addr}{c:Nat}{K:Option Addr}{kc:Nat}(h:RV w S t (qc t A c K kc)):jd w S 1 A t.ds.length (qf t.ds)∧qP t.ds∧t.ds.length≤c∧t.ks.length≤kc:=by
 cases t with
 |mk l g ds ks=>
  unfold RV at h;obtain⟨A',c',K',kc',h1,h2,h3,h4,h5,_⟩:=h;unfold qc at h1;simp only[List.cons.injEq,Value.slice.injEq,and_true,true_and]at h1;obtain⟨⟨rfl,_,rfl⟩,rfl,_,rfl⟩:=h1;exact⟨h2,h3,h4,h5⟩
theorem RV.kid{t:RP}{A:Option Addr}{c:Nat}{K:Option Addr}{kc:Nat}(h:RV w S t (qc t A c K kc)){i:Nat}{u:RP}(hi:t.ks[i]? =some u):
 ∃b o A' c' K' kc',K=some ⟨b,o,none⟩∧S b∧w.cell? ⟨b,o+i*4,none⟩=some (.int .i64 u.lv)∧w.cell? ⟨b,o+i*4+1,none⟩=some (.bool u.ng)∧
  w.cell? ⟨b,o+i*4+2,none⟩=some (.slice A' u.ds.length c')∧w.cell? ⟨b,o+i*4+3,none⟩=some (.slice K' u.ks.length kc')∧RV w S u (qc u A' c' K' kc'):=by
 cases t with
 |mk l g ds ks=>
  unfold RV at h;obtain⟨A1,c1,K1,kc1,h1,_,_,_,_,rows,h6,h7⟩:=h;unfold qc at h1;simp only[List.cons.injEq,Value.slice.injEq,and_true,true_and]at h1;obtain⟨_,rfl,_,rfl⟩:=h1;have hi':ks[i]? =some u:=hi;have hl:i<ks.length:=(List.getElem?_eq_some_iff.1 hi').1;obtain⟨a1,a2,a3⟩:=qH.at_ ks rows h7;obtain⟨r,hr,hv⟩:=a3 i u hi';obtain⟨A',c',K',kc',rfl⟩:=hv.cells;obtain⟨b,o,hA,hb,hc⟩:=h6.2 (by show 0<ks.length;omega);have f:=fun j hj v (hv:(qc u A' c' K' kc')[j]? =some v)=>hc (i*4+j) v ((Je rows a1 i _ hr j hj).trans hv);exact⟨b,o,A',c',K',kc',hA,hb,f 0 (by omega) _ rfl,f 1 (by omega) _ rfl,f 2 (by omega) _ rfl,f 3 (by omega) _ rfl,hv⟩
end
theorem RV.below{w w':World}{B:Nat}{t:RP}{vs:List Value}(h:RV w (· <B) t vs)(hb:Below B w w'):RV w' (· <B) t vs:=RV.keep (fun b hS o=>hb.cell (p:=⟨b,o,none⟩) hS) t vs h
theorem RV.more{w:World}{B B':Nat}{t:RP}{vs:List Value}(h:RV w (· <B) t vs)(hB:B≤B'):RV w (· <B') t vs:=RV.mono (fun _ hS=>Nat.lt_of_lt_of_le hS hB) t vs h
theorem RV.natIn{w:World}{B:Nat}{t:RP}{A:Option Addr}{c:Nat}{K:Option Addr}{kc:Nat}(h:RV w (· <B) t (qc t A c K kc)):qh w B A c t.ds:=⟨h.node.1.to (fun _ h=>h),h.node.2.1,h.node.2.2.1⟩
end Go.Proofs.YtflikmojaidhhaaGreat
namespace Go.Proofs.YtflikmojaidhhaaGreat
mutual
def jU(dg:Nat):RP→Int→Nat→Int
 | .mk _ _ ds ks,n,deep=>if deep=0 then -1 else if dg<ds.length then -1 else if 12<ks.length then -1 else jc dg ks (n-1) (deep-1)
def jc(dg:Nat):List RP→Int→Nat→Int
 |[],n,_=>n
 |t::ts,n,d=>if n<0 then -1 else jc dg ts (jU dg t n d) d
end
mutual
def yj:RP→Nat
 | .mk _ _ _ ks=>zC ks+1
def zC:List RP→Nat
 |[]=>0
 |t::ts=>yj t+zC ts
end
mutual
def yz(dg:Nat):RP→Prop
 | .mk _ _ ds ks=>ds.length≤dg∧ks.length≤12∧Jw dg ks
def Jw(dg:Nat):List RP→Prop
 |[]=>True
 |t::ts=>yz dg t∧Jw dg ts
end
theorem qgZ(dg:Nat)(ts:List RP)(n:Int)(d:Nat)(h:n<0):jc dg ts n d<0:=by
 cases ts with
 |nil=>simp only[jc];exact h
 |cons t ts=>simp only[jc];rw[if_pos h];omega
mutual
theorem YQ(dg:Nat):∀(t:RP)(n:Int)(d:Nat),0≤jU dg t n d→(yj t:Int)+jU dg t n d≤n∧qv t≤d∧yz dg t
 | .mk l g ds ks,n,d,h=>by
   simp only[jU]at h ⊢;by_cases h0:d=0
   ·rw[if_pos h0]at h;omega
   ·rw[if_neg h0]at h ⊢;by_cases h1:dg<ds.length
    ·rw[if_pos h1]at h;omega
    ·rw[if_neg h1]at h ⊢;by_cases h2:12<ks.length
     ·rw[if_pos h2]at h;omega
     ·rw[if_neg h2]at h ⊢;obtain⟨a1,a2,a3⟩:=qbI dg ks (n-1) (d-1) h;refine⟨?_,?_,?_⟩
      ·simp only[yj];omega
      ·simp only[qv];omega
      ·simp only[yz];exact⟨by omega,by omega,a3⟩
theorem qbI(dg:Nat):∀(ts:List RP)(n:Int)(d:Nat),0≤jc dg ts n d→(zC ts:Int)+jc dg ts n d≤n∧Qb ts≤d∧Jw dg ts
 |[],n,d,h=>by simp[jc,zC,Qb,Jw]
 |t::ts,n,d,h=>by
  simp only[jc]at h ⊢;by_cases h0:n<0
  ·rw[if_pos h0]at h;omega
  ·rw[if_neg h0]at h ⊢;have h1:0≤jU dg t n d:=Int.not_lt.1 fun hn=>by have:=qgZ dg ts _ d hn;omega
   obtain⟨a1,a2,a3⟩:=YQ dg t n d h1;obtain⟨b1,b2,b3⟩:=qbI dg ts _ d h;refine⟨?_,?_,?_⟩
   ·simp only[zC];omega
   ·simp only[Qb];omega
   ·simp only[Jw];exact⟨a3,b3⟩
end
theorem QQ(dg:Nat)(t:RP)(ts:List RP)(n:Int)(d:Nat):jc dg (t::ts) n d=if n<0 then -1 else jc dg ts (jU dg t n d) d:=by rw[jc]
theorem JE(dg:Nat):∀(ts us:List RP)(n:Int)(d:Nat),jc dg (ts++us) n d=if us=[]then jc dg ts n d else if jc dg ts n d<0 then -1 else jc dg us (jc dg ts n d) d
 |[],us,n,d=>by
  have e:jc dg [] n d=n:=by rw[jc]
  rw[e,List.nil_append]
  cases us with
  |nil=>rw[if_pos rfl,e]
  |cons u us=>
   rw[if_neg (by simp),QQ];by_cases h:n<0
   ·rw[if_pos h,if_pos h]
   ·rw[if_neg h,if_neg h]
 |t::ts,us,n,d=>by
  rw[List.cons_append,QQ,QQ];by_cases h0:n<0
  ·rw[if_pos h0,if_pos h0];simp
  ·rw[if_neg h0,if_neg h0,JE dg ts us]
mutual
theorem qiz(dg:Nat):∀(t:RP)(n:Int)(d:Nat),0≤n→-1≤jU dg t n d∧jU dg t n d≤n
 | .mk l g ds ks,n,d,h=>by
   simp only[jU]
   split
   ·omega
   ·split
    ·omega
    ·split
     ·omega
     ·have:=ZZ dg ks (n-1) (d-1) (by omega);omega
theorem ZZ(dg:Nat):∀(ts:List RP)(n:Int)(d:Nat),-1≤n→-1≤jc dg ts n d∧jc dg ts n d≤n
 |[],n,d,h=>by simp only[jc];omega
 |t::ts,n,d,h=>by
  simp only[jc]
  split
  ·omega
  ·have h1:=qiz dg t n d (by omega);have h2:=ZZ dg ts (jU dg t n d) d h1.1;omega
end
theorem qen{dg:Nat}{ts:List RP}{k:Nat}{u:RP}(h:ts[k]? =some u)(n:Int)(d:Nat)(h0:0≤jc dg (ts.take k) n d):jc dg (ts.take (k+1)) n d=jU dg u (jc dg (ts.take k) n d) d:=by
 have hl:k<ts.length:=(List.getElem?_eq_some_iff.1 h).1;have e:ts[k]=u:=(List.getElem?_eq_some_iff.1 h).2;rw[List.take_succ_eq_append_getElem hl,JE,if_neg (by simp),if_neg (by omega),e];simp only[jc];rw[if_neg (by omega)]
theorem qeU{dg:Nat}{ts:List RP}{k:Nat}(hk:k<ts.length)(n:Int)(d:Nat)(h0:jc dg (ts.take k) n d<0):jc dg ts n d=-1:=by
 have:=JE dg (ts.take k) (ts.drop k) n d;rw[List.take_append_drop,if_neg (by intro e;have:=congrArg List.length e;simp at this;omega),if_pos h0]at this;exact this
theorem qi3(dg:Nat)(t:RP)(n:Int)(d:Nat):jU dg t n d=if d=0 then -1 else if dg<t.ds.length then -1 else if 12<t.ks.length then -1 else jc dg t.ks (n-1) (d-1):=by
 cases t
 rw[jU];rfl
abbrev Mo:=Int×Int×Int×Int
abbrev Tm:=Int×Mo
def yH(m:Mo):Bool:=decide (0≤m.1)&&(decide (0≤m.2.1)&&(decide (0≤m.2.2.1)&&decide (0≤m.2.2.2)))
theorem ZF{m:Mo}:yH m=true↔0≤m.1∧0≤m.2.1∧0≤m.2.2.1∧0≤m.2.2.2:=by simp[yH]
def qlR(a b:Mo):Mo:=(a.1+b.1,a.2.1+b.2.1,a.2.2.1+b.2.2.1,a.2.2.2+b.2.2.2)
def yr(f:Mo→Int):List Tm→Int
 |[]=>0
 |t::l=>(if yH t.2=true then t.1*f t.2 else 0)+yr f l
def cf(l:List Tm)(m:Mo):Int:=yr (fun x=>if x=m then 1 else 0) l
theorem yU(f:Mo→Int)(p q:List Tm):yr f (p++q)=yr f p+yr f q:=by
 induction p with
 |nil=>simp[yr]
 |cons t l ih=>simp only[List.cons_append,yr,ih];omega
theorem yS(p q:List Tm)(m:Mo):cf (p++q) m=cf p m+cf q m:=yU _ p q
theorem Qg(m:Mo):cf [] m=0:=rfl
theorem jh(t:Tm)(l:List Tm)(m:Mo):cf (t::l) m=(if yH t.2=true∧t.2=m then t.1 else 0)+cf l m:=by
 unfold cf;simp only[yr];by_cases h1:yH t.2=true<;>by_cases h2:t.2=m<;>simp[h1,h2]
theorem qbH{f g:Mo→Int}{l:List Tm}(h:∀t∈l,yH t.2=true→f t.2=g t.2):yr f l=yr g l:=by
 induction l with
 |nil=>rfl
 |cons t l ih=>
  simp only[yr];rw[ih fun s hs=>h s (List.mem_cons_of_mem _ hs)];by_cases hv:yH t.2=true
  ·simp only[hv,if_true];rw[h t (List.mem_cons_self) hv]
  ·simp[hv]
theorem qgJ(f:Mo→Int)(m:Mo)(l:List Tm):yr f l=f m*cf l m+yr f (l.filter fun t=> !decide (t.2=m)):=by
 induction l with
 |nil=>simp[yr,cf]
 |cons t l ih=>
  rw[jh];by_cases h:t.2=m
  ·subst h;simp only[yr,List.filter_cons,decide_true,Bool.not_true,Bool.false_eq_true,if_false];rw[ih];by_cases hv:yH t.2=true
   ·simp only[hv,if_true,true_and];rw[Int.mul_add,Int.mul_comm t.1];omega
   ·simp[hv]
  ·simp only[yr,List.filter_cons,h,decide_false,Bool.not_false,if_true,and_false,if_false,Int.zero_add];rw[ih];omega
theorem qbF(l:List Tm)(m x:Mo):cf (l.filter fun t=> !decide (t.2=m)) x=if x=m then 0 else cf l x:=by
 induction l with
 |nil=>simp[cf,yr]
 |cons t l ih=>
  rw[jh];by_cases h:t.2=m
  ·simp only[List.filter_cons,h,decide_true,Bool.not_true,Bool.false_eq_true,if_false];rw[ih];by_cases hx:x=m
   ·simp[hx]
   ·simp only[hx,if_false];rw[if_neg (by rintro⟨_,e⟩;exact hx e.symm)];omega
  ·simp only[List.filter_cons,h,decide_false,Bool.not_false,if_true];rw[jh,ih];by_cases hx:x=m
   ·subst hx;simp[h]
   ·simp[hx]
theorem qc8(f:Mo→Int):∀(n:Nat)(l:List Tm),l.length≤n→(∀m,cf l m=0)→yr f l=0:=by
 intro n
 induction n with
 |zero=>
  intro l hl _;obtain rfl:l=[]:=List.eq_nil_of_length_eq_zero (by omega);rfl
 |succ n ih=>
  intro l hl hz
  match l,hl,hz with
  |[],_,_=>rfl
  |t::l,hl,hz=>
   rw[qgJ f t.2 (t::l),hz,Int.mul_zero,Int.zero_add];refine ih _ ?_ (fun m=>?_)
   ·simp only[List.filter_cons,decide_true,Bool.not_true,Bool.false_eq_true,if_false];have:=List.length_filter_le (fun s:Tm=> !decide (s.2=t.2)) l;simp only[List.length_cons]at hl;omega
   ·rw[qbF]
    split
    ·rfl
    ·exact hz m
def qgy(l:List Tm):List Tm:=l.map fun t=>(-t.1,t.2)
theorem qcf(f:Mo→Int)(l:List Tm):yr f (qgy l)=-yr f l:=by
 induction l with
 |nil=>rfl
 |cons t l ih=>
  have ih':yr f (l.map fun t=>(-t.1,t.2))=-yr f l:=ih;simp only[qgy,List.map_cons,yr,ih'];by_cases h:yH t.2=true
  ·simp only[h,if_true,Int.neg_mul];omega
  ·simp[h]
theorem qjT{p q:List Tm}(h:∀m,cf p m=cf q m)(f:Mo→Int):yr f p=yr f q:=by
 have h0:=qc8 f _ (p++qgy q) (Nat.le_refl _) fun m=>by
  rw[yS,h m];unfold cf;rw[qcf];omega
 rw[yU,qcf]at h0;omega
def qia(c:Int)(l:List Tm):List Tm:=l.map fun t=>(t.1*c,t.2)
def zS(a b:Int):Int:=if a<b then -1 else if b<a then 1 else 0
def qcq(a b:Mo):Int:=
 if zS a.2.2.2 b.2.2.2≠0 then zS a.2.2.2 b.2.2.2 else
 if zS a.2.2.1 b.2.2.1≠0 then zS a.2.2.1 b.2.2.1 else
 if zS a.2.1 b.2.1≠0 then zS a.2.1 b.2.1 else zS a.1 b.1
def Ze(a b:Mo):Prop:=
 a.2.2.2<b.2.2.2∨a.2.2.2=b.2.2.2∧(a.2.2.1<b.2.2.1∨a.2.2.1=b.2.2.1∧(a.2.1<b.2.1∨a.2.1=b.2.1∧a.1<b.1))
instance (a b:Mo):Decidable (Ze a b):=by unfold Ze;infer_instance
theorem yP(a:Mo):¬Ze a a:=by unfold Ze;omega
theorem Qv{a b c:Mo}(h:Ze a b)(k:Ze b c):Ze a c:=by unfold Ze at *; omega
theorem Yr(a b:Mo):Ze a b∨a=b∨Ze b a:=by
 obtain⟨a0,a1,a2,a3⟩:=a;obtain⟨b0,b1,b2,b3⟩:=b;unfold Ze;simp only[Prod.mk.injEq];omega
theorem qkI(a b:Mo):qcq a b=if Ze a b then -1 else if Ze b a then 1 else 0:=by
 unfold qcq Ze zS
 (repeat' split)<;>omega
theorem qjE{a b:Mo}:qcq a b<0↔Ze a b:=by
 rw[qkI];constructor
 ·intro h
  split at h
  ·assumption
  ·split at h<;>omega
 ·intro h;simp[h]
structure qI (l:List Tm):Prop where
 ne:∀t∈l,t.1≠0
 vl:∀t∈l,yH t.2=true
 so:l.Pairwise fun s t=>Ze t.2 s.2
theorem qI.nil:qI []:=⟨by simp,by simp,List.Pairwise.nil⟩
theorem qI.tail{t:Tm}{l:List Tm}(h:qI (t::l)):qI l:=
 ⟨fun s hs=>h.ne s (List.mem_cons_of_mem _ hs),fun s hs=>h.vl s (List.mem_cons_of_mem _ hs),(List.pairwise_cons.1 h.so).2⟩
theorem Ju{l:List Tm}{m:Mo}(h:∀t∈l,t.2≠m):cf l m=0:=by
 induction l with
 |nil=>rfl
 |cons t l ih=>
  rw[jh,ih fun s hs=>h s (List.mem_cons_of_mem _ hs),if_neg (fun e=>h t List.mem_cons_self e.2)];rfl
theorem qI.head{t:Tm}{l:List Tm}(h:qI (t::l)):cf (t::l) t.2=t.1:=by
 rw[jh,Ju fun s hs e=>?_,if_pos ⟨h.vl t List.mem_cons_self,rfl⟩]
 ·omega
 ·have:=(List.pairwise_cons.1 h.so).1 s hs;rw[e]at this;exact yP _ this
theorem qI.above{t:Tm}{l:List Tm}(h:qI (t::l)){m:Mo}(hm:Ze t.2 m):cf (t::l) m=0:=
 Ju fun s hs e=>by
  subst e;rcases List.mem_cons.1 hs with rfl|hs
  ·exact yP _ hm
  ·exact yP _ (Qv hm ((List.pairwise_cons.1 h.so).1 s hs))
theorem qI.cf_mem{l:List Tm}(h:qI l){t:Tm}(ht:t∈l):cf l t.2=t.1:=by
 induction l with
 |nil=>cases ht
 |cons s l ih=>
  rcases List.mem_cons.1 ht with rfl|hm
  ·exact h.head
  ·rw[jh,ih h.tail hm,if_neg]
   ·omega
   ·rintro⟨_,e⟩;have:=(List.pairwise_cons.1 h.so).1 t hm;rw[e]at this;exact yP _ this
theorem qI.unique{p q:List Tm}(hp:qI p)(hq:qI q)(h:∀m,cf p m=cf q m):p=q:=by
 induction p generalizing q with
 |nil=>
  match q,hq with
  |[],_=>rfl
  |t::q,hq=>exact absurd ((hq.head).symm.trans ((h t.2).symm.trans (Qg _))) (hq.ne t List.mem_cons_self)
 |cons s p ih=>
  match q,hq,h with
  |[],_,h=>exact absurd ((hp.head).symm.trans ((h s.2).trans (Qg _))) (hp.ne s List.mem_cons_self)
  |t::q,hq,h=>
   have e:s.2=t.2:=by
    rcases Yr s.2 t.2 with k|k|k
    ·exact absurd (hq.head.symm.trans ((h t.2).symm.trans (hp.above k))) (hq.ne t List.mem_cons_self)
    ·exact k
    ·exact absurd (hp.head.symm.trans ((h s.2).trans (hq.above k))) (hp.ne s List.mem_cons_self)
   have e1:s.1=t.1:=by rw[←hp.head,←hq.head,e];exact h t.2
   have est:s=t:=Prod.ext e1 e;subst est;rw[ih hp.tail hq.tail fun m=>?_];have:=h m;rw[jh,jh]at this;omega
def nrm:List Tm→Nat
 |[]=>0
 |t::l=>t.1.natAbs+nrm l
theorem zN(p q:List Tm):nrm (p++q)=nrm p+nrm q:=by
 induction p with
 |nil=>simp[nrm]
 |cons t l ih=>simp only[List.cons_append,nrm,ih];omega
theorem Qs{l:List Tm}{t:Tm}(h:t∈l):t.1.natAbs≤nrm l:=by
 induction l with
 |nil=>cases h
 |cons s l ih=>
  simp only[nrm];rcases List.mem_cons.1 h with rfl|h
  ·omega
  ·have:=ih h;omega
theorem qeS(f:Mo→Int)(hf:∀m,(f m).natAbs≤1)(l:List Tm):(yr f l).natAbs≤nrm l:=by
 induction l with
 |nil=>simp[yr]
 |cons t l ih=>
  simp only[yr,nrm];by_cases h:yH t.2=true
  ·simp only[h,if_true];have h1:(t.1*f t.2).natAbs≤t.1.natAbs:=by
    rw[Int.natAbs_mul]
    calc _≤t.1.natAbs*1:=Nat.mul_le_mul_left _ (hf _)
     _=_:=Nat.mul_one _
   omega
  ·simp only[h,Bool.false_eq_true,if_false];omega
def sgI(z:Int):Int:=if z<0 then -1 else 1
theorem qjO(z:Int):z*sgI z=z.natAbs:=by unfold sgI;split<;>omega
theorem qI.lin_sg{q l:List Tm}(hq:qI q)(hl:∀t∈q,t∈l)(hc:qI l):yr (fun m=>sgI (cf l m)) q=nrm q:=by
 induction q with
 |nil=>rfl
 |cons t q ih=>
  simp only[yr,nrm];rw[if_pos (hq.vl t List.mem_cons_self),hc.cf_mem (hl t List.mem_cons_self),qjO,ih hq.tail fun s hs=>hl s (List.mem_cons_of_mem _ hs)];omega
theorem qI.nrm_le{q l:List Tm}(hq:qI q)(h:∀m,cf q m=cf l m):nrm q≤nrm l:=by
 have h1:=hq.lin_sg (fun _ h=>h) hq;rw[qjT h]at h1;have h2:=qeS (fun m=>sgI (cf q m)) (fun m=>by simp only[sgI];split<;>simp) l;omega
theorem qgC{l:List Tm}{m:Mo}(h:cf l m≠0):∃t∈l,yH t.2=true∧t.2=m:=by
 induction l with
 |nil=>exact absurd rfl h
 |cons t l ih=>
  rw[jh]at h;by_cases ht:yH t.2=true∧t.2=m
  ·exact⟨t,List.mem_cons_self,ht⟩
  ·rw[if_neg ht]at h;obtain⟨s,hs,k⟩:=ih (by omega);exact⟨s,List.mem_cons_of_mem _ hs,k⟩
theorem qI.src{q l:List Tm}(hq:qI q)(h:∀m,cf q m=cf l m){t:Tm}(ht:t∈q):∃s∈l,yH s.2=true∧s.2=t.2:=
 qgC (by rw[←h,hq.cf_mem ht];exact hq.ne t ht)
structure zB (ts gs:List Tm):Prop where
 nd:(gs.map (·.2)).Nodup
 vl:∀t∈gs,yH t.2=true
 cf:∀m,cf gs m=cf ts m
 len:gs.length≤ts.length
 nrm:nrm gs≤nrm ts
theorem zB.nil:zB [] []:=⟨by simp,by simp,fun _=>rfl,Nat.le_refl _,Nat.le_refl _⟩
theorem zB.skip{ts gs:List Tm}(h:zB ts gs){m:Mo}(hv:yH m=false)(c:Int):zB (ts++[(c,m)]) gs where
 nd:=h.nd
 vl:=h.vl
 cf x:=by
  rw[yS,jh,if_neg (by simp[hv]),h.cf];simp[Qg]
 len:=by have:=h.len;simp;omega
 nrm:=by have:=h.nrm;rw[zN];omega
theorem zB.new{ts gs:List Tm}(h:zB ts gs){m:Mo}(hv:yH m=true)(ha:∀t∈gs,t.2≠m)(c:Int):zB (ts++[(c,m)]) (gs++[(c,m)]) where
 nd:=by
  rw[List.map_append,List.nodup_append];refine⟨h.nd,by simp,?_⟩;intro a ha' b hb e;simp at hb;subst hb;subst e;obtain⟨t,ht,e⟩:=List.mem_map.1 ha';exact ha t ht e
 vl t ht:=by
  rcases List.mem_append.1 ht with k|k
  ·exact h.vl t k
  ·simp at k;subst k;exact hv
 cf x:=by rw[yS,yS,h.cf]
 len:=by have:=h.len;simp;omega
 nrm:=by have:=h.nrm;rw[zN,zN];omega
theorem qle{gs:List Tm}{i:Nat}{a c:Int}{m:Mo}(hi:gs[i]? =some (a,m))(hv:yH m=true)(x:Mo):cf (gs.set i (a+c,m)) x=cf gs x+if m=x then c else 0:=by
 induction gs generalizing i with
 |nil=>simp at hi
 |cons t l ih=>
  match i,hi with
  |0,hi=>
   simp at hi;subst hi;simp only[List.set_cons_zero];rw[jh,jh];simp only[hv,true_and]
   split<;>omega
  |i+1,hi=>
   simp only[List.set_cons_succ];rw[jh,jh,ih (by simpa using hi)];omega
theorem qj3{gs:List Tm}{i:Nat}{a c:Int}{m:Mo}(hi:gs[i]? =some (a,m)):nrm (gs.set i (a+c,m))≤nrm gs+c.natAbs:=by
 induction gs generalizing i with
 |nil=>simp at hi
 |cons t l ih=>
  match i,hi with
  |0,hi=>
   simp at hi;subst hi;simp only[List.set_cons_zero,nrm];omega
  |i+1,hi=>
   simp only[List.set_cons_succ,nrm];have:=ih (i:=i) (by simpa using hi);omega
theorem zB.upd{ts gs:List Tm}(h:zB ts gs){m:Mo}{i:Nat}{a:Int}(hi:gs[i]? =some (a,m))(c:Int):zB (ts++[(c,m)]) (gs.set i (a+c,m)):=by
 have hv:yH m=true:=h.vl _ (List.mem_of_getElem? hi);have hm:(gs.set i (a+c,m)).map (·.2)=gs.map (·.2):=by
  apply List.ext_getElem?;intro j;simp only[List.getElem?_map,List.getElem?_set]
  split
  ·rename_i e;subst e;rw[hi]
   split<;>simp_all
  ·rfl
 refine⟨by rw[hm];exact h.nd,fun t ht=>?_,fun x=>?_,by have:=h.len;simp;omega,?_⟩
 ·rcases List.mem_or_eq_of_mem_set ht with k|k
  ·exact h.vl t k
  ·subst k;exact hv
 ·rw[qle hi hv,yS,jh,h.cf];simp[hv,Qg]
 ·have:=qj3 (c:=c) hi;have:=h.nrm;rw[zN];simp only[Go.Proofs.YtflikmojaidhhaaGreat.nrm];omega
theorem qi2(f:Mo→Int){p q:List Tm}(h:p.Perm q):yr f p=yr f q:=by
 induction h with
 |nil=>rfl
 |cons t _ ih=>simp only[yr,ih]
 |swap s t l=>simp only[yr];omega
 |trans _ _ ih1 ih2=>rw[ih1,ih2]
theorem qj7{p q:List Tm}(h:p.Perm q)(m:Mo):cf p m=cf q m:=qi2 _ h
theorem qkZ(l:List Tm)(m:Mo):cf (l.filter fun t=> !decide (t.1=0)) m=cf l m:=by
 induction l with
 |nil=>rfl
 |cons t l ih=>
  by_cases h:t.1=0
  ·simp only[List.filter_cons,h,decide_true,Bool.not_true,Bool.false_eq_true,if_false];rw[ih,jh,h]
   split<;>omega
  ·simp only[List.filter_cons,h,decide_false,Bool.not_false,if_true];rw[jh,jh,ih]
theorem zB.canon{ts gs q:List Tm}(h:zB ts gs)(hp:q.Perm (gs.filter fun t=> !decide (t.1=0)))(hs:q.Pairwise fun s t=>¬Ze s.2 t.2):qI q∧(∀m,Go.Proofs.YtflikmojaidhhaaGreat.cf q m=Go.Proofs.YtflikmojaidhhaaGreat.cf ts m)∧q.length≤ts.length:=by
 refine⟨⟨fun t ht=>?_,fun t ht=>?_,?_⟩,fun m=>?_,?_⟩
 ·have:=hp.mem_iff.1 ht;simpa using(List.mem_filter.1 this).2
 ·exact h.vl t (List.mem_filter.1 (hp.mem_iff.1 ht)).1
 ·have hnd:(q.map (·.2)).Nodup:=by
   have h1:(q.map (·.2)).Perm ((gs.filter fun t=> !decide (t.1=0)).map (·.2)):=hp.map _;rw[h1.nodup_iff];exact List.Sublist.nodup (List.filter_sublist.map _) h.nd
  have hnd':q.Pairwise fun s t=>s.2≠t.2:=List.pairwise_map.1 hnd;refine(List.Pairwise.and hs hnd').imp fun{a b} hab=>?_;rcases Yr a.2 b.2 with k|k|k
  ·exact absurd k hab.1
  ·exact absurd k hab.2
  ·exact k
 ·rw[qj7 hp,qkZ,h.cf]
 ·rw[hp.length_eq];exact Nat.le_trans (List.length_filter_le _ _) h.len
theorem zB.mem_nrm{ts gs:List Tm}(h:zB ts gs){t:Tm}(ht:t∈gs):t.1.natAbs≤Go.Proofs.YtflikmojaidhhaaGreat.nrm ts:=Nat.le_trans (Qs ht) h.nrm
def qW(t:RP):Bool:=decide (t.lv=0)&&decide (t.ds.length=0)
def Zs(ks:List RP):Bool:=
 match ks[ks.length-1]? with
 |some t=> !qW t
 |none=>false
def YB(g:Bool)(ds:List Nat):Bool:=if ds.length=0 then !g else decide (ds.getD (ds.length-1) 0≠0)
mutual
def qj:RP→Bool
 | .mk l g ds ks=>if l=0 then(if 0<ks.length then false else YB g ds)
    else if(decide (1≤l)&&decide (l≤4)&&decide (ds.length=0)&& !g&&decide (2≤ks.length))=false then false
    else if zV l ks=false then false else Zs ks
def zV(l:Int):List RP→Bool
 |[]=>true
 |t::ts=>(decide (t.lv<l)&&qj t)&&zV l ts
end
theorem qa3(l:Int):∀(ts:List RP)(k:Nat)(t:RP),ts[k]? =some t→zV l (ts.take (k+1))=(zV l (ts.take k)&&(decide (t.lv<l)&&qj t))
 |[],k,t,h=>by simp at h
 |s::ts,0,t,h=>by
  simp at h;subst h;simp[zV]
 |s::ts,k+1,t,h=>by
  have:=qa3 l ts k t (by simpa using h);simp only[List.take_succ_cons,zV,this,Bool.and_assoc]
theorem qcO(l:Int):∀(ts:List RP)(k:Nat)(t:RP),ts[k]? =some t→(decide (t.lv<l)&&qj t)=false→zV l ts=false
 |[],k,t,h,_=>by simp at h
 |s::ts,0,t,h,hb=>by
  simp at h;subst h;simp[zV,hb]
 |s::ts,k+1,t,h,hb=>by
  have:=qcO l ts k t (by simpa using h) hb;simp[zV,this]
mutual
def zu:RP→RP
 | .mk l g ds ks=>if l=0 then .mk 0 (decide (qb g ds<0)) (dig (val ds)) []else .mk l false [] (cpL ks)
def cpL:List RP→List RP
 |[]=>[]
 |t::ts=>zu t::cpL ts
end
theorem qe8(ts:List RP):cpL ts=ts.map zu:=by
 induction ts with
 |nil=>simp[cpL]
 |cons t ts ih=>simp[cpL,ih]
def js(m:Mo)(i:Nat)(x:Int):Mo:=
 match i with
 |0=>(x,m.2.1,m.2.2.1,m.2.2.2)
 |1=>(m.1,x,m.2.2.1,m.2.2.2)
 |2=>(m.1,m.2.1,x,m.2.2.2)
 |_=>(m.1,m.2.1,m.2.2.1,x)
def Za(m:Mo)(i:Nat):Int:=
 match i with
 |0=>m.1
 |1=>m.2.1
 |2=>m.2.2.1
 |_=>m.2.2.2
mutual
def ji:RP→Mo→List ((Bool×List Nat)×Mo)
 | .mk l g ds ks,m=>if l≤0 then[((g,ds),m)]else if 4<l then[]else qX (l.toNat-1) ks m (Za m (l.toNat-1))
def qX(i:Nat):List RP→Mo→Int→List ((Bool×List Nat)×Mo)
 |[],_,_=>[]
 |t::ts,m,e=>ji t (js m i e)++qX i ts m (e+1)
end
end Go.Proofs.YtflikmojaidhhaaGreat
namespace Go.Proofs.YtflikmojaidhhaaGreat
open Go.RowKit
abbrev qn(t:RP)(A:Option Addr)(c:Nat)(K:Option Addr)(kc:Nat):Value:= .agg #[.int .i64 t.lv,.bool t.ng,.slice A t.ds.length c,.slice K t.ks.length kc]
set_option maxHeartbeats 2000000
set_option maxRecDepth 100000
theorem qdt(dg:Nat)(hdg:dg≤1000):∀(D:Nat)(t:RP),qv t≤D→∀(A:Option Addr)(c:Nat)(K:Option Addr)(kc B:Nat)(n:Int)(d:Nat)(w:World),B≤w.heap.size→RV w (· <B) t (qc t A c K kc)→0≤n→n≤1000000→d≤1000→
 Calls Tryz.prog 38 #[qn t A c K kc,.int .i64 n,.int .i64 (d:Int),.int .i64 (dg:Int)] w fun e w'=>e= .returned (.int .i64 (jU dg t n d))∧Below w.heap.size w w'
 |0,t,hD,_,_,_,_,_,_,_,_,_,_,_,_,_=>by cases t;simp only[qv]at hD;omega
 |D+1,t,hD,A,c,K,kc,B,n,d,w,hB,h,hn0,hn1,hd=>by
  have IH:=Lib.hid (qdt dg hdg D);have HR:=Lib.hid (fun(W:World)(hW:Below w.heap.size w W)=>h.below (hW.mono hB));have HD:=Lib.hid (fun(u:RP)(hu:u∈t.ks)=>show qv u≤D by have:=qD hu;omega);have HB:=Lib.hid hB;have hbx:=(Below.refl w.heap.size w).alloc (Nat.le_refl _) (.cells #[.int .i64 t.lv,.bool t.ng,.slice A t.ds.length c,.slice K t.ks.length kc] 28);have kbx:=qd.new w 28 #[.int .i64 t.lv,.bool t.ng,.slice A t.ds.length c,.slice K t.ks.length kc];have HBX:=Lib.hid hbx;have HKX:=Lib.hid kbx;rw[qi3];have hm:IntKind.i64.wrap (n-1)=n-1:=IntWalk.i64_in _ (by omega);clear h hD hbx kbx hB;by_cases h0:d=0
  ·subst h0;rw[if_pos rfl];go_enter Tryz.func38,Tryz.ntmps38
   go_wp2_with fail
   go_ret
   exact⟨rfl,HBX.out⟩
  ·rw[if_neg h0];have i0:((d:Int)==0)=false:=by simp;omega
   by_cases h1:dg<t.ds.length
   ·rw[if_pos h1];clear h0;go_enter Tryz.func38,Tryz.ntmps38
    go_wp2_with fail
    go_ret
    exact⟨rfl,HBX.out⟩
   ·rw[if_neg h1];have h1:t.ds.length≤dg:=by omega
    by_cases h2:12<t.ks.length
    ·rw[if_pos h2];have i2:(12:Int)<(t.ks.length:Int):=by omega
     clear h0 h2;go_enter Tryz.func38,Tryz.ntmps38
     go_wp2_with fail
     go_ret
     exact⟨rfl,HBX.out⟩
    ·rw[if_neg h2];have i2:(t.ks.length:Int)≤12:=by omega
     have HN:=Lib.hid hn0;have HN1:=Lib.hid hn1;have H0:=Lib.hid h0;have hd1:(d:Int)-1=((d-1:Nat):Int):=by omega
     have hw1:IntKind.i64.wrap ((d-1:Nat):Int)=((d-1:Nat):Int):=IntWalk.i64_in _ (by omega);have HDD:=Lib.hid (show d-1≤1000 by omega);clear h0 h2;generalize d-1=d' at*;go_enter Tryz.func38,Tryz.ntmps38
     go_wp2_with fail
     generalize hbb:w.alloc (.cells #[.int .i64 t.lv,.bool t.ng,.slice A t.ds.length c,.slice K t.ks.length kc] 28)=w1 at*;clear hbb;go_loopg [1,9,31] t.ks.length (fun gn nv _ ix wr=>∃k:Nat,k≤t.ks.length∧gn=t.ks.length-k∧ix= .int .i64 k∧nv= .int .i64 (jc dg (t.ks.take k) (n-1) d')∧Below w.heap.size w wr∧qd wr w.heap.size 28 #[.int .i64 t.lv,.bool t.ng,.slice A t.ds.length c,.slice K t.ks.length kc])
     case atStart=>exact⟨0,Nat.zero_le _,rfl,rfl,by simp[jc],HBX.out,HKX.out⟩
     case round=>
      obtain⟨k,hk,hgk,rfl,rfl,hbw,hkb⟩:=hrel;have HG:=Lib.hid hgk;clear hgk;have hbd:=ZZ dg (t.ks.take k) (n-1) d' (by have:=HN.out;omega);have HTK:=Lib.hid (fun u (hu:t.ks[k]? =some u) h0=>qen (dg:=dg) hu (n-1) d' h0);have HST:=Lib.hid (fun(hk:k<t.ks.length) h0=>qeU (dg:=dg) hk (n-1) d' h0);have HFIN:=Lib.hid (show t.ks.length≤k→jc dg (t.ks.take k) (n-1) d'=jc dg t.ks (n-1) d' from fun h=>by rw[List.take_of_length_le h]);generalize jc dg (t.ks.take k) (n-1) d'=v at*;have c0:wr.cell? ⟨w.heap.size,0,none⟩=some (.int .i64 t.lv):=hkb.cell 0;have c1:wr.cell? ⟨w.heap.size,1,none⟩=some (.bool t.ng):=hkb.cell 1;have c2:wr.cell? ⟨w.heap.size,2,none⟩=some (.slice A t.ds.length c):=hkb.cell 2;have c3:wr.cell? ⟨w.heap.size,3,none⟩=some (.slice K t.ks.length kc):=hkb.cell 3;by_cases hlt:k<t.ks.length
      ·by_cases hv:v<0
       ·clear hm hd1 hw1;go_wp2_with fail
        go_ret
        exact⟨by rw[HST.out hlt hv];rfl,hbw⟩
       ·obtain⟨u,hu⟩:∃u,t.ks[k]? =some u:=⟨_,List.getElem?_eq_getElem hlt⟩;have hrv:=HR.out wr hbw;obtain⟨b,o,A',c',K',kc',rfl,hbB,e0,e1,e2,e3,hku⟩:=hrv.kid hu;have hkc:=hrv.node.2.2.2;have HIH:=Lib.hid (IH.out u (HD.out u (List.mem_of_getElem? hu)) A' c' K' kc' wr.heap.size v d' wr (Nat.le_refl _) (hku.more (Nat.le_trans HB.out hbw.size)) (by omega) (by have:=HN1.out;omega) HDD.out);have HNX:=Lib.hid (HTK.out u hu (by omega));have i3:(0:Int)≤(k:Int):=by omega
        have i4:(k:Int)<(t.ks.length:Int):=by omega
        have i5:(t.ks.length:Int)≤(kc:Int):=by omega
        have HBW:=Lib.hid hbw;have HKB:=Lib.hid hkb;have hvn:0≤v:=by omega
        clear hu hrv hku hkc hbw hkb hv;go_wp2_with fail
        refine HIH.out.mono ?_;rintro e w2 ⟨rfl,hb2⟩;have HB2:=Lib.hid (HBW.out.trans (hb2.mono HBW.out.size));have HK2:=Lib.hid (HKB.out.old hb2);clear hb2 HIH HBW HKB;go_wp2_with fail
        go_roundg (t.ks.length-(k+1))
        case rel=>exact⟨k+1,by omega,rfl,by go_num,by rw[HNX.out],HB2.out,HK2.out⟩
        case measure=>have:=HG.out;omega
      ·obtain rfl:k=t.ks.length:=by omega
       clear hm hd1 hw1;go_wp2_with fail
       go_ret
       exact⟨by rw[←HFIN.out (Nat.le_refl _)];rfl,hbw⟩
theorem qi9(t:RP)(A:Option Addr)(c:Nat)(K:Option Addr)(kc B n dg:Nat)(w:World)(hB:B≤w.heap.size)(h:RV w (· <B) t (qc t A c K kc))(hn:n≤1000000)(hdg:dg≤1000):
 Calls Tryz.prog 14 #[qn t A c K kc,.int .i64 (n:Int),.int .i64 (dg:Int)] w fun e w'=>e= .returned (.bool (decide (0≤jU dg t n 6)))∧Below w.heap.size w w':=by
 have hbx:=(Below.refl w.heap.size w).alloc (Nat.le_refl _) (.cells #[.int .i64 t.lv,.bool t.ng,.slice A t.ds.length c,.slice K t.ks.length kc] 28);have HR:=Lib.hid (qdt dg hdg (qv t) t (Nat.le_refl _) A c K kc B n 6 _ (Nat.le_trans hB hbx.size) (h.below (hbx.mono hB)) (by omega) (by omega) (by omega));have HBX:=Lib.hid hbx;clear hbx h hB;generalize jU dg t n 6=r at*;go_enter Tryz.func14,Tryz.ntmps14
 go_wp2_with fail
 refine HR.out.mono ?_;rintro e w2 ⟨rfl,hb⟩;go_wp2_with fail
 go_ret
 exact⟨rfl,HBX.out.trans (hb.mono HBX.out.size)⟩
theorem qae(l:Int)(w:World):Calls Tryz.prog 34 #[.int .i64 l] w fun e w'=>e= .returned (.bool (decide (1≤l)&&decide (l≤4)))∧w=w':=by
 by_cases h1:1≤l
 ·by_cases h2:l≤4
  ·have e:(decide (1≤l)&&decide (l≤4))=true:=by simp[h1,h2]
   rw[e];go_enter Tryz.func34,Tryz.ntmps34
   go_wp2
   go_ret
   exact⟨by simp,rfl⟩
  ·have e:(decide (1≤l)&&decide (l≤4))=false:=by simp[h2]
   rw[e];go_enter Tryz.func34,Tryz.ntmps34
   go_wp2
   go_ret
   exact⟨by simp,rfl⟩
 ·have e:(decide (1≤l)&&decide (l≤4))=false:=by simp[h1]
  rw[e];go_enter Tryz.func34,Tryz.ntmps34
  go_wp2
  go_ret
  exact⟨by simp,rfl⟩
theorem Jz(t:RP)(A:Option Addr)(c:Nat)(K:Option Addr)(kc:Nat)(w:World):
 Calls Tryz.prog 36 #[qn t A c K kc] w fun e w'=>e= .returned (.bool (qW t))∧Below w.heap.size w w':=by
 have hbx:=(Below.refl w.heap.size w).alloc (Nat.le_refl _) (.cells #[.int .i64 t.lv,.bool t.ng,.slice A t.ds.length c,.slice K t.ks.length kc] 28);have HBX:=Lib.hid hbx;clear hbx;unfold qW;by_cases h0:t.lv=0
 ·have e0:(t.lv==0)=true:=by simp[h0]
  have e1:decide (t.lv=0)=true:=by simp[h0]
  rw[e1];clear h0 e1;have HE:=Lib.hid (show((t.ds.length:Int)==0)=(true&&decide (t.ds.length=0))by
   by_cases h:t.ds.length=0
   ·simp[h]
   ·have:¬((t.ds.length:Int)=0):=by omega
    simp[h])
  go_enter Tryz.func36,Tryz.ntmps36
  go_wp2_with fail
  go_ret
  exact⟨by rw[←HE.out];rfl,HBX.out⟩
 ·have e0:(t.lv==0)=false:=by simp[h0]
  have e1:decide (t.lv=0)=false:=by simp[h0]
  rw[e1];clear h0 e1;go_enter Tryz.func36,Tryz.ntmps36
  go_wp2_with fail
  go_ret
  exact⟨rfl,HBX.out⟩
theorem qah(x:Nat)(h:x≠0):((x:Int)==0)=false:=by
 have:¬(x:Int)=0:=by omega
 simpa using this
theorem qiC(x:Nat):((x:Int) != 0)=decide (x≠0):=by
 by_cases h:x=0
 ·subst h;rfl
 ·rw[decide_eq_true h];simpa using h
theorem Jw.mem{dg:Nat}{ts:List RP}(h:Jw dg ts){u:RP}(hu:u∈ts):yz dg u:=by
 induction ts with
 |nil=>cases hu
 |cons t ts ih=>
  simp only[Jw]at h;rcases List.mem_cons.1 hu with rfl|hu
  ·exact h.1
  ·exact ih h.2 hu
theorem yz.at_{dg:Nat}{t:RP}(h:yz dg t):t.ds.length≤dg∧t.ks.length≤12∧∀u∈t.ks,yz dg u:=by
 cases t
 simp only[yz]at h;exact⟨h.1,h.2.1,fun u hu=>h.2.2.mem hu⟩
theorem qkF(t:RP):qj t=if t.lv=0 then(if 0<t.ks.length then false else YB t.ng t.ds)
 else if(decide (1≤t.lv)&&decide (t.lv≤4)&&decide (t.ds.length=0)&& !t.ng&&decide (2≤t.ks.length))=false then false
 else if zV t.lv t.ks=false then false else Zs t.ks:=by
 cases t
 rw[qj];rfl
set_option maxHeartbeats 4000000
theorem qbq(dg:Nat)(hdg:dg≤1000):∀(D:Nat)(t:RP),qv t≤D→yz dg t→∀(A:Option Addr)(c:Nat)(K:Option Addr)(kc B:Nat)(w:World),B≤w.heap.size→RV w (· <B) t (qc t A c K kc)→
 Calls Tryz.prog 73 #[qn t A c K kc] w fun e w'=>e= .returned (.bool (qj t))∧Below w.heap.size w w'
 |0,t,hD,_,_,_,_,_,_,_,_,_=>by cases t;simp only[qv]at hD;omega
 |D+1,t,hD,hf,A,c,K,kc,B,w,hB,h=>by
  have IH:=Lib.hid (qbq dg hdg D);have HR:=Lib.hid (fun(W:World)(hW:Below w.heap.size w W)=>h.below (hW.mono hB));have HD:=Lib.hid (fun(u:RP)(hu:u∈t.ks)=>show qv u≤D by have:=qD hu;omega);have HF:=Lib.hid hf.at_.2.2;have HB:=Lib.hid hB;have hbx:=(Below.refl w.heap.size w).alloc (Nat.le_refl _) (.cells #[.int .i64 t.lv,.bool t.ng,.slice A t.ds.length c,.slice K t.ks.length kc] 28);have kbx:=qd.new w 28 #[.int .i64 t.lv,.bool t.ng,.slice A t.ds.length c,.slice K t.ks.length kc];have HBX:=Lib.hid (fun(cs:Array Value)=>(Below.refl w.heap.size w).alloc (Nat.le_refl _) (.cells cs 28));have HKX:=Lib.hid kbx;have hdl:=hf.at_.1;have hkl:=hf.at_.2.1;have hcb:=qkF t;unfold YB at hcb;show Calls Tryz.prog 73 #[.agg #[.int .i64 t.lv,.bool t.ng,.slice A t.ds.length c,.slice K t.ks.length kc]] w _;clear h hD hB hf;generalize hnd:t.ds.length=nd at*;generalize hnk:t.ks.length=nk at*;have HND:=Lib.hid hnd;have HNK:=Lib.hid hnk;clear hnd hnk;by_cases h0:t.lv=0
  ·rw[if_pos h0]at hcb;have e0:(t.lv==0)=true:=by simp[h0]
   clear h0;by_cases h1:0<nk
   ·rw[if_pos h1]at hcb;have i1:(0:Int)<(nk:Int):=by omega
    have HV:=Lib.hid hcb;clear hcb;go_enter Tryz.func73,Tryz.ntmps73
    go_wp2_with fail
    go_ret
    exact⟨by rw[HV.out];rfl,HBX.out _⟩
   ·rw[if_neg h1]at hcb;have h1:nk=0:=by omega
    have i1:(nk:Int)≤0:=by omega
    have HK0:=Lib.hid h1;clear h1;by_cases h2:nd=0
    ·rw[if_pos h2]at hcb;have e2:((nd:Int)==0)=true:=by simp[h2]
     have i2:(nd:Int)≤0:=by omega
     clear h2;have HV:=Lib.hid hcb;clear hcb;go_enter Tryz.func73,Tryz.ntmps73
     go_wp2_with fail
     all_goals
      go_ret
      exact⟨by rw[HV.out];simp[*],HBX.out _⟩
    ·rw[if_neg h2]at hcb;obtain⟨m,hm⟩:∃m,nd=m+1:=⟨nd-1,by omega⟩;have hrv:=HR.out _ hbx;obtain⟨b,o,rfl,hbB,c0⟩:=jj (ds:=t.ds) hrv.natIn.rd (k:=m) (by rw[HND.out,hm];exact Nat.lt_succ_self m);have hmm:nd-1=m:=by omega
     rw[hmm]at hcb;have e2:((nd:Int)==0)=false:=qah _ h2;have i2:(0:Int)<(nd:Int):=by omega
     have i3:(nd:Int)-1=(m:Int):=by omega
     have i4:(0:Int)≤(m:Int):=by omega
     have i5:(m:Int)<(nd:Int):=by omega
     have hx:=qlz hrv.node.2.1 m;have HE:=Lib.hid (qiC (t.ds.getD m 0));generalize t.ds.getD m 0=x at*;clear hm hmm h2 hrv;have HV:=Lib.hid hcb;clear hcb;go_enter Tryz.func73,Tryz.ntmps73
     go_wp2_with fail
     go_ret
     exact⟨by rw[HV.out,←HE.out];rfl,HBX.out _⟩
  ·rw[if_neg h0]at hcb;have e0:(t.lv==0)=false:=by simp[h0]
   have HL:=Lib.hid (fun(W:World)=>qae t.lv W);have HZR:=Lib.hid (fun(u:RP)(A:Option Addr)(c:Nat)(K:Option Addr)(kc:Nat)(W:World)=>Jz u A c K kc W);clear h0;by_cases hl:(decide (1≤t.lv)&&decide (t.lv≤4))=true
   ·rw[hl]at HL hcb;have hl1:1≤t.lv∧t.lv≤4:=by simpa using hl
    clear hl;by_cases h2:nd=0
    ·subst h2;have x2:decide ((0:Nat)=0)=true:=rfl;rw[x2]at hcb;clear x2;by_cases h3:t.ng=true
     ·rw[h3]at hcb;have HV:=Lib.hid hcb;clear hcb;go_enter Tryz.func73,Tryz.ntmps73
      go_wp2_with fail
      refine(HL.out _).mono ?_;rintro e w2 ⟨rfl,rfl⟩;go_wp2_with fail
      go_ret
      exact⟨by rw[HV.out];rfl,HBX.out _⟩
     ·have h3:t.ng=false:=by simpa using h3
      rw[h3]at hcb;by_cases h4:2≤nk
      ·have x4:decide (2≤nk)=true:=decide_eq_true h4;rw[x4,if_neg (by decide)]at hcb;have i4:(2:Int)≤(nk:Int):=by omega
       clear x4;have HV:=Lib.hid hcb;clear hcb;go_enter Tryz.func73,Tryz.ntmps73
       go_wp2_with fail
       refine(HL.out _).mono ?_;rintro e w2 ⟨rfl,rfl⟩;go_wp2_with fail
       have HKG:=Lib.hid (fun(cs:Array Value)=>qd.new w 28 cs);clear h3 HKX;have HNL:=Lib.hid (show nk≤12 from hkl);go_loopg [6,63] nk (fun gn _ ix wr=>∃k:Nat,k≤nk∧gn=nk-k∧ix= .int .i64 k∧zV t.lv (t.ks.take k)=true∧Below w.heap.size w wr∧qd wr w.heap.size 28 #[.int .i64 t.lv,.bool false,.slice A 0 c,.slice K nk kc])
       case atStart=>exact⟨0,Nat.zero_le _,rfl,rfl,by simp[zV],HBX.out _,HKG.out _⟩
       case round=>
        obtain⟨k,hk,hgk,rfl,hcl,hbw,hkb⟩:=hrel;have HG:=Lib.hid hgk;have HCL:=Lib.hid hcl;clear hgk hcl;have c0:wr.cell? ⟨w.heap.size,0,none⟩=some (.int .i64 t.lv):=hkb.cell 0;have c3:wr.cell? ⟨w.heap.size,3,none⟩=some (.slice K nk kc):=hkb.cell 3;have hrv:=HR.out wr hbw;have hkc:=hrv.node.2.2.2;rw[HNK.out]at hkc;have i5:(nk:Int)≤(kc:Int):=by omega
        have lw:=hkb.lt;by_cases hlt:k<nk
        ·obtain⟨u,hu⟩:∃u,t.ks[k]? =some u:=⟨_,List.getElem?_eq_getElem (by rw[HNK.out];exact hlt)⟩;obtain⟨b,o,A',c',K',kc',rfl,hbB,e0,e1,e2,e3,hku⟩:=hrv.kid hu;have hum:=List.mem_of_getElem? hu;have HIH:=Lib.hid (fun(W:World)(hW:Below wr.heap.size wr W)=>IH.out u (HD.out u hum) (HF.out u hum) A' c' K' kc' wr.heap.size W hW.size ((hku.more (Nat.le_trans HB.out hbw.size)).below hW));have HTK:=Lib.hid (qa3 t.lv t.ks k u hu);have HBAD:=Lib.hid (qcO t.lv t.ks k u hu);have i3:(0:Int)≤(k:Int):=by omega
         have i4:(k:Int)<(nk:Int):=by omega
         have HBW:=Lib.hid hbw;have HKB:=Lib.hid hkb;clear hu hrv hku hkc hbw hkb hum;unfold qn at HIH;generalize u.ds.length=ud at*;generalize u.ks.length=uk at*;generalize u.ng=ug at*;have HBY:=Lib.hid (fun(cs:Array Value)=>(Below.refl wr.heap.size wr).alloc (Nat.le_refl _) (.cells cs 28));by_cases hlv:t.lv≤u.lv
         ·have hb:(decide (u.lv<t.lv)&&qj u)=false:=by rw[decide_eq_false (by omega)];rfl
          have HF0:=Lib.hid (HBAD.out hb);clear hb;go_wp2_with fail
          go_ret
          exact⟨by rw[HV.out,HF0.out];rfl,HBW.out.trans ((HBY.out _).mono HBW.out.size)⟩
         ·have hd:decide (u.lv<t.lv)=true:=decide_eq_true (by omega);have hlv:u.lv<t.lv:=by omega
          rw[hd,Bool.true_and]at HTK HBAD;clear hd;have HI1:=Lib.hid (HIH.out _ (HBY.out #[.int .i64 u.lv,.bool ug,.slice A' ud c',.slice K' uk kc']));go_wp2_with fail
          refine HI1.out.mono ?_;rintro e w2 ⟨rfl,hb2⟩;have hb:=(HBY.out #[.int .i64 u.lv,.bool ug,.slice A' ud c',.slice K' uk kc']).trans (hb2.mono (HBY.out _).size);have HB3:=Lib.hid (HBW.out.trans (hb.mono HBW.out.size));have HK3:=Lib.hid (HKB.out.old hb);clear hb hb2 HI1 HIH HBY HBW HKB;generalize hcb:qj u=cb at*;clear hcb
          cases cb with
          |false=>
           have HF0:=Lib.hid (HBAD.out rfl);go_wp2_with fail
           go_ret
           exact⟨by rw[HV.out,HF0.out];rfl,HB3.out⟩
          |true=>
           go_wp2_with fail
           go_roundg (nk-(k+1))
           case rel=>exact⟨k+1,by omega,rfl,by go_num,by rw[HTK.out,HCL.out];rfl,HB3.out,HK3.out⟩
           case measure=>have:=HG.out;omega
        ·obtain rfl:k=nk:=by omega
         obtain⟨m,hm⟩:∃m,k=m+1:=⟨k-1,by omega⟩;have hkm:(k:Int)-1=(m:Int):=by omega
         obtain⟨u,hu⟩:∃u,t.ks[m]? =some u:=⟨_,List.getElem?_eq_getElem (by rw[HNK.out];omega)⟩;obtain⟨b,o,A',c',K',kc',rfl,hbB,e0,e1,e2,e3,hku⟩:=hrv.kid hu;have i3:(0:Int)≤(m:Int):=by omega
         have i4:(m:Int)<(k:Int):=by omega
         have HLT:=Lib.hid (show(if zV t.lv t.ks=false then false else Zs t.ks)= !qW u by
          have hc:=HCL.out;rw[List.take_of_length_le (by rw[HNK.out];exact Nat.le_refl _)]at hc;rw[hc,if_neg (by decide)];unfold Zs;rw[HNK.out,hm,Nat.add_sub_cancel,hu])
         have HZ1:=Lib.hid (HZR.out u A' c' K' kc' wr);unfold qn at HZ1;have HBW:=Lib.hid hbw;clear hu hrv hku hkc hbw hkb hm;generalize u.ds.length=ud at*;generalize u.ks.length=uk at*;generalize u.ng=ug at*;go_wp2_with fail
         refine HZ1.out.mono ?_;rintro e w2 ⟨rfl,hb2⟩;go_wp2_with fail
         go_ret
         exact⟨by rw[HV.out,HLT.out];rfl,HBW.out.trans (hb2.mono HBW.out.size)⟩
      ·have x4:decide (2≤nk)=false:=decide_eq_false h4;have i4:(nk:Int)<2:=by omega
       rw[x4]at hcb;clear x4 h4;have HV:=Lib.hid hcb;clear hcb;go_enter Tryz.func73,Tryz.ntmps73
       go_wp2_with fail
       refine(HL.out _).mono ?_;rintro e w2 ⟨rfl,rfl⟩;go_wp2_with fail
       go_ret
       exact⟨by rw[HV.out];rfl,HBX.out _⟩
    ·have x2:decide (nd=0)=false:=decide_eq_false h2;have i2:(0:Int)<(nd:Int):=by omega
     rw[x2]at hcb;clear x2 h2;have HV:=Lib.hid hcb;clear hcb;go_enter Tryz.func73,Tryz.ntmps73
     go_wp2_with fail
     refine(HL.out _).mono ?_;rintro e w2 ⟨rfl,rfl⟩;go_wp2_with fail
     go_ret
     exact⟨by rw[HV.out];rfl,HBX.out _⟩
   ·have hl:(decide (1≤t.lv)&&decide (t.lv≤4))=false:=by simpa using hl
    rw[hl]at HL hcb;clear hl;have HV:=Lib.hid hcb;clear hcb;go_enter Tryz.func73,Tryz.ntmps73
    go_wp2_with fail
    refine(HL.out _).mono ?_;rintro e w2 ⟨rfl,rfl⟩;go_wp2_with fail
    go_ret
    exact⟨by rw[HV.out];rfl,HBX.out _⟩
def yK(w:World)(base:Nat)(b:Nat):Prop:=(∃cs,qd w b 134 cs)∨(base≤b∧∃cs,qd w b 28 cs)
def RB(w:World)(base:Nat)(t:RP)(vs:List Value):Prop:=RV w (yK w base) t vs
theorem yK.lt{w:World}{base b:Nat}(h:yK w base b):b<w.heap.size:=by
 rcases h with⟨cs,h⟩|⟨_,cs,h⟩<;>exact h.lt
theorem yK.mono{w:World}{base base' b:Nat}(h:yK w base b)(hb:base'≤base):yK w base' b:=h.imp id fun⟨h1,h2⟩=>⟨Nat.le_trans hb h1,h2⟩
theorem qd.cell_eq{w w':World}{g:Nat}{t:TypeId}{cs:Array Value}(h:qd w g t cs)(h':qd w' g t cs)(o:Nat):w'.cell? ⟨g,o,none⟩=w.cell? ⟨g,o,none⟩:=(h'.cell o).trans (h.cell o).symm
theorem yK.keep{w w':World}{base base':Nat}(hu:∀g cs,qd w g 134 cs→qd w' g 134 cs)(hr:∀g cs,base≤g→qd w g 28 cs→qd w' g 28 cs)(hb:base'≤base):
 (∀b,yK w base b→∀o,w'.cell? ⟨b,o,none⟩=w.cell? ⟨b,o,none⟩)∧∀b,yK w base b→yK w' base' b:=by
 refine⟨fun b h o=>?_,fun b h=>?_⟩
 ·rcases h with⟨cs,h⟩|⟨h0,cs,h⟩
  ·exact h.cell_eq (hu b cs h) o
  ·exact h.cell_eq (hr b cs h0 h) o
 ·rcases h with⟨cs,h⟩|⟨h0,cs,h⟩
  ·exact .inl ⟨cs,hu b cs h⟩
  ·exact .inr ⟨Nat.le_trans hb h0,cs,hr b cs h0 h⟩
theorem RB.keep{w w':World}{base base':Nat}{t:RP}{vs:List Value}(h:RB w base t vs)(hu:∀g cs,qd w g 134 cs→qd w' g 134 cs)(hr:∀g cs,base≤g→qd w g 28 cs→qd w' g 28 cs)(hb:base'≤base):RB w' base' t vs:=by
 obtain⟨h1,h2⟩:=yK.keep hu hr hb;exact RV.mono h2 t vs (RV.keep h1 t vs h)
theorem RBs.keep{w w':World}{base base':Nat}{ts:List RP}{rows:List (List Value)}(h:qH w (yK w base) ts rows)(hu:∀g cs,qd w g 134 cs→qd w' g 134 cs)(hr:∀g cs,base≤g→qd w g 28 cs→qd w' g 28 cs)(hb:base'≤base):qH w' (yK w' base') ts rows:=by
 obtain⟨h1,h2⟩:=yK.keep hu hr hb;exact qH.mono h2 ts rows (qH.keep h1 ts rows h)
theorem RB.old{w w':World}{base:Nat}{t:RP}{vs:List Value}(h:RB w base t vs)(hb:Below w.heap.size w w'):RB w' base t vs:=RB.keep h (fun _ _ k=>k.old hb) (fun _ _ _ k=>k.old hb) (Nat.le_refl _)
theorem RB.mono{w:World}{base base':Nat}{t:RP}{vs:List Value}(h:RB w base t vs)(hb:base'≤base):RB w base' t vs:=RB.keep h (fun _ _ k=>k) (fun _ _ _ k=>k) hb
theorem RB.rv{w:World}{base:Nat}{t:RP}{vs:List Value}(h:RB w base t vs):RV w (· <w.heap.size) t vs:=RV.mono (fun _ hb=>hb.lt) t vs h
theorem Qu{w:World}{g o:Nat}{cs:Array Value}{u:Value}(h:qd w g 28 cs):(∀k ds,qd w k 134 ds→qd (w.setCell ⟨g,o,none⟩ u) k 134 ds)∧∀k ds,g+1≤k→qd w k 28 ds→qd (w.setCell ⟨g,o,none⟩ u) k 28 ds:=by
 refine⟨fun k ds hk=>hk.far (fun e=>?_) u,fun k ds h0 hk=>hk.far (show k≠g by omega) u⟩;have e:k=g:=e;subst e;unfold qd at hk h;rw[hk]at h
 injection h with h
 injection h with _ h2
 exact absurd h2 (by decide)
theorem qk.readsS{w:World}{base:Nat}{A:Option Addr}{ds:List Nat}(h:qk w A ds):jd w (yK w base) 1 A ds.length (qf ds):=by
 rcases h with rfl|⟨g,zs,rfl,hb,hd⟩
 ·exact⟨rfl,fun hp=>absurd hp (Nat.lt_irrefl 0)⟩
 ·refine⟨by simp[qf],fun _=>⟨g,0,rfl,.inl ⟨_,hb⟩,fun j u hu=>?_⟩⟩;rw[Nat.zero_add,hb.cell];rw[hd]at hu;simp[qf,List.getElem?_take]at hu ⊢;exact hu.2
theorem RB.const{w:World}{base:Nat}{g:Bool}{ds:List Nat}{A:Option Addr}{c:Nat}(h:qk w A ds)(hd:qP ds)(hc:ds.length≤c):RB w base (.mk 0 g ds []) (qc (.mk 0 g ds []) A c none 0):=by
 unfold RB RV;exact⟨A,c,none,0,rfl,h.readsS,hd,hc,Nat.zero_le _,[],⟨rfl,fun hp=>absurd hp (Nat.lt_irrefl 0)⟩,by unfold qH;rfl⟩
theorem RB.node{w:World}{base:Nat}{l:Int}{ks:List RP}{g:Nat}{kc:Nat}{rows:List (List Value)}{cur:Array Value}(hl:rows.length=ks.length)(h4:∀r∈rows,r.length=4)(hb:base≤g)(hk:qd w g 28 cur)(hc:∀(j:Nat)(v:Value),rows.flatten[j]? =some v→cur[j]? =some v)(hkc:ks.length≤kc)(hr:qH w (yK w base) ks rows):
 RB w base (.mk l false [] ks) (qc (.mk l false [] ks) none 0 (some ⟨g,0,none⟩) kc):=by
 unfold RB RV;refine⟨none,0,some ⟨g,0,none⟩,kc,rfl,⟨rfl,fun hp=>absurd hp (Nat.lt_irrefl 0)⟩,by simp[qP],Nat.zero_le _,hkc,rows,⟨?_,fun _=>⟨g,0,rfl,.inr ⟨hb,cur,hk⟩,fun j u hu=>?_⟩⟩,hr⟩
 ·rw[List.length_flatten,←hl];clear hl hc hr
  induction rows with
  |nil=>rfl
  |cons r rs ih=>
   have:=ih fun x hx=>h4 x (List.mem_cons_of_mem _ hx);have:=h4 r List.mem_cons_self;simp only[List.map_cons,List.sum_cons,List.length_cons];omega
 ·rw[Nat.zero_add];exact(hk.cell j).trans (hc j u hu)
theorem qH.snoc{w:World}{S:Nat→Prop}:∀{ts:List RP} {rows:List (List Value)} {t:RP} {r:List Value},qH w S ts rows→RV w S t r→qH w S (ts++[t]) (rows++[r])
 |[],rows,t,r,h,hr=>by
  unfold qH at h;subst h;simp only[List.nil_append,qH];exact⟨r,[],rfl,hr,rfl⟩
 |s::ts,rows,t,r,h,hr=>by
  unfold qH at h;obtain⟨x,xs,rfl,h2,h3⟩:=h;simp only[List.cons_append,qH];exact⟨x,xs++[r],rfl,h2,qH.snoc h3 hr⟩
theorem jq{rows:List (List Value)}(h4:∀r∈rows,r.length=4):rows.flatten.length=rows.length*4:=by
 induction rows with
 |nil=>rfl
 |cons r rs ih=>
  have h1:=ih fun x hx=>h4 x (List.mem_cons_of_mem _ hx);have h2:=h4 r List.mem_cons_self;rw[List.flatten_cons,List.length_append,List.length_cons,h1,h2];omega
theorem qkq{rows:List (List Value)}(h4:∀r∈rows,r.length=4){cur:Array Value}{k:Nat}(hk:rows.length=k)(hs:k*4+4≤cur.size)(hc:∀(j:Nat)(v:Value),rows.flatten[j]? =some v→cur[j]? =some v)(a b c d:Value):
 ∀(j:Nat)(v:Value),(rows++[[a,b,c,d]]).flatten[j]? =some v→((((cur.setIfInBounds (k*4) a).setIfInBounds (k*4+1) b).setIfInBounds (k*4+2) c).setIfInBounds (k*4+3) d)[j]? =some v:=by
 intro j v hv;have hl:=jq h4;rw[hk]at hl;rw[List.flatten_append]at hv;by_cases hj:j<k*4
 ·rw[List.getElem?_append_left (by omega)]at hv;rw[Array.getElem?_setIfInBounds_ne (by omega),Array.getElem?_setIfInBounds_ne (by omega),Array.getElem?_setIfInBounds_ne (by omega),Array.getElem?_setIfInBounds_ne (by omega)];exact hc j v hv
 ·rw[List.getElem?_append_right (by omega),hl]at hv;obtain⟨i,rfl⟩:∃i,j=k*4+i:=⟨j-k*4,by omega⟩;rw[Nat.add_sub_cancel_left]at hv;rcases(by omega:i=0∨i=1∨i=2∨i=3∨4≤i)with rfl|rfl|rfl|rfl|hi
  ·rw[Array.getElem?_setIfInBounds_ne (by omega),Array.getElem?_setIfInBounds_ne (by omega),Array.getElem?_setIfInBounds_ne (by omega),Nat.add_zero,Array.getElem?_setIfInBounds_self_of_lt (by omega)];simpa using hv
  ·rw[Array.getElem?_setIfInBounds_ne (by omega),Array.getElem?_setIfInBounds_ne (by omega),Array.getElem?_setIfInBounds_self_of_lt (by simp;omega)];simpa using hv
  ·rw[Array.getElem?_setIfInBounds_ne (by omega),Array.getElem?_setIfInBounds_self_of_lt (by simp;omega)];simpa using hv
  ·rw[Array.getElem?_setIfInBounds_self_of_lt (by simp;omega)];simpa using hv
  ·rw[List.getElem?_eq_none (by simp;omega)]at hv
   cases hv
theorem qeD(t:RP):zu t=if t.lv=0 then .mk 0 (decide (qb t.ng t.ds<0)) (dig (val t.ds)) []else .mk t.lv false [] (t.ks.map zu):=by
 cases t
 rw[zu,qe8];rfl
theorem Tryz.sizeRec:(Tryz.prog.info? 28).map (·.size)=some 4:=by kernel_rfl
theorem Tryz.infoRec:(Tryz.prog.info? 28).map (fun i=>(i.zero,i.size,i.bytes))=some (some (.agg #[.int .i64 0,.bool false,.slice none 0 0,.slice none 0 0]),4,64):=by kernel_rfl
theorem Tryz.make_rec(n:Nat)(hn:n≤1000000)(w:World):(Instr.makeSlice 26 (.int .i64 (n:Int)) (.int .i64 (n:Int))).run Tryz.prog w= .ok (.slice (some ⟨w.heap.size,0,none⟩) n n) (w.alloc (.cells (madeCells #[.int .i64 0,.bool false,.slice none 0 0,.slice none 0 0] (n*4)) 28)):=by
 obtain⟨i0,hi0,hz0,hz1,hz2⟩:=qZ Tryz.infoRec;have hr:=run_make (P:=Tryz.prog) w 26 28 i0 _ Tryz.underlying26 hi0 hz0 .i64 .i64 n n (by omega) (by omega) (by rw[hz2];omega) (by omega);simp only[Int.toNat_natCast,hz1,Value.cells]at hr;exact hr
mutual
def yf(X:Nat):RP→Prop
 | .mk _ _ ds ks=>ds.length≤X∧ks.length≤X∧SmL X ks
def SmL(X:Nat):List RP→Prop
 |[]=>True
 |t::ts=>yf X t∧SmL X ts
end
theorem SmL.mem{X:Nat}{ts:List RP}:SmL X ts↔∀u∈ts,yf X u:=by
 induction ts with
 |nil=>simp[SmL]
 |cons t ts ih=>simp[SmL,ih]
theorem yf.at_{X:Nat}{t:RP}(h:yf X t):t.ds.length≤X∧t.ks.length≤X∧∀u∈t.ks,yf X u:=by
 cases t
 simp only[yf]at h;exact⟨h.1,h.2.1,SmL.mem.1 h.2.2⟩
theorem yf.mk{X:Nat}{l:Int}{g:Bool}{ds:List Nat}{ks:List RP}(h1:ds.length≤X)(h2:ks.length≤X)(h3:∀u∈ks,yf X u):yf X (.mk l g ds ks):=by
 simp only[yf];exact⟨h1,h2,SmL.mem.2 h3⟩
mutual
theorem yz.sm{dg X:Nat}(h1:dg≤X)(h2:12≤X):∀(t:RP),yz dg t→yf X t
 | .mk l g ds ks,h=>by
   simp only[yz]at h;simp only[yf];exact⟨by omega,by omega,Jw.sm h1 h2 ks h.2.2⟩
theorem Jw.sm{dg X:Nat}(h1:dg≤X)(h2:12≤X):∀(ts:List RP),Jw dg ts→SmL X ts
 |[],_=>by simp[SmL]
 |t::ts,h=>by
  simp only[Jw]at h;simp only[SmL];exact⟨yz.sm h1 h2 t h.1,Jw.sm h1 h2 ts h.2⟩
end
theorem jt{w:World}{g k:Nat}{cur:Array Value}(h:qd w g 28 cur)(a b c d:Value):
 qd ((((w.setCell ⟨g,k,none⟩ a).setCell ⟨g,k+1,none⟩ b).setCell ⟨g,k+2,none⟩ c).setCell ⟨g,k+3,none⟩ d) g 28 ((((cur.setIfInBounds k a).setIfInBounds (k+1) b).setIfInBounds (k+2) c).setIfInBounds (k+3) d)∧
  (∀j ds,qd w j 134 ds→qd ((((w.setCell ⟨g,k,none⟩ a).setCell ⟨g,k+1,none⟩ b).setCell ⟨g,k+2,none⟩ c).setCell ⟨g,k+3,none⟩ d) j 134 ds)∧
  (∀j ds,g+1≤j→qd w j 28 ds→qd ((((w.setCell ⟨g,k,none⟩ a).setCell ⟨g,k+1,none⟩ b).setCell ⟨g,k+2,none⟩ c).setCell ⟨g,k+3,none⟩ d) j 28 ds):=by
 have h1:=h.set_ k a;have h2:=h1.set_ (k+1) b;have h3:=h2.set_ (k+2) c;obtain⟨u0,r0⟩:=Qu (o:=k) (u:=a) h;obtain⟨u1,r1⟩:=Qu (o:=k+1) (u:=b) h1;obtain⟨u2,r2⟩:=Qu (o:=k+2) (u:=c) h2;obtain⟨u3,r3⟩:=Qu (o:=k+3) (u:=d) h3;exact⟨h3.set_ (k+3) d,fun j ds hj=>u3 _ _ (u2 _ _ (u1 _ _ (u0 _ _ hj))),fun j ds hg hj=>r3 _ _ hg (r2 _ _ hg (r1 _ _ hg (r0 _ _ hg hj)))⟩
def ZA(t:RP)(w:World)(e:Ending)(w':World):Prop:=∃A c K kc,e= .returned (qn (zu t) A c K kc)∧RB w' w.heap.size (zu t) (qc (zu t) A c K kc)∧Below w.heap.size w w'
structure qel (w:World) (t:RP) (g nk k:Nat) (bx:Array Value) (W:World) (cur:Array Value) (rows:List (List Value)):Prop where
 row:qd W g 28 cur
 siz:cur.size=nk*4
 len:rows.length=k
 four:∀r∈rows,r.length=4
 at_:∀(j:Nat)(v:Value),rows.flatten[j]? =some v→cur[j]? =some v
 kids:qH W (yK W (g+1)) ((t.ks.take k).map zu) rows
 bel:Below w.heap.size w W
 par:qd W w.heap.size 28 bx
 res:qd W (w.heap.size+1) 28 #[.int .i64 0,.bool false,.slice none 0 0,.slice none 0 0]
theorem qel.next{w:World}{t u:RP}{g nk k:Nat}{bx:Array Value}{W W1 W2:World}{cur:Array Value}{rows:List (List Value)}{A K:Option Addr}{c kc:Nat}(h:qel w t g nk k bx W cur rows)(hk:k<nk)(hg:w.heap.size+1<g)(hu:t.ks[k]? =some u)
 (h1:Below W.heap.size W W1)(h2:RB W2 W1.heap.size (zu u) (qc (zu u) A c K kc))(h3:Below W1.heap.size W1 W2):
 ∃cur',qel w t g nk (k+1) bx ((((W2.setCell ⟨g,k*4,none⟩ (.int .i64 (zu u).lv)).setCell ⟨g,k*4+1,none⟩ (.bool (zu u).ng)).setCell ⟨g,k*4+2,none⟩ (.slice A (zu u).ds.length c)).setCell ⟨g,k*4+3,none⟩ (.slice K (zu u).ks.length kc)) cur' (rows++[qc (zu u) A c K kc]):=by
 have hb:Below W.heap.size W W2:=h1.trans (h3.mono h1.size);have hrow:=h.row.old hb;obtain⟨s1,s2,s3⟩:=jt (k:=k*4) hrow (.int .i64 (zu u).lv) (.bool (zu u).ng) (.slice A (zu u).ds.length c) (.slice K (zu u).ks.length kc);refine⟨_,s1,by simp[h.siz],by simp[h.len],fun r hr=>?_,qkq h.four h.len (by rw[h.siz];omega) h.at_ _ _ _ _,?_,?_,?_,?_⟩
 ·rcases List.mem_append.1 hr with hr|hr
  ·exact h.four r hr
  ·rw[List.mem_singleton]at hr;rw[hr];rfl
 ·have hl:k<t.ks.length:=(List.getElem?_eq_some_iff.1 hu).1;have e:t.ks[k]=u:=(List.getElem?_eq_some_iff.1 hu).2;rw[List.take_succ_eq_append_getElem hl,List.map_append,e];refine qH.snoc (RBs.keep h.kids (fun j ds hj=>s2 _ _ (hj.old hb)) (fun j ds hg' hj=>s3 _ _ hg' (hj.old hb)) (Nat.le_refl _)) ?_;have hgl:g+1≤W1.heap.size:=Nat.le_trans h.row.lt h1.size;exact RB.keep (RB.mono h2 hgl) s2 s3 (Nat.le_refl _)
 ·exact((((h.bel.trans (hb.mono h.bel.size)).setCell (show w.heap.size≤g by omega) _).setCell (show w.heap.size≤g by omega) _).setCell (show w.heap.size≤g by omega) _).setCell (show w.heap.size≤g by omega) _
 ·exact((((h.par.old hb).far (show w.heap.size≠g by omega) _).far (show w.heap.size≠g by omega) _).far (show w.heap.size≠g by omega) _).far (show w.heap.size≠g by omega) _
 ·exact((((h.res.old hb).far (show w.heap.size+1≠g by omega) _).far (show w.heap.size+1≠g by omega) _).far (show w.heap.size+1≠g by omega) _).far (show w.heap.size+1≠g by omega) _
theorem qel.fin{w:World}{t:RP}{g nk:Nat}{bx:Array Value}{W:World}{cur:Array Value}{rows:List (List Value)}(h:qel w t g nk nk bx W cur rows)(hg:w.heap.size+1<g)(hn:t.ks.length=nk)(h0:t.lv≠0):
 RB ((((W.setCell ⟨w.heap.size+1,0,none⟩ (.int .i64 t.lv)).setCell ⟨w.heap.size+1,1,none⟩ (.bool false)).setCell ⟨w.heap.size+1,2,none⟩ (.slice none 0 0)).setCell ⟨w.heap.size+1,3,none⟩ (.slice (some ⟨g,0,none⟩) nk nk)) w.heap.size (zu t) (qc (zu t) none 0 (some ⟨g,0,none⟩) nk):=by
 obtain⟨s1,s2,s3⟩:=jt (k:=0) h.res (.int .i64 t.lv) (.bool false) (.slice none 0 0) (.slice (some ⟨g,0,none⟩) nk nk);have hk:=h.kids;rw[List.take_of_length_le (by omega)]at hk;have hr:=RBs.keep (base':=w.heap.size+1+1) hk s2 (fun j ds hg' hj=>s3 j ds (by omega) hj) (by omega);have hrow:qd ((((W.setCell ⟨w.heap.size+1,0,none⟩ (.int .i64 t.lv)).setCell ⟨w.heap.size+1,1,none⟩ (.bool false)).setCell ⟨w.heap.size+1,2,none⟩ (.slice none 0 0)).setCell ⟨w.heap.size+1,3,none⟩ (.slice (some ⟨g,0,none⟩) nk nk)) g 28 cur:=s3 g cur (by omega) h.row;rw[qeD,if_neg h0];have:=RB.node (l:=t.lv) (ks:=t.ks.map zu) (kc:=nk) (base:=w.heap.size+1+1) (by rw[h.len,List.length_map,hn]) h.four (by omega) hrow h.at_ (by rw[List.length_map,hn];exact Nat.le_refl _) hr;exact RB.mono this (by omega)
