import Derived.Laws.Small
import Derived.Test.YtflikmojaidhhaaGreatDoorPq13
import Derived.Test.YtflikmojaidhhaaGreatDoorPqA
namespace Go.Proofs.YtflikmojaidhhaaGreatDoor
open Go.RowKit
structure jZ (p q T:RP):Prop where
 can:qv T=true
 lv:T.lv<=max p.lv q.lv
 nz:qI p=false->qI q=false->qI T=false
 val:∀pt,vT pt T=vT pt p*vT pt q
 lw:∀e1 e2 n1 n2:Nat,qN e1 (n1+1) p->qN e2 (n2+1) q->n1+n2<=1000->qN (e1+e2+(max p.lv q.lv).toNat) (n1+n2+1) T
 dig:qF T
 oc:∀k:Int,0<k->zo k p=false->zo k q=false->zo k T=false
theorem jZ.comm{p q T:RP}(h:jZ p q T):jZ q p T where
 can:=h.can
 lv:=by rw[Int.max_comm];exact h.lv
 nz:=fun a b=>h.nz b a
 val:=fun pt=>by rw[h.val,Rat.mul_comm]
 lw:=fun e1 e2 n1 n2 h1 h2 hn=>by
  have:=h.lw e2 e1 n2 n1 h2 h1 (by omega);rwa[Nat.add_comm e2 e1,Nat.add_comm n2 n1,Int.max_comm]at this
 dig:=h.dig
 oc:=fun k hk a b=>h.oc k hk b a
theorem jZ.zero{p:RP}(q:RP)(hp:qv p=true)(hq:qv q=true)(hz:qI p=true):jZ p q qh:=by
 obtain rfl:=Qv hp hz;have hq:=(qJ hq).1;exact{can:=rfl,lv:=(by show(0:Int)<=max 0 q.lv;omega),nz:=fun h=>(by cases h),val:=fun pt=>(by rw[JE,Rat.zero_mul]),lw:=fun _ _ _ _ _ _ _=>qN.zero _ _,dig:=qF.zero,oc:=fun k hk _ _=>zy hk}
theorem qae{p:RP}(hc:qv p=true)(h0:p.lv=0)(hz:qI p=false):qj p.ng p.ds≠0:=by
 rcases qz hc with⟨_,_,k⟩|⟨a,_⟩
 ·have hd:p.ds.length≠0:=fun e=>by
   unfold qI at hz;rw[h0,e]at hz
   cases hz
  exact ZG k hd
 ·omega
theorem jZ.const{p q:RP}(hp:qv p=true)(hq:qv q=true)(h1:p.lv=0)(h2:q.lv=0)(d1:qF p)(d2:qF q):jZ p q (jy (qj p.ng p.ds*qj q.ng q.ds)) where
 can:=Qb _
 lv:=by rw[h1,h2];exact Int.le_refl _
 nz:=fun a b=>(ZF (Int.mul_ne_zero (qae hp h1 a) (qae hq h2 b))).2
 val:=fun pt=>by rw[qhe,qas pt p,qas pt q,if_pos (by omega),if_pos (by omega),Rat.intCast_mul]
 lw:=fun e1 e2 n1 n2 a b _=>by
  refine qN.mk ?_ (Nat.zero_le _) (by simp);refine Gl (qK (n:=e1+e2) ?_) (Nat.le_add_right _ _);rw[Int.natAbs_mul,je,je,Nat.pow_add];exact Nat.mul_lt_mul'' (Gm (jr d1.at_.1) (Nat.pow_le_pow_right (n:=4294967296) (by decide) a.at_.1)) (Gm (jr d2.at_.1) (Nat.pow_le_pow_right (n:=4294967296) (by decide) b.at_.1))
 dig:=qF.cst _
 oc:=fun k hk _ _=>by
  rw[jc];exact⟨by show(0:Int)≠k;omega,by simp[jy,RP.ks]⟩
def Jh(q:RP):List RP->List RP->Prop
 |[],[]=>True
 |p::ps,t::ts=>jZ p q t/\Jh q ps ts
 |_,_=>False
theorem Jh.len{q:RP}:∀{ps ts:List RP},Jh q ps ts->ps.length=ts.length
 |[],[],_=>rfl
 |[],_::_,h=>h.elim
 |_::_,[],h=>h.elim
 |_::ps,_::ts,h=>by rw[List.length_cons,List.length_cons,Jh.len h.2]
theorem Jh.snoc{q:RP}:∀{ps ts:List RP} {p t:RP},Jh q ps ts->jZ p q t->Jh q (ps++[p]) (ts++[t])
 |[],[],_,_,_,h=>⟨h,trivial⟩
 |[],_::_,_,_,h,_=>h.elim
 |_::_,[],_,_,h,_=>h.elim
 |_::_,_::_,_,_,h,h'=>⟨h.1,Jh.snoc h.2 h'⟩
theorem Jh.mem{q:RP}:∀{ps ts:List RP},Jh q ps ts->∀t∈ts,∃p∈ps,jZ p q t
 |[],[],_,_,hx=>by cases hx
 |[],_::_,h,_,_=>h.elim
 |_::_,[],h,_,_=>h.elim
 |p::ps,t::ts,h,x,hx=>by
  rcases List.mem_cons.1 hx with rfl|hx
  ·exact⟨p,List.mem_cons_self,h.1⟩
  ·obtain⟨a,b,c⟩:=Jh.mem h.2 x hx;exact⟨a,List.mem_cons_of_mem _ b,c⟩
theorem Jh.at_{q:RP}:∀{ps ts:List RP},Jh q ps ts->∀(i:Nat)(p:RP),ps[i]? =some p->∃t,ts[i]? =some t/\jZ p q t
 |[],_,_,i,p,hi=>by simp at hi
 |_::_,[],h,_,_,_=>h.elim
 |a::ps,t::ts,h,0,p,hi=>by
  simp only[List.getElem?_cons_zero,Option.some.injEq]at hi;subst hi;exact⟨t,rfl,h.1⟩
 |a::ps,t::ts,h,i+1,p,hi=>by
  simp only[List.getElem?_cons_succ]at hi ⊢;exact Jh.at_ h.2 i p hi
theorem Jh.val{q:RP}(pt:Nat->Rat)(x:Rat):∀{ps ts:List RP},Jh q ps ts->vL pt x ts=vL pt x ps*vT pt q
 |[],[],_=>by simp only[vL];rw[Rat.zero_mul]
 |[],_::_,h=>h.elim
 |_::_,[],h=>h.elim
 |p::ps,t::ts,h=>by
  simp only[vL];rw[Jh.val pt x h.2,h.1.val]
  grind
theorem jZ.node{p q:RP}{ts:List RP}(hp:qv p=true)(hq:qv q=true)(Xi:q.lv<p.lv)(hz:qI q=false)(h:Jh q p.ks ts):jZ p q (.mk p.lv false [] ts):=by
 have Ds:=(qJ hq).1;rcases qz hp with⟨a,_⟩|⟨a,a4,b,b',c2,c,u,hu,BF⟩
 ·omega
 have hm:max p.lv q.lv=p.lv:=by omega
 have hl:=h.len;obtain⟨t,ht,UG⟩:=h.at_ _ _ hu;refine⟨YL a a4 (by omega) (fun x hx=>?_) (u:=t) (by rw[<-hl];exact ht) (UG.nz BF hz),by rw[hm];exact Int.le_refl _,fun _ _=>qaF (by omega),fun pt=>?_,fun e1 e2 n1 n2 h1 h2 hn=>?_,qF.mk (by simp[jg]) fun x hx=>?_,fun k hk o1 o2=>?_⟩
 ·obtain⟨y,hy,hr⟩:=h.mem x hx;have:=hr.lv;have:=(c y hy).1;exact⟨by omega,hr.can⟩
 ·rw[vT,if_neg (by omega),if_neg (by omega),h.val,qas pt p,if_neg (by omega),if_neg (by omega)]
 ·refine qN.mk (Nat.zero_le _) (by have:=h1.at_.2.1;omega) fun x hx=>?_;obtain⟨y,hy,hr⟩:=h.mem x hx;have:=(c y hy).1;exact qN.mono (by omega) (Gr _) _ (hr.lw e1 e2 n1 n2 (h1.at_.2.2 y hy) h2 hn)
 ·obtain⟨y,hy,hr⟩:=h.mem x hx;exact hr.dig
 ·rw[jc]at o1 ⊢;refine⟨o1.1,fun x hx=>?_⟩;obtain⟨y,hy,hr⟩:=h.mem x hx;exact hr.oc k hk (o1.2 y hy) o2
inductive JW (p q:RP) (N:Nat):List (Nat×Nat)->List (List RP)->Prop
 |start:JW p q N [] (List.replicate N [])
 |push {pr:List (Nat×Nat)} {Ps:List (List RP)} {i j:Nat} {u v t:RP} {ts:List RP}:JW p q N pr Ps->p.ks[i]? =some u->q.ks[j]? =some v->jZ u v t->Ps[i+j]? =some ts->JW p q N (pr++[(i,j)]) (Ps.set (i+j) (ts++[t]))
theorem JW.len{p q:RP}{N:Nat}{pr:List (Nat×Nat)}{Ps:List (List RP)}(h:JW p q N pr Ps):Ps.length=N:=by
 induction h with
 |start=>simp
 |push _ _ _ _ _ ih=>rw[List.length_set];exact ih
def ElR(p q t:RP):Prop:=∃u∈p.ks,∃v∈q.ks,jZ u v t
theorem JW.el{p q:RP}{N:Nat}{pr:List (Nat×Nat)}{Ps:List (List RP)}(h:JW p q N pr Ps):∀ts∈Ps,(∀t∈ts,ElR p q t)/\ts.length<=pr.length:=by
 induction h with
 |start=>
  intro ts Vq;rw[(List.mem_replicate.1 Vq).2];exact⟨by simp,by simp⟩
 | @push pr Ps i j u v t ts _ h1 h2 h3 h4 ih=>
   intro x hx;rw[List.length_append,List.length_singleton];rcases List.mem_or_eq_of_mem_set hx with hx|rfl
   ·obtain⟨a,b⟩:=ih x hx;exact⟨a,by omega⟩
   ·obtain⟨a,b⟩:=ih ts (Gk h4);refine⟨fun y hy=>?_,by rw[List.length_append,List.length_singleton];omega⟩;rcases List.mem_append.1 hy with hy|hy
    ·exact a y hy
    ·rw[List.mem_singleton]at hy;subst hy;exact⟨u,Gk h1,v,Gk h2,h3⟩
def plV(pt:Nat->Rat)(y:Rat):List (List RP)->Rat
 |[]=>0
 |ts::r=>QU pt ts+y*plV pt y r
theorem qa5(pt:Nat->Rat)(t:RP):∀ts:List RP,QU pt (ts++[t])=QU pt ts+vT pt t
 |[]=>by simp only[List.nil_append,QU];grind
 |x::ts=>by
  simp only[List.cons_append,QU];rw[qa5 pt t ts]
  grind
theorem qfe(pt:Nat->Rat)(y:Rat)(t:RP):∀(Ps:List (List RP))(k:Nat)(ts:List RP),Ps[k]? =some ts->plV pt y (Ps.set k (ts++[t]))=plV pt y Ps+y^k*vT pt t
 |[],k,ts,h=>by simp at h
 |x::Ps,0,ts,h=>by
  simp only[List.getElem?_cons_zero,Option.some.injEq]at h;subst h;simp only[List.set_cons_zero,plV];rw[qa5,Rat.pow_zero]
  grind
 |x::Ps,k+1,ts,h=>by
  simp only[List.getElem?_cons_succ]at h;simp only[List.set_cons_succ,plV];rw[qfe pt y t Ps k ts h,Rat.pow_succ]
  grind
theorem qfo(pt:Nat->Rat)(y:Rat):∀n,plV pt y (List.replicate n [])=0
 |0=>rfl
 |n+1=>by
  rw[List.replicate_succ,plV,qfo pt y n,QU]
  grind
def prV(f g:Nat->Rat):List (Nat×Nat)->Rat
 |[]=>0
 |x::r=>f x.1*g x.2+prV f g r
theorem qbS(f g:Nat->Rat)(b:List (Nat×Nat)):∀a,prV f g (a++b)=prV f g a+prV f g b
 |[]=>by simp only[List.nil_append,prV];grind
 |x::a=>by
  simp only[List.cons_append,prV];rw[qbS f g b a]
  grind
theorem getD_some{α:Type}{l:List α}{i:Nat}{x:α}(d:α)(h:l[i]? =some x):l.getD i d=x:=by rw[List.getD_eq_getElem?_getD,h];rfl
theorem JW.val{p q:RP}{N:Nat}{pr:List (Nat×Nat)}{Ps:List (List RP)}(h:JW p q N pr Ps)(pt:Nat->Rat)(y:Rat):
 plV pt y Ps=prV (fun i=>vT pt (p.ks.getD i qh)*y^i) (fun j=>vT pt (q.ks.getD j qh)*y^j) pr:=by
 induction h with
 |start=>rw[qfo,prV]
 | @push pr Ps i j u v t ts _ h1 h2 h3 h4 ih=>
   rw[qfe _ _ _ _ _ _ h4,ih,qbS,prV,prV,h3.val,getD_some qh h1,getD_some qh h2,qiv]
   grind
theorem JW.top{p q:RP}{N:Nat}{pr:List (Nat×Nat)}{Ps:List (List RP)}(h:JW p q N pr Ps)(k:Nat)(hk:k<N):(∀x∈pr,x.1+x.2≠k)->Ps[k]? =some []:=by
 induction h with
 |start=>intro _;rw[List.getElem?_replicate,if_pos hk]
 | @push pr Ps i j u v t ts _ h1 h2 h3 h4 ih=>
   intro hx;have h5:=hx (i,j) (List.mem_append_right _ (List.mem_singleton.2 rfl));rw[List.getElem?_set_ne h5];exact ih fun x Lr=>hx x (List.mem_append_left _ Lr)
theorem JW.last{p q:RP}{N:Nat}{pr:List (Nat×Nat)}{Ps:List (List RP)}{i j:Nat}(h:JW p q N (pr++[(i,j)]) Ps):
 ∃Ps' u v t ts,JW p q N pr Ps'/\p.ks[i]? =some u/\q.ks[j]? =some v/\jZ u v t/\Ps'[i+j]? =some ts/\Ps=Ps'.set (i+j) (ts++[t]):=by
 generalize hq:pr++[(i,j)]=qr at h
 cases h with
 |start=>exact absurd hq (by simp)
 | @push pr' Ps' i' j' u v t ts h1 h2 h3 h4 h5=>
   obtain⟨e1,e2⟩:=List.append_inj' hq rfl
   injection e2 with e2
   injection e2 with e2 e3
   subst e1;subst e2;subst e3;exact⟨_,_,_,_,_,h1,h2,h3,h4,h5,rfl⟩
def yk(ks:List RP):Nat->List Nat
 |0=>[]
 |n+1=>if qI (ks.getD n qh)=true then yk ks n else yk ks n++[n]
theorem Ye(ks:List RP):∀n,∀i∈yk ks n,i<n
 |0,i,h=>by cases h
 |n+1,i,h=>by
  rw[yk]at h
  split at h
  ·have:=Ye ks n i h;omega
  ·rcases List.mem_append.1 h with h|h
   ·have:=Ye ks n i h;omega
   ·rw[List.mem_singleton]at h;omega
theorem JC(ks:List RP):∀n,(yk ks n).length<=n
 |0=>Gr _
 |n+1=>by
  have:=JC ks n;rw[yk]
  split
  ·omega
  ·rw[List.length_append,List.length_singleton];omega
def plS(f:Nat->Rat):List Nat->Rat
 |[]=>0
 |i::r=>f i+plS f r
theorem qeZ(f:Nat->Rat)(b:List Nat):∀a,plS f (a++b)=plS f a+plS f b
 |[]=>by simp only[List.nil_append,plS];grind
 |x::a=>by
  simp only[List.cons_append,plS];rw[qeZ f b a]
  grind
theorem qab(pt:Nat->Rat)(y:Rat)(ks:List RP)(hc:∀u∈ks,qv u=true):∀n,n<=ks.length->plS (fun i=>vT pt (ks.getD i qh)*y^i) (yk ks n)=sY y (fun i=>vT pt (ks.getD i qh)) n
 |0,_=>rfl
 |n+1,h=>by
  have ih:=qab pt y ks hc n (by omega);rw[yk,sY]
  split
  ·rename_i hz;rw[ih,Qv (hc _ (zE (by omega))) hz,JE]
   grind
  ·rw[qeZ,ih,plS,plS]
   grind
theorem qfE(f g:Nat->Rat)(i:Nat):∀js:List Nat,prV f g (js.map fun j=>(i,j))=f i*plS g js
 |[]=>by simp only[List.map_nil,prV,plS];grind
 |j::js=>by
  simp only[List.map_cons,prV,plS];rw[qfE f g i js]
  grind
theorem qfk(f g:Nat->Rat)(js:List Nat):∀is:List Nat,prV f g (is.flatMap fun i=>js.map fun j=>(i,j))=plS f is*plS g js
 |[]=>by simp only[List.flatMap_nil,prV,plS];grind
 |i::is=>by
  rw[List.flatMap_cons,qbS,qfE,qfk f g js is,plS]
  grind
def prT(ps qs:List RP):List (Nat×Nat):=(yk ps ps.length).flatMap fun i=>(yk qs qs.length).map fun j=>(i,j)
theorem qfB(ps qs:List RP):(prT ps qs).length<=ps.length*qs.length:=by
 unfold prT;have h:∀is:List Nat,(is.flatMap fun i=>(yk qs qs.length).map fun j=>(i,j)).length=is.length*(yk qs qs.length).length:=by
  intro is
  induction is with
  |nil=>simp
  |cons i is ih=>rw[List.flatMap_cons,List.length_append,List.length_map,ih,List.length_cons,Nat.succ_mul,Nat.add_comm]
 rw[h];exact Nat.mul_le_mul (JC _ _) (JC _ _)
theorem qfb(pt:Nat->Rat)(y:Rat):∀Ps:List (List RP),(∀ts∈Ps,yX 4 ts)->vL pt y (Ps.map (jl 4))=plV pt y Ps
 |[],_=>rfl
 |ts::Ps,h=>by
  rw[List.map_cons,vL,plV,qfb pt y Ps fun x hx=>h x (List.mem_cons_of_mem _ hx),qdq pt 4 ts (h ts List.mem_cons_self)]
theorem qah{ks:List RP}{u:RP}(hu:ks[ks.length-1]? =some u)(hz:qI u=false)(h2:0<ks.length):∃is,yk ks ks.length=is++[ks.length-1]/\∀i∈is,i<ks.length-1:=by
 obtain⟨n,hn⟩:∃n,ks.length=n+1:=⟨ks.length-1,by omega⟩;rw[hn]at hu ⊢;rw[show n+1-1=n by omega]at hu ⊢;refine⟨yk ks n,?_,Ye ks n⟩;rw[yk,if_neg];rw[getD_some qh hu,hz]
 decide
theorem qdv{l:Int}{ts:List RP}{x:RP}(hl:l≠0)(h:ts[ts.length-1]? =some x)(hz:qI x=false):qI (jI l ts)=false:=by
 obtain⟨n,hn⟩:∃n,ts.length=n+1:=⟨ts.length-1,by
  have:=(Gi.1 h).1;omega⟩
 have hg:ts.getD n qh=x:=getD_some qh (by rw[hn]at h;exact h);have hc:jp ts ts.length=n+1:=by
  rw[hn,jp,hg,hz];rfl
 unfold jI;rw[hc,if_neg (by omega)]
 split
 ·rename_i h1;obtain rfl:n=0:=by omega
  rw[hg];exact hz
 ·exact qaF hl
theorem Yk:∀(D:Nat)(t:RP),yX D [t]->qI (jl D [t])=true->qI t=true
 |0,t,h,_=>by
  have h1:=h t List.mem_cons_self;have:=(qJ h1.1).1;omega
 |D+1,t,h,hz=>by
  have hc:=h t List.mem_cons_self;have hs:jR [t]=yu (0,0) t:=rfl;rw[jl]at hz;rcases qz hc.1 with⟨a,b,k⟩|⟨a,a4,b,b',c2,c,u,hu,BF⟩
  ·have hL:(jR [t]).1=0:=by
    rw[hs];unfold yu;rw[if_neg (by show¬(0:Int)<t.lv;omega)]
    split<;>rfl
   rw[if_pos hL]at hz
   cases RK:qI t with
   |true=>rfl
   |false=>
    have h1:=(ZF (z:=QD [t]) (by
     have:=qae hc.1 a RK;simp only[QD];omega)).2
    rw[h1]at hz
    cases hz
  ·have hL:jR [t]=(t.lv,t.ks.length):=by
    rw[hs];unfold yu;rw[if_pos (by show(0:Int)<t.lv;omega),Nat.zero_max]
   rw[hL,if_neg (by show¬t.lv=0;omega)]at hz;have Dr:=(Gi.1 hu).1;have hp:jq t.lv (t.ks.length-1) [t]=[u]:=by
    unfold jq;rw[List.filterMap_cons];unfold yH;rw[if_pos ⟨rfl,Dr⟩,hu];rfl
   have h2:=qdv (l:=t.lv) (ts:=(List.range t.ks.length).map fun i=>jl D (jq t.lv i [t])) (x:=jl D [u]) (by omega) (by
    rw[List.length_map,List.length_range,List.getElem?_map,List.getElem?_range Dr];show some (jl D (jq t.lv (t.ks.length-1) [t]))=_;rw[hp]) (by
    cases hzu:qI (jl D [u])with
    |false=>rfl
    |true=>
     have:=Yk D u (fun x hx=>by
      rw[List.mem_singleton]at hx;subst hx;have:=c x (Gk hu);exact⟨this.2,by omega⟩) hzu
     rw[BF]at this
     cases this)
   rw[h2]at hz
   cases hz
theorem qjP{t:RP}(hc:qv t=true)(h:t.lv<4):qI (jl 4 [t])=true->qI t=true:=by
 intro hz;have Vg:yX 4 [t]:=fun x hx=>by
  rw[List.mem_singleton]at hx;subst hx;exact⟨hc,h⟩
 exact Yk 4 t Vg hz
theorem jZ.full{p q:RP}{Ps:List (List RP)}(hp:qv p=true)(hq:qv q=true)(h1:1<=p.lv)(he:p.lv=q.lv)(h:JW p q (p.ks.length+q.ks.length-1) (prT p.ks q.ks) Ps)(hs:p.ks.length<=1000)(RL:q.ks.length<=1000):jZ p q (jI p.lv (Ps.map (jl 4))):=by
 rcases qz hp with⟨a,_⟩|⟨_,a4,b,b',c2,c,u,hu,BF⟩
 ·omega
 rcases qz hq with⟨a,_⟩|⟨_,a4',e,e',f2,f,v,hv,SF⟩
 ·omega
 have hm:max p.lv q.lv=p.lv:=by omega
 have Mu:=h.el;have Vg:∀ts∈Ps,yX 4 ts/\∀t∈ts,t.lv<=p.lv-1:=fun ts Vq=>by
  refine⟨fun t ht=>?_,fun t ht=>?_⟩<;>obtain⟨x,hx,y,hy,hr⟩:=(Mu ts Vq).1 t ht<;>have:=hr.lv<;>have:=(c x hx).1<;>have:=(f y hy).1
  ·exact⟨hr.can,by omega⟩
  ·omega
 have hk:∀x∈Ps.map (jl 4),x.lv<p.lv/\qv x=true:=fun x hx=>by
  obtain⟨ts,Vq,rfl⟩:=List.mem_map.1 hx;obtain⟨k1,k2⟩:=Jn 4 ts (Vg ts Vq).1;have:=k2 (p.lv-1) (by omega) (Vg ts Vq).2;exact⟨by omega,k1⟩
 obtain⟨t1,t2⟩:=qbC h1 a4 hk;have XC:Ps.length=p.ks.length+q.ks.length-1:=h.len;refine⟨t1,by rw[hm];exact t2,fun _ _=>?_,fun pt=>?_,fun e1 e2 n1 n2 w1 w2 hn=>?_,qbE fun x hx=>?_,fun k Xx o1 o2=>?_⟩
 ·
  obtain⟨is,s1,s2⟩:=qah hu BF (by omega);obtain⟨js,s3,s4⟩:=qah hv SF (by omega);unfold prT at h;rw[s1,s3,List.flatMap_append,List.flatMap_singleton,List.map_append,<-List.append_assoc]at h;obtain⟨Ps',u',v',t,ts,g1,g2,g3,g4,g5,g6⟩:=h.last;rw[hu]at g2
  injection g2 with g2
  rw[hv]at g3
  injection g3 with g3
  subst g2;subst g3;have g7:=g1.top (p.ks.length-1+(q.ks.length-1)) (by omega) (fun x hx=>by
   rcases List.mem_append.1 hx with hx|hx
   ·obtain⟨i,hi,hx⟩:=List.mem_flatMap.1 hx;obtain⟨j,hj,rfl⟩:=List.mem_map.1 hx;have:=s2 i hi;rcases List.mem_append.1 hj with hj|hj
    ·have:=s4 j hj;show i+j≠_;omega
    ·rw[List.mem_singleton]at hj;show i+j≠_;omega
   ·obtain⟨j,hj,rfl⟩:=List.mem_map.1 hx;have:=s4 j hj;show p.ks.length-1+j≠_;omega)
  rw[g7]at g5
  injection g5 with g5
  subst g5;have hx:(Ps.map (jl 4))[p.ks.length+q.ks.length-1-1]? =some (jl 4 [t]):=by
   rw[List.getElem?_map,g6,show p.ks.length+q.ks.length-1-1=p.ks.length-1+(q.ks.length-1)by omega,List.getElem?_set_self (by have:=g1.len;omega)];rfl
  have hz:qI (jl 4 [t])=false:=by
   cases hz:qI (jl 4 [t])with
   |false=>rfl
   |true=>
    have hl:=g4.lv;have:=(c u (Gk hu)).1;have:=(f v (Gk hv)).1;have:=qjP g4.can (by omega) hz;rw[g4.nz BF SF]at this
    cases this
  exact qdv (by omega) (by rw[List.length_map,XC];exact hx) hz
 ·rw[qbe h1 a4 (fun x hx=>(hk x hx).2),qfb pt _ Ps fun ts Vq=>(Vg ts Vq).1,h.val pt];unfold prT;rw[qfk,qab pt _ p.ks (fun x hx=>(c x hx).2) _ (Gr _),qab pt _ q.ks (fun x hx=>(f x hx).2) _ (Gr _),qas pt p,qas pt q,if_neg (by omega),if_neg (by omega),if_neg (by omega),if_neg (by omega),qc2 pt _ p.ks _ (Gr _),qc2 pt _ q.ks _ (Gr _),he]
 ·rw[hm];have w1k:=w1.at_.2.1;have w2k:=w2.at_.2.1;refine qcW (by rw[List.length_map,XC];omega) fun x hx=>?_;obtain⟨ts,Vq,rfl⟩:=List.mem_map.1 hx;have U6:=qfB p.ks q.ks;have TD:p.ks.length*q.ks.length<=1000*1000:=Nat.mul_le_mul hs RL;have h5:=Ya (d:=e1+e2+(p.lv-1).toNat) (n:=n1+n2+1) 4 ts (by have:=(Mu ts Vq).2;omega) fun t ht=>by
   obtain⟨x,hx,y,hy,hr⟩:=(Mu ts Vq).1 t ht;have:=(c x hx).1;have:=(f y hy).1;exact⟨qN.mono (by omega) (Gr _) _ (hr.lw e1 e2 n1 n2 (w1.at_.2.2 x hx) (w2.at_.2.2 y hy) hn),hr.dig⟩
  exact qN.mono (by omega) (Gr _) _ h5
 ·obtain⟨ts,Vq,rfl⟩:=List.mem_map.1 hx;exact ZK 4 ts
 ·rw[jc]at o1 o2;refine qcv Xx o1.1 fun x hx=>?_;obtain⟨ts,Vq,rfl⟩:=List.mem_map.1 hx;refine qbL Xx 4 ts fun t ht=>?_;obtain⟨x,hx,y,hy,hr⟩:=(Mu ts Vq).1 t ht;exact hr.oc k Xx (o1.2 x hx) (o2.2 y hy)
end Go.Proofs.YtflikmojaidhhaaGreatDoor
namespace Go.Proofs.YtflikmojaidhhaaGreatDoor
open Go.RowKit Go.Shelf
def qdB{α:Type}(F:Fence)(n:Nat)(P:Program)(gf:Nat)(lb:Array Value)(encs:α->Array Value)(Kp:World->World->Prop)(Pr:List α->α->World->Prop)(S Sp:List α->Prop)(w:World):Prop:=
 ∀(l:Nat)(J Jx:List α->World->Prop)(W:World),Below w.heap.size w W->AbidesFrom W.heap.size J->
  (∀pre x W1,J pre W1->Pr pre x W1->YieldAt F (n-1) P l (encs x) W1 fun e W'=>(e= .returned (.bool true)/\J (pre++[x]) W'/\Kp W1 W')∨(e= .returned (.bool false)/\Jx (pre++[x]) W'))->
  J [] W->CallsIn F n P gf (#[.func (.yield l) #[] #[]]++lb) W fun e W'=>(∃v,e= .returned v)/\((∃xs,S xs/\J xs W')∨(∃pre,Sp pre/\Jx pre W'))
section
variable {P:Program} {F:Fence} {n:Nat} {α:Type} {g:Operand} {ps:Array Tmp} {assign body:Code} {Q:Exit->Act->World->Prop} {a:Act} {w:World}
def qkJ(w:World)(Kp:World->World->Prop)(I:List α->World->Prop)(Ix:Code->List α->World->Prop)(xs:List α)(W:World):Exit->Act->World->Prop
 | .normal,_,W'=>KeepsFrom w.heap.size W W'/\Kp W W'/\I xs W'
 | .exit id,_,W'=>KeepsFrom w.heap.size W W'/\Ix (.exit id) xs W'
 |_,_,_=>False
theorem YG(Xk:F.round=none)(h1:1<=n){gf:Nat}{lb:Array Value}(hg:a.eval g= .func (.func gf) #[] lb)(hFg:F.fn gf)(eg:∀args w,(callFunc gf args).run P w= .ok (.enter gf args) w)
 {encs:α->Array Value}{Kp:World->World->Prop}{Pr:List α->α->World->Prop}{S Sp:List α->Prop}(hseq:qdB F (n-1) P gf lb encs Kp Pr S Sp w)
 (We:∀{A B C:World},Kp A B->Kp B C->Kp A C)(hKb:∀(W:World)(l:Nat)(o o':Obj),W.heap[l]? =some o->o.isCells=false->Kp W (W.putObj l o'))(SJ:∀x,(encs x).size=ps.size)
 (I:List α->World->Prop)(Ix:Code->List α->World->Prop)(hI:OwnFrom w.heap.size I)(hIx:∀c,OwnFrom w.heap.size (Ix c))(h0:I [] w)
 (Ax:List α->α->Act->World->Prop)(hAx:∀pre x a',OwnFrom w.heap.size (fun(_:Unit) W=>Ax pre x a' W))
 (Bw:∀(l:Nat)(pre:List α)(x:α)(W:World)(K:Act->World->Prop),I pre W->Pr pre x W->(∀a' W',KeepsFrom w.heap.size W W'->Kp W W'->I pre W'->Ax pre x a' W'->K a' W')->
   assign.wpIn (F.inRound l) (n-1-1) P (Exit.then K (fun _ _ _=>False)) {tmps:=(ps.zip (encs x)).foldl (fun t (p,v)=>t.setIfInBounds p v) a.tmps,defers:=[]} W)
 (Oi:∀(l:Nat)(pre:List α)(x:α)(a':Act)(W:World),w.heap.size<=l->I pre W->Ax pre x a' W->body.wpIn (F.inRound l) (n-1-1) P (qkJ w Kp I Ix (pre++[x]) W) a' W)
 (Oh:∀(D:Nat)(xs:List α)(W:World),w.heap.size<=D->S xs->I xs W->W.heap[D]? =some (.deferred (some []))->Q .normal {a with defers:={target:= .collected D,args:=#[]}::a.defers} W)
 (Oe:∀(D:Nat)(c:Code)(pre:List α)(W:World),w.heap.size<=D->Sp pre->Ix c pre W->W.heap[D]? =some (.deferred (some []))->c.wpIn F n P Q {a with defers:={target:= .collected D,args:=#[]}::a.defers} W):
 (Code.rangeFunc g ps assign body).wpIn F n P Q a w:=by
 refine wpIn_rangeFunc fun fn AQ=>?_;rw[Xk]
 let rc:LoopState->Option Code->Loop:=fun st pe=>{state:=st,pending:=pe,fn,tmps:=a.tmps,params:=ps,assign,body,defers:=w.heap.size}
 let W0:World:=(w.alloc (.deferred (some []))).alloc (.loop (rc .ready none))
 have hL0:W0.heap[w.heap.size+1]? =some (.loop (rc .ready none)):=by
  have:=World.alloc_heap_new (w.alloc (.deferred (some []))) (.loop (rc .ready none));rwa[World.size_alloc]at this
 have hD0:W0.heap[w.heap.size]? =some (.deferred (some [])):=(Below.heap_alloc _ _ _ (by simp)).trans (World.alloc_heap_new w _);have Sn:w.heap.size<=W0.heap.size:=by show w.heap.size<=((w.alloc _).alloc _).heap.size;simp;omega
 have Xb:Below w.heap.size w W0:=((Below.refl _ w).alloc (Gr _) _).alloc (by simp) _;refine⟨w.heap.size+1,[{target:= .collected w.heap.size,args:=#[]}],W0,{target:= .fn (.func gf) lb,args:=#[.func (.yield (w.heap.size+1)) #[] #[]]},W0,gf,#[.func (.yield (w.heap.size+1)) #[] #[]]++lb,W0,
  run_enterLoop_outer _ _ _ _ _,?_,?_,?_,fun _=>h1,?_⟩
 ·simp only[resolve,hg];simp[go_sem]
 ·intro f' OJ;simp[Target.leads]at OJ;subst OJ;exact hFg
 ·simp[invoke,go_sem,eg]
 ·have far:∀{A:World} {row:Option Nat},(∀r,row=some r->W0.heap.size<=r/\∃o:Obj,A.heap[r]? =some o/\o.isWalk=true)->∀r,row=some r->w.heap.size<=r/\∃o:Obj,A.heap[r]? =some o/\o.isCells=false:=fun hr r e=>by
   obtain⟨hB,o,ho,hw⟩:=hr r e;exact⟨Gl Sn hB,o,ho,Obj.not_cells_of_walk hw⟩
  refine(hseq (w.heap.size+1) (fun pre W=>I pre W/\W.heap[w.heap.size+1]? =some (.loop (rc .ready none))/\W.heap[w.heap.size]? =some (.deferred (some [])))
   (fun pre W=>∃c,Ix c pre W/\W.heap[w.heap.size+1]? =some (.loop (rc .done (some c)))/\W.heap[w.heap.size]? =some (.deferred (some []))) W0 Xb
   (fun s A B row hs EO hr=>⟨hI s A B row hs.1 EO (far hr),(grownBy_keeps EO (fun r e=>(hr r e).2) hs.2.1 rfl).trans hs.2.1,(grownBy_keeps EO (fun r e=>(hr r e).2) hs.2.2 rfl).trans hs.2.2⟩)
   ?_ ⟨hI.alloc _ (hI.alloc _ h0),hL0,hD0⟩).mono ?_
  ·rintro pre x W ⟨hi,hl,hk⟩ Ou;refine⟨fn,_,assign,body,run_yield (P:=P) (args:=encs x) hl (SJ x),roundIn_of_wpIn AQ (Bw _ pre x W _ hi Ou ?_)⟩;intro a' Wa hkfa hkpa hia hax;have la:=hkfa.same _ _ (by omega) hl rfl;have ka:=hkfa.same _ _ (Gr _) hk rfl;have sa:w.heap.size+1<Wa.heap.size:=(Array.getElem?_eq_some_iff.1 la).1;refine⟨_,run_beginRound la rfl,?_⟩
   let Wb:World:=Wa.putObj (w.heap.size+1) (.loop {rc .ready none with state:= .busy})
   have lb':Wb.heap[w.heap.size+1]? =some (.loop {rc .ready none with state:= .busy}):=World.putObj_heap_same sa;have kb:Wb.heap[w.heap.size]? =some (.deferred (some [])):=(World.putObj_heap_other (by omega)).trans ka;have pb:Kp Wa Wb:=hKb _ _ _ _ la rfl;refine wpIn_mono (Oi _ pre x a' _ (by omega) (hI.putObj _ hia (by omega) la rfl) ((hAx pre x a').putObj (s:=()) _ hax (by omega) la rfl)) ?_;rintro e a3 W3 hp
   cases e with
   |normal=>
    obtain⟨Rz,hkp3,IV⟩:=hp;have l3:=Rz.same _ _ (by omega) lb' rfl;exact⟨_,_,run_endRound (P:=P) none l3,.inl ⟨rfl,⟨hI.putObj _ IV (by omega) l3 rfl,World.putObj_heap_same (Array.getElem?_eq_some_iff.1 l3).1,(World.putObj_heap_other (by omega)).trans (Rz.same _ _ (Gr _) kb rfl)⟩,
     We hkpa (We (We pb hkp3) (hKb _ _ _ _ l3 rfl))⟩⟩
   |exit id=>
    obtain⟨Rz,IV⟩:=hp;have l3:=Rz.same _ _ (by omega) lb' rfl;exact⟨_,_,run_endRound (P:=P) (some (.exit id)) l3,.inr ⟨rfl,.exit id,(hIx _).putObj _ IV (by omega) l3 rfl,World.putObj_heap_same (Array.getElem?_eq_some_iff.1 l3).1,(World.putObj_heap_other (by omega)).trans (Rz.same _ _ (Gr _) kb rfl)⟩⟩
   |ret=>exact hp.elim
   |goto t=>exact hp.elim
   |panic ch=>exact hp.elim
   |outgrown=>exact hp.elim
  ·rintro e W2 ⟨⟨v,rfl⟩,(⟨xs,hS,hi,hl,hk⟩|⟨pre,hSp,c,hi,hl,hk⟩)⟩
   ·exact⟨none,_,run_endLoop (P:=P) hl (by simp[rc]),Oh _ xs _ (Gr _) hS (hI.putObj _ hi (by omega) hl rfl) ((World.putObj_heap_other (by omega)).trans hk)⟩
   ·exact⟨some c,_,run_endLoop (P:=P) hl (by simp[rc]),Oe _ c pre _ (Gr _) hSp ((hIx c).putObj _ hi (by omega) hl rfl) ((World.putObj_heap_other (by omega)).trans hk)⟩
end
def qlx(ps:List PT)(pre:List PT)(x:PT)(W:World):Prop:=
 qx W W.heap.size x.A x.c x.ds/\Cn x/\x.ds.length<=1000/\pre.map PT.tm++[x.tm]=(ps.take (pre.length+1)).map PT.tm/\pre.length<ps.length
theorem qco(n:Nat)(hn:1<=n)(Bs base:Nat)(A:Oa)(c:Nat)(ps:List PT)(w:World)(XC:ps.length<=100000)(Wh:qf w Bs 107 #[.slice A ps.length c])(Un:yl w base (.slice A ps.length c) ps)(Uo:∀p∈ps,p.ds.length<=1000):
 qdB Fence.wide n Tryz.prog 141 #[.pointer (some ⟨Bs,0,none⟩)] qhq (KT Bs base (.slice A ps.length c) ps) (qlx ps) (fun ys=>ys.map PT.tm=ps.map PT.tm) (fun pre=>∃k,pre.map PT.tm=(ps.take k).map PT.tm) w:=
 fun l J Jx W hW hJ hY h0=>qfU n hn l Bs base A c ps W J Jx hJ XC (fun pre x W1 hj h1 h2 h3 h4 h5=>hY pre x W1 hj ⟨h1,h2,h3,h4,h5⟩) (Wh.old hW) (Un.old hW) Uo h0
end Go.Proofs.YtflikmojaidhhaaGreatDoor
namespace Go.Proofs.YtflikmojaidhhaaGreatDoor
open Go.RowKit
def dg(L:Int)(m:Mo):Int:=if 1<=L/\L<=4 then gt m (L-1).toNat else 0
def sm(m:Mo):Int:=m.1+m.2.1+m.2.2.1+m.2.2.2
end Go.Proofs.YtflikmojaidhhaaGreatDoor
namespace Go.Proofs.YtflikmojaidhhaaGreatDoor
open Go.RowKit Go.Shelf
attribute [local go_sem] Oper.semAt_some
theorem qf.farH{B:Nat}{W W':World}{row:Option Nat}{k:Nat}{t:TypeId}{cs:Array Value}(h:qf W k t cs)(hg:W.grownBy W' row)(hr:∀r,row=some r->B<=r/\∃o:Obj,W.heap[r]? =some o/\o.isCells=false):qf W' k t cs:=
 h.grown hg (fun e'=>by obtain⟨_,o,ho,hc⟩:=hr k e'.symm;rw[show W.heap[k]? =_ from h]at ho;cases ho;cases hc)
theorem qix{ps pre:List PT}{x:PT}(h:pre.map PT.tm++[x.tm]=(ps.take (pre.length+1)).map PT.tm)(hl:pre.length<ps.length):pre.map PT.tm=(ps.take pre.length).map PT.tm/\∃p,ps[pre.length]? =some p/\p.tm=x.tm:=by
 obtain⟨p,hp⟩:∃p,ps[pre.length]? =some p:=⟨_,Gn hl⟩;rw[yK hp]at h;obtain⟨h1,h2⟩:=List.append_inj' h rfl;exact⟨h1,p,hp,by simpa using h2.symm⟩
end Go.Proofs.YtflikmojaidhhaaGreatDoor
namespace Go.Proofs.YtflikmojaidhhaaGreatDoor
open Go.RowKit Go.Shelf
attribute [local go_sem] Oper.semAt_some
theorem qx.farC{B:Nat}{W W':World}{row:Option Nat}{B' c:Nat}{A:Oa}{ds:List Nat}(h:qx W B' A c ds)(hg:W.grownBy W' row)(hr:∀r,row=some r->B<=r/\∃o:Obj,W.heap[r]? =some o/\o.isCells=false):qx W' B' A c ds:=
 ⟨⟨h.rd.1,fun hp=>by obtain⟨b,o,e,hb,hc⟩:=h.rd.2 hp;exact⟨b,o,e,hb,fun j u hu=>cell_kept (hc j u hu) hg (fun r e=>(hr r e).2)⟩⟩,h.dg,h.cap⟩
theorem qcg{B:Nat}{W W':World}(h:Below W.heap.size W W'):KeepsFrom B W W':=⟨h.size,fun k _ _ hk _=>(h.block k (Array.getElem?_eq_some_iff.1 hk).1).trans hk⟩
theorem qW.take{l:List Tm}(h:qW l)(k:Nat):qW (l.take k) where
 ne t ht:=h.ne t (List.mem_of_mem_take ht)
 vl t ht:=h.vl t (List.mem_of_mem_take ht)
 so:=h.so.sublist (List.take_sublist k l)
def qgQ(g:Nat)(w:World)(e:Ending)(w':World):Prop:=∃A c,e= .returned (.agg #[.bool false,.slice A (dig g).length c])/\(dig g).length<=c/\qL w' A (dig g)/\Below w.heap.size w w'
theorem qX.n{g:Nat}{w:World}{e:Ending}{w':World}(h:qX (g:Int) w e w'):qgQ g w e w':=by
 obtain⟨A1,c1,h1,h2,h3,h4⟩:=h;have e0:decide ((g:Int)<0)=false:=by simp
 rw[e0,Int.natAbs_natCast]at h1;rw[Int.natAbs_natCast]at h2 h3;exact⟨A1,c1,h1,h2,h3,h4⟩
theorem qg6(g c c':Nat)(ng:Bool)(A A':Oa)(ds:List Nat)(w:World)(hc:(dig g).length<=c)(h:qL w A (dig g))(h':qx w w.heap.size A' c' ds)(hm:(dig g).length<=400000)(UE:ds.length<=400000):
 Calls Tryz.prog 125 #[.agg #[.bool false,.slice A (dig g).length c],.agg #[.bool ng,.slice A' ds.length c']] w (qgQ (Nat.gcd g (val ds)) w):=by
 have:=qi4 false ng A A' c c' w.heap.size (dig g) ds w (Gr _) (yf h hc) h' hm UE;rw[qB]at this;exact this.mono fun e w' h=>h.n
def qgi(Bt Br:Nat)(w:World)(pre:List PT)(W:World):Prop:=
 ∃A c,qf W Bt 25 #[.bool false,.slice A (dig (JX (pre.map PT.tm))).length c]/\(dig (JX (pre.map PT.tm))).length<=c/\qL W A (dig (JX (pre.map PT.tm)))/\qf W Br 25 #[.bool false,.slice none 0 0]/\Below w.heap.size w W
theorem qgi.own{Bt Br B:Nat}{w:World}(hw:w.heap.size<=B):OwnFrom B (qgi Bt Br w):=by
 rintro pre W W' row ⟨A,c,h1,h2,h3,h4,h5⟩ hg hr;exact⟨A,c,h1.farH hg hr,h2,h3.keep (fun _ _ hb=>hb.farH hg hr),h4.farH hg hr,ownFrom_below (β:=Unit) (Gr _) hw () W W' row h5 hg hr⟩
def qcr(qs pre:List PT)(x:PT)(F:Nat->Act)(a:Act)(W:World):Prop:=
 ∃Bx Bd,qf W Bx 25 #[.bool x.ng,.slice x.A x.ds.length x.c]/\qx W Bd x.A x.c x.ds/\Bd<=W.heap.size/\x.ds.length<=1000/\pre.map PT.tm++[x.tm]=(qs.take (pre.length+1)).map PT.tm/\pre.length<qs.length/\a=F Bx
theorem qcr.own{qs pre:List PT}{x:PT}{F:Nat->Act}{a:Act}{B:Nat}:OwnFrom B (fun(_:Unit) W=>qcr qs pre x F a W):=by
 rintro _ W W' row ⟨Bx,Bd,h1,h2,h3,h4⟩ hg hr;exact⟨Bx,Bd,h1.farH hg hr,h2.farC hg hr,Gl h3 hg.size,h4⟩
set_option maxRecDepth 100000
set_option maxHeartbeats 4000000
theorem qde(A:Oa)(c B N:Nat)(E:Int)(M:Nat)(ps:List PT)(w:World)(hB:B<=w.heap.size)(h:PIn w B A ps N E M)(hN:N<=50000)(hM:M<Big):
 Calls Tryz.prog 110 #[.slice A ps.length c] w fun e w'=>∃P,qW P/\(∀m,cf P m=cf (ps.map PT.tm) m)/\nrm P<=M/\qgQ (JX P) w e w':=by
 have HT:=Gh (fun(W:World)(hW:Below w.heap.size w W)=>qge A c B N E M ps W (Gl hB hW.size) (h.below (hW.mono hB)) hN hM);have HO:=Gh (fun(W:World)=>(Jc 0 (by omega) (by omega) W).mono (fun e w' h=>qX.n (g:=0) h));unfold qgQ at HO;clear h;refine(callsIn_wide (n:=3)).1 ?_;refine callsIn_of_wp_marks Tryz.func110 rfl trivial ?_ rfl;simp only[Tryz.ntmps110,List.size_toArray,List.length_cons,List.length_nil,Nat.reduceAdd,Nat.reduceSub,Array.replicate_succ,Array.replicate_zero,List.push_toArray,List.append_toArray,List.nil_append,List.cons_append]
 gi_wp2_with (first|(refine⟨trivial,?_⟩;gi_at_call 35;refine(callsIn_wide.2 (HO _)).mono ?_;rintro e w1 ⟨A0,c0,rfl,I2,Sr,I3⟩;have Fj:=(Gb w (.cells #[.bool false,.slice none 0 0] 25)).trans (I3.mono (by simp));have k1:=(qf.new w 25 #[.bool false,.slice none 0 0]).old I3)|(refine⟨trivial,?_⟩;gi_at_call 124;refine(callsIn_wide.2 (HT _ (Fj.alloc Fj.size _))).mono ?_;rintro e w2 ⟨b,A1,c1,qs,rfl,U1,VA,XF,hb⟩))
 have Xp:Below w.heap.size w w2:=(Fj.alloc Fj.size _).trans (hb.mono (Gl Fj.size (by simp)));have hq:qf w2 w1.heap.size 25 #[.bool false,.slice A0 (dig 0).length c0]:=(qf.new w1 _ _).old hb;have hr:qf w2 w.heap.size 25 #[.bool false,.slice none 0 0]:=(k1.alloc _).old hb;have hn:qL w2 A0 (dig 0):=(Sr.keep fun _ _ k=>k.alloc _).old hb;have St:w.heap.size<w1.heap.size:=k1.lt;have Si:=Gh XF;have hqs:qs.length<=100000:=by have:=XF.len;omega
 have Uo:∀p∈qs,p.ds.length<=1000:=fun p hp=>Gl (XF.dlen (k:=600) hM hp) (by omega);have Xn:=XF.own;clear hb I3 k1 Sr Fj VA XF HT HO;generalize (w1.alloc (.cells #[.bool false,.slice A0 (dig 0).length c0] 25)).heap.size=bT at*;generalize w1.heap.size=bt at*;refine YG (F:=Fence.wide) (n:=3) rfl (by omega) (gf:=141) (lb:=#[.pointer (some ⟨b,0,none⟩)]) rfl trivial (enters_of Tryz.func141 (by kernel_rfl) rfl)
  (qco 2 (by omega) b bT A1 c1 qs w2 hqs U1 Xn Uo) KT.trans (fun W l o o' h1 h2=>KT.put o' h1 h2) (fun _=>rfl)
  (qgi bt w.heap.size w) (fun _ _ _=>False)
  (qgi.own Xp.size) (fun _ _ _ _ _ hs _ _=>hs) ⟨A0,c0,hq,I2,hn,hr,Xp⟩
  (fun pre x a' W=>qcr qs pre x (fun Bx=>{tmps:=#[.slice A ps.length c,undef,.pointer (some ⟨w.heap.size,0,none⟩),.pointer (some ⟨bt,0,none⟩),undef,.pointer (some ⟨Bx,0,none⟩),.agg #[.bool false,.slice A0 (dig 0).length c0],.slice A ps.length c,.func (.func 141) #[] #[.pointer (some ⟨b,0,none⟩)],.agg #[.int .i64 x.m.1,.int .i64 x.m.2.1,.int .i64 x.m.2.2.1,.int .i64 x.m.2.2.2],.agg #[.bool x.ng,.slice x.A x.ds.length x.c],undef,undef,undef,undef],defers:=[]}) a' W)
  (fun pre x a'=>qcr.own)
  ?assign ?body ?done ?stop
 case assign=>
  rintro l pre x W K ⟨Ai,ci,i1,i2,i3,i4,i5⟩ ⟨t1,t2,t3,t4,t5⟩ hK;unfold qhq Jv;have Tc:=Gb W (.cells #[.bool x.ng,.slice x.A x.ds.length x.c] 25);have MN:=Gh t4;have Ew:=Gh (t1.below Tc);have Ec:=Gh t3;have HI:=Gh (show qgi bt w.heap.size w pre (W.alloc (.cells #[.bool x.ng,.slice x.A x.ds.length x.c] 25))from⟨Ai,ci,i1.old Tc,i2,i3.old Tc,i4.old Tc,Gt i5 Tc⟩);clear t4 t1 t3 t2 i1 i2 i3 i4 i5
  gi_wp2
  exact hK _ _ ((KeepsOthers.alloc _ _).from _) (.old Tc) HI ⟨W.heap.size,W.heap.size,qf.new W _ _,Ew,Tc.size,Ec,MN,t5,rfl⟩
 case body=>
  rintro l pre x a' W hl ⟨Ai,ci,i1,i2,i3,i4,i5⟩ ⟨Bx,Bd,hx,hxn,hBd,Sm,Ah,Xi,rfl⟩;obtain⟨Po,q,Ot,hqx⟩:=qix Ah Xi;have VT:JX ((pre++[x]).map PT.tm)=Nat.gcd (JX (pre.map PT.tm)) (val x.ds):=by
   rw[List.map_append,List.map_cons,List.map_nil,qhx];show Nat.gcd _ (qj x.ng x.ds).natAbs=_;rw[je]
  have hln:(dig (JX (pre.map PT.tm))).length<=600:=by
   rw[Po,List.map_take];refine zU (Nat.lt_of_le_of_lt (Z8 (Si.out.can.take _)) (Nat.lt_of_le_of_lt (qdn _ _) (Nat.lt_of_le_of_lt Si.out.nm hM)))
  have HC:=Gh (qg6 (JX (pre.map PT.tm)) ci x.c x.ng Ai x.A x.ds W i2 i3 (hxn.more hBd) (by omega) (by omega));rw[<-VT]at HC;unfold qgQ at HC;have Nu:=Gh (show∀(V:World)(A:Oa)(c:Nat),(dig (JX ((pre++[x]).map PT.tm))).length<=c->qL V A (dig (JX ((pre++[x]).map PT.tm)))->qf V bt 25 #[.bool false,.slice A (dig (JX ((pre++[x]).map PT.tm))).length c]->qf V w.heap.size 25 #[.bool false,.slice none 0 0]->Below w.heap.size w V->qgi bt w.heap.size w (pre++[x]) V from fun V A c h1 h2 h3 h4 h5=>⟨A,c,h3,h1,h2,h4,h5⟩);generalize JX ((pre++[x]).map PT.tm)=g' at*;generalize JX (pre.map PT.tm)=g at*;have c0':W.cell? ⟨bt,0,none⟩=some (.bool false):=i1.cell 0;have c1':W.cell? ⟨bt,1,none⟩=some (.slice Ai (dig g).length ci):=i1.cell 1;have e0:W.cell? ⟨Bx,0,none⟩=some (.bool x.ng):=hx.cell 0;have e1:W.cell? ⟨Bx,1,none⟩=some (.slice x.A x.ds.length x.c):=hx.cell 1;have TZ:=Gh i1;have Dm:=Gh i4;have Ve:=Gh i5;clear i1 i2 i3 i4 i5 hx hxn hBd Sm Ah Xi Po Ot hqx VT hln
  gi_wp2_with (first|(refine⟨trivial,?_⟩;gi_at_call 125;refine(callsIn_wide.2 HC).mono ?_;rintro e w3 ⟨A3,c3,rfl,L9,L8,FK⟩;have kk:=TZ.out.old FK;have d0:w3.cell? ⟨bt,0,none⟩=some (.bool false):=kk.cell 0;have d1:w3.cell? ⟨bt,1,none⟩=some (.slice Ai (dig g).length ci):=kk.cell 1;have f0:=kk.frozen 0;have f1:=kk.frozen 1;have z0:=kk.lt;have Uk:=Gh kk;have H31:=Gh L9;have H32:=Gh L8;have H33:=Gh FK;clear kk L9 L8 FK))
  have hk:=Uk.out;have h2:=H33.out;exact⟨(qcg h2).trans (((KeepsOthers.setCell _ _ _).from _).trans ((KeepsOthers.setCell _ _ _).from _)),(KT.old h2).trans ((KT.set hk (by decide) (by decide) (by decide) _).trans (KT.set (hk.set_ 0 _) (by decide) (by decide) (by decide) _)),
   Nu _ A3 c3 H31 (H32.out.store2 hk (by decide) _ _) ((hk.set_ 0 _).set_ 1 _) (((Dm.out.old h2).far (Nat.ne_of_lt St) _).far (Nat.ne_of_lt St) _) (((Gt Ve h2).setCell (Nat.le_of_lt St) _).setCell (Nat.le_of_lt St) _)⟩
 case done=>
  rintro D ys W hD hS ⟨Ai,ci,i1,i2,i3,i4,i5⟩ hK;have c0':W.cell? ⟨bt,0,none⟩=some (.bool false):=i1.cell 0;have c1':W.cell? ⟨bt,1,none⟩=some (.slice Ai (dig (JX (ys.map PT.tm))).length ci):=i1.cell 1;have d0:W.cell? ⟨w.heap.size,0,none⟩=some (.bool false):=i4.cell 0;have d1:W.cell? ⟨w.heap.size,1,none⟩=some (.slice none 0 0):=i4.cell 1;have f0:=i4.frozen 0;have f1:=i4.frozen 1;have z0:=i4.lt;have HS:=Gh hS;have Dm:=Gh i4;have Ve:=Gh i5;have HI3:=Gh i3;have Ei:=Gh i2;have Wg:w.heap.size≠D:=by have:=Xp.size;have:=hr.lt;omega
  have HK:=Gh hK;clear hS i1 i2 i3 i4 i5 hK
  gi_wp2
  have y2:=(Dm.out.set_ 0 (.bool false)).set_ 1 (.slice Ai (dig (JX (ys.map PT.tm))).length ci);have y6:((W.setCell ⟨w.heap.size,0,none⟩ (.bool false)).setCell ⟨w.heap.size,1,none⟩ (.slice Ai (dig (JX (ys.map PT.tm))).length ci)).heap[D]? =some (.deferred (some [])):=
   (Below.heap_setCell _ ⟨w.heap.size,1,none⟩ _ D (Ne.symm Wg)).trans ((Below.heap_setCell _ ⟨w.heap.size,0,none⟩ _ D (Ne.symm Wg)).trans HK)
  have y7:=(World.putObj_heap_other (o:= .deferred none) Wg).trans y2;refine⟨by simp,.inl ⟨_,_,rfl,run_takeDeferred y6,?_⟩⟩;refine⟨_,results_cell_row Tryz.results110 _ _ w.heap.size 25 _ (0,0) _ rfl y7 Tryz.underlying25 rfl Tryz.sizeInt,?_⟩;have U0:qW (ys.map PT.tm):=by rw[HS.out];exact Si.out.can
  refine⟨ys.map PT.tm,U0,fun m=>by rw[HS.out];exact Si.out.cf m,by rw[HS.out];exact Si.out.nm,Ai,ci,rfl,Ei,?_,?_⟩
  ·exact(HI3.out.store2 Dm (by decide) _ _).keep fun k cs hb=>(World.putObj_heap_other (fun e=>by subst e;rw[show _=_ from hb]at y6;cases y6)).trans hb
  ·exact((Ve.out.setCell (Gr _) _).setCell (Gr _) _).trans (belowK_b (w:=w) (Gr _) _ D _ _ (by have:=Xp.size;omega) y6 rfl rfl)
 case stop=>
  rintro D cc pre W _ _ h _;exact h.elim
end Go.Proofs.YtflikmojaidhhaaGreatDoor
namespace Go.Proofs.YtflikmojaidhhaaGreatDoor
open Go.RowKit
attribute [local go_sem ↓] Go.wp_at_zero Go.wp_at_succ
def Qf(d:Int)(l:List Tm)(k:Nat):List Tm:=Zp d (l.take k)++l.drop k
theorem qa9(d:Int)(l:List Tm):Qf d l 0=l:=by simp[Qf,Zp]
theorem qha(d:Int)(l:List Tm):Qf d l l.length=Zp d l:=by simp[Qf]
theorem qan(d:Int)(l:List Tm)(k:Nat):(Qf d l k).length=l.length:=by
 simp[Qf,Zp];omega
theorem qfa(d:Int)(l:List Tm)(k:Nat):(Qf d l k)[k]? =l[k]?:=by
 by_cases h:k<l.length
 ·unfold Qf Zp;rw[List.getElem?_append_right (by simp;omega)];simp[Nat.min_eq_left (Nat.le_of_lt h)]
 ·have e:l.length<=k:=by omega
  rw[List.getElem?_eq_none (by rw[qan];omega),List.getElem?_eq_none e]
theorem qbD{d:Int}{l:List Tm}{k:Nat}{t:Tm}(h:l[k]? =some t):(Qf d l k).set k (t.1/d,t.2)=Qf d l (k+1):=by
 have hl:k<l.length:=(Gi.1 h).1;have e:l[k]=t:=(Gi.1 h).2;unfold Qf;rw[List.set_append_right _ _ (by simp[Zp];omega)];have e1:k-(Zp d (l.take k)).length=0:=by simp[Zp];omega
 rw[e1,List.drop_eq_getElem_cons hl,List.set_cons_zero,List.take_succ_eq_append_getElem hl,e];unfold Zp;rw[List.map_append];simp
theorem zP.sn{X X':World}{base N M n:Nat}{E:Int}{v v':Value}{ps qs:List PT}{F:Mo->Int}(h:zP X base v ps F N E M)(hn:ps.length=n)(hq:qs.map PT.tm=Qf (dvs (ps.map PT.tm)) (ps.map PT.tm) n)(ho:yl X' base v' qs):zP X' base v' qs (Go.Proofs.YtflikmojaidhhaaGreatDoor.cf (snL (ps.map PT.tm))) N E M:=by
 have e:qs.map PT.tm=snL (ps.map PT.tm):=by
  rw[hq,<-hn,<-List.length_map (f:=PT.tm)];exact qha _ _
 refine⟨ho,by rw[e];exact qeg h.can,fun m=>by rw[e],?_,fun q BH=>?_,?_⟩
 ·have:=congrArg List.length e;rw[qk7,List.length_map,List.length_map]at this;rw[this];exact h.len
 ·have:q.tm∈snL (ps.map PT.tm):=e▸List.mem_map.2 ⟨q,BH,rfl⟩;obtain⟨s,hs,FE⟩:=List.mem_map.1 this;obtain⟨p,hp,rfl⟩:=List.mem_map.1 hs;have e3:q.m=p.m:=(congrArg Prod.snd FE).symm;rw[e3];exact h.mb p hp
 ·rw[e];exact Gl (qkR h.can) h.nm
def qkq(l:List Tm)(N:Nat)(E:Int)(M:Nat)(w:World)(e:Ending)(w':World):Prop:=∃P,qW P/\(∀m,cf P m=cf l m)/\qdU (cf (snL P)) N E M w e w'
theorem qh0{l:List Tm}{t:Tm}(h:l[0]? =some t):hdN l=decide (t.1<0):=by
 cases l with
 |nil=>simp at h
 |cons s l=>simp at h;rw[h];rfl
theorem Qw(z:Int):(qP z<0)↔z<0:=by unfold qP;split<;>(try split)<;>omega
set_option maxHeartbeats 4000000
set_option maxRecDepth 100000
theorem qaM(A:Oa)(c B N:Nat)(E:Int)(M:Nat)(ps:List PT)(w:World)(hB:B<=w.heap.size)(h:PIn w B A ps N E M)(hN:N<=50000)(hM:M<Big)(hE:E<=9223372036854775807):
 Calls Tryz.prog 87 #[.slice A ps.length c] w (qkq (ps.map PT.tm) N E M w):=by
 have HP:=Gh (yY A c B N E M ps w hB h hN hM);clear h;generalize ps.map PT.tm=L0 at*;generalize ps.length=n0 at*;go_enter Tryz.func87,Tryz.ntmps87
 go_wp2_with fail
 refine HP.out.mono ?_;rintro e w1 ⟨A1,c1,qs,rfl,XF,Xp⟩;clear HP;by_cases h0:qs.length=0
 ·obtain rfl:qs=[]:=List.length_eq_zero_iff.1 h0;have Si:=Gh XF;have UK:=Gh Xp;clear XF Xp h0;go_wp2_with fail
  go_ret
  have hg:=Si.out;exact⟨[],qW.nil,fun m=>hg.cf m,A1,c1,[],rfl,⟨hg.own,hg.can,fun m=>rfl,hg.len,hg.mb,hg.nm⟩,UK⟩
 ·have UR:=Gh (qde A1 c1 w1.heap.size N E M qs w1 (Gr _) (XF.pin hE hM) hN hM);unfold qgQ at UR;have Si:=Gh XF;have UK:=Gh Xp;have XC:=XF.len;obtain⟨q0,Ds⟩:∃q0,qs[0]? =some q0:=⟨_,Gn (by omega)⟩;have BH:=Gk Ds;have Cr:q0.ds.length<=600:=XF.dlen (k:=600) hM BH;obtain⟨rb,rfl⟩:∃rb,A1=some ⟨rb,0,none⟩:=by
   obtain⟨g',cap,Dq,_⟩:=XF.own.row.form (by omega)
   injection Dq with h1
   exact⟨g',h1⟩
  have Di:=Gh Ds;have MU:=Gh (XF.own.nin BH);have C7:=Gh Cr;have Xl:qs.map PT.tm≠[]:=fun e=>h0 (by have:=congrArg List.length e;simpa using this);have VL:=Gh Xl;have SC:0<qs.length:=by omega
  have Xn:=XF.own;have Ca:=Gh Xn;clear XF Xp Ds BH Cr Xl Xn;generalize Ml:qs.length=n at*;have MQ:=Gh Ml;clear Ml;have i0:(0:Int)<(n:Int):=by omega
  have hz:((n:Int)==0)=false:=by
   simp;omega
  go_wp2_with fail
  refine UR.out.mono ?_;rintro e w2 ⟨P,CD,OU,Mz,Ag,cg,rfl,Dc,Dw,Xf⟩;obtain rfl:P=qs.map PT.tm:=CD.unique Si.out.can fun m=>(OU m).trans rfl;have ST:=Gh (fun(W:World)(hW:Below w1.heap.size w1 W)=>zI q0.ng q0.A q0.c w1.heap.size q0.ds W hW.size (MU.out.below hW) (by have:=C7.out;omega));obtain⟨cur,Uv,St,UP,XS⟩:=own_blk (MQ.out▸(Ca.out.old Xf).row);have r0:cur[0]? =some (.bool q0.ng):=XS _ _ (yq qs 0 0 q0 Di (by omega));have r1:cur[1]? =some (.slice q0.A q0.ds.length q0.c):=XS _ _ (yq qs 0 1 q0 Di (by omega));have e0:(w2.alloc (.cells #[.bool false,.slice Ag (dig (JX (qs.map PT.tm))).length cg] 25)).cell? ⟨rb,0,none⟩=some (.bool q0.ng):=((Uv.alloc _).cell 0).trans r0;have e1:(w2.alloc (.cells #[.bool false,.slice Ag (dig (JX (qs.map PT.tm))).length cg] 25)).cell? ⟨rb,1,none⟩=some (.slice q0.A q0.ds.length q0.c):=((Uv.alloc _).cell 1).trans r1;have HX:=Gh (qR w2 25 25 #[.bool false,.slice Ag (dig (JX (qs.map PT.tm))).length cg] #[.bool q0.ng,.slice q0.A q0.ds.length q0.c]);have Uj:=Gh (ST (w2.alloc (.cells #[.bool false,.slice Ag (dig (JX (qs.map PT.tm))).length cg] 25)) (Xf.alloc Xf.size _));have VT:(dig (JX (qs.map PT.tm))).length<=600:=zU (Nat.lt_of_le_of_lt (Z8 CD) (Nat.lt_of_le_of_lt Mz hM));have hgp:=qfs CD VL.out;have BN:=qep CD VL.out;have CC:=qb2 (qs.map PT.tm);have Db:dvs (qs.map PT.tm)=if hdN (qs.map PT.tm)then -(JX (qs.map PT.tm):Int)else(JX (qs.map PT.tm):Int):=rfl
  rw[qh0 (t:=q0.tm) (by rw[List.getElem?_map,Di.out];rfl)]at Db;have Pm:q0.tm.1=qj q0.ng q0.ds:=rfl;rw[Pm]at Db;have TK:=Gh (fun(t:Tm)(ht:t∈qs.map PT.tm)=>Zz ht);have C5:=Gh (fun(X':World)(v':Value)(rs:List PT)(hq:rs.map PT.tm=Qf (dvs (qs.map PT.tm)) (qs.map PT.tm) n)(ho:yl X' w.heap.size v' rs)=>Si.out.sn MQ hq ho);have Ey:=Gh CD;have DK:=Gh (fun m=>Si.out.cf m);have Sf:=Gh (fun(W:World)(hn:qL W Ag (dig (JX (qs.map PT.tm))))=>qhJ false Ag cg W.heap.size (dig (JX (qs.map PT.tm))) W (Gr _) (yf hn Dc) (by omega));unfold qX at Sf;rw[show qj false (dig (JX (qs.map PT.tm)))=(JX (qs.map PT.tm):Int)by unfold qj;rw[qB];rfl]at Sf;have HD0:=Gh BN;have Ik:=Gh Db;have HGP:=Gh hgp;have WY:=Gh (show(dig (dvs (qs.map PT.tm)).natAbs).length<=600 by rw[CC];exact VT);have RH:=Gh Dw;have HCG:=Gh Dc;have Xw:=Gh Xf;clear Di BN Db CC hgp VT CD OU Mz Dw Dc Xf Uv St UP XS r0 r1 Pm UR ST;generalize dvs (qs.map PT.tm)=D at*;generalize JX (qs.map PT.tm)=g at*;by_cases Te:qj q0.ng q0.ds<0
  ·have hsg:=(Qw _).2 Te;have hD:D=-(g:Int):=by rw[Ik.out];simp[Te]
   rw[<-hD]at Sf;have HNEG:=Gh Te;have Ra:=Gh hD;clear Te hD;generalize qP (qj q0.ng q0.ds)=sg at*;go_wp2_with fail
   refine Uj.out.mono ?_;rintro e w3 ⟨rfl,rfl⟩;obtain⟨Th,k0,_,hs⟩:=HX.out;have HXS:=Gh hs;clear HX hs Uj e0 e1;generalize (w2.alloc (.cells #[.bool false,.slice Ag (dig g).length cg] 25)).alloc (.cells #[.bool q0.ng,.slice q0.A q0.ds.length q0.c] 25)=X at*;have B3:=Gh (Sf X (RH.out.old Th));have p0:X.cell? ⟨w2.heap.size,0,none⟩=some (.bool false):=k0.cell 0;have p1:X.cell? ⟨w2.heap.size,1,none⟩=some (.slice Ag (dig g).length cg):=k0.cell 1;have Up:=Gh (Gt Xw Th);have DL:=Gh k0;clear k0 Th;go_wp2_with fail
   refine B3.out.mono ?_;rintro e w4 ⟨dA,dc,rfl,L7,L3,DF⟩;have kk:=DL.out.old DF;have d0:w4.cell? ⟨w2.heap.size,0,none⟩=some (.bool false):=kk.cell 0;have d1:w4.cell? ⟨w2.heap.size,1,none⟩=some (.slice Ag (dig g).length cg):=kk.cell 1;have f0:=kk.frozen 0;have f1:=kk.frozen 1;have z0:=kk.lt;have S9:=Gh (((Gt Up DF).setCell (p:=⟨w2.heap.size,0,none⟩) Xw.out.size (.bool (decide (D<0)))).setCell (p:=⟨w2.heap.size,1,none⟩) Xw.out.size (.slice dA (dig D.natAbs).length dc));have Rp:=Gh ((kk.set_ 0 (.bool (decide (D<0)))).set_ 1 (.slice dA (dig D.natAbs).length dc));have Nf:=Gh (L3.store2 kk (by decide) (.bool (decide (D<0))) (.slice dA (dig D.natAbs).length dc));have KU:=Gh L7;clear kk L7 L3 DF p0 p1 B3 Up DL;go_wp2_with fail
   clear d0 d1 f0 f1 z0;generalize (w4.setCell ⟨w2.heap.size,0,none⟩ (.bool (decide (D<0)))).setCell ⟨w2.heap.size,1,none⟩ (.slice dA (dig D.natAbs).length dc)=V at*;obtain⟨uA,uc,Ng,Kj,Wt⟩:∃uA uc,Hid (qf V w2.heap.size 25 #[.bool (decide (D<0)),.slice uA (dig D.natAbs).length uc])/\Hid (qL V uA (dig D.natAbs))/\Hid ((dig D.natAbs).length<=uc):=⟨dA,dc,Rp,Nf,KU⟩;clear Rp Nf KU;clear Sf MU;have Cm:=S9.out;have Cw:w2.heap.size<V.heap.size:=Ng.out.lt;have UX:=Gh (Gt UK Cm);have SV:=Gh (Ca.out.old Cm);have UV:=Gh (Si.out.own.cn);have VJ:w.heap.size<=w2.heap.size:=Gl UK.out.size Xw.out.size;have DP:=Gh (fun p hp=>Si.out.dlen (k:=600) hM (p:=p) hp);clear Cm Ca S9;generalize w2.heap.size=b4 at*;generalize BN:decide (D<0)=dn at*;have KO:=Gh BN;clear BN;go_loopg [5,24] n (fun gn _ ix wr=>∃(k:Nat)(rs:List PT),k<=n/\gn=n-k/\ix= .int .i64 k/\yl wr w.heap.size (.slice (some ⟨rb,0,none⟩) n c1) rs/\rs.map PT.tm=Qf D (qs.map PT.tm) k/\Below w.heap.size w wr/\qf wr b4 25 #[.bool dn,.slice uA (dig D.natAbs).length uc]/\qL wr uA (dig D.natAbs))
   case atStart=>exact⟨0,qs,Nat.zero_le _,rfl,rfl,SV,(qa9 _ _).symm,UX,Ng,Kj⟩
   case round=>
    clear SV UX Ng Kj Cw;obtain⟨k,rs,hk,XG,rfl,Xk,So,XX,VS,Vy⟩:=hrel;have HG:=Gh XG;clear XG;have SI:rs.length=n:=by
     have:=congrArg List.length So;rw[qan,List.length_map,List.length_map]at this;have:=MQ.out;omega
    by_cases Xi:k<n
    ·obtain⟨q,hq⟩:∃q,qs[k]? =some q:=⟨_,Gn (by have:=MQ.out;omega)⟩;obtain⟨p,hp⟩:∃p,rs[k]? =some p:=⟨_,Gn (by omega)⟩;have U4:=Gk hp;have CR:p.tm=q.tm:=by
      have e1:(rs.map PT.tm)[k]? =some p.tm:=by simp[hp]
      have e2:(qs.map PT.tm)[k]? =some q.tm:=by simp[hq]
      rw[So,qfa,e2]at e1
      injection e1 with e1
      exact e1.symm
     have U6:p.ds.length<=600:=by
      rw[(Xk.cn p U4).ds,CR,<-(UV q (Gk hq)).ds];exact DP q (Gk hq)
     have AR:D∣p.tm.1:=by
      rw[CR];exact TK _ (List.mem_map.2 ⟨q,Gk hq,rfl⟩)
     obtain⟨cur,Uv,St,UP,XS⟩:=own_blk (SI▸Xk.row);have r0:cur[k*6]? =some (.bool p.ng):=XS _ _ (yq rs k 0 p hp (by omega));have r1:cur[k*6+1]? =some (.slice p.A p.ds.length p.c):=XS _ _ (yq rs k 1 p hp (by omega));have HU:=Gh (fun(W:World)(hW:Below wr.heap.size wr W)(A3:Oa)(c3:Nat)=>(Xk.old hW).upd SI hp (p.tm.1/D) A3 c3);have HT:=Gh (show(rs.map PT.tm).set k (p.tm.1/D,p.m)=Qf D (qs.map PT.tm) (k+1)by
      have e2:(qs.map PT.tm)[k]? =some p.tm:=by simp[hq,CR]
      rw[So];exact qbD e2)
     have TY:=Gh (QR rs k);have BI:=Xk.nin U4;have hid:qj dn (dig D.natAbs)=D:=by rw[<-KO.out];exact jM D
     have F3:qj p.ng p.ds=p.tm.1:=rfl;have HA:=Gh (fun(W:World)(hW:Below wr.heap.size wr W)=>qbr p.ng dn p.A uA p.c uc W.heap.size p.ds (dig D.natAbs) W (Gr _) ((BI.below hW).more hW.size) (yf (Vy.old hW) Wt) (by omega) (by have:=WY.out;omega) (by rw[hid];exact HD0) (by rw[hid,F3];exact AR));rw[hid,F3]at HA;unfold Yq at HA;clear hid F3 BI Xk So XS CR hq hp U4 AR;have c0:wr.cell? ⟨b4,0,none⟩=some (.bool dn):=VS.cell 0;have c1':wr.cell? ⟨b4,1,none⟩=some (.slice uA (dig D.natAbs).length uc):=VS.cell 1;have e0:wr.cell? ⟨rb,k*6,none⟩=some (.bool p.ng):=(Uv.cell _).trans r0;have e1:wr.cell? ⟨rb,k*6+1,none⟩=some (.slice p.A p.ds.length p.c):=(Uv.cell _).trans r1;have i0:(0:Int)<=(k:Int):=by omega
     have i1:(k:Int)<(n:Int):=by omega
     have i2:(n:Int)<=(c1:Int):=by omega
     have lr:=Uv.lt;have lq:=VS.lt;have Xl:b4≠rb:=fun e=>by
      subst e;have:=Uv.symm.trans VS
      injection this with this
      injection this with _ h2
      exact absurd h2 (by decide)
     have Uq:=Gh XX;have Ef:=Gh Vy;have Us:Below wr.heap.size wr wr.drew:=(qt.drew _).below _;have XV:=XX.size;generalize RK:p.tm.1/D=zz at*;generalize Dt:p.ng=png at*;generalize LH:p.ds=pds at*;generalize LI:p.A=pA at*;generalize Cs:p.c=pc at*;clear Dt LH LI Cs XX RK Vy;go_wp2_with fail
     go_region_with ((go_at_call 112;refine(HA _ Us).mono ?_;rintro e w3 ⟨A3,c3,rfl,h3,h4,h5⟩;have kk:=qf.old (w:=wr.drew) Uv h5;have d0:=(kk.cell (k*6)).trans r0;have d1:=(kk.cell (k*6+1)).trans r1;have f0:=kk.frozen (k*6);have f1:=kk.frozen (k*6+1);have kc:=qf.old (w:=wr.drew) VS h5))
     all_goals
      go_wp2_with fail
      obtain⟨u1,u2⟩:=HU.out w3 (Us.trans h5) A3 c3 h4 h3;have IP:=((Ef.out.old (Us.trans h5)).far kk (by decide) (k*6) (.bool (decide (zz<0)))).far (kk.set_ (k*6) (.bool (decide (zz<0)))) (by decide) (k*6+1) (.slice A3 (dig zz.natAbs).length c3);go_roundg (n-(k+1))
      case rel=>
       refine⟨k+1,_,by omega,rfl,by go_num,u1,?_,Uq.out.trans (((Us.trans h5).mono XV).trans u2),(kc.far Xl _).far Xl _,IP⟩;rw[TY,JK];exact HT
      case measure=>have:=HG.out;omega
    ·obtain rfl:k=n:=by omega
     have Vl:=C5.out _ _ _ So Xk;go_wp2_with fail
     go_ret
     subst SI;exact⟨qs.map PT.tm,Ey,DK,_,c1,rs,rfl,Vl,XX⟩
  ·have hsg:¬qP (qj q0.ng q0.ds)<0:=fun h=>Te ((Qw _).1 h);have hsg:0<=qP (qj q0.ng q0.ds):=by omega
   have hD:D=(g:Int):=by rw[Ik.out];simp[Te]
   have Ra:=Gh hD;clear Te hD;generalize qP (qj q0.ng q0.ds)=sg at*;go_wp2_with fail
   refine Uj.out.mono ?_;rintro e w3 ⟨rfl,rfl⟩;obtain⟨Th,k0,_,hs⟩:=HX.out;have S9:=Gh (Gt Xw Th);clear HX hs Uj e0 e1;generalize (w2.alloc (.cells #[.bool false,.slice Ag (dig g).length cg] 25)).alloc (.cells #[.bool q0.ng,.slice q0.A q0.ds.length q0.c] 25)=X at*;have x0:decide (D<0)=false:=by rw[Ra.out];simp
   have x1:D.natAbs=g:=by rw[Ra.out];simp
   have Nf:Hid (qL X Ag (dig D.natAbs)):=Gh (by rw[x1];exact RH.out.old Th);have KU:Hid ((dig D.natAbs).length<=cg):=Gh (by rw[x1];exact HCG);have Rp:Hid (qf X w2.heap.size 25 #[.bool (decide (D<0)),.slice Ag (dig D.natAbs).length cg]):=Gh (by rw[x0,x1];exact k0);clear k0 Th x0 x1;go_wp2_with fail
   generalize hXV:X=V at*;clear hXV;obtain⟨uA,uc,Ng,Kj,Wt⟩:∃uA uc,Hid (qf V w2.heap.size 25 #[.bool (decide (D<0)),.slice uA (dig D.natAbs).length uc])/\Hid (qL V uA (dig D.natAbs))/\Hid ((dig D.natAbs).length<=uc):=⟨Ag,cg,Rp,Nf,KU⟩;clear Rp Nf KU;clear Sf MU;have Cm:=S9.out;have Cw:w2.heap.size<V.heap.size:=Ng.out.lt;have UX:=Gh (Gt UK Cm);have SV:=Gh (Ca.out.old Cm);have UV:=Gh (Si.out.own.cn);have VJ:w.heap.size<=w2.heap.size:=Gl UK.out.size Xw.out.size;have DP:=Gh (fun p hp=>Si.out.dlen (k:=600) hM (p:=p) hp);clear Cm Ca S9;generalize w2.heap.size=b4 at*;generalize BN:decide (D<0)=dn at*;have KO:=Gh BN;clear BN;go_loopg [5,24] n (fun gn _ ix wr=>∃(k:Nat)(rs:List PT),k<=n/\gn=n-k/\ix= .int .i64 k/\yl wr w.heap.size (.slice (some ⟨rb,0,none⟩) n c1) rs/\rs.map PT.tm=Qf D (qs.map PT.tm) k/\Below w.heap.size w wr/\qf wr b4 25 #[.bool dn,.slice uA (dig D.natAbs).length uc]/\qL wr uA (dig D.natAbs))
   case atStart=>exact⟨0,qs,Nat.zero_le _,rfl,rfl,SV,(qa9 _ _).symm,UX,Ng,Kj⟩
   case round=>
    clear SV UX Ng Kj Cw;obtain⟨k,rs,hk,XG,rfl,Xk,So,XX,VS,Vy⟩:=hrel;have HG:=Gh XG;clear XG;have SI:rs.length=n:=by
     have:=congrArg List.length So;rw[qan,List.length_map,List.length_map]at this;have:=MQ.out;omega
    by_cases Xi:k<n
    ·obtain⟨q,hq⟩:∃q,qs[k]? =some q:=⟨_,Gn (by have:=MQ.out;omega)⟩;obtain⟨p,hp⟩:∃p,rs[k]? =some p:=⟨_,Gn (by omega)⟩;have U4:=Gk hp;have CR:p.tm=q.tm:=by
      have e1:(rs.map PT.tm)[k]? =some p.tm:=by simp[hp]
      have e2:(qs.map PT.tm)[k]? =some q.tm:=by simp[hq]
      rw[So,qfa,e2]at e1
      injection e1 with e1
      exact e1.symm
     have U6:p.ds.length<=600:=by
      rw[(Xk.cn p U4).ds,CR,<-(UV q (Gk hq)).ds];exact DP q (Gk hq)
     have AR:D∣p.tm.1:=by
      rw[CR];exact TK _ (List.mem_map.2 ⟨q,Gk hq,rfl⟩)
     obtain⟨cur,Uv,St,UP,XS⟩:=own_blk (SI▸Xk.row);have r0:cur[k*6]? =some (.bool p.ng):=XS _ _ (yq rs k 0 p hp (by omega));have r1:cur[k*6+1]? =some (.slice p.A p.ds.length p.c):=XS _ _ (yq rs k 1 p hp (by omega));have HU:=Gh (fun(W:World)(hW:Below wr.heap.size wr W)(A3:Oa)(c3:Nat)=>(Xk.old hW).upd SI hp (p.tm.1/D) A3 c3);have HT:=Gh (show(rs.map PT.tm).set k (p.tm.1/D,p.m)=Qf D (qs.map PT.tm) (k+1)by
      have e2:(qs.map PT.tm)[k]? =some p.tm:=by simp[hq,CR]
      rw[So];exact qbD e2)
     have TY:=Gh (QR rs k);have BI:=Xk.nin U4;have hid:qj dn (dig D.natAbs)=D:=by rw[<-KO.out];exact jM D
     have F3:qj p.ng p.ds=p.tm.1:=rfl;have HA:=Gh (fun(W:World)(hW:Below wr.heap.size wr W)=>qbr p.ng dn p.A uA p.c uc W.heap.size p.ds (dig D.natAbs) W (Gr _) ((BI.below hW).more hW.size) (yf (Vy.old hW) Wt) (by omega) (by have:=WY.out;omega) (by rw[hid];exact HD0) (by rw[hid,F3];exact AR));rw[hid,F3]at HA;unfold Yq at HA;clear hid F3 BI Xk So XS CR hq hp U4 AR;have c0:wr.cell? ⟨b4,0,none⟩=some (.bool dn):=VS.cell 0;have c1':wr.cell? ⟨b4,1,none⟩=some (.slice uA (dig D.natAbs).length uc):=VS.cell 1;have e0:wr.cell? ⟨rb,k*6,none⟩=some (.bool p.ng):=(Uv.cell _).trans r0;have e1:wr.cell? ⟨rb,k*6+1,none⟩=some (.slice p.A p.ds.length p.c):=(Uv.cell _).trans r1;have i0:(0:Int)<=(k:Int):=by omega
     have i1:(k:Int)<(n:Int):=by omega
     have i2:(n:Int)<=(c1:Int):=by omega
     have lr:=Uv.lt;have lq:=VS.lt;have Xl:b4≠rb:=fun e=>by
      subst e;have:=Uv.symm.trans VS
      injection this with this
      injection this with _ h2
      exact absurd h2 (by decide)
     have Uq:=Gh XX;have Ef:=Gh Vy;have Us:Below wr.heap.size wr wr.drew:=(qt.drew _).below _;have XV:=XX.size;generalize RK:p.tm.1/D=zz at*;generalize Dt:p.ng=png at*;generalize LH:p.ds=pds at*;generalize LI:p.A=pA at*;generalize Cs:p.c=pc at*;clear Dt LH LI Cs XX RK Vy;go_wp2_with fail
     go_region_with ((go_at_call 112;refine(HA _ Us).mono ?_;rintro e w3 ⟨A3,c3,rfl,h3,h4,h5⟩;have kk:=qf.old (w:=wr.drew) Uv h5;have d0:=(kk.cell (k*6)).trans r0;have d1:=(kk.cell (k*6+1)).trans r1;have f0:=kk.frozen (k*6);have f1:=kk.frozen (k*6+1);have kc:=qf.old (w:=wr.drew) VS h5))
     all_goals
      go_wp2_with fail
      obtain⟨u1,u2⟩:=HU.out w3 (Us.trans h5) A3 c3 h4 h3;have IP:=((Ef.out.old (Us.trans h5)).far kk (by decide) (k*6) (.bool (decide (zz<0)))).far (kk.set_ (k*6) (.bool (decide (zz<0)))) (by decide) (k*6+1) (.slice A3 (dig zz.natAbs).length c3);go_roundg (n-(k+1))
      case rel=>
       refine⟨k+1,_,by omega,rfl,by go_num,u1,?_,Uq.out.trans (((Us.trans h5).mono XV).trans u2),(kc.far Xl _).far Xl _,IP⟩;rw[TY,JK];exact HT
      case measure=>have:=HG.out;omega
    ·obtain rfl:k=n:=by omega
     have Vl:=C5.out _ _ _ So Xk;go_wp2_with fail
     go_ret
     subst SI;exact⟨qs.map PT.tm,Ey,DK,_,c1,rs,rfl,Vl,XX⟩
end Go.Proofs.YtflikmojaidhhaaGreatDoor
