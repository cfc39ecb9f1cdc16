import Derived.Test.YtflikmojaidhhaaGreatDoorPq10
import Derived.Test.YtflikmojaidhhaaGreatDoorPqA
namespace Go.Proofs.YtflikmojaidhhaaGreatDoor
open Go.RowKit
mutual
def vT(pt:Nat->Rat):RP->Rat
 | .mk l g ds ks=>if l<=0 then((qj g ds:Int):Rat)else if 4<l then 0 else vL pt (pt (l.toNat-1)) ks
def vL(pt:Nat->Rat)(x:Rat):List RP->Rat
 |[]=>0
 |t::ts=>vT pt t+x*vL pt x ts
end
theorem qas(pt:Nat->Rat)(t:RP):vT pt t=if t.lv<=0 then((qj t.ng t.ds:Int):Rat)else if 4<t.lv then 0 else vL pt (pt (t.lv.toNat-1)) t.ks:=by
 cases t
 rw[vT];rfl
def YN(x:(Bool×List Nat)×Mo):Tm:=(qj x.1.1 x.1.2,x.2)
theorem ZN(t:RP):JA t=(jH t (0,0,0,0)).map YN:=rfl
theorem Yy{i:Nat}(h:i<4):i=0∨i=1∨i=2∨i=3:=by omega
theorem Yw(m:Mo){i:Nat}(h:i<4):Zn m i=gt m i:=by
 rcases Yy h with rfl|rfl|rfl|rfl<;>rfl
theorem yp(m:Mo)(e:Int){i k:Nat}(hi:i<4)(hk:k<4):gt (jU m i e) k=if k=i then e else gt m k:=by
 rcases Yy hi with rfl|rfl|rfl|rfl<;>rcases Yy hk with rfl|rfl|rfl|rfl<;>rfl
theorem qld{a b:Mo}(h:∀k,k<4->gt a k=gt b k):a=b:=by
 obtain⟨a0,a1,a2,a3⟩:=a;obtain⟨b0,b1,b2,b3⟩:=b;have h0:=h 0 (by omega);have h1:=h 1 (by omega);have h2:=h 2 (by omega);have h3:=h 3 (by omega);simp only[gt]at h0 h1 h2 h3;subst h0;subst h1;subst h2;subst h3;rfl
theorem qgP(m:Mo){i:Nat}(hi:i<4):jU m i (gt m i)=m:=
 qld fun k hk=>by
  rw[yp m _ hi hk]
  split
  ·rename_i h;rw[h]
  ·rfl
theorem qcp{m:Mo}:zD m=true↔∀k,k<4->0<=gt m k:=by
 rw[ZC];constructor
 ·intro h k hk;rcases Yy hk with rfl|rfl|rfl|rfl<;>(simp only[gt];omega)
 ·intro h;exact⟨h 0 (by omega),h 1 (by omega),h 2 (by omega),h 3 (by omega)⟩
theorem qhI{m:Mo}(h:zD m=true){i:Nat}(hi:i<4){e:Int}(he:0<=e):zD (jU m i e)=true:=by
 rw[qcp]at h ⊢;intro k hk;rw[yp m e hi hk]
 split
 ·exact he
 ·exact h k hk
def qeH:Nat->Mo->Mo->Prop
 |0,_,_=>False
 |L+1,a,b=>gt b L<gt a L∨(gt b L=gt a L/\qeH L a b)
theorem qjg{L:Nat}{a b:Mo}(h:qeH (L+1) a b):gt b L<=gt a L:=by
 rcases h with h|⟨h,_⟩<;>omega
theorem qjk{L:Nat}{a b:Mo}(h:qeH (L+1) a b)(e:gt b L=gt a L):qeH L a b:=by
 rcases h with h|⟨_,h⟩
 ·omega
 ·exact h
theorem qi8{a b:Mo}(h:Zc b a):qeH 4 a b:=by
 simp only[qeH,gt];unfold Zc at h;omega
def zu(L:Nat)(l:List Tm):Prop:=l.Pairwise fun s t=>qeH L s.2 t.2
theorem qW.sdesc{l:List Tm}(h:qW l):zu 4 l:=h.so.imp fun h=>qi8 h
theorem zu.sub{L:Nat}{l m:List Tm}(h:zu L l)(hs:m.Sublist l):zu L m:=List.Pairwise.sublist hs h
theorem zu.down{L:Nat}{l:List Tm}(h:zu (L+1) l){e:Int}(he:∀t∈l,gt t.2 L=e):zu L l:=
 List.Pairwise.imp_of_mem (fun hs ht h=>qjk h ((he _ ht).trans (he _ hs).symm)) h
theorem zu.head{L:Nat}{t s:Tm}{r:List Tm}(h:zu (L+1) (t::r))(hs:s∈t::r):gt s.2 L<=gt t.2 L:=by
 rcases List.mem_cons.1 hs with rfl|hs
 ·exact Int.le_refl _
 ·exact qjg ((List.pairwise_cons.1 h).1 s hs)
theorem zu.cut{L:Nat}{t:Tm}{r:List Tm}(h:zu (L+1) (t::r)):
 (∀s∈(t::r).takeWhile (fun s=>decide (gt s.2 L=gt t.2 L)),gt s.2 L=gt t.2 L)/\(∀s∈(t::r).dropWhile (fun s=>decide (gt s.2 L=gt t.2 L)),gt s.2 L<gt t.2 L):=by
 refine⟨fun s hs=>?_,fun s hs=>?_⟩
 ·have:=List.all_takeWhile (p:=fun s:Tm=>decide (gt s.2 L=gt t.2 L)) (l:=t::r);rw[List.all_eq_true]at this;simpa using this s hs
 ·have DS:=h.sub (List.dropWhile_sublist (fun s:Tm=>decide (gt s.2 L=gt t.2 L)));have Xl:=List.head?_dropWhile_not (fun s:Tm=>decide (gt s.2 L=gt t.2 L)) (t::r);have hmem:∀x∈(t::r).dropWhile (fun s:Tm=>decide (gt s.2 L=gt t.2 L)),x∈t::r:=fun x hx=>(List.dropWhile_sublist _).subset hx;generalize (t::r).dropWhile (fun s:Tm=>decide (gt s.2 L=gt t.2 L))=d at*
  cases d with
  |nil=>cases hs
  |cons u d=>
   have h1:=Xl;simp at h1;have h2:=h.head (hmem u List.mem_cons_self);have h3:=DS.head hs;omega
theorem qcy(f:Mo->Int)(i:Nat):∀(ks:List RP)(m:Mo)(e:Int)(j:Nat)(u:RP),ks[j]? =some qh->
 yE f ((jo i (ks.set j u) m e).map YN)=yE f ((jo i ks m e).map YN)+yE f ((jH u (jU m i (e+j))).map YN)
 |[],_,_,_,_,h=>by simp at h
 |k::ks,m,e,0,u,h=>by
  simp at h;subst h;simp only[List.set_cons_zero,jo,List.map_append,yU];have:yE f ((jH qh (jU m i e)).map YN)=0:=by
   unfold qh;simp only[jH];rw[if_pos (by omega)];show(if _ then(0:Int)*_ else 0)+0=0;simp
  rw[this];simp;omega
 |k::ks,m,e,j+1,u,h=>by
  have:=qcy f i ks m (e+1) j u (by simpa using h);simp only[List.set_cons_succ,jo,List.map_append,yU];rw[this,show e+1+(j:Int)=e+((j+1:Nat):Int)by omega];omega
theorem qbf(F:List Tm->RP)(i:Nat):∀(n:Nat)(ts:List Tm)(ks:List RP)(j:Nat),(∀t∈ts,(gt t.2 i).toNat≠j)->(jJ F i n ts ks)[j]? =ks[j]?
 |0,_,_,_,_=>rfl
 |_+1,[],_,_,_=>rfl
 |n+1,t::r,ks,j,h=>by
  rw[jJ,qbf F i n _ _ j (fun s hs=>h s ((List.dropWhile_sublist _).subset hs)),List.getElem?_set_ne (h t List.mem_cons_self)]
def mxM:Nat->Mo->Mo->Mo
 |0,_,m=>m
 |L+1,a,m=>mxM L a (jU m L (gt a L))
theorem qcI(f:Mo->Int){L:Nat}(hL:L<4){F:List Tm->RP}{m:Mo}(hF:∀(ts:List Tm)(e:Int),0<=e->zu L ts->(∀t∈ts,zD t.2=true)->yE f ((jH (F ts) (jU m L e)).map YN)=yE (fun a=>f (mxM L a (jU m L e))) ts):
 ∀(n:Nat)(ts:List Tm)(ks:List RP),ts.length<=n->zu (L+1) ts->(∀t∈ts,zD t.2=true)->(∀t∈ts,ks[(gt t.2 L).toNat]? =some qh)->
  yE f ((jo L (jJ F L n ts ks) m 0).map YN)=yE f ((jo L ks m 0).map YN)+yE (fun a=>f (mxM (L+1) a m)) ts
 |0,ts,ks,hn,_,_,_=>by
  obtain rfl:ts=[]:=List.eq_nil_of_length_eq_zero (by omega);rw[jJ];simp[yE]
 |n+1,[],ks,_,_,_,_=>by
  rw[jJ];simp[yE]
 |n+1,t::r,ks,hn,hs,hv,hk=>by
  rw[jJ];obtain⟨c1,c2⟩:=hs.cut;have BG:=List.takeWhile_append_dropWhile (p:=fun s:Tm=>decide (gt s.2 L=gt t.2 L)) (l:=t::r);have IR:∀s∈(t::r).takeWhile (fun s:Tm=>decide (gt s.2 L=gt t.2 L)),s∈t::r:=fun s h=>(List.takeWhile_sublist _).subset h;have Mq:∀s∈(t::r).dropWhile (fun s:Tm=>decide (gt s.2 L=gt t.2 L)),s∈t::r:=fun s h=>(List.dropWhile_sublist _).subset h;have Xs:=hs.sub (List.takeWhile_sublist (fun s:Tm=>decide (gt s.2 L=gt t.2 L)));have hsd:=hs.sub (List.dropWhile_sublist (fun s:Tm=>decide (gt s.2 L=gt t.2 L)));have Uo:((t::r).dropWhile (fun s:Tm=>decide (gt s.2 L=gt t.2 L))).length<=n:=by
   have h1:t∈(t::r).takeWhile (fun s:Tm=>decide (gt s.2 L=gt t.2 L)):=by simp
   have h2:=congrArg List.length BG;rw[List.length_append]at h2;have h3:=List.length_pos_of_mem h1;omega
  have h0:0<=gt t.2 L:=qcp.1 (hv t List.mem_cons_self) L hL;generalize (t::r).takeWhile (fun s:Tm=>decide (gt s.2 L=gt t.2 L))=ru at*;generalize (t::r).dropWhile (fun s:Tm=>decide (gt s.2 L=gt t.2 L))=re at*;rw[qcI f hL hF n re _ Uo hsd (fun s h=>hv s (Mq s h)) (fun s h=>by
   have h1:=c2 s h;have h2:=qcp.1 (hv s (Mq s h)) L hL;rw[List.getElem?_set_ne (by omega)];exact hk s (Mq s h)),qcy f L ks m 0 _ _ (hk t List.mem_cons_self)]
  rw[show(0:Int)+((gt t.2 L).toNat:Int)=gt t.2 L by omega,hF ru _ h0 (Xs.down c1) (fun s h=>hv s (IR s h))];have e:yE (fun a=>f (mxM L a (jU m L (gt t.2 L)))) ru=yE (fun a=>f (mxM (L+1) a m)) ru:=qby fun s h _=>by
   show _=f (mxM L s.2 (jU m L (gt s.2 L)));rw[c1 s h]
  rw[e,<-BG,yU];omega
theorem qa8(f:Mo->Int)(i:Nat):∀(n:Nat)(m:Mo)(e:Int),yE f ((jo i (List.replicate n qh) m e).map YN)=0
 |0,_,_=>by simp[jo,yE]
 |n+1,m,e=>by
  simp only[List.replicate_succ,jo,List.map_append,yU];rw[qa8 f i n m (e+1)];unfold qh;simp only[jH];rw[if_pos (by omega)];show((if _ then(0:Int)*_ else 0)+0)+0=0;simp
theorem qb4(f:Mo->Int):∀(L:Nat),L<=4->∀(ts:List Tm)(m:Mo),zu L ts->(∀t∈ts,zD t.2=true)->zD m=true->(∀j,j<L->gt m j=0)->
 yE f ((jH (qZ L ts) m).map YN)=yE (fun a=>f (mxM L a m)) ts
 |L,_,[],m,_,_,_,_=>by
  rw[yo];unfold qh;simp only[jH];rw[if_pos (by omega)];show(if _ then(0:Int)*_ else 0)+0=0;simp
 |0,_,t::r,m,hs,hv,hm,_=>by
  have hr:r=[]:=by
   cases r with
   |nil=>rfl
   |cons s r=>exact absurd ((List.pairwise_cons.1 hs).1 s List.mem_cons_self) (fun h=>h)
  subst hr;rw[qZ];unfold jy;simp only[jH];rw[if_pos (by omega)];have hvt:=hv t List.mem_cons_self;show(if zD m=true then qj (decide (t.1<0)) (dig t.1.natAbs)*f m else 0)+0=(if zD t.2=true then t.1*f m else 0)+0;rw[jM,if_pos hm,if_pos hvt]
 |L+1,hL,t::r,m,hs,hv,hm,hz=>by
  rw[qZ];by_cases h0:gt t.2 L=0
  ·rw[if_pos h0];have he:∀s∈t::r,gt s.2 L=0:=fun s h=>by
    have h1:=hs.head h;have h2:=qcp.1 (hv s h) L (by omega);omega
   rw[qb4 f L (by omega) (t::r) m (hs.down he) hv hm (fun j hj=>hz j (by omega))];refine qby fun s h _=>?_;show _=f (mxM L s.2 (jU m L (gt s.2 L)));rw[he s h,<-hz L (by omega),qgP m (by omega)]
  ·rw[if_neg h0];have EN:0<=gt t.2 L:=qcp.1 (hv t List.mem_cons_self) L (by omega);simp only[jH];rw[if_neg (by omega),if_neg (by omega),show((L:Int)+1).toNat-1=L by omega,Yw m (by omega:L<4),hz L (by omega)];rw[qcI f (by omega) (m:=m) (fun ts e he FE Dq=>qb4 f L (by omega) ts (jU m L e) FE Dq (qhI hm (by omega) he) (fun j hj=>by
    rw[yp m e (by omega) (by omega),if_neg (by omega)];exact hz j (by omega))) _ _ _ (Gr _) hs hv (fun s h=>by
     have h1:=hs.head h;have h2:=qcp.1 (hv s h) L (by omega);rw[List.getElem?_replicate,if_pos (by omega)]),qa8,Int.zero_add]
theorem qkG{P:List Tm}(h:qW P)(m:Mo):cf (JA (qZ 4 P)) m=cf P m:=by
 rw[ZN];unfold cf;rw[qb4 _ 4 (by omega) P (0,0,0,0) h.sdesc h.vl (by decide) (fun j hj=>by rcases Yy hj with rfl|rfl|rfl|rfl<;>rfl)];rfl
theorem qcJ{z:Int}(hz:z≠0):YC (decide (z<0)) (dig z.natAbs)=true:=by
 unfold YC;have h:(dig z.natAbs).length≠0:=fun e=>by rw[Jw]at e;omega
 rw[if_neg h];exact decide_eq_true (qiq _ (by omega))
theorem Ys:∀(L:Nat),L<=4->∀(ts:List Tm),zu L ts->(∀t∈ts,zD t.2=true)->(∀t∈ts,t.1≠0)->
 qv (qZ L ts)=true/\(qZ L ts).lv<=L/\(ts≠[]->qI (qZ L ts)=false)
 |L,_,[],_,_,_=>by
  rw[yo];refine⟨by decide,by show(0:Int)<=L;omega,fun h=>absurd rfl h⟩
 |0,_,t::r,_,_,hz=>by
  rw[qZ];have h:=hz t List.mem_cons_self;refine⟨?_,Int.le_refl _,fun _=>?_⟩
  ·unfold jy;rw[qv,if_pos rfl,if_neg (by simp)];exact qcJ h
  ·unfold jy qI;have h:(dig t.1.natAbs).length≠0:=fun e=>by rw[Jw]at e;omega
   simp only[RP.lv,RP.ds,h,decide_false,Bool.and_false]
 |L+1,hL,t::r,hs,hv,hz=>by
  rw[qZ];by_cases h0:gt t.2 L=0
  ·rw[if_pos h0];have he:∀s∈t::r,gt s.2 L=0:=fun s h=>by
    have h1:=hs.head h;have h2:=qcp.1 (hv s h) L (by omega);omega
   obtain⟨a,b,c⟩:=Ys L (by omega) (t::r) (hs.down he) hv hz;exact⟨a,by omega,c⟩
  ·rw[if_neg h0];have EN:0<=gt t.2 L:=qcp.1 (hv t List.mem_cons_self) L (by omega);have VO:∀(n:Nat)(ts:List Tm)(ks:List RP),zu (L+1) ts->(∀s∈ts,zD s.2=true/\s.1≠0)->(∀k∈ks,qv k=true/\k.lv<=(L:Int))->∀k∈jJ (qZ L) L n ts ks,qv k=true/\k.lv<=(L:Int):=by
    intro n
    induction n with
    |zero=>intro ts ks _ _ h;rw[jJ];exact h
    |succ n ih=>
     intro ts ks hs SF h
     cases ts with
     |nil=>rw[jJ];exact h
     |cons t r=>
      rw[jJ];obtain⟨c1,_⟩:=hs.cut;refine ih _ _ (hs.sub (List.dropWhile_sublist _)) (fun s h=>SF s ((List.dropWhile_sublist _).subset h)) (fun k hk=>?_);rcases List.mem_or_eq_of_mem_set hk with hk|rfl
      ·exact h k hk
      ·obtain⟨a,b,_⟩:=Ys L (by omega) _ ((hs.sub (List.takeWhile_sublist _)).down c1) (fun s h=>(SF s ((List.takeWhile_sublist _).subset h)).1) (fun s h=>(SF s ((List.takeWhile_sublist _).subset h)).2);exact⟨a,b⟩
   have D4:=VO (t::r).length (t::r) (List.replicate ((gt t.2 L).toNat+1) qh) hs (fun s h=>⟨hv s h,hz s h⟩) (fun k hk=>by
    rw[(List.mem_replicate.1 hk).2];exact⟨by decide,by show(0:Int)<=L;omega⟩)
   have XC:(jJ (qZ L) L (t::r).length (t::r) (List.replicate ((gt t.2 L).toNat+1) qh)).length=(gt t.2 L).toNat+1:=by rw[JB,List.length_replicate]
   have Og:∃u,(jJ (qZ L) L (t::r).length (t::r) (List.replicate ((gt t.2 L).toNat+1) qh))[(gt t.2 L).toNat]? =some u/\qI u=false:=by
    rw[List.length_cons,jJ];obtain⟨c1,c2⟩:=hs.cut;refine⟨_,(qbf _ _ _ _ _ _ (fun s h=>?_)).trans (List.getElem?_set_self (by rw[List.length_replicate];omega)),?_⟩
    ·have h1:=c2 s h;have h2:=qcp.1 (hv s ((List.dropWhile_sublist _).subset h)) L (by omega);omega
    ·refine(Ys L (by omega) _ ((hs.sub (List.takeWhile_sublist _)).down c1) (fun s h=>hv s ((List.takeWhile_sublist _).subset h)) (fun s h=>hz s ((List.takeWhile_sublist _).subset h))).2.2 ?_;simp
   generalize jJ (qZ L) L (t::r).length (t::r) (List.replicate ((gt t.2 L).toNat+1) qh)=ks at*;have XM:∀l:List RP,(∀k∈l,qv k=true/\k.lv<=(L:Int))->zT ((L:Int)+1) l=true:=by
    intro l
    induction l with
    |nil=>intro _;rw[zT]
    |cons k l ih=>
     intro h;have h1:=h k List.mem_cons_self;rw[zT,ih fun x hx=>h x (List.mem_cons_of_mem _ hx),h1.1,decide_eq_true (by omega)];rfl
   refine⟨?_,by show(L:Int)+1<=((L+1:Nat):Int);omega,fun _=>?_⟩
   ·obtain⟨u,hu,hz⟩:=Og;rw[qv,if_neg (by omega),XM ks D4];have e1:decide (1<=(L:Int)+1)=true:=decide_eq_true (by omega);have e2:decide ((L:Int)+1<=4)=true:=decide_eq_true (by omega);have e3:decide (2<=ks.length)=true:=decide_eq_true (by omega);rw[e1,e2,e3];simp only[List.length_nil,decide_true,Bool.not_false,Bool.and_true,Bool.true_eq_false,if_false];unfold Zi;rw[show ks.length-1=(gt t.2 L).toNat by omega,hu];simp[hz]
   ·unfold qI;rw[decide_eq_false (by show¬(L:Int)+1=0;omega)];rfl
theorem jb.can{t T:RP}(h:jb t T):qv T=true/\∀m,cf (JA T) m=cf (JA t) m:=by
 rcases h with⟨a,rfl⟩|⟨_,P,h1,h2,rfl⟩
 ·exact⟨a,fun _=>rfl⟩
 ·exact⟨(Ys 4 (by omega) P h1.sdesc h1.vl h1.ne).1,fun m=>(qkG h1 m).trans (h2 m)⟩
attribute [local go_sem ↓] Go.wp_at_zero Go.wp_at_succ
theorem yl.upd{w:World}{base rb cap n:Nat}{ps:List PT}(h:yl w base (.slice (some ⟨rb,0,none⟩) n cap) ps)(Sr:ps.length=n){i:Nat}{p:PT}(hi:ps[i]? =some p)(z:Int)(A:Oa)(c:Nat)(hn:qL w A (dig z.natAbs))(hc:(dig z.natAbs).length<=c):
 yl ((w.setCell ⟨rb,i*6,none⟩ (.bool (decide (z<0)))).setCell ⟨rb,i*6+1,none⟩ (.slice A (dig z.natAbs).length c)) base (.slice (some ⟨rb,0,none⟩) n cap) (ps.set i (mkP z A c p.m))/\
  Below base w ((w.setCell ⟨rb,i*6,none⟩ (.bool (decide (z<0)))).setCell ⟨rb,i*6+1,none⟩ (.slice A (dig z.natAbs).length c)):=by
 subst Sr;obtain⟨cur,hk,St,_,_⟩:=own_blk h.row;have Cz:=hk.set_ (i*6) (.bool (decide (z<0)));have ht:jD base w ((w.setCell ⟨rb,i*6,none⟩ (.bool (decide (z<0)))).setCell ⟨rb,i*6+1,none⟩ (.slice A (dig z.natAbs).length c)):=(jD.set_t St hk _).trans (jD.set_t St Cz _);refine⟨⟨?_,?_,?_⟩,ht.below⟩
 ·rw[qdd ps i p (mkP z A c p.m) hi rfl,List.length_set];exact Zw (Zw h.row _ _) _ _
 ·intro q hq;rcases List.mem_or_eq_of_mem_set hq with k|k
  ·exact⟨ht.natB (h.dg q k).1,(h.dg q k).2⟩
  ·subst k;exact⟨ht.natB hn,hc⟩
 ·intro q hq;rcases List.mem_or_eq_of_mem_set hq with k|k
  ·exact h.cn q k
  ·subst k;exact qcj _ _ _ _
end Go.Proofs.YtflikmojaidhhaaGreatDoor
namespace Go.Proofs.YtflikmojaidhhaaGreatDoor
def gcF(g:Nat)(l:List Tm):Nat:=l.foldl (fun g t=>Nat.gcd g t.1.natAbs) g
def JX(l:List Tm):Nat:=gcF 0 l
theorem qiY(g:Nat)(l:List Tm)(t:Tm):gcF g (l++[t])=Nat.gcd (gcF g l) t.1.natAbs:=by simp[gcF]
theorem qhx(l:List Tm)(t:Tm):JX (l++[t])=Nat.gcd (JX l) t.1.natAbs:=qiY 0 l t
theorem qfl:∀(l:List Tm)(g:Nat),gcF g l∣g/\∀t∈l,gcF g l∣t.1.natAbs
 |[],g=>⟨Nat.dvd_refl _,by simp⟩
 |s::l,g=>by
  obtain⟨h1,h2⟩:=qfl l (Nat.gcd g s.1.natAbs);have e:gcF g (s::l)=gcF (Nat.gcd g s.1.natAbs) l:=rfl;rw[e];refine⟨Nat.dvd_trans h1 (Nat.gcd_dvd_left _ _),fun t ht=>?_⟩;rcases List.mem_cons.1 ht with rfl|ht
  ·exact Nat.dvd_trans h1 (Nat.gcd_dvd_right _ _)
  ·exact h2 t ht
theorem qbX{l:List Tm}{t:Tm}(h:t∈l):JX l∣t.1.natAbs:=(qfl l 0).2 t h
theorem qfs{l:List Tm}(h:qW l)(hn:l≠[]):0<JX l:=by
 cases l with
 |nil=>exact absurd rfl hn
 |cons t l=>
  refine Nat.pos_of_ne_zero fun e=>?_;have:=qbX (l:=t::l) (t:=t) List.mem_cons_self;rw[e]at this;have h0:=h.ne t List.mem_cons_self;have:=Nat.eq_zero_of_zero_dvd this;omega
def hdN:List Tm->Bool
 |[]=>false
 |t::_=>decide (t.1<0)
def dvs(l:List Tm):Int:=if hdN l then -(JX l:Int)else(JX l:Int)
def Zp(d:Int)(l:List Tm):List Tm:=l.map fun t=>(t.1/d,t.2)
def snL(l:List Tm):List Tm:=Zp (dvs l) l
theorem qb2(l:List Tm):(dvs l).natAbs=JX l:=by unfold dvs;split<;>omega
theorem qep{l:List Tm}(h:qW l)(hn:l≠[]):dvs l≠0:=by
 have:=qfs h hn;have:=qb2 l;omega
theorem Zz{l:List Tm}{t:Tm}(h:t∈l):dvs l∣t.1:=by
 rw[<-Int.natAbs_dvd_natAbs,qb2];exact qbX h
theorem qeg{l:List Tm}(h:qW l):qW (snL l) where
 ne t ht:=by
  obtain⟨s,hs,rfl⟩:=List.mem_map.1 ht;intro e;have h1:=Int.ediv_mul_cancel (Zz hs);have e':s.1/dvs l=0:=e;rw[e',Int.zero_mul]at h1;exact h.ne s hs h1.symm
 vl t ht:=by
  obtain⟨s,hs,rfl⟩:=List.mem_map.1 ht;exact h.vl s hs
 so:=by
  unfold snL Zp;rw[List.pairwise_map];exact h.so
theorem qk7(l:List Tm):(snL l).length=l.length:=by simp[snL,Zp]
theorem qg0(t d:Int)(hd:d∣t)(SP:d≠0):t.natAbs/d.natAbs=(t/d).natAbs:=by
 obtain⟨k,rfl⟩:=hd;rw[Int.mul_ediv_cancel_left _ SP,Int.natAbs_mul,Nat.mul_div_cancel_left];omega
theorem qaS(t d:Int)(hd:d∣t)(SP:d≠0):(t/d).natAbs<=t.natAbs:=by
 rw[<-qg0 t d hd SP];exact Nat.div_le_self _ _
theorem qev(f:Tm->Tm)(l:List Tm)(h:∀t∈l,(f t).1.natAbs<=t.1.natAbs):nrm (l.map f)<=nrm l:=by
 induction l with
 |nil=>exact Gr _
 |cons t l ih=>
  have h1:=h t List.mem_cons_self;have h2:=ih fun s hs=>h s (List.mem_cons_of_mem _ hs);simp only[List.map_cons,nrm];omega
theorem qkR{l:List Tm}(h:qW l):nrm (snL l)<=nrm l:=by
 cases l with
 |nil=>exact Gr _
 |cons t l=>exact qev _ _ fun s hs=>qaS _ _ (Zz hs) (qep h (by simp))
theorem Z8{l:List Tm}(h:qW l):JX l<=nrm l:=by
 cases l with
 |nil=>exact Gr _
 |cons t l=>
  have h1:=Nat.le_of_dvd (by have:=h.ne t List.mem_cons_self;omega) (qbX (l:=t::l) (t:=t) List.mem_cons_self);exact Gl h1 (Qu List.mem_cons_self)
end Go.Proofs.YtflikmojaidhhaaGreatDoor
namespace Go.Proofs.YtflikmojaidhhaaGreatDoor
open Go.RowKit
mutual
def qN(d n:Nat):RP->Prop
 | .mk _ _ ds ks=>ds.length<=d/\ks.length<=n/\zO d n ks
def zO(d n:Nat):List RP->Prop
 |[]=>True
 |t::ts=>qN d n t/\zO d n ts
end
theorem zO.mem{d n:Nat}{ts:List RP}:zO d n ts↔∀u∈ts,qN d n u:=by
 induction ts with
 |nil=>simp[zO]
 |cons t ts ih=>simp[zO,ih]
theorem qN.at_{d n:Nat}{t:RP}(h:qN d n t):t.ds.length<=d/\t.ks.length<=n/\∀u∈t.ks,qN d n u:=by
 cases t
 simp only[qN]at h;exact⟨h.1,h.2.1,zO.mem.1 h.2.2⟩
theorem qN.mk{d n:Nat}{l:Int}{g:Bool}{ds:List Nat}{ks:List RP}(h1:ds.length<=d)(h2:ks.length<=n)(h3:∀u∈ks,qN d n u):qN d n (.mk l g ds ks):=by
 simp only[qN];exact⟨h1,h2,zO.mem.2 h3⟩
theorem qN.zero(d n:Nat):qN d n qh:=qN.mk (Nat.zero_le _) (Nat.zero_le _) (by simp)
mutual
theorem qN.few{d n:Nat}(hn:n<=40):∀(t:RP),qN d n t->ym d t
 | .mk l g ds ks,h=>by
   simp only[qN]at h;simp only[ym];exact⟨h.1,by omega,zO.few hn ks h.2.2⟩
theorem zO.few{d n:Nat}(hn:n<=40):∀(ts:List RP),zO d n ts->Js d ts
 |[],_=>by simp[Js]
 |t::ts,h=>by
  simp only[zO]at h;simp only[Js];exact⟨qN.few hn t h.1,zO.few hn ts h.2⟩
end
mutual
theorem qN.mono{d d' n n':Nat}(hd:d<=d')(hn:n<=n'):∀(t:RP),qN d n t->qN d' n' t
 | .mk l g ds ks,h=>by
   simp only[qN]at h ⊢;exact⟨by omega,by omega,zO.mono hd hn ks h.2.2⟩
theorem zO.mono{d d' n n':Nat}(hd:d<=d')(hn:n<=n'):∀(ts:List RP),zO d n ts->zO d' n' ts
 |[],_=>by simp[zO]
 |t::ts,h=>by
  simp only[zO]at h ⊢;exact⟨qN.mono hd hn t h.1,zO.mono hd hn ts h.2⟩
end
theorem qcU{l:Int}:∀{ks:List RP},zT l ks=true->∀u∈ks,u.lv<l/\qv u=true
 |[],_,_,h=>by cases h
 |k::ks,hc,u,h=>by
  simp only[zT,Bool.and_eq_true,decide_eq_true_eq]at hc;rcases List.mem_cons.1 h with rfl|h
  ·exact hc.1
  ·exact qcU hc.2 u h
theorem qz{t:RP}(h:qv t=true):(t.lv=0/\t.ks=[]/\YC t.ng t.ds=true)∨(1<=t.lv/\t.lv<=4/\t.ds=[]/\t.ng=false/\2<=t.ks.length/\(∀u∈t.ks,u.lv<t.lv/\qv u=true)/\∃u,t.ks[t.ks.length-1]? =some u/\qI u=false):=by
 cases t with
 |mk l g ds ks=>
  rw[qv]at h;simp only[RP.lv,RP.ks,RP.ng,RP.ds];by_cases h0:l=0
  ·rw[if_pos h0]at h;by_cases hk:0<ks.length
   ·rw[if_pos hk]at h;cases h
   ·rw[if_neg hk]at h;exact .inl ⟨h0,List.eq_nil_of_length_eq_zero (by omega),h⟩
  ·rw[if_neg h0]at h
   split at h
   ·cases h
   ·rename_i h1
    split at h
    ·cases h
    ·rename_i h2;simp only[Bool.not_eq_false,Bool.and_eq_true,decide_eq_true_eq,Bool.not_eq_true']at h1 h2;refine .inr ⟨h1.1.1.1.1,h1.1.1.1.2,List.eq_nil_of_length_eq_zero h1.1.1.2,h1.1.2,h1.2,qcU h2,?_⟩;unfold Zi at h
     cases hu:ks[ks.length-1]? with
     |none=>rw[hu]at h;cases h
     |some u=>
      rw[hu]at h;exact⟨u,rfl,by simpa using h⟩
theorem qJ{t:RP}(h:qv t=true):0<=t.lv/\t.lv<=4:=by
 rcases qz h with⟨a,_⟩|⟨a,b,_⟩<;>omega
mutual
theorem zC:∀(t:RP),qv t=true->(qC t:Int)<=t.lv+1
 | .mk l g ds ks,h=>by
   rcases qz h with⟨a,b,_⟩|⟨a,_,_,_,_,c,_⟩
   ·simp only[RP.lv,RP.ks]at a b;subst a;subst b;simp[qC,Jm,RP.lv]
   ·have:=qdN ks l (by simp only[RP.lv]at a;omega) c;simp only[qC,RP.lv];omega
theorem qdN:∀(ks:List RP)(l:Int),0<=l->(∀u∈ks,u.lv<l/\qv u=true)->(Jm ks:Int)<=l
 |[],l,h0,_=>by simp only[Jm];omega
 |k::ks,l,h0,h=>by
  have h1:=h k List.mem_cons_self;have h2:=zC k h1.2;have h3:=qdN ks l h0 fun u hu=>h u (List.mem_cons_of_mem _ hu);simp only[Jm];omega
end
def Jg(n:Nat):Nat->Nat
 |0=>1
 |l+1=>n*Jg n l+1
theorem qil(n:Nat):∀l,0<Jg n l
 |0=>Nat.one_pos
 |_+1=>Nat.succ_pos _
theorem Q5{n:Nat}(hn:0<n):∀{l l':Nat},l<=l'->Jg n l<=Jg n l':=by
 intro l l' h
 induction l' with
 |zero=>
  obtain rfl:l=0:=Nat.le_zero.1 h;exact Gr _
 |succ l' ih=>
  by_cases e:l=l'+1
  ·rw[e];exact Gr _
  ·have h1:=ih (by omega);have h2:1*Jg n l'<=n*Jg n l':=Nat.mul_le_mul_right _ hn;show _<=n*Jg n l'+1;omega
mutual
theorem qbV{d n:Nat}(hn:0<n):∀(t:RP),qv t=true->qN d n t->jW t<=Jg n t.lv.toNat
 | .mk l g ds ks,h,hw=>by
   simp only[qN]at hw;rcases qz h with⟨a,b,_⟩|⟨a,_,_,_,_,c,_⟩
   ·simp only[RP.lv,RP.ks]at a b;subst a;subst b;simp[jW,yy,RP.lv,Jg]
   ·simp only[RP.lv,RP.ks]at a c;obtain⟨m,hm⟩:∃m,l.toNat=m+1:=⟨l.toNat-1,by omega⟩;have h1:=qdE hn ks m (fun u hu=>by
     obtain⟨x1,x2⟩:=c u hu;have x3:u.lv<l:=x1;exact⟨by omega,x2⟩) hw.2.2
    have h2:ks.length*Jg n m<=n*Jg n m:=Nat.mul_le_mul_right _ hw.2.1;simp only[jW,RP.lv];rw[hm];show _<=n*Jg n m+1;omega
theorem qdE{d n:Nat}(hn:0<n):∀(ks:List RP)(m:Nat),(∀u∈ks,u.lv<=(m:Int)/\qv u=true)->zO d n ks->yy ks<=ks.length*Jg n m
 |[],_,_,_=>by simp[yy]
 |k::ks,m,h,hw=>by
  simp only[zO]at hw;have h1:=h k List.mem_cons_self;have h2:=qbV hn k h1.2 hw.1;have h3:=Q5 hn (show k.lv.toNat<=m by omega);have h4:=qdE hn ks m (fun u hu=>h u (List.mem_cons_of_mem _ hu)) hw.2;simp only[yy,List.length_cons];rw[Nat.succ_mul];omega
end
theorem Y5{d:Nat}{t:RP}(h:qv t=true)(hw:qN d 5 t):qC t<=5/\ym d t/\jW t<=1000:=by
 have h1:=qJ h;have h2:=zC t h;have h3:=qbV (by omega) t h hw;have h4:=Q5 (n:=5) (by omega) (show t.lv.toNat<=4 by omega);have h5:Jg 5 4=781:=by decide
 exact⟨by omega,hw.few (by omega),by omega⟩
theorem Qj{Q:RP->Prop}(F:List Tm->RP)(i n:Nat)(ts:List Tm)(k:Nat)(h0:Q qh)(hf:∀l:List Tm,(∀x∈l,x∈ts)->Q (F l)):∀u∈jJ F i n ts (List.replicate k qh),Q u:=
 YJ _ _ _ _ _ (fun u hu=>by rw[(List.mem_replicate.1 hu).2];exact h0) hf
theorem qaP{d n:Nat}(hn:1<=n):∀(L:Nat)(ts:List Tm),L<=4->(∀t∈ts,(dig t.1.natAbs).length<=d/\∀i,i<4->gt t.2 i+1<=(n:Int))->qN d n (qZ L ts)
 |L,[],_,_=>by rw[yo];exact qN.zero d n
 |0,t::r,_,h=>by rw[qZ];exact qN.mk (h t List.mem_cons_self).1 (Nat.zero_le _) (by simp)
 |L+1,t::r,hL,h=>by
  rw[qZ]
  split
  ·exact qaP hn L (t::r) (by omega) h
  ·refine qN.mk (Nat.zero_le _) ?_ (Qj _ _ _ _ _ (qN.zero d n) fun l hl=>qaP hn L l (by omega) fun x hx=>h x (hl x hx));rw[JB,List.length_replicate];have:=(h t List.mem_cons_self).2 L (by omega);omega
mutual
theorem ZM{d n:Nat}:∀(t:RP)(m:Mo)(i:Nat),i<4->qv t=true->qN d n t->gt m i<=0->∀x∈jH t m,gt x.2 i+1<=max (n:Int) 1
 | .mk l g ds ks,m,i,hi,h,hw,hm,x,hx=>by
   simp only[qN]at hw;simp only[jH]at hx
   split at hx
   ·rw[List.mem_singleton]at hx;subst hx;show gt m i+1<=_;omega
   ·split at hx
    ·cases hx
    ·rcases qz h with⟨a,b,_⟩|⟨a,_,_,_,_,c,_⟩
     ·simp only[RP.lv]at a;omega
     ·have a:1<=l:=a;have c:∀u∈ks,u.lv<l/\qv u=true:=c;by_cases he:i=l.toNat-1
      ·subst he;rw[Yw m hi]at hx;have:=qdf (n:=n) ks m (l.toNat-1) _ hi (fun u hu=>by have:=c u hu;exact⟨by omega,this.2⟩) x hx;omega
      ·exact qbq ks m (l.toNat-1) _ i (by omega) hi he (fun u hu=>(c u hu).2) hw.2.2 hm x hx
theorem qdf{n:Nat}:∀(ks:List RP)(m:Mo)(i:Nat)(e:Int),i<4->(∀u∈ks,u.lv<=(i:Int)/\qv u=true)->∀x∈jo i ks m e,gt x.2 i+1<=e+ks.length
 |[],_,_,_,_,_,x,hx=>by simp[jo]at hx
 |k::ks,m,i,e,hi,h,x,hx=>by
  simp only[jo]at hx;rcases List.mem_append.1 hx with hx|hx
  ·have:=qe3 k (jU m i e) i hi (h k List.mem_cons_self).1 (h k List.mem_cons_self).2 x hx;rw[this,yp m e hi hi,if_pos rfl];simp only[List.length_cons];omega
  ·have:=qdf (n:=n) ks m i (e+1) hi (fun u hu=>h u (List.mem_cons_of_mem _ hu)) x hx;simp only[List.length_cons];omega
theorem qbq{d n:Nat}:∀(ks:List RP)(m:Mo)(j:Nat)(e:Int)(i:Nat),j<4->i<4->i≠j->(∀u∈ks,qv u=true)->zO d n ks->gt m i<=0->∀x∈jo j ks m e,gt x.2 i+1<=max (n:Int) 1
 |[],_,_,_,_,_,_,_,_,_,_,x,hx=>by simp[jo]at hx
 |k::ks,m,j,e,i,hj,hi,CA,h,hw,hm,x,hx=>by
  simp only[zO]at hw;simp only[jo]at hx;rcases List.mem_append.1 hx with hx|hx
  ·exact ZM k (jU m j e) i hi (h k List.mem_cons_self) hw.1 (by rw[yp m e hj hi,if_neg CA];exact hm) x hx
  ·exact qbq ks m j (e+1) i hj hi CA (fun u hu=>h u (List.mem_cons_of_mem _ hu)) hw.2 hm x hx
theorem qe3:∀(t:RP)(m:Mo)(i:Nat),i<4->t.lv<=(i:Int)->qv t=true->∀x∈jH t m,gt x.2 i=gt m i
 | .mk l g ds ks,m,i,hi,hl,h,x,hx=>by
   simp only[jH]at hx
   split at hx
   ·rw[List.mem_singleton]at hx;subst hx;rfl
   ·split at hx
    ·cases hx
    ·rcases qz h with⟨a,_⟩|⟨a,_,_,_,_,c,_⟩
     ·simp only[RP.lv]at a;omega
     ·have a:1<=l:=a;have c:∀u∈ks,u.lv<l/\qv u=true:=c;have hl:l<=(i:Int):=hl;exact qe7 ks m (l.toNat-1) _ i (by omega) hi (by omega) (fun u hu=>by have:=c u hu;exact⟨by omega,this.2⟩) x hx
theorem qe7:∀(ks:List RP)(m:Mo)(j:Nat)(e:Int)(i:Nat),j<4->i<4->j<i->(∀u∈ks,u.lv<=(i:Int)/\qv u=true)->∀x∈jo j ks m e,gt x.2 i=gt m i
 |[],_,_,_,_,_,_,_,_,x,hx=>by simp[jo]at hx
 |k::ks,m,j,e,i,hj,hi,LP,h,x,hx=>by
  simp only[jo]at hx;rcases List.mem_append.1 hx with hx|hx
  ·rw[qe3 k (jU m j e) i hi (h k List.mem_cons_self).1 (h k List.mem_cons_self).2 x hx,yp m e hj hi,if_neg (by omega)]
  ·exact qe7 ks m j (e+1) i hj hi LP (fun u hu=>h u (List.mem_cons_of_mem _ hu)) x hx
end
mutual
def zo(k:Int):RP->Bool
 | .mk l _ _ ks=>decide (l=k)||ocL k ks
def ocL(k:Int):List RP->Bool
 |[]=>false
 |t::ts=>zo k t||ocL k ts
end
theorem qe8(k:Int)(ts:List RP):ocL k ts=ts.any (zo k):=by
 induction ts with
 |nil=>simp[ocL]
 |cons t ts ih=>simp[ocL,ih]
theorem qgd{k:Int}{ts:List RP}:ocL k ts=false↔∀u∈ts,zo k u=false:=by
 rw[qe8,List.any_eq_false];simp
theorem jc{k:Int}{t:RP}:zo k t=false↔t.lv≠k/\∀u∈t.ks,zo k u=false:=by
 cases t with
 |mk l g ds ks=>
  rw[zo,Bool.or_eq_false_iff,qgd];simp[RP.lv,RP.ks]
theorem zy{k:Int}(hk:0<k):zo k qh=false:=by
 rw[jc];exact⟨by show(0:Int)≠k;omega,by simp[qh,RP.ks]⟩
mutual
theorem qcl{k:Int}:∀(t:RP),qv t=true->t.lv<k->zo k t=false
 | .mk l g ds ks,h,hl=>by
   rw[jc];refine⟨by omega,fun u hu=>?_⟩;rcases qz h with⟨_,b,_⟩|⟨_,_,_,_,_,c,_⟩
   ·rw[b]at hu;cases hu
   ·exact qe2 ks (fun u hu=>by have:=c u hu;exact⟨by omega,this.2⟩) u hu
theorem qe2{k:Int}:∀(ks:List RP),(∀u∈ks,u.lv<k/\qv u=true)->∀u∈ks,zo k u=false
 |[],_,_,hu=>by cases hu
 |t::ks,h,u,hu=>by
  rcases List.mem_cons.1 hu with e|hu
  ·rw[e];exact qcl t (h t List.mem_cons_self).2 (h t List.mem_cons_self).1
  ·exact qe2 ks (fun u hu=>h u (List.mem_cons_of_mem _ hu)) u hu
end
mutual
theorem qb9{i:Nat}(hi:i<4):∀(t:RP)(m:Mo),zo ((i:Int)+1) t=false->∀x∈jH t m,gt x.2 i=gt m i
 | .mk l g ds ks,m,h,x,hx=>by
   rw[jc]at h;simp only[RP.lv,RP.ks]at h;simp only[jH]at hx
   split at hx
   ·rw[List.mem_singleton]at hx;subst hx;rfl
   ·split at hx
    ·cases hx
    ·exact qfc hi ks m (l.toNat-1) _ (by omega) (by omega) h.2 x hx
theorem qfc{i:Nat}(hi:i<4):∀(ks:List RP)(m:Mo)(j:Nat)(e:Int),j<4->j≠i->(∀u∈ks,zo ((i:Int)+1) u=false)->∀x∈jo j ks m e,gt x.2 i=gt m i
 |[],_,_,_,_,_,_,x,hx=>by simp[jo]at hx
 |k::ks,m,j,e,hj,LP,h,x,hx=>by
  simp only[jo]at hx;rcases List.mem_append.1 hx with hx|hx
  ·rw[qb9 hi k (jU m j e) (h k List.mem_cons_self) x hx,yp m e hj hi,if_neg (by omega)]
  ·exact qfc hi ks m j (e+1) hj LP (fun u hu=>h u (List.mem_cons_of_mem _ hu)) x hx
end
theorem qen{i:Nat}:∀(L:Nat)(ts:List Tm),(∀t∈ts,gt t.2 i=0)->zo ((i:Int)+1) (qZ L ts)=false
 |L,[],_=>by rw[yo];exact zy (by omega)
 |0,t::r,_=>by
  rw[qZ,jc];exact⟨by show(0:Int)≠_;omega,by simp[jy,RP.ks]⟩
 |L+1,t::r,h=>by
  rw[qZ]
  split
  ·exact qen L (t::r) h
  ·rename_i h0;rw[jc];refine⟨fun e=>h0 ?_,Qj _ _ _ _ _ (zy (by omega)) fun l hl=>qen L l fun x hx=>h x (hl x hx)⟩;have e':(L:Int)+1=(i:Int)+1:=e;obtain rfl:L=i:=by omega
   exact h t List.mem_cons_self
theorem Yh{P:List Tm}{t:RP}(hP:qW P)(h:∀m,cf P m=cf (JA t) m){s:Tm}(hs:s∈P):∃x∈jH t (0,0,0,0),x.2=s.2:=by
 obtain⟨y,hy,_,e⟩:=hP.src h hs;obtain⟨x,hx,rfl⟩:=List.mem_map.1 (show y∈(jH t (0,0,0,0)).map YN from hy);exact⟨x,hx,e⟩
theorem jb.oc{t T:RP}(h:jb t T){i:Nat}(hi:i<4)(ho:zo ((i:Int)+1) t=false):zo ((i:Int)+1) T=false:=by
 rcases h with⟨_,rfl⟩|⟨_,P,h1,h2,rfl⟩
 ·exact ho
 ·refine qen 4 P fun s hs=>?_;obtain⟨x,hx,e⟩:=Yh h1 h2 hs;rw[<-e,qb9 hi t _ ho x hx];rcases Yy hi with rfl|rfl|rfl|rfl<;>rfl
mutual
def ldT:RP->Int
 | .mk _ g ds ks=>ldL (qj g ds) ks
def ldL(z:Int):List RP->Int
 |[]=>z
 |t::ts=>ldL (ldT t) ts
end
theorem qcw:∀(ks:List RP)(z:Int)(u:RP),ks[ks.length-1]? =some u->ldL z ks=ldT u
 |[],_,_,h=>by simp at h
 |[t],z,u,h=>by
  simp at h;subst h;simp[ldL]
 |t::s::ts,z,u,h=>by
  rw[ldL];exact qcw (s::ts) _ u (by simpa using h)
theorem qiQ(t:RP):ldT t=ldL (qj t.ng t.ds) t.ks:=by
 cases t
 rw[ldT];rfl
theorem ZG{g:Bool}{ds:List Nat}(h:YC g ds=true)(h0:ds.length≠0):qj g ds≠0:=by
 unfold YC at h;rw[if_neg h0]at h;have h1:ds.getD (ds.length-1) 0≠0:=by simpa using h
 have h2:val ds≠0:=by
  clear h
  induction ds with
  |nil=>exact absurd rfl h0
  |cons d ds ih=>
   intro e;simp only[val]at e
   cases ds with
   |nil=>
    simp at h1;omega
   |cons d' ds=>
    refine ih (by simp) ?_ (by omega);simpa using h1
 have:=je g ds;omega
mutual
theorem qbH{w:World}{S:Nat->Prop}:∀(T:RP)(vs:List Value),RV w S T vs->qv T=true->zg T=T
 | .mk l g ds ks,vs,h,hc=>by
   unfold RV at h;obtain⟨A,c,K,kc,_,_,h3,_,_,rows,_,h7⟩:=h;rcases qz hc with⟨a,b,e⟩|⟨a,_,b,b',_,e,_⟩
   ·simp only[RP.lv,RP.ks,RP.ng,RP.ds]at a b e;subst a;subst b;rw[zg,if_pos rfl];by_cases hd:ds.length=0
    ·obtain rfl:ds=[]:=List.eq_nil_of_length_eq_zero hd;unfold YC at e;simp at e;subst e;rw[show val []=0 from rfl,qH,show decide (qj false []<0)=false from by decide]
    ·have Xl:=ZG e hd;unfold YC at e;rw[if_neg hd]at e;have AR:dig (val ds)=ds:=qfp h3 (by
      intro h0;simp at e;rw[List.getLast_eq_getElem];rw[Gn (by omega)]at e;simpa using e)
     rw[AR];have hg:decide (qj g ds<0)=g:=by
      have hv:0<val ds:=by have:=je g ds;omega
      unfold qj
      cases g<;>simp<;>omega
     rw[hg]
   ·simp only[RP.lv,RP.ks,RP.ng,RP.ds]at a b b' e;subst b;subst b';rw[zg,if_neg (by omega),qdh ks rows h7 fun u hu=>(e u hu).2]
theorem qdh{w:World}{S:Nat->Prop}:∀(ts:List RP)(rows:List (List Value)),qG w S ts rows->(∀u∈ts,qv u=true)->cpL ts=ts
 |[],_,_,_=>by rw[cpL]
 |t::ts,rows,h,hc=>by
  unfold qG at h;obtain⟨r,rs,_,h2,h3⟩:=h;rw[cpL,qbH t r h2 (hc t List.mem_cons_self),qdh ts rs h3 fun u hu=>hc u (List.mem_cons_of_mem _ hu)]
end
mutual
def zW(k:Int):RP->Nat
 | .mk l _ _ ks=>if l<k then 0 else if l=k then ks.length-1 else JD k ks
def JD(k:Int):List RP->Nat
 |[]=>0
 |t::ts=>max (zW k t) (JD k ts)
end
theorem QO(k:Int)(t:RP):zW k t=if t.lv<k then 0 else if t.lv=k then t.ks.length-1 else JD k t.ks:=by
 cases t
 rw[zW];rfl
theorem ZU(k:Int):∀(ts us:List RP),JD k (ts++us)=max (JD k ts) (JD k us)
 |[],us=>by simp[JD]
 |t::ts,us=>by
  simp only[List.cons_append,JD,ZU k ts us];omega
theorem qiT{k:Int}{ts:List RP}{j:Nat}{u:RP}(h:ts[j]? =some u):JD k (ts.take (j+1))=max (JD k (ts.take j)) (zW k u):=by
 obtain⟨hj,rfl⟩:=Gi.1 h;rw[List.take_succ_eq_append_getElem hj,ZU];simp[JD]
theorem qjm{k:Int}{ts:List RP}{u:RP}(h:u∈ts):zW k u<=JD k ts:=by
 induction ts with
 |nil=>cases h
 |cons t ts ih=>
  simp only[JD];rcases List.mem_cons.1 h with rfl|h
  ·omega
  ·have:=ih h;omega
mutual
theorem qeI{d n:Nat}(k:Int):∀(t:RP),qN d n t->zW k t<=n
 | .mk l g ds ks,h=>by
   simp only[qN]at h;simp only[zW]
   split
   ·omega
   ·split
    ·omega
    ·exact qex k ks h.2.2
theorem qex{d n:Nat}(k:Int):∀(ts:List RP),zO d n ts->JD k ts<=n
 |[],_=>by simp[JD]
 |t::ts,h=>by
  simp only[zO]at h;have h1:=qeI k t h.1;have h2:=qex k ts h.2;simp only[JD];omega
end
mutual
def JS(k:Int)(n:Nat):RP->List RP
 | .mk l g ds ks=>if l<k then .mk l g ds ks::List.replicate n qh
    else if l=k then ks.take (n+1)++List.replicate (n+1-ks.length) qh
    else(List.range (n+1)).map fun i=> .mk l false [] ((coL k n ks).map fun c=>c.getD i qh)
def coL(k:Int)(n:Nat):List RP->List (List RP)
 |[]=>[]
 |t::ts=>JS k n t::coL k n ts
end
theorem qjz(k:Int)(n:Nat)(ts:List RP):coL k n ts=ts.map (JS k n):=by
 induction ts with
 |nil=>simp[coL]
 |cons t ts ih=>simp[coL,ih]
theorem JZ(k:Int)(n:Nat)(t:RP):JS k n t=if t.lv<k then t::List.replicate n qh else if t.lv=k then t.ks.take (n+1)++List.replicate (n+1-t.ks.length) qh
 else(List.range (n+1)).map fun i=> .mk t.lv false [] (t.ks.map fun u=>(JS k n u).getD i qh):=by
 cases t with
 |mk l g ds ks=>
  rw[JS,qjz];simp only[List.map_map,RP.lv,RP.ks];rfl
theorem Yc(k:Int)(n:Nat)(t:RP):(JS k n t).length=n+1:=by
 rw[JZ]
 split
 ·simp
 ·split
  ·rw[List.length_append,List.length_take,List.length_replicate];omega
  ·simp
theorem zK{α:Type}{l:List α}{i:Nat}{d:α}{Q:α->Prop}(h:∀x∈l,Q x)(h0:Q d):Q (l.getD i d):=by
 rw[List.getD_eq_getElem?_getD]
 cases hi:l[i]? with
 |none=>exact h0
 |some x=>exact h x (Gk hi)
def sY(y:Rat)(f:Nat->Rat):Nat->Rat
 |0=>0
 |n+1=>sY y f n+f n*y^n
theorem zR(y:Rat){f g:Nat->Rat}:∀n,(∀i,i<n->f i=g i)->sY y f n=sY y g n
 |0,_=>rfl
 |n+1,h=>by
  simp only[sY];rw[zR y n fun i hi=>h i (by omega),h n (by omega)]
theorem qh8(y x:Rat)(f g:Nat->Rat):∀n,sY y (fun i=>f i+x*g i) n=sY y f n+x*sY y g n
 |0=>by simp only[sY];grind
 |n+1=>by
  simp only[sY];rw[qh8 y x f g n]
  grind
theorem Zv(y:Rat):∀n,sY y (fun _=>0) n=0
 |0=>rfl
 |n+1=>by simp only[sY];rw[Zv y n];grind
theorem qao(y:Rat)(f:Nat->Rat):∀n,sY y f (n+1)=f 0+y*sY y (fun i=>f (i+1)) n
 |0=>by simp only[sY,Rat.pow_zero];grind
 |n+1=>by
  rw[sY,qao y f n];simp only[sY,Rat.pow_succ]
  grind
theorem JE(pt:Nat->Rat):vT pt qh=0:=by
 unfold qh;rw[vT,if_pos (by omega)];rfl
theorem qc2(pt:Nat->Rat)(y:Rat):∀(ks:List RP)(n:Nat),ks.length<=n->vL pt y ks=sY y (fun i=>vT pt (ks.getD i qh)) n
 |[],n,_=>by
  rw[vL,zR y (g:=fun _=>0) n (fun i _=>by simp[JE]),Zv]
 |t::ts,0,h=>by simp at h
 |t::ts,n+1,h=>by
  rw[qao,vL,qc2 pt y ts n (by simpa using h)];rfl
theorem qkw{k:Nat}(n:Nat):∀(t:RP),qv t=true->∀c∈JS ((k:Int)+1) n t,zo ((k:Int)+1) c=false
 |t,hc,c,hm=>by
  have hz:=zy (k:=(k:Int)+1) (by omega);rw[JZ]at hm;by_cases h1:t.lv<(k:Int)+1
  ·rw[if_pos h1]at hm;rcases List.mem_cons.1 hm with rfl|hm
   ·exact qcl _ hc h1
   ·rw[(List.mem_replicate.1 hm).2];exact hz
  ·rw[if_neg h1]at hm;rcases qz hc with⟨a,_⟩|⟨a,a4,_,_,c2,RO,_⟩
   ·omega
   ·by_cases h2:t.lv=(k:Int)+1
    ·rw[if_pos h2]at hm;rcases List.mem_append.1 hm with hm|hm
     ·have:=RO c (List.mem_of_mem_take hm);exact qcl c this.2 (by omega)
     ·rw[(List.mem_replicate.1 hm).2];exact hz
    ·rw[if_neg h2]at hm;obtain⟨i,_,rfl⟩:=List.mem_map.1 hm;rw[jc];refine⟨h2,fun u hu=>?_⟩;obtain⟨x,hx,rfl⟩:=List.mem_map.1 hu;exact zK (qkw n x (RO x hx).2) hz
termination_by t=>qC t
decreasing_by exact qY hx
theorem qhm{d m:Nat}(k:Int)(n:Nat):∀(t:RP),qN d m t->∀c∈JS k n t,qN d m c
 |t,hw,c,hm=>by
  rw[JZ]at hm
  split at hm
  ·rcases List.mem_cons.1 hm with rfl|hm
   ·exact hw
   ·rw[(List.mem_replicate.1 hm).2];exact qN.zero d m
  ·split at hm
   ·rcases List.mem_append.1 hm with hm|hm
    ·exact hw.at_.2.2 c (List.mem_of_mem_take hm)
    ·rw[(List.mem_replicate.1 hm).2];exact qN.zero d m
   ·obtain⟨i,_,rfl⟩:=List.mem_map.1 hm;refine qN.mk (Nat.zero_le _) (by rw[List.length_map];exact hw.at_.2.1) fun u hu=>?_;obtain⟨x,hx,rfl⟩:=List.mem_map.1 hu;exact zK (qhm k n x (hw.at_.2.2 x hx)) (qN.zero d m)
termination_by t=>qC t
decreasing_by exact qY hx
theorem qdZ(k:Int)(n:Nat):∀(t:RP),∀c∈JS k n t,qC c<=qC t
 |t,c,hm=>by
  have h1:1<=qC t:=by cases t;simp[qC]
  have hz:qC qh=1:=by simp[qh,qC,Jm]
  rw[JZ]at hm
  split at hm
  ·rcases List.mem_cons.1 hm with rfl|hm
   ·exact Gr _
   ·rw[(List.mem_replicate.1 hm).2];omega
  ·split at hm
   ·rcases List.mem_append.1 hm with hm|hm
    ·have:=qY (List.mem_of_mem_take hm);omega
    ·rw[(List.mem_replicate.1 hm).2];omega
   ·obtain⟨i,_,rfl⟩:=List.mem_map.1 hm;have hl:∀l:List RP,(∀u∈l,qC u<qC t)->Jm l<qC t:=by
     intro l
     induction l with
     |nil=>intro _;simp only[Jm];omega
     |cons u l ih=>
      intro h;have a:=h u List.mem_cons_self;have b:=ih fun x hx=>h x (List.mem_cons_of_mem _ hx);simp only[Jm];omega
    simp only[qC];have:=hl (t.ks.map fun u=>(JS k n u).getD i qh) (fun u hu=>by
     obtain⟨x,hx,rfl⟩:=List.mem_map.1 hu;have h2:=qY hx;have h3:=zK (i:=i) (Q:=fun z=>qC z<=qC x) (qdZ k n x) (by rw[hz];cases x;simp[qC]);exact Nat.lt_of_le_of_lt h3 h2)
    omega
termination_by t=>qC t
decreasing_by exact qY hx
theorem qd3(k:Int)(n:Nat):∀(t:RP),∀c∈JS k n t,jW c<=jW t
 |t,c,hm=>by
  have h1:1<=jW t:=by cases t;simp[jW]
  have hz:jW qh=1:=by simp[qh,jW,yy]
  rw[JZ]at hm
  split at hm
  ·rcases List.mem_cons.1 hm with rfl|hm
   ·exact Gr _
   ·rw[(List.mem_replicate.1 hm).2];omega
  ·split at hm
   ·rcases List.mem_append.1 hm with hm|hm
    ·have h2:∀l:List RP,∀u∈l,jW u<=yy l:=by
      intro l
      induction l with
      |nil=>intro u hu;cases hu
      |cons v l ih=>
       intro u hu;simp only[yy];rcases List.mem_cons.1 hu with rfl|hu
       ·omega
       ·have:=ih u hu;omega
     have:=h2 t.ks c (List.mem_of_mem_take hm);rw[qb5 t];omega
    ·rw[(List.mem_replicate.1 hm).2];omega
   ·obtain⟨i,_,rfl⟩:=List.mem_map.1 hm;have hl:∀l:List RP,(∀u∈l,u∈t.ks)->yy (l.map fun u=>(JS k n u).getD i qh)<=yy l:=by
     intro l
     induction l with
     |nil=>intro _;simp[yy]
     |cons x l ih=>
      intro h;have hx:=h x List.mem_cons_self;have b:=ih fun y hy=>h y (List.mem_cons_of_mem _ hy);have h3:=zK (i:=i) (Q:=fun z=>jW z<=jW x) (qd3 k n x) (by rw[hz];cases x;simp[jW]);simp only[List.map_cons,yy];omega
    have:=hl t.ks fun _ h=>h;rw[qb5 t];simp only[jW];omega
termination_by t=>qC t
decreasing_by exact qY hx
mutual
theorem qh2(X:Nat):∀(t:RP),yP X t->qN X X t
 | .mk l g ds ks,h=>by
   simp only[yP]at h;simp only[qN];exact⟨h.1,h.2.1,qg8 X ks h.2.2⟩
theorem qg8(X:Nat):∀(ts:List RP),SmL X ts->zO X X ts
 |[],_=>by simp[zO]
 |t::ts,h=>by
  simp only[SmL]at h;simp only[zO];exact⟨qh2 X t h.1,qg8 X ts h.2⟩
end
open Classical in
noncomputable def qn(t:RP):RP:=if h:∃T,jb t T then h.choose else qh
theorem zi{t T:RP}(h:jb t T):qn t=T:=by
 have hx:∃T,jb t T:=⟨T,h⟩;unfold qn;rw[dif_pos hx];exact jb.unique hx.choose_spec h
theorem qQ{t:RP}(h:qv t=true):qn t=t:=zi (.inl ⟨h,rfl⟩)
theorem Z6:∀(L:Nat)(ts:List Tm),zg (qZ L ts)=qZ L ts
 |L,[]=>by
  rw[yo];unfold qh;rw[zg,if_pos rfl,show val []=0 from rfl,qH,show decide (qj false []<0)=false from by decide]
 |0,t::r=>by
  rw[qZ];unfold jy;rw[zg,if_pos rfl,jM,qB]
 |L+1,t::r=>by
  rw[qZ]
  split
  ·exact Z6 L (t::r)
  ·rw[zg,if_neg (by omega),qeY]
   congr 1
   refine(List.map_congr_left fun u hu=>?_).trans (List.map_id _);exact Qj (Q:=fun u=>zg u=id u) (qZ L) L _ _ _ (by have:=Z6 0 [];rwa[yo]at this) (fun l _=>Z6 L l) u hu
theorem jb.cp{t T:RP}{w:World}{S:Nat->Prop}{vs:List Value}(h:jb t T)(hv:RV w S t vs):zg T=T:=by
 rcases h with⟨a,rfl⟩|⟨_,P,_,_,rfl⟩
 ·exact qbH _ vs hv a
 ·exact Z6 4 P
structure yz (dg:Nat) (t:RP):Prop where
 dep:qC t<=12
 few:ym dg t
 cnt:jW t<=40000
def J0(t:RP)(w:World)(e:Ending)(w':World):Prop:=∃A c K kc,e= .returned (qm (qn t) A c K kc)/\jb t (qn t)/\RB w' w.heap.size (qn t) (qe (qn t) A c K kc)/\Below w.heap.size w w'
theorem yh(dg:Nat)(Xr:dg<=500)(t:RP)(hf:yz dg t)(A:Oa)(c:Nat)(K:Oa)(kc B:Nat)(w:World)(hB:B<=w.heap.size)(h:RV w (· <B) t (qe t A c K kc)):
 Calls Tryz.prog 11 #[qm t A c K kc] w (J0 t w):=by
 refine(qfO dg Xr t hf.dep hf.few hf.cnt A c K kc B w hB h).mono ?_;rintro e w' ⟨T,A1,c1,K1,kc1,hT,he,hr,hb⟩;have e1:=zi hT;have e2:=hT.cp h;rw[e2]at he hr;unfold J0;rw[e1];exact⟨A1,c1,K1,kc1,he,hT,hr,hb⟩
theorem Qi(l:Int)(w:World):Calls Tryz.prog 32 #[.int .i64 l] w fun e w'=>e= .returned (.bool (decide (1<=l)&&decide (l<=4)))/\w=w':=by
 by_cases h1:1<=l
 ·by_cases h2:l<=4
  ·have e:(decide (1<=l)&&decide (l<=4))=true:=by simp[h1,h2]
   rw[e];go_enter Tryz.func32,Tryz.ntmps32
   go_wp2
   go_ret
   exact⟨by simp,rfl⟩
  ·have e:(decide (1<=l)&&decide (l<=4))=false:=by simp[h2]
   rw[e];go_enter Tryz.func32,Tryz.ntmps32
   go_wp2
   go_ret
   exact⟨by simp,rfl⟩
 ·have e:(decide (1<=l)&&decide (l<=4))=false:=by simp[h1]
  rw[e];go_enter Tryz.func32,Tryz.ntmps32
  go_wp2
  go_ret
  exact⟨by simp,rfl⟩
set_option maxHeartbeats 2000000
set_option maxRecDepth 100000
theorem JJ(dg:Nat)(Xr:dg<=500)(t:RP)(hf:yz dg t)(A:Oa)(c:Nat)(K:Oa)(kc B:Nat)(w:World)(hB:B<=w.heap.size)(h:RV w (· <B) t (qe t A c K kc)):
 Calls Tryz.prog 14 #[qm t A c K kc] w fun e w'=>e= .returned (.bool (qI (qn t)))/\jb t (qn t)/\Below w.heap.size w w':=by
 have Xb:=Gb w (.cells (Gx t A c K kc) 28);have XQ:=Gh (jO dg Xr t hf.dep hf.few hf.cnt A c K kc B _ (Gl hB Xb.size) (h.below (Xb.mono hB)));have Xd:=Gh Xb;unfold qcS at XQ;have HZ:=Gh (fun(T:RP) A c K kc (W:World)=>zf T A c K kc W);clear h hf Xr hB Xb;unfold qm at XQ HZ ⊢;go_enter Tryz.func14,Tryz.ntmps14
 go_wp2_with fail
 refine XQ.out.mono ?_;rintro e w2 ⟨T,A2,c2,K2,kc2,hT,rfl,UD,Uh,Xf⟩;have Xw:=Gh (Gt Xd Xf);have HT:=Gh hT;clear hT UD Uh Xf XQ;go_wp2_with fail
 refine(HZ T A2 c2 K2 kc2 w2).mono ?_;rintro e w3 ⟨rfl,Xz⟩;have Um:=Gh (Gt Xw Xz);clear Xz HZ;go_wp2_with fail
 go_ret
 have e:=zi HT.out;rw[e];exact⟨rfl,HT,Um⟩
set_option maxHeartbeats 4000000
theorem Yj(X:Nat)(hX:X<=100000)(k:Int):∀(D:Nat)(t:RP),qC t<=D->qv t=true->yP X t->∀(A:Oa)(c:Nat)(K:Oa)(kc B:Nat)(w:World),B<=w.heap.size->RV w (· <B) t (qe t A c K kc)->0<k->k<=4->
 Calls Tryz.prog 33 #[qm t A c K kc,.int .i64 k] w fun e w'=>e= .returned (.int .i64 (zW k t:Nat))/\Below w.heap.size w w'
 |0,t,hD,_,_,_,_,_,_,_,_,_,_,_,_=>by cases t;simp only[qC]at hD;omega
 |D+1,t,hD,hc,hf,A,c,K,kc,B,w,hB,h,Xx,Xj=>by
  have IH:=Gh (Yj X hX k D);have HR:=Gh (fun(W:World)(hW:Below w.heap.size w W)=>h.below (hW.mono hB));have HD:=Gh (fun(u:RP)(hu:u∈t.ks)=>show qC u<=D by have:=qY hu;omega);have HF:=Gh hf.at_.2.2;have HB:=Gh hB;have TU:=hf.at_.2.1;have EA:=Gh h.node.2.2.2;have VR:=qz hc;have Xb:=Gb w (.cells #[.int .i64 t.lv,.bool t.ng,.slice A t.ds.length c,.slice K t.ks.length kc] 28);have Ty:=qf.new w 28 #[.int .i64 t.lv,.bool t.ng,.slice A t.ds.length c,.slice K t.ks.length kc];have Xd:=Gh Xb;have Xo:=Gh Ty;have HK:=Gh (And.intro Xx Xj);rw[QO];unfold qm at IH ⊢;clear h hD hf hB Xb Ty hc;by_cases h1:t.lv<k
  ·have HC:=Gh (show((if t.lv<k then 0 else if t.lv=k then t.ks.length-1 else JD k t.ks:Nat):Int)=0 by rw[if_pos h1];rfl);clear VR;generalize (if t.lv<k then 0 else if t.lv=k then t.ks.length-1 else JD k t.ks:Nat)=r at*;generalize t.ds.length=nd at*;generalize t.ks.length=nk at*;generalize t.lv=lv at*;go_enter Tryz.func33,Tryz.ntmps33
   go_wp2_with fail
   go_ret
   exact⟨by rw[HC.out];rfl,Xd⟩
  ·by_cases h2:t.lv=k
   ·have HC:=Gh (show((if t.lv<k then 0 else if t.lv=k then t.ks.length-1 else JD k t.ks:Nat):Int)=(t.ks.length:Int)-1 by
     rw[if_neg h1,if_pos h2];rcases VR with⟨a,_⟩|⟨_,_,_,_,a,_⟩<;>omega)
    clear VR;generalize (if t.lv<k then 0 else if t.lv=k then t.ks.length-1 else JD k t.ks:Nat)=r at*;generalize t.ds.length=nd at*;generalize t.ks.length=nk at*;generalize t.lv=lv at*;subst h2;have e1:decide (lv<lv)=false:=by simp
    have e2:IntKind.i64.wrap ((nk:Int)-1)=(nk:Int)-1:=IntWalk.i64_in _ (by omega);clear h1;go_enter Tryz.func33,Tryz.ntmps33
    go_wp2_with fail
    go_ret
    exact⟨by rw[HC.out];rfl,Xd⟩
   ·have HC:=Gh (show(if t.lv<k then 0 else if t.lv=k then t.ks.length-1 else JD k t.ks:Nat)=JD k t.ks by rw[if_neg h1,if_neg h2]);have CN:=Gh (show∀u∈t.ks,qv u=true by
     rcases VR with⟨a,b,_⟩|⟨_,_,_,_,_,a,_⟩
     ·intro u hu;rw[b]at hu;cases hu
     ·exact fun u hu=>(a u hu).2)
    have DP:=Gh (show∀j,JD k (t.ks.take j)<=X from fun j=>qex (d:=X) (n:=X) k _ (zO.mem.2 fun u hu=>by
     have:=HF.out u (List.mem_of_mem_take hu);clear IH;exact qh2 X u this))
    clear VR;generalize (if t.lv<k then 0 else if t.lv=k then t.ks.length-1 else JD k t.ks:Nat)=r at*;generalize Vx:t.ks.length=nk at*;have UB:=Gh Vx;clear Vx;generalize t.ds.length=nd at*;generalize t.lv=lv at*;have e1:decide (lv<k)=false:=by simp;omega
    have e2:(lv==k)=false:=by simpa using h2
    clear h1 h2;go_enter Tryz.func33,Tryz.ntmps33
    go_wp2_with fail
    generalize w.alloc (.cells #[.int .i64 lv,.bool t.ng,.slice A nd c,.slice K nk kc] 28)=W at*;go_loopg [5,25] nk (fun gn hi ix wr=>∃j:Nat,j<=nk/\gn=nk-j/\ix= .int .i64 j/\hi= .int .i64 (JD k (t.ks.take j):Nat)/\Below w.heap.size w wr)
    case atStart=>exact⟨0,Nat.zero_le _,rfl,rfl,by simp[JD],Xd⟩
    case round=>
     clear Xd Xo;obtain⟨j,hj,XI,rfl,rfl,Xe⟩:=hrel;have HG:=Gh XI;clear XI;by_cases Xi:j<nk
     ·obtain⟨u,hu⟩:∃u,t.ks[j]? =some u:=⟨_,Gn (by rw[UB.out];exact Xi)⟩;obtain⟨b,o,A1,q1,K1,r1,rfl,Tn,x0,x1,x2,x3,XN⟩:=(HR wr Xe).kid hu;have US:=Gk hu;have Xc:=Gb wr (.cells #[.int .i64 u.lv,.bool u.ng,.slice A1 u.ds.length q1,.slice K1 u.ks.length r1] 28);have XR:=Gh (Gt Xe Xc);have VC:=Gh (IH u (HD u US) (CN u US) (HF u US) A1 q1 K1 r1 wr.heap.size _ Xc.size ((XN.more (Gl HB Xe.size)).below Xc) HK.out.1 HK.out.2);have MM:=Gh (qiT (k:=k) hu);have i3:(0:Int)<=(j:Int):=by omega
      have i4:(j:Int)<(nk:Int):=by omega
      have i5:(nk:Int)<=(kc:Int):=by have:=EA.out;omega
      clear hu US XN Xe Xc;generalize zW k u=du at*;generalize JD k (t.ks.take j)=dj at*;generalize u.ds.length=ud at*;generalize u.ks.length=uk at*;generalize u.ng=ug at*;generalize u.lv=ul at*;go_wp2_with fail
      refine VC.out.mono ?_;rintro e w2 ⟨rfl,Xf⟩;have Xw:=Gh (Gt XR Xf);clear Xf VC x0 x1 x2 x3;go_wp2_with fail
      go_roundg (nk-(j+1))
      case rel=>exact⟨j+1,by omega,rfl,by go_num,by rw[MM.out];congr 1;omega,Xw⟩
      case measure=>have:=HG.out;omega
     ·obtain rfl:nk=j:=by omega
      have HF':=Gh (show JD k (t.ks.take nk)=JD k t.ks by rw[List.take_of_length_le (by rw[UB.out];exact Gr _)]);have RX:=Gh Xe;clear Xe;go_wp2_with fail
      go_ret
      exact⟨by rw[HF',HC.out];rfl,RX⟩
noncomputable def yr(k:Int)(t:RP):Int:=if qI (qn t)=true then -1 else if(decide (1<=k)&&decide (k<=4))=true then(zW k (qn t):Nat)else 0
theorem qay{w w1:World}{base:Nat}{T:RP}{A K:Oa}{c kc:Nat}{cs:Array Value}(hk:qf w1 w.heap.size 28 cs)(XE:cs.size=4)(hr:RB w1 base T (qe T A c K kc))(hb:w.heap.size<base)(hw:Below w.heap.size w w1):
 qf ((((w1.setCell ⟨w.heap.size,0,none⟩ (.int .i64 T.lv)).setCell ⟨w.heap.size,1,none⟩ (.bool T.ng)).setCell ⟨w.heap.size,2,none⟩ (.slice A T.ds.length c)).setCell ⟨w.heap.size,3,none⟩ (.slice K T.ks.length kc)) w.heap.size 28 #[.int .i64 T.lv,.bool T.ng,.slice A T.ds.length c,.slice K T.ks.length kc]/\
 RB ((((w1.setCell ⟨w.heap.size,0,none⟩ (.int .i64 T.lv)).setCell ⟨w.heap.size,1,none⟩ (.bool T.ng)).setCell ⟨w.heap.size,2,none⟩ (.slice A T.ds.length c)).setCell ⟨w.heap.size,3,none⟩ (.slice K T.ks.length kc)) base T (qe T A c K kc)/\
 Below w.heap.size w ((((w1.setCell ⟨w.heap.size,0,none⟩ (.int .i64 T.lv)).setCell ⟨w.heap.size,1,none⟩ (.bool T.ng)).setCell ⟨w.heap.size,2,none⟩ (.slice A T.ds.length c)).setCell ⟨w.heap.size,3,none⟩ (.slice K T.ks.length kc)):=by
 obtain⟨s1,s2,s3⟩:=jm (k:=0) hk (.int .i64 T.lv) (.bool T.ng) (.slice A T.ds.length c) (.slice K T.ks.length kc);refine⟨?_,RB.keep hr s2 (fun j ds hg hj=>s3 j ds (by omega) hj) (Gr _),(((hw.setCell (p:=⟨w.heap.size,0,none⟩) (Gr _) _).setCell (p:=⟨w.heap.size,1,none⟩) (Gr _) _).setCell (p:=⟨w.heap.size,2,none⟩) (Gr _) _).setCell (p:=⟨w.heap.size,3,none⟩) (Gr _) _⟩;have e:(((cs.setIfInBounds 0 (Value.int .i64 T.lv)).setIfInBounds (0+1) (.bool T.ng)).setIfInBounds (0+2) (.slice A T.ds.length c)).setIfInBounds (0+3) (.slice K T.ks.length kc)=(Gx T A c K kc):=by
  obtain⟨l⟩:=cs
  match l,XE with
  |[a,b,c',d],_=>rfl
 rw[e]at s1;exact s1
theorem yn(dg:Nat)(Xr:dg<=500)(k:Int)(t:RP)(hf:yz dg t)(Ul:yz dg (qn t))(A:Oa)(c:Nat)(K:Oa)(kc B:Nat)(w:World)(hB:B<=w.heap.size)(h:RV w (· <B) t (qe t A c K kc)):
 Calls Tryz.prog 12 #[qm t A c K kc,.int .i64 k] w fun e w'=>e= .returned (.int .i64 (yr k t))/\jb t (qn t)/\Below w.heap.size w w':=by
 have Xb:=Gb w (.cells (Gx t A c K kc) 28);have Xx:=qf.new w 28 (Gx t A c K kc);have XV:w.heap.size<(w.alloc (.cells (Gx t A c K kc) 28)).heap.size:=Xx.lt;have HN:=Gh (yh dg Xr t hf A c K kc B _ (Gl hB Xb.size) (h.below (Xb.mono hB)));have Xd:=Gh Xb;have Xo:=Gh Xx;have XJ:=Gh XV;unfold J0 at HN;have HZ:=Gh (fun A c K kc (W:World)(h:RV W (· <W.heap.size) (qn t) (qe (qn t) A c K kc))=>JJ dg Xr (qn t) Ul A c K kc W.heap.size W (Gr _) h);have HD:=Gh (fun(h0:0<k)(h4:k<=4)(hc:qv (qn t)=true) A c K kc (W:World)(h:RV W (· <W.heap.size) (qn t) (qe (qn t) A c K kc))=>Yj 1000 (by omega) k (qC (qn t)) (qn t) (Gr _) hc (ym.sm (by omega) (by omega) _ Ul.few) A c K kc W.heap.size W (Gr _) h h0 h4);have SU:=Gh (fun(h:qI (qn t)=true)=>show(-1:Int)=yr k t by unfold yr;rw[if_pos h]);have Ed:=Gh (fun(h:qI (qn t)=false)(hl:(decide (1<=k)&&decide (k<=4))=true)=>show((zW k (qn t):Nat):Int)=yr k t by unfold yr;rw[if_neg (by rw[h];decide),if_pos hl]);have Kz:=Gh (fun(h:qI (qn t)=false)(hl:(decide (1<=k)&&decide (k<=4))=false)=>show(0:Int)=yr k t by unfold yr;rw[if_neg (by rw[h];decide),if_neg (by rw[hl];decide)]);generalize yr k t=rz at*;unfold qm at HN HZ HD ⊢;clear h hf Ul Xr hB Xb Xx XV;generalize hT:qn t=T at*;go_enter Tryz.func12,Tryz.ntmps12
 go_wp2_with fail
 generalize w.alloc (.cells (Gx t A c K kc) 28)=W0 at*;refine HN.out.mono ?_;rintro e w1 ⟨A1,c1,K1,kc1,rfl,Vz,Uy,Xp⟩;have kk:=Xo.out.old Xp;have d0:w1.cell? ⟨w.heap.size,0,none⟩=some (.int .i64 t.lv):=kk.cell 0;have d1:w1.cell? ⟨w.heap.size,1,none⟩=some (.bool t.ng):=kk.cell 1;have d2:w1.cell? ⟨w.heap.size,2,none⟩=some (.slice A t.ds.length c):=kk.cell 2;have d3:w1.cell? ⟨w.heap.size,3,none⟩=some (.slice K t.ks.length kc):=kk.cell 3;obtain⟨f0,f1,f2,f3,z0⟩:=G5 kk;have SV:=Gh (qay kk rfl Uy XJ (Gt Xd Xp));have UR:=Gh Vz;clear kk Uy Xp Vz HN Xo Xd XJ;go_upto_region 2 with(fail)
 generalize (((w1.setCell ⟨w.heap.size,0,none⟩ (.int .i64 T.lv)).setCell ⟨w.heap.size,1,none⟩ (.bool T.ng)).setCell ⟨w.heap.size,2,none⟩ (.slice A1 T.ds.length c1)).setCell ⟨w.heap.size,3,none⟩ (.slice K1 T.ks.length kc1)=W2 at*;clear d0 d1 d2 d3 f0 f1 f2 f3 z0;obtain⟨k2,r2,b2⟩:=SV.out;have c0:W2.cell? ⟨w.heap.size,0,none⟩=some (.int .i64 T.lv):=k2.cell 0;have c1':W2.cell? ⟨w.heap.size,1,none⟩=some (.bool T.ng):=k2.cell 1;have c2:W2.cell? ⟨w.heap.size,2,none⟩=some (.slice A1 T.ds.length c1):=k2.cell 2;have c3:W2.cell? ⟨w.heap.size,3,none⟩=some (.slice K1 T.ks.length kc1):=k2.cell 3;have Vc:=Gh (HZ A1 c1 K1 kc1 W2 r2.rv);have XA:=Gh k2;have Sw:=Gh r2;have Xw:=Gh b2;clear SV k2 r2 b2 HZ;go_wp2_with fail
 refine Vc.out.mono ?_;rintro e w3 ⟨rfl,_,Xz⟩;have HE:=Gh (qQ UR.out.can.1);have Um:=Gh (Gt Xw Xz);have k3:=XA.out.old Xz;have FN:=Gh (Sw.out.old Xz);rw[HE.out];have c0:w3.cell? ⟨w.heap.size,0,none⟩=some (.int .i64 T.lv):=k3.cell 0;have c1':w3.cell? ⟨w.heap.size,1,none⟩=some (.bool T.ng):=k3.cell 1;have c2:w3.cell? ⟨w.heap.size,2,none⟩=some (.slice A1 T.ds.length c1):=k3.cell 2;have c3:w3.cell? ⟨w.heap.size,3,none⟩=some (.slice K1 T.ks.length kc1):=k3.cell 3;clear Xz Vc Xw XA Sw k3
 cases hz:qI T with
 |true=>
  have KN:=Gh (SU hz);clear hz SU Ed Kz;go_wp2_with fail
  go_ret
  exact⟨by rw[<-KN.out];rfl,UR,Um⟩
 |false=>
  have C8:=Gh (Ed hz);have DJ:=Gh (Kz hz);clear hz SU Ed Kz;have HL:=Gh (fun(W:World)=>Qi k W)
  cases hl:(decide (1<=k)&&decide (k<=4))with
  |false=>
   rw[hl]at HL;have KN:=Gh (DJ hl);clear hl C8 DJ;go_wp2_with fail
   refine(HL _).mono ?_;rintro e w4 ⟨rfl,rfl⟩;go_wp2_with fail
   go_ret
   exact⟨by rw[<-KN.out];rfl,UR,Um⟩
  |true=>
   rw[hl]at HL;have KN:=Gh (C8 hl);simp only[Bool.and_eq_true,decide_eq_true_eq]at hl;have Sj:=Gh (HD (by omega) hl.2 UR.out.can.1 A1 c1 K1 kc1 w3 FN.out.rv);clear hl HD C8 DJ;go_wp2_with fail
   refine(HL _).mono ?_;rintro e w4 ⟨rfl,rfl⟩;go_wp2_with fail
   refine Sj.out.mono ?_;rintro e w5 ⟨rfl,XL⟩;have XZ:=Gh (Gt Um XL);clear XL Sj;go_wp2_with fail
   go_ret
   exact⟨by rw[<-KN.out];rfl,UR,XZ⟩
