import Derived.Test.YtflikmojaidhhaaGreatPq11
namespace Go.Proofs.YtflikmojaidhhaaGreat
open Go.RowKit
mutual
def qM(d n:Nat):RP→Prop
 | .mk _ _ ds ks=>ds.length≤d∧ks.length≤n∧Jd d n ks
def Jd(d n:Nat):List RP→Prop
 |[]=>True
 |t::ts=>qM d n t∧Jd d n ts
end
theorem Jd.mem{d n:Nat}{ts:List RP}:Jd d n ts↔∀u∈ts,qM d n u:=by
 induction ts with
 |nil=>simp[Jd]
 |cons t ts ih=>simp[Jd,ih]
theorem qM.at_{d n:Nat}{t:RP}(h:qM d n t):t.ds.length≤d∧t.ks.length≤n∧∀u∈t.ks,qM d n u:=by
 cases t
 simp only[qM]at h;exact⟨h.1,h.2.1,Jd.mem.1 h.2.2⟩
theorem qM.mk{d n:Nat}{l:Int}{g:Bool}{ds:List Nat}{ks:List RP}(h1:ds.length≤d)(h2:ks.length≤n)(h3:∀u∈ks,qM d n u):qM d n (.mk l g ds ks):=by
 simp only[qM];exact⟨h1,h2,Jd.mem.2 h3⟩
theorem qM.zero(d n:Nat):qM d n qa:=qM.mk (Nat.zero_le _) (Nat.zero_le _) (by simp)
mutual
theorem qM.few{d n:Nat}(hn:n≤12):∀(t:RP),qM d n t→yz d t
 | .mk l g ds ks,h=>by
   simp only[qM]at h;simp only[yz];exact⟨h.1,by omega,Jd.few hn ks h.2.2⟩
theorem Jd.few{d n:Nat}(hn:n≤12):∀(ts:List RP),Jd d n ts→Jw d ts
 |[],_=>by simp[Jw]
 |t::ts,h=>by
  simp only[Jd]at h;simp only[Jw];exact⟨qM.few hn t h.1,Jd.few hn ts h.2⟩
end
mutual
theorem qM.mono{d d' n n':Nat}(hd:d≤d')(hn:n≤n'):∀(t:RP),qM d n t→qM d' n' t
 | .mk l g ds ks,h=>by
   simp only[qM]at h ⊢;exact⟨by omega,by omega,Jd.mono hd hn ks h.2.2⟩
theorem Jd.mono{d d' n n':Nat}(hd:d≤d')(hn:n≤n'):∀(ts:List RP),Jd d n ts→Jd d' n' ts
 |[],_=>by simp[Jd]
 |t::ts,h=>by
  simp only[Jd]at h ⊢;exact⟨qM.mono hd hn t h.1,Jd.mono hd hn ts h.2⟩
end
theorem qdO{l:Int}:∀{ks:List RP},zV l ks=true→∀u∈ks,u.lv<l∧qj u=true
 |[],_,_,h=>by cases h
 |k::ks,hc,u,h=>by
  simp only[zV,Bool.and_eq_true,decide_eq_true_eq]at hc;rcases List.mem_cons.1 h with rfl|h
  ·exact hc.1
  ·exact qdO hc.2 u h
theorem qr{t:RP}(h:qj t=true):(t.lv=0∧t.ks=[]∧YB t.ng t.ds=true)∨(1≤t.lv∧t.lv≤4∧t.ds=[]∧t.ng=false∧2≤t.ks.length∧(∀u∈t.ks,u.lv<t.lv∧qj u=true)∧∃u,t.ks[t.ks.length-1]? =some u∧qW u=false):=by
 cases t with
 |mk l g ds ks=>
  rw[qj]at h;simp only[RP.lv,RP.ks,RP.ng,RP.ds];by_cases h0:l=0
  ·rw[if_pos h0]at h;by_cases hk:0<ks.length
   ·rw[if_pos hk]at h;cases h
   ·rw[if_neg hk]at h;exact .inl ⟨h0,List.eq_nil_of_length_eq_zero (by omega),h⟩
  ·rw[if_neg h0]at h
   split at h
   ·cases h
   ·rename_i h1
    split at h
    ·cases h
    ·rename_i h2;simp only[Bool.not_eq_false,Bool.and_eq_true,decide_eq_true_eq,Bool.not_eq_true']at h1 h2;refine .inr ⟨h1.1.1.1.1,h1.1.1.1.2,List.eq_nil_of_length_eq_zero h1.1.1.2,h1.1.2,h1.2,qdO h2,?_⟩;unfold Zs at h
     cases hu:ks[ks.length-1]? with
     |none=>rw[hu]at h;cases h
     |some u=>
      rw[hu]at h;exact⟨u,rfl,by simpa using h⟩
theorem jK{t:RP}(h:qj t=true):0≤t.lv∧t.lv≤4:=by
 rcases qr h with⟨a,_⟩|⟨a,b,_⟩<;>omega
mutual
theorem qfB:∀(t:RP),qj t=true→(qv t:Int)≤t.lv+1
 | .mk l g ds ks,h=>by
   rcases qr h with⟨a,b,_⟩|⟨a,_,_,_,_,c,_⟩
   ·simp only[RP.lv,RP.ks]at a b;subst a;subst b;simp[qv,Qb,RP.lv]
   ·have:=qdd ks l (by simp only[RP.lv]at a;omega) c;simp only[qv,RP.lv];omega
theorem qdd:∀(ks:List RP)(l:Int),0≤l→(∀u∈ks,u.lv<l∧qj u=true)→(Qb ks:Int)≤l
 |[],l,h0,_=>by simp only[Qb];omega
 |k::ks,l,h0,h=>by
  have h1:=h k List.mem_cons_self;have h2:=qfB k h1.2;have h3:=qdd ks l h0 fun u hu=>h u (List.mem_cons_of_mem _ hu);simp only[Qb];omega
end
def YM(n:Nat):Nat→Nat
 |0=>1
 |l+1=>n*YM n l+1
theorem qfQ{n:Nat}(hn:0<n):∀{l l':Nat},l≤l'→YM n l≤YM n l':=by
 intro l l' h
 induction l' with
 |zero=>
  obtain rfl:l=0:=Nat.le_zero.1 h;exact Nat.le_refl _
 |succ l' ih=>
  by_cases e:l=l'+1
  ·rw[e];exact Nat.le_refl _
  ·have h1:=ih (by omega);have h2:1*YM n l'≤n*YM n l':=Nat.mul_le_mul_right _ hn;show _≤n*YM n l'+1;omega
mutual
theorem qft{d n:Nat}(hn:0<n):∀(t:RP),qj t=true→qM d n t→yj t≤YM n t.lv.toNat
 | .mk l g ds ks,h,hw=>by
   simp only[qM]at hw;rcases qr h with⟨a,b,_⟩|⟨a,_,_,_,_,c,_⟩
   ·simp only[RP.lv,RP.ks]at a b;subst a;subst b;simp[yj,zC,RP.lv,YM]
   ·simp only[RP.lv,RP.ks]at a c;obtain⟨m,hm⟩:∃m,l.toNat=m+1:=⟨l.toNat-1,by omega⟩;have h1:=qdr hn ks m (fun u hu=>by
     obtain⟨x1,x2⟩:=c u hu;have x3:u.lv<l:=x1;exact⟨by omega,x2⟩) hw.2.2
    have h2:ks.length*YM n m≤n*YM n m:=Nat.mul_le_mul_right _ hw.2.1;simp only[yj,RP.lv];rw[hm];show _≤n*YM n m+1;omega
theorem qdr{d n:Nat}(hn:0<n):∀(ks:List RP)(m:Nat),(∀u∈ks,u.lv≤(m:Int)∧qj u=true)→Jd d n ks→zC ks≤ks.length*YM n m
 |[],_,_,_=>by simp[zC]
 |k::ks,m,h,hw=>by
  simp only[Jd]at hw;have h1:=h k List.mem_cons_self;have h2:=qft hn k h1.2 hw.1;have h3:=qfQ hn (show k.lv.toNat≤m by omega);have h4:=qdr hn ks m (fun u hu=>h u (List.mem_cons_of_mem _ hu)) hw.2;simp only[zC,List.length_cons];rw[Nat.succ_mul];omega
end
theorem yw{d:Nat}{t:RP}(h:qj t=true)(hw:qM d 5 t):qv t≤5∧yz d t∧yj t≤1000:=by
 have h1:=jK h;have h2:=qfB t h;have h3:=qft (by omega) t h hw;have h4:=qfQ (n:=5) (by omega) (show t.lv.toNat≤4 by omega);have h5:YM 5 4=781:=by decide
 exact⟨by omega,hw.few (by omega),by omega⟩
theorem Yb{Q:RP→Prop}(F:List Tm→RP)(i n:Nat)(ts:List Tm)(k:Nat)(h0:Q qa)(hf:∀l:List Tm,(∀x∈l,x∈ts)→Q (F l)):∀u∈jA F i n ts (List.replicate k qa),Q u:=
 YG _ _ _ _ _ (fun u hu=>by rw[(List.mem_replicate.1 hu).2];exact h0) hf
theorem qap{d n:Nat}(hn:1≤n):∀(L:Nat)(ts:List Tm),L≤4→(∀t∈ts,(dig t.1.natAbs).length≤d∧∀i,i<4→gt t.2 i+1≤(n:Int))→qM d n (qO L ts)
 |L,[],_,_=>by rw[yC];exact qM.zero d n
 |0,t::r,_,h=>by rw[qO];exact qM.mk (h t List.mem_cons_self).1 (Nat.zero_le _) (by simp)
 |L+1,t::r,hL,h=>by
  rw[qO]
  split
  ·exact qap hn L (t::r) (by omega) h
  ·refine qM.mk (Nat.zero_le _) ?_ (Yb _ _ _ _ _ (qM.zero d n) fun l hl=>qap hn L l (by omega) fun x hx=>h x (hl x hx));rw[Qn,List.length_replicate];have:=(h t List.mem_cons_self).2 L (by omega);omega
mutual
theorem qdE{d n:Nat}:∀(t:RP)(m:Mo)(i:Nat),i<4→qj t=true→qM d n t→gt m i≤0→∀x∈ji t m,gt x.2 i+1≤max (n:Int) 1
 | .mk l g ds ks,m,i,hi,h,hw,hm,x,hx=>by
   simp only[qM]at hw;simp only[ji]at hx
   split at hx
   ·rw[List.mem_singleton]at hx;subst hx;show gt m i+1≤_;omega
   ·split at hx
    ·cases hx
    ·rcases qr h with⟨a,b,_⟩|⟨a,_,_,_,_,c,_⟩
     ·simp only[RP.lv]at a;omega
     ·have a:1≤l:=a;have c:∀u∈ks,u.lv<l∧qj u=true:=c;by_cases he:i=l.toNat-1
      ·subst he;rw[JI m hi]at hx;have:=qcV (n:=n) ks m (l.toNat-1) _ hi (fun u hu=>by have:=c u hu;exact⟨by omega,this.2⟩) x hx;omega
      ·exact qbg ks m (l.toNat-1) _ i (by omega) hi he (fun u hu=>(c u hu).2) hw.2.2 hm x hx
theorem qcV{n:Nat}:∀(ks:List RP)(m:Mo)(i:Nat)(e:Int),i<4→(∀u∈ks,u.lv≤(i:Int)∧qj u=true)→∀x∈qX i ks m e,gt x.2 i+1≤e+ks.length
 |[],_,_,_,_,_,x,hx=>by simp[qX]at hx
 |k::ks,m,i,e,hi,h,x,hx=>by
  simp only[qX]at hx;rcases List.mem_append.1 hx with hx|hx
  ·have:=qcI k (js m i e) i hi (h k List.mem_cons_self).1 (h k List.mem_cons_self).2 x hx;rw[this,jV m e hi hi,if_pos rfl];simp only[List.length_cons];omega
  ·have:=qcV (n:=n) ks m i (e+1) hi (fun u hu=>h u (List.mem_cons_of_mem _ hu)) x hx;simp only[List.length_cons];omega
theorem qbg{d n:Nat}:∀(ks:List RP)(m:Mo)(j:Nat)(e:Int)(i:Nat),j<4→i<4→i≠j→(∀u∈ks,qj u=true)→Jd d n ks→gt m i≤0→∀x∈qX j ks m e,gt x.2 i+1≤max (n:Int) 1
 |[],_,_,_,_,_,_,_,_,_,_,x,hx=>by simp[qX]at hx
 |k::ks,m,j,e,i,hj,hi,hij,h,hw,hm,x,hx=>by
  simp only[Jd]at hw;simp only[qX]at hx;rcases List.mem_append.1 hx with hx|hx
  ·exact qdE k (js m j e) i hi (h k List.mem_cons_self) hw.1 (by rw[jV m e hj hi,if_neg hij];exact hm) x hx
  ·exact qbg ks m j (e+1) i hj hi hij (fun u hu=>h u (List.mem_cons_of_mem _ hu)) hw.2 hm x hx
theorem qcI:∀(t:RP)(m:Mo)(i:Nat),i<4→t.lv≤(i:Int)→qj t=true→∀x∈ji t m,gt x.2 i=gt m i
 | .mk l g ds ks,m,i,hi,hl,h,x,hx=>by
   simp only[ji]at hx
   split at hx
   ·rw[List.mem_singleton]at hx;subst hx;rfl
   ·split at hx
    ·cases hx
    ·rcases qr h with⟨a,_⟩|⟨a,_,_,_,_,c,_⟩
     ·simp only[RP.lv]at a;omega
     ·have a:1≤l:=a;have c:∀u∈ks,u.lv<l∧qj u=true:=c;have hl:l≤(i:Int):=hl;exact qcx ks m (l.toNat-1) _ i (by omega) hi (by omega) (fun u hu=>by have:=c u hu;exact⟨by omega,this.2⟩) x hx
theorem qcx:∀(ks:List RP)(m:Mo)(j:Nat)(e:Int)(i:Nat),j<4→i<4→j<i→(∀u∈ks,u.lv≤(i:Int)∧qj u=true)→∀x∈qX j ks m e,gt x.2 i=gt m i
 |[],_,_,_,_,_,_,_,_,x,hx=>by simp[qX]at hx
 |k::ks,m,j,e,i,hj,hi,hji,h,x,hx=>by
  simp only[qX]at hx;rcases List.mem_append.1 hx with hx|hx
  ·rw[qcI k (js m j e) i hi (h k List.mem_cons_self).1 (h k List.mem_cons_self).2 x hx,jV m e hj hi,if_neg (by omega)]
  ·exact qcx ks m j (e+1) i hj hi hji (fun u hu=>h u (List.mem_cons_of_mem _ hu)) x hx
end
mutual
def yI(k:Int):RP→Bool
 | .mk l _ _ ks=>decide (l=k)||ocL k ks
def ocL(k:Int):List RP→Bool
 |[]=>false
 |t::ts=>yI k t||ocL k ts
end
theorem qfi(k:Int)(ts:List RP):ocL k ts=ts.any (yI k):=by
 induction ts with
 |nil=>simp[ocL]
 |cons t ts ih=>simp[ocL,ih]
theorem qg2{k:Int}{ts:List RP}:ocL k ts=false↔∀u∈ts,yI k u=false:=by
 rw[qfi,List.any_eq_false];simp
theorem qS{k:Int}{t:RP}:yI k t=false↔t.lv≠k∧∀u∈t.ks,yI k u=false:=by
 cases t with
 |mk l g ds ks=>
  rw[yI,Bool.or_eq_false_iff,qg2];simp[RP.lv,RP.ks]
theorem yW{k:Int}(hk:0<k):yI k qa=false:=by
 rw[qS];exact⟨by show(0:Int)≠k;omega,by simp[qa,RP.ks]⟩
mutual
theorem QM{k:Int}:∀(t:RP),qj t=true→t.lv<k→yI k t=false
 | .mk l g ds ks,h,hl=>by
   rw[qS];refine⟨by omega,fun u hu=>?_⟩;rcases qr h with⟨_,b,_⟩|⟨_,_,_,_,_,c,_⟩
   ·rw[b]at hu;cases hu
   ·exact qfA ks (fun u hu=>by have:=c u hu;exact⟨by omega,this.2⟩) u hu
theorem qfA{k:Int}:∀(ks:List RP),(∀u∈ks,u.lv<k∧qj u=true)→∀u∈ks,yI k u=false
 |[],_,_,hu=>by cases hu
 |t::ks,h,u,hu=>by
  rcases List.mem_cons.1 hu with e|hu
  ·rw[e];exact QM t (h t List.mem_cons_self).2 (h t List.mem_cons_self).1
  ·exact qfA ks (fun u hu=>h u (List.mem_cons_of_mem _ hu)) u hu
end
mutual
theorem qbN{i:Nat}(hi:i<4):∀(t:RP)(m:Mo),yI ((i:Int)+1) t=false→∀x∈ji t m,gt x.2 i=gt m i
 | .mk l g ds ks,m,h,x,hx=>by
   rw[qS]at h;simp only[RP.lv,RP.ks]at h;simp only[ji]at hx
   split at hx
   ·rw[List.mem_singleton]at hx;subst hx;rfl
   ·split at hx
    ·cases hx
    ·exact qfZ hi ks m (l.toNat-1) _ (by omega) (by omega) h.2 x hx
theorem qfZ{i:Nat}(hi:i<4):∀(ks:List RP)(m:Mo)(j:Nat)(e:Int),j<4→j≠i→(∀u∈ks,yI ((i:Int)+1) u=false)→∀x∈qX j ks m e,gt x.2 i=gt m i
 |[],_,_,_,_,_,_,x,hx=>by simp[qX]at hx
 |k::ks,m,j,e,hj,hji,h,x,hx=>by
  simp only[qX]at hx;rcases List.mem_append.1 hx with hx|hx
  ·rw[qbN hi k (js m j e) (h k List.mem_cons_self) x hx,jV m e hj hi,if_neg (by omega)]
  ·exact qfZ hi ks m j (e+1) hj hji (fun u hu=>h u (List.mem_cons_of_mem _ hu)) x hx
end
theorem qcM{i:Nat}:∀(L:Nat)(ts:List Tm),(∀t∈ts,gt t.2 i=0)→yI ((i:Int)+1) (qO L ts)=false
 |L,[],_=>by rw[yC];exact yW (by omega)
 |0,t::r,_=>by
  rw[qO,qS];exact⟨by show(0:Int)≠_;omega,by simp[ju,RP.ks]⟩
 |L+1,t::r,h=>by
  rw[qO]
  split
  ·exact qcM L (t::r) h
  ·rename_i h0;rw[qS];refine⟨fun e=>h0 ?_,Yb _ _ _ _ _ (yW (by omega)) fun l hl=>qcM L l fun x hx=>h x (hl x hx)⟩;have e':(L:Int)+1=(i:Int)+1:=e;obtain rfl:L=i:=by omega
   exact h t List.mem_cons_self
theorem QS{P:List Tm}{t:RP}(hP:qI P)(h:∀m,cf P m=cf (jY t) m){s:Tm}(hs:s∈P):∃x∈ji t (0,0,0,0),x.2=s.2:=by
 obtain⟨y,hy,_,e⟩:=hP.src h hs;obtain⟨x,hx,rfl⟩:=List.mem_map.1 (show y∈(ji t (0,0,0,0)).map zH from hy);exact⟨x,hx,e⟩
theorem jg.oc{t T:RP}(h:jg t T){i:Nat}(hi:i<4)(ho:yI ((i:Int)+1) t=false):yI ((i:Int)+1) T=false:=by
 rcases h with⟨_,rfl⟩|⟨_,P,h1,h2,rfl⟩
 ·exact ho
 ·refine qcM 4 P fun s hs=>?_;obtain⟨x,hx,e⟩:=QS h1 h2 hs;rw[←e,qbN hi t _ ho x hx];rcases QA hi with rfl|rfl|rfl|rfl<;>rfl
def ptS(pt:Nat→Rat)(i:Nat)(y:Rat):Nat→Rat:=fun j=>if j=i then y else pt j
mutual
theorem qiH{i:Nat}(y:Rat)(pt:Nat→Rat):∀(t:RP),yI ((i:Int)+1) t=false→vT (ptS pt i y) t=vT pt t
 | .mk l g ds ks,h=>by
   rw[qS]at h;simp only[RP.lv,RP.ks]at h;simp only[vT]
   split
   ·rfl
   ·split
    ·rfl
    ·rw[show ptS pt i y (l.toNat-1)=pt (l.toNat-1)from if_neg (by omega)];exact qje y pt ks _ h.2
theorem qje{i:Nat}(y:Rat)(pt:Nat→Rat):∀(ks:List RP)(x:Rat),(∀u∈ks,yI ((i:Int)+1) u=false)→vL (ptS pt i y) x ks=vL pt x ks
 |[],_,_=>by simp[vL]
 |t::ts,x,h=>by
  simp only[vL];rw[qiH y pt t (h t List.mem_cons_self),qje y pt ts x fun u hu=>h u (List.mem_cons_of_mem _ hu)]
end
mutual
def Yz:RP→Int
 | .mk _ g ds ks=>ldL (qb g ds) ks
def ldL(z:Int):List RP→Int
 |[]=>z
 |t::ts=>ldL (Yz t) ts
end
theorem qab:∀(ks:List RP)(z:Int)(u:RP),ks[ks.length-1]? =some u→ldL z ks=Yz u
 |[],_,_,h=>by simp at h
 |[t],z,u,h=>by
  simp at h;subst h;simp[ldL]
 |t::s::ts,z,u,h=>by
  rw[ldL];exact qab (s::ts) _ u (by simpa using h)
theorem qb7(t:RP):Yz t=ldL (qb t.ng t.ds) t.ks:=by
 cases t
 rw[Yz];rfl
theorem Yq{L:Nat}(hL:L<4)(m':Mo):∀(ks:List RP)(m:Mo)(e:Int),(∀u∈ks,u.lv≤(L:Int)∧qj u=true)→
 (∀(j:Nat)(u:RP),ks[j]? =some u→gt m' L=e+j→cf ((qX L ks m e).map zH) m'=cf ((ji u (js m L (e+j))).map zH) m')∧
 ((gt m' L<e∨e+ks.length≤gt m' L)→cf ((qX L ks m e).map zH) m'=0)
 |[],m,e,_=>⟨fun j u h=>by simp at h,fun _=>by simp[qX,Qg]⟩
 |k::ks,m,e,h=>by
  obtain⟨ih1,ih2⟩:=Yq hL m' ks m (e+1) fun u hu=>h u (List.mem_cons_of_mem _ hu);have h0:gt m' L≠e→cf ((ji k (js m L e)).map zH) m'=0:=fun hne=>Ju fun s hs he=>by
   obtain⟨x,hx,rfl⟩:=List.mem_map.1 hs;have h1:=qcI k (js m L e) L hL (h k List.mem_cons_self).1 (h k List.mem_cons_self).2 x hx;rw[jV m e hL hL,if_pos rfl]at h1;have h2:x.2=m':=he;rw[h2]at h1;exact hne h1
  simp only[qX,List.map_append,yS];refine⟨fun j u hj hm=>?_,fun hm=>?_⟩
  ·cases j with
   |zero=>
    simp at hj;subst hj;rw[ih2 (.inl (by omega))];simp
   |succ j=>
    rw[h0 (by omega),ih1 j u (by simpa using hj) (by omega),show e+1+(j:Int)=e+((j+1:Nat):Int)by omega,Int.zero_add]
  ·simp only[List.length_cons]at hm;rw[h0 (by omega),ih2 (by omega),Int.zero_add]
theorem qgE{L:Nat}{a b:Mo}(h:ZW (L+1) a b)(he:gt a L=gt b L):ZW L a b:=by
 rcases h with h|⟨_,h⟩
 ·exact absurd h (by omega)
 ·exact h
theorem qd5{a b:Mo}(h:ZW 4 a b):∀(n L:Nat),L+n=4→(∀j,L≤j→j<4→gt a j=gt b j)→ZW L a b
 |0,L,hL,_=>by
  obtain rfl:L=4:=by omega
  exact h
 |n+1,L,hL,he=>qgE (qd5 h n (L+1) (by omega) fun j h1 h2=>he j (by omega) h2) (he L (Nat.le_refl _) (by omega))
theorem ZI{g:Bool}{ds:List Nat}(h:YB g ds=true)(h0:ds.length≠0):qb g ds≠0:=by
 unfold YB at h;rw[if_neg h0]at h;have h1:ds.getD (ds.length-1) 0≠0:=by simpa using h
 have h2:val ds≠0:=by
  clear h
  induction ds with
  |nil=>exact absurd rfl h0
  |cons d ds ih=>
   intro e;simp only[val]at e
   cases ds with
   |nil=>
    simp at h1;omega
   |cons d' ds=>
    refine ih (by simp) ?_ (by omega);simpa using h1
 have:=qz g ds;omega
theorem qdi:∀(L:Nat),L≤4→∀(t:RP)(m0:Mo),qj t=true→qW t=false→t.lv≤(L:Int)→yH m0=true→
 ∃m,(∀j,L≤j→j<4→gt m j=gt m0 j)∧yH m=true∧cf ((ji t m0).map zH) m=Yz t∧Yz t≠0∧
  ∀m',(∀j,L≤j→j<4→gt m' j=gt m0 j)→Ze m m'→cf ((ji t m0).map zH) m'=0
 |L,hL,t,m0,hc,hz,hl,hv=>by
  rcases qr hc with⟨a,b,c⟩|⟨a,a4,b,b',c2,c,u,hu,huz⟩
  ·have hd:t.ds.length≠0:=fun e=>by
    unfold qW at hz;rw[a,e]at hz
    cases hz
   have e1:Yz t=qb t.ng t.ds:=by rw[qb7,b,ldL]
   have e2:(ji t m0).map zH=[(qb t.ng t.ds,m0)]:=by
    rw[qci,if_pos (by omega)];rfl
   rw[e1,e2];refine⟨m0,fun _ _ _=>rfl,hv,?_,ZI c hd,fun m' _ hm'=>Ju fun s hs e=>?_⟩
   ·rw[jh,if_pos ⟨hv,rfl⟩,Qg,Int.add_zero]
   ·rw[List.mem_singleton]at hs;subst hs;have e':m0=m':=e;rw[e']at hm';exact yP _ hm'
  ·obtain⟨i,hi,hli⟩:∃i:Nat,i<4∧t.lv=(i:Int)+1:=⟨(t.lv-1).toNat,by omega,by omega⟩;have hin:t.lv.toNat-1=i:=by omega
   have hul:=c u (List.mem_of_getElem? hu);have h0:0≤gt m0 i:=ZY.1 hv i hi;have hkids:∀u∈t.ks,u.lv≤(i:Int)∧qj u=true:=fun u hu=>by have:=c u hu;exact⟨by omega,this.2⟩
   have e2:ji t m0=qX i t.ks m0 (gt m0 i):=by
    rw[qci,if_neg (by omega),if_neg (by omega),hin,JI m0 hi]
   have hvs:yH (js m0 i (gt m0 i+((t.ks.length-1:Nat):Int)))=true:=qaf hv hi (by omega);obtain⟨m,k1,k2,k3,k4,k5⟩:=qdi i (by omega) u (js m0 i (gt m0 i+((t.ks.length-1:Nat):Int))) hul.2 huz (by omega) hvs;have e1:Yz t=Yz u:=by rw[qb7];exact qab _ _ _ hu
   have hmi:gt m i=gt m0 i+((t.ks.length-1:Nat):Int):=by
    rw[k1 i (Nat.le_refl _) hi,jV m0 _ hi hi,if_pos rfl]
   have hmj:∀j,i+1≤j→j<4→gt m j=gt m0 j:=fun j h1 h2=>by
    rw[k1 j (by omega) h2,jV m0 _ hi h2,if_neg (by omega)]
   rw[e1,e2];refine⟨m,fun j h1 h2=>hmj j (by omega) h2,k2,?_,k4,fun m' hm' hlt=>?_⟩
   ·rw[(Yq hi m t.ks m0 (gt m0 i) hkids).1 _ u hu hmi,k3]
   ·by_cases hag:∀j,i+1≤j→j<4→gt m' j=gt m0 j
    ·have hs:=qd5 (qe3 hlt) (3-i) (i+1) (by omega) (fun j h1 h2=>by rw[hag j h1 h2,hmj j h1 h2]);have h3:=qfD hs;by_cases h4:gt m' i=gt m0 i+((t.ks.length-1:Nat):Int)
     ·rw[(Yq hi m' t.ks m0 (gt m0 i) hkids).1 _ u hu h4];refine k5 m' (fun j h1 h2=>?_) hlt;rw[jV m0 _ hi h2]
      split
      ·rename_i e;rw[e];exact h4
      ·exact hag j (by omega) h2
     ·exact(Yq hi m' t.ks m0 (gt m0 i) hkids).2 (.inr (by omega))
    ·refine Ju fun s hs e=>hag fun j h1 h2=>?_;obtain⟨x,hx,rfl⟩:=List.mem_map.1 hs;have e':x.2=m':=e;rw[←e'];exact qcx t.ks m0 i _ j hi h2 (by omega) (fun u hu=>by have:=hkids u hu;exact⟨by omega,this.2⟩) x hx
termination_by L _ t=>qv t
decreasing_by exact qD (List.mem_of_getElem? hu)
theorem qgw{T:RP}{P:List Tm}(hc:qj T=true)(hz:qW T=false)(hP:qI P)(h:∀m,cf P m=cf (jY T) m):∃t r,P=t::r∧t.1=Yz T:=by
 obtain⟨m,_,_,k3,k4,k5⟩:=qdi 4 (by omega) T (0,0,0,0) hc hz (jK hc).2 (by decide);rw[←zL,←h]at k3
 cases P with
 |nil=>rw[Qg]at k3;exact absurd k3.symm k4
 |cons t r=>
  refine⟨t,r,rfl,?_⟩;rcases Yr t.2 m with e|e|e
  ·rw[hP.above e]at k3;exact absurd k3.symm k4
  ·rw[←k3,←e,hP.head]
  ·have:=k5 t.2 (fun j h1 h2=>absurd h2 (by omega)) e;rw[←zL,←h,hP.head]at this;exact absurd this (hP.ne t List.mem_cons_self)
mutual
theorem qcr{w:World}{S:Nat→Prop}:∀(T:RP)(vs:List Value),RV w S T vs→qj T=true→zu T=T
 | .mk l g ds ks,vs,h,hc=>by
   unfold RV at h;obtain⟨A,c,K,kc,_,_,h3,_,_,rows,_,h7⟩:=h;rcases qr hc with⟨a,b,e⟩|⟨a,_,b,b',_,e,_⟩
   ·simp only[RP.lv,RP.ks,RP.ng,RP.ds]at a b e;subst a;subst b;rw[zu,if_pos rfl];by_cases hd:ds.length=0
    ·obtain rfl:ds=[]:=List.eq_nil_of_length_eq_zero hd;unfold YB at e;simp at e;subst e;rw[show val []=0 from rfl,qt,show decide (qb false []<0)=false from by decide]
    ·have hne:=ZI e hd;unfold YB at e;rw[if_neg hd]at e;have hdv:dig (val ds)=ds:=qfY h3 (by
      intro h0;simp at e;rw[List.getLast_eq_getElem];rw[List.getElem?_eq_getElem (by omega)]at e;simpa using e)
     rw[hdv];have hg:decide (qb g ds<0)=g:=by
      have hv:0<val ds:=by have:=qz g ds;omega
      unfold qb
      cases g<;>simp<;>omega
     rw[hg]
   ·simp only[RP.lv,RP.ks,RP.ng,RP.ds]at a b b' e;subst b;subst b';rw[zu,if_neg (by omega),qd4 ks rows h7 fun u hu=>(e u hu).2]
theorem qd4{w:World}{S:Nat→Prop}:∀(ts:List RP)(rows:List (List Value)),qH w S ts rows→(∀u∈ts,qj u=true)→cpL ts=ts
 |[],_,_,_=>by rw[cpL]
 |t::ts,rows,h,hc=>by
  unfold qH at h;obtain⟨r,rs,_,h2,h3⟩:=h;rw[cpL,qcr t r h2 (hc t List.mem_cons_self),qd4 ts rs h3 fun u hu=>hc u (List.mem_cons_of_mem _ hu)]
end
mutual
def zo(k:Int):RP→Nat
 | .mk l _ _ ks=>if l<k then 0 else if l=k then ks.length-1 else Jm k ks
def Jm(k:Int):List RP→Nat
 |[]=>0
 |t::ts=>max (zo k t) (Jm k ts)
end
theorem JM(k:Int)(t:RP):zo k t=if t.lv<k then 0 else if t.lv=k then t.ks.length-1 else Jm k t.ks:=by
 cases t
 rw[zo];rfl
theorem qac(k:Int):∀(ts us:List RP),Jm k (ts++us)=max (Jm k ts) (Jm k us)
 |[],us=>by simp[Jm]
 |t::ts,us=>by
  simp only[List.cons_append,Jm,qac k ts us];omega
theorem qdu{k:Int}{ts:List RP}{j:Nat}{u:RP}(h:ts[j]? =some u):Jm k (ts.take (j+1))=max (Jm k (ts.take j)) (zo k u):=by
 obtain⟨hj,rfl⟩:=List.getElem?_eq_some_iff.1 h;rw[List.take_succ_eq_append_getElem hj,qac];simp[Jm]
theorem Yv{k:Int}{ts:List RP}{u:RP}(h:u∈ts):zo k u≤Jm k ts:=by
 induction ts with
 |nil=>cases h
 |cons t ts ih=>
  simp only[Jm];rcases List.mem_cons.1 h with rfl|h
  ·omega
  ·have:=ih h;omega
mutual
theorem qaN{d n:Nat}(k:Int):∀(t:RP),qM d n t→zo k t≤n
 | .mk l g ds ks,h=>by
   simp only[qM]at h;simp only[zo]
   split
   ·omega
   ·split
    ·omega
    ·exact qbQ k ks h.2.2
theorem qbQ{d n:Nat}(k:Int):∀(ts:List RP),Jd d n ts→Jm k ts≤n
 |[],_=>by simp[Jm]
 |t::ts,h=>by
  simp only[Jd]at h;have h1:=qaN k t h.1;have h2:=qbQ k ts h.2;simp only[Jm];omega
end
mutual
def JV(k:Int)(n:Nat):RP→List RP
 | .mk l g ds ks=>if l<k then .mk l g ds ks::List.replicate n qa
    else if l=k then ks.take (n+1)++List.replicate (n+1-ks.length) qa
    else(List.range (n+1)).map fun i=> .mk l false [] ((coL k n ks).map fun c=>c.getD i qa)
def coL(k:Int)(n:Nat):List RP→List (List RP)
 |[]=>[]
 |t::ts=>JV k n t::coL k n ts
end
theorem qju(k:Int)(n:Nat)(ts:List RP):coL k n ts=ts.map (JV k n):=by
 induction ts with
 |nil=>simp[coL]
 |cons t ts ih=>simp[coL,ih]
theorem JH(k:Int)(n:Nat)(t:RP):JV k n t=if t.lv<k then t::List.replicate n qa else if t.lv=k then t.ks.take (n+1)++List.replicate (n+1-t.ks.length) qa
 else(List.range (n+1)).map fun i=> .mk t.lv false [] (t.ks.map fun u=>(JV k n u).getD i qa):=by
 cases t with
 |mk l g ds ks=>
  rw[JV,qju];simp only[List.map_map,RP.lv,RP.ks];rfl
theorem Yx(k:Int)(n:Nat)(t:RP):(JV k n t).length=n+1:=by
 rw[JH]
 split
 ·simp
 ·split
  ·rw[List.length_append,List.length_take,List.length_replicate];omega
  ·simp
theorem jX{α:Type}{l:List α}{i:Nat}{d:α}{Q:α→Prop}(h:∀x∈l,Q x)(h0:Q d):Q (l.getD i d):=by
 rw[List.getD_eq_getElem?_getD]
 cases hi:l[i]? with
 |none=>exact h0
 |some x=>exact h x (List.mem_of_getElem? hi)
def sY(y:Rat)(f:Nat→Rat):Nat→Rat
 |0=>0
 |n+1=>sY y f n+f n*y^n
theorem jN(y:Rat){f g:Nat→Rat}:∀n,(∀i,i<n→f i=g i)→sY y f n=sY y g n
 |0,_=>rfl
 |n+1,h=>by
  simp only[sY];rw[jN y n fun i hi=>h i (by omega),h n (by omega)]
theorem qeq(y x:Rat)(f g:Nat→Rat):∀n,sY y (fun i=>f i+x*g i) n=sY y f n+x*sY y g n
 |0=>by simp only[sY];grind
 |n+1=>by
  simp only[sY];rw[qeq y x f g n]
  grind
theorem Ql(y:Rat):∀n,sY y (fun _=>0) n=0
 |0=>rfl
 |n+1=>by simp only[sY];rw[Ql y n];grind
theorem J0(y:Rat)(f:Nat→Rat):∀n,sY y f (n+1)=f 0+y*sY y (fun i=>f (i+1)) n
 |0=>by simp only[sY,Rat.pow_zero];grind
 |n+1=>by
  rw[sY,J0 y f n];simp only[sY,Rat.pow_succ]
  grind
theorem yn(pt:Nat→Rat):vT pt qa=0:=by
 unfold qa;rw[vT,if_pos (by omega)];rfl
theorem qfW(pt:Nat→Rat)(y:Rat):∀(ks:List RP)(n:Nat),ks.length≤n→vL pt y ks=sY y (fun i=>vT pt (ks.getD i qa)) n
 |[],n,_=>by
  rw[vL,jN y (g:=fun _=>0) n (fun i _=>by simp[yn]),Ql]
 |t::ts,0,h=>by simp at h
 |t::ts,n+1,h=>by
  rw[J0,vL,qfW pt y ts n (by simpa using h)];rfl
theorem qhb{k:Nat}(hk:k<4)(pt:Nat→Rat)(n:Nat):∀(t:RP),qj t=true→zo ((k:Int)+1) t≤n→vT pt t=sY (pt k) (fun i=>vT pt ((JV ((k:Int)+1) n t).getD i qa)) (n+1)
 |t,hc,hn=>by
  rw[JH];rw[JM]at hn;by_cases h1:t.lv<(k:Int)+1
  ·rw[if_pos h1,J0];have e:sY (pt k) (fun i=>vT pt ((t::List.replicate n qa).getD (i+1) qa)) n=0:=by
    rw[jN (pt k) (g:=fun _=>0) n (fun i hi=>by simp[hi,yn]),Ql]
   rw[e];show vT pt t=vT pt t+_
   grind
  ·rw[if_neg h1];rw[if_neg h1]at hn;rcases qr hc with⟨a,_⟩|⟨a,a4,_,_,c2,c,_⟩
   ·omega
   ·have hv:vT pt t=vL pt (pt (t.lv.toNat-1)) t.ks:=by rw[zI,if_neg (by omega),if_neg (by omega)]
    by_cases h2:t.lv=(k:Int)+1
    ·rw[if_pos h2]at hn ⊢;rw[hv,show t.lv.toNat-1=k by omega,qfW pt (pt k) t.ks (n+1) (by omega)];refine jN _ _ fun i hi=>?_
     congr 1
     rw[List.take_of_length_le (by omega)];rw[List.getD_eq_getElem?_getD,List.getD_eq_getElem?_getD];by_cases hi2:i<t.ks.length
     ·rw[List.getElem?_append_left hi2]
     ·rw[List.getElem?_append_right (by omega),List.getElem?_eq_none (by omega)]
      cases hz:(List.replicate (n+1-t.ks.length) qa)[i-t.ks.length]? with
      |none=>rfl
      |some u=>rw[(List.mem_replicate.1 (List.mem_of_getElem? hz)).2];rfl
    ·rw[if_neg h2]at hn ⊢;rw[hv];have hkids:∀ks:List RP,(∀u∈ks,u∈t.ks)→vL pt (pt (t.lv.toNat-1)) ks=sY (pt k) (fun i=>vL pt (pt (t.lv.toNat-1)) (ks.map fun u=>(JV ((k:Int)+1) n u).getD i qa)) (n+1):=by
      intro ks
      induction ks with
      |nil=>
       intro _;rw[vL,jN (pt k) (g:=fun _=>0) (n+1) (fun i _=>by simp[vL]),Ql]
      |cons u ks ih=>
       intro hm;have hu:=hm u List.mem_cons_self;have h3:=qhb hk pt n u (c u hu).2 (Nat.le_trans (Yv hu) hn);rw[vL,ih fun x hx=>hm x (List.mem_cons_of_mem _ hx),h3,←qeq];refine jN _ _ fun i _=>?_;simp only[List.map_cons,vL]
     rw[hkids t.ks fun _ h=>h];refine jN _ _ fun i hi=>?_;rw[List.getD_eq_getElem?_getD,List.getElem?_map,List.getElem?_range hi];simp only[Option.map_some,Option.getD_some];rw[vT,if_neg (by omega),if_neg (by omega)]
termination_by t=>qv t
decreasing_by exact qD hu
theorem qi1{k:Nat}(n:Nat):∀(t:RP),qj t=true→∀c∈JV ((k:Int)+1) n t,yI ((k:Int)+1) c=false
 |t,hc,c,hm=>by
  have hz:=yW (k:=(k:Int)+1) (by omega);rw[JH]at hm;by_cases h1:t.lv<(k:Int)+1
  ·rw[if_pos h1]at hm;rcases List.mem_cons.1 hm with rfl|hm
   ·exact QM _ hc h1
   ·rw[(List.mem_replicate.1 hm).2];exact hz
  ·rw[if_neg h1]at hm;rcases qr hc with⟨a,_⟩|⟨a,a4,_,_,c2,hc',_⟩
   ·omega
   ·by_cases h2:t.lv=(k:Int)+1
    ·rw[if_pos h2]at hm;rcases List.mem_append.1 hm with hm|hm
     ·have:=hc' c (List.mem_of_mem_take hm);exact QM c this.2 (by omega)
     ·rw[(List.mem_replicate.1 hm).2];exact hz
    ·rw[if_neg h2]at hm;obtain⟨i,_,rfl⟩:=List.mem_map.1 hm;rw[qS];refine⟨h2,fun u hu=>?_⟩;obtain⟨x,hx,rfl⟩:=List.mem_map.1 hu;exact jX (qi1 n x (hc' x hx).2) hz
termination_by t=>qv t
decreasing_by exact qD hx
theorem qhd{d m:Nat}(k:Int)(n:Nat):∀(t:RP),qM d m t→∀c∈JV k n t,qM d m c
 |t,hw,c,hm=>by
  rw[JH]at hm
  split at hm
  ·rcases List.mem_cons.1 hm with rfl|hm
   ·exact hw
   ·rw[(List.mem_replicate.1 hm).2];exact qM.zero d m
  ·split at hm
   ·rcases List.mem_append.1 hm with hm|hm
    ·exact hw.at_.2.2 c (List.mem_of_mem_take hm)
    ·rw[(List.mem_replicate.1 hm).2];exact qM.zero d m
   ·obtain⟨i,_,rfl⟩:=List.mem_map.1 hm;refine qM.mk (Nat.zero_le _) (by rw[List.length_map];exact hw.at_.2.1) fun u hu=>?_;obtain⟨x,hx,rfl⟩:=List.mem_map.1 hu;exact jX (qhd k n x (hw.at_.2.2 x hx)) (qM.zero d m)
termination_by t=>qv t
decreasing_by exact qD hx
theorem qiJ(k:Int)(n:Nat):∀(t:RP),∀c∈JV k n t,qv c≤qv t
 |t,c,hm=>by
  have h1:1≤qv t:=by cases t;simp[qv]
  have hz:qv qa=1:=by simp[qa,qv,Qb]
  rw[JH]at hm
  split at hm
  ·rcases List.mem_cons.1 hm with rfl|hm
   ·exact Nat.le_refl _
   ·rw[(List.mem_replicate.1 hm).2];omega
  ·split at hm
   ·rcases List.mem_append.1 hm with hm|hm
    ·have:=qD (List.mem_of_mem_take hm);omega
    ·rw[(List.mem_replicate.1 hm).2];omega
   ·obtain⟨i,_,rfl⟩:=List.mem_map.1 hm;have hl:∀l:List RP,(∀u∈l,qv u<qv t)→Qb l<qv t:=by
     intro l
     induction l with
     |nil=>intro _;simp only[Qb];omega
     |cons u l ih=>
      intro h;have a:=h u List.mem_cons_self;have b:=ih fun x hx=>h x (List.mem_cons_of_mem _ hx);simp only[Qb];omega
    simp only[qv];have:=hl (t.ks.map fun u=>(JV k n u).getD i qa) (fun u hu=>by
     obtain⟨x,hx,rfl⟩:=List.mem_map.1 hu;have h2:=qD hx;have h3:=jX (i:=i) (Q:=fun z=>qv z≤qv x) (qiJ k n x) (by rw[hz];cases x;simp[qv]);exact Nat.lt_of_le_of_lt h3 h2)
    omega
termination_by t=>qv t
decreasing_by exact qD hx
theorem qeV(k:Int)(n:Nat):∀(t:RP),∀c∈JV k n t,yj c≤yj t
 |t,c,hm=>by
  have h1:1≤yj t:=by cases t;simp[yj]
  have hz:yj qa=1:=by simp[qa,yj,zC]
  rw[JH]at hm
  split at hm
  ·rcases List.mem_cons.1 hm with rfl|hm
   ·exact Nat.le_refl _
   ·rw[(List.mem_replicate.1 hm).2];omega
  ·split at hm
   ·rcases List.mem_append.1 hm with hm|hm
    ·have h2:∀l:List RP,∀u∈l,yj u≤zC l:=by
      intro l
      induction l with
      |nil=>intro u hu;cases hu
      |cons v l ih=>
       intro u hu;simp only[zC];rcases List.mem_cons.1 hu with rfl|hu
       ·omega
       ·have:=ih u hu;omega
     have:=h2 t.ks c (List.mem_of_mem_take hm);rw[qb5 t];omega
    ·rw[(List.mem_replicate.1 hm).2];omega
   ·obtain⟨i,_,rfl⟩:=List.mem_map.1 hm;have hl:∀l:List RP,(∀u∈l,u∈t.ks)→zC (l.map fun u=>(JV k n u).getD i qa)≤zC l:=by
     intro l
     induction l with
     |nil=>intro _;simp[zC]
     |cons x l ih=>
      intro h;have hx:=h x List.mem_cons_self;have b:=ih fun y hy=>h y (List.mem_cons_of_mem _ hy);have h3:=jX (i:=i) (Q:=fun z=>yj z≤yj x) (qeV k n x) (by rw[hz];cases x;simp[yj]);simp only[List.map_cons,zC];omega
    have:=hl t.ks fun _ h=>h;rw[qb5 t];simp only[yj];omega
termination_by t=>qv t
decreasing_by exact qD hx
mutual
theorem qfv(X:Nat):∀(t:RP),yf X t→qM X X t
 | .mk l g ds ks,h=>by
   simp only[yf]at h;simp only[qM];exact⟨h.1,h.2.1,qi0 X ks h.2.2⟩
theorem qi0(X:Nat):∀(ts:List RP),SmL X ts→Jd X X ts
 |[],_=>by simp[Jd]
 |t::ts,h=>by
  simp only[SmL]at h;simp only[Jd];exact⟨qfv X t h.1,qi0 X ts h.2⟩
end
open Classical in
noncomputable def qq(t:RP):RP:=if h:∃T,jg t T then h.choose else qa
theorem QH{t T:RP}(h:jg t T):qq t=T:=by
 have hx:∃T,jg t T:=⟨T,h⟩;unfold qq;rw[dif_pos hx];exact jg.unique hx.choose_spec h
theorem qw{t:RP}(h:qj t=true):qq t=t:=QH (.inl ⟨h,rfl⟩)
theorem Z2:∀(L:Nat)(ts:List Tm),zu (qO L ts)=qO L ts
 |L,[]=>by
  rw[yC];unfold qa;rw[zu,if_pos rfl,show val []=0 from rfl,qt,show decide (qb false []<0)=false from by decide]
 |0,t::r=>by
  rw[qO];unfold ju;rw[zu,if_pos rfl,q7,qp]
 |L+1,t::r=>by
  rw[qO]
  split
  ·exact Z2 L (t::r)
  ·rw[zu,if_neg (by omega),qe8]
   congr 1
   refine(List.map_congr_left fun u hu=>?_).trans (List.map_id _);exact Yb (Q:=fun u=>zu u=id u) (qO L) L _ _ _ (by have:=Z2 0 [];rwa[yC]at this) (fun l _=>Z2 L l) u hu
theorem jg.cp{t T:RP}{w:World}{S:Nat→Prop}{vs:List Value}(h:jg t T)(hv:RV w S t vs):zu T=T:=by
 rcases h with⟨a,rfl⟩|⟨_,P,_,_,rfl⟩
 ·exact qcr _ vs hv a
 ·exact Z2 4 P
structure zU (dg:Nat) (t:RP):Prop where
 dep:qv t≤12
 few:yz dg t
 cnt:yj t≤1000
def Ya(t:RP)(w:World)(e:Ending)(w':World):Prop:=∃A c K kc,e= .returned (qn (qq t) A c K kc)∧jg t (qq t)∧RB w' w.heap.size (qq t) (qc (qq t) A c K kc)∧Below w.heap.size w w'
theorem zT(dg:Nat)(hdg:dg≤500)(t:RP)(hf:zU dg t)(A:Option Addr)(c:Nat)(K:Option Addr)(kc B:Nat)(w:World)(hB:B≤w.heap.size)(h:RV w (· <B) t (qc t A c K kc)):
 Calls Tryz.prog 16 #[qn t A c K kc] w (Ya t w):=by
 refine(qgg dg hdg t hf.dep hf.few hf.cnt A c K kc B w hB h).mono ?_;rintro e w' ⟨T,A1,c1,K1,kc1,hT,he,hr,hb⟩;have e1:=QH hT;have e2:=hT.cp h;rw[e2]at he hr;unfold Ya;rw[e1];exact⟨A1,c1,K1,kc1,he,hT,hr,hb⟩
theorem qea(l:Int)(w:World):Calls Tryz.prog 53 #[.int .i64 l] w fun e w'=>e= .returned (.bool (decide (1≤l)&&decide (l≤4)))∧w=w':=by
 by_cases h1:1≤l
 ·by_cases h2:l≤4
  ·have e:(decide (1≤l)&&decide (l≤4))=true:=by simp[h1,h2]
   rw[e];go_enter Tryz.func53,Tryz.ntmps53
   go_wp2
   go_ret
   exact⟨by simp,rfl⟩
  ·have e:(decide (1≤l)&&decide (l≤4))=false:=by simp[h2]
   rw[e];go_enter Tryz.func53,Tryz.ntmps53
   go_wp2
   go_ret
   exact⟨by simp,rfl⟩
 ·have e:(decide (1≤l)&&decide (l≤4))=false:=by simp[h1]
  rw[e];go_enter Tryz.func53,Tryz.ntmps53
  go_wp2
  go_ret
  exact⟨by simp,rfl⟩
set_option maxHeartbeats 2000000
set_option maxRecDepth 100000
theorem qcK(dg:Nat)(hdg:dg≤500)(t:RP)(hf:zU dg t)(A:Option Addr)(c:Nat)(K:Option Addr)(kc B:Nat)(w:World)(hB:B≤w.heap.size)(h:RV w (· <B) t (qc t A c K kc)):
 Calls Tryz.prog 13 #[qn t A c K kc] w fun e w'=>e= .returned (.bool (qW (qq t)))∧jg t (qq t)∧Below w.heap.size w w':=by
 have hb0:=(Below.refl w.heap.size w).alloc (Nat.le_refl _) (.cells #[.int .i64 t.lv,.bool t.ng,.slice A t.ds.length c,.slice K t.ks.length kc] 28);have HCA:=Lib.hid (Y5 dg hdg t hf.dep hf.few hf.cnt A c K kc B _ (Nat.le_trans hB hb0.size) (h.below (hb0.mono hB)));have HB0:=Lib.hid hb0;unfold qkb at HCA;have HZ:=Lib.hid (fun(T:RP) A c K kc (W:World)=>Jz T A c K kc W);clear h hf hdg hB hb0;unfold qn at HCA HZ ⊢;go_enter Tryz.func13,Tryz.ntmps13
 go_wp2_with fail
 refine HCA.out.mono ?_;rintro e w2 ⟨T,A2,c2,K2,kc2,hT,rfl,hrv,hsm,hb2⟩;have HB2:=Lib.hid (HB0.out.trans (hb2.mono HB0.out.size));have HT:=Lib.hid hT;clear hT hrv hsm hb2 HCA;go_wp2_with fail
 refine(HZ.out T A2 c2 K2 kc2 w2).mono ?_;rintro e w3 ⟨rfl,hb3⟩;have HB3:=Lib.hid (HB2.out.trans (hb3.mono HB2.out.size));clear hb3 HZ;go_wp2_with fail
 go_ret
 have e:=QH HT.out;rw[e];exact⟨rfl,HT.out,HB3.out⟩
set_option maxHeartbeats 4000000
theorem qaj(X:Nat)(hX:X≤100000)(k:Int):∀(D:Nat)(t:RP),qv t≤D→qj t=true→yf X t→∀(A:Option Addr)(c:Nat)(K:Option Addr)(kc B:Nat)(w:World),B≤w.heap.size→RV w (· <B) t (qc t A c K kc)→0<k→k≤4→
 Calls Tryz.prog 54 #[qn t A c K kc,.int .i64 k] w fun e w'=>e= .returned (.int .i64 (zo k t:Nat))∧Below w.heap.size w w'
 |0,t,hD,_,_,_,_,_,_,_,_,_,_,_,_=>by cases t;simp only[qv]at hD;omega
 |D+1,t,hD,hc,hf,A,c,K,kc,B,w,hB,h,hk0,hk4=>by
  have IH:=Lib.hid (qaj X hX k D);have HR:=Lib.hid (fun(W:World)(hW:Below w.heap.size w W)=>h.below (hW.mono hB));have HD:=Lib.hid (fun(u:RP)(hu:u∈t.ks)=>show qv u≤D by have:=qD hu;omega);have HF:=Lib.hid hf.at_.2.2;have HB:=Lib.hid hB;have hkl:=hf.at_.2.1;have HKC:=Lib.hid h.node.2.2.2;have hpt:=qr hc;have hb0:=(Below.refl w.heap.size w).alloc (Nat.le_refl _) (.cells #[.int .i64 t.lv,.bool t.ng,.slice A t.ds.length c,.slice K t.ks.length kc] 28);have hk0':=qd.new w 28 #[.int .i64 t.lv,.bool t.ng,.slice A t.ds.length c,.slice K t.ks.length kc];have HB0:=Lib.hid hb0;have HK0:=Lib.hid hk0';have HK:=Lib.hid (And.intro hk0 hk4);rw[JM];unfold qn at IH ⊢;clear h hD hf hB hb0 hk0' hc;by_cases h1:t.lv<k
  ·have HC:=Lib.hid (show((if t.lv<k then 0 else if t.lv=k then t.ks.length-1 else Jm k t.ks:Nat):Int)=0 by rw[if_pos h1];rfl);clear hpt;generalize (if t.lv<k then 0 else if t.lv=k then t.ks.length-1 else Jm k t.ks:Nat)=r at*;generalize t.ds.length=nd at*;generalize t.ks.length=nk at*;generalize t.lv=lv at*;go_enter Tryz.func54,Tryz.ntmps54
   go_wp2_with fail
   go_ret
   exact⟨by rw[HC.out];rfl,HB0.out⟩
  ·by_cases h2:t.lv=k
   ·have HC:=Lib.hid (show((if t.lv<k then 0 else if t.lv=k then t.ks.length-1 else Jm k t.ks:Nat):Int)=(t.ks.length:Int)-1 by
     rw[if_neg h1,if_pos h2];rcases hpt with⟨a,_⟩|⟨_,_,_,_,a,_⟩<;>omega)
    clear hpt;generalize (if t.lv<k then 0 else if t.lv=k then t.ks.length-1 else Jm k t.ks:Nat)=r at*;generalize t.ds.length=nd at*;generalize t.ks.length=nk at*;generalize t.lv=lv at*;subst h2;have e1:decide (lv<lv)=false:=by simp
    have e2:IntKind.i64.wrap ((nk:Int)-1)=(nk:Int)-1:=IntWalk.i64_in _ (by omega);clear h1;go_enter Tryz.func54,Tryz.ntmps54
    go_wp2_with fail
    go_ret
    exact⟨by rw[HC.out];rfl,HB0.out⟩
   ·have HC:=Lib.hid (show(if t.lv<k then 0 else if t.lv=k then t.ks.length-1 else Jm k t.ks:Nat)=Jm k t.ks by rw[if_neg h1,if_neg h2]);have HCK:=Lib.hid (show∀u∈t.ks,qj u=true by
     rcases hpt with⟨a,b,_⟩|⟨_,_,_,_,_,a,_⟩
     ·intro u hu;rw[b]at hu;cases hu
     ·exact fun u hu=>(a u hu).2)
    have HDL:=Lib.hid (show∀j,Jm k (t.ks.take j)≤X from fun j=>qbQ (d:=X) (n:=X) k _ (Jd.mem.2 fun u hu=>by
     have:=HF.out u (List.mem_of_mem_take hu);clear IH;exact qfv X u this))
    clear hpt;generalize (if t.lv<k then 0 else if t.lv=k then t.ks.length-1 else Jm k t.ks:Nat)=r at*;generalize hnk:t.ks.length=nk at*;have HNK:=Lib.hid hnk;clear hnk;generalize t.ds.length=nd at*;generalize t.lv=lv at*;have e1:decide (lv<k)=false:=by simp;omega
    have e2:(lv==k)=false:=by simpa using h2
    clear h1 h2;go_enter Tryz.func54,Tryz.ntmps54
    go_wp2_with fail
    generalize w.alloc (.cells #[.int .i64 lv,.bool t.ng,.slice A nd c,.slice K nk kc] 28)=W at*;go_loopg [5,25] nk (fun gn hi ix wr=>∃j:Nat,j≤nk∧gn=nk-j∧ix= .int .i64 j∧hi= .int .i64 (Jm k (t.ks.take j):Nat)∧Below w.heap.size w wr)
    case atStart=>exact⟨0,Nat.zero_le _,rfl,rfl,by simp[Jm],HB0.out⟩
    case round=>
     clear HB0 HK0;obtain⟨j,hj,hgj,rfl,rfl,hbw⟩:=hrel;have HG:=Lib.hid hgj;clear hgj;by_cases hlt:j<nk
     ·obtain⟨u,hu⟩:∃u,t.ks[j]? =some u:=⟨_,List.getElem?_eq_getElem (by rw[HNK.out];exact hlt)⟩;obtain⟨b,o,A1,q1,K1,r1,rfl,hbB,x0,x1,x2,x3,hku⟩:=(HR.out wr hbw).kid hu;have hum:=List.mem_of_getElem? hu;have hal:=(Below.refl wr.heap.size wr).alloc (Nat.le_refl _) (.cells #[.int .i64 u.lv,.bool u.ng,.slice A1 u.ds.length q1,.slice K1 u.ks.length r1] 28);have HBA:=Lib.hid (hbw.trans (hal.mono hbw.size));have HCC:=Lib.hid (IH.out u (HD.out u hum) (HCK.out u hum) (HF.out u hum) A1 q1 K1 r1 wr.heap.size _ hal.size ((hku.more (Nat.le_trans HB.out hbw.size)).below hal) HK.out.1 HK.out.2);have HTK:=Lib.hid (qdu (k:=k) hu);have i3:(0:Int)≤(j:Int):=by omega
      have i4:(j:Int)<(nk:Int):=by omega
      have i5:(nk:Int)≤(kc:Int):=by have:=HKC.out;omega
      clear hu hum hku hbw hal;generalize zo k u=du at*;generalize Jm k (t.ks.take j)=dj at*;generalize u.ds.length=ud at*;generalize u.ks.length=uk at*;generalize u.ng=ug at*;generalize u.lv=ul at*;go_wp2_with fail
      refine HCC.out.mono ?_;rintro e w2 ⟨rfl,hb2⟩;have HB2:=Lib.hid (HBA.out.trans (hb2.mono HBA.out.size));clear hb2 HCC x0 x1 x2 x3;go_wp2_with fail
      go_roundg (nk-(j+1))
      case rel=>exact⟨j+1,by omega,rfl,by go_num,by rw[HTK.out];congr 1;omega,HB2.out⟩
      case measure=>have:=HG.out;omega
     ·obtain rfl:nk=j:=by omega
      have HF':=Lib.hid (show Jm k (t.ks.take nk)=Jm k t.ks by rw[List.take_of_length_le (by rw[HNK.out];exact Nat.le_refl _)]);have HBF:=Lib.hid hbw;clear hbw;go_wp2_with fail
      go_ret
      exact⟨by rw[HF'.out,HC.out];rfl,HBF.out⟩
noncomputable def dgZ(k:Int)(t:RP):Int:=if qW (qq t)=true then -1 else if(decide (1≤k)&&decide (k≤4))=true then(zo k (qq t):Nat)else 0
theorem qaz{w w1:World}{base:Nat}{T:RP}{A K:Option Addr}{c kc:Nat}{cs:Array Value}(hk:qd w1 w.heap.size 28 cs)(hcs:cs.size=4)(hr:RB w1 base T (qc T A c K kc))(hb:w.heap.size<base)(hw:Below w.heap.size w w1):
 qd ((((w1.setCell ⟨w.heap.size,0,none⟩ (.int .i64 T.lv)).setCell ⟨w.heap.size,1,none⟩ (.bool T.ng)).setCell ⟨w.heap.size,2,none⟩ (.slice A T.ds.length c)).setCell ⟨w.heap.size,3,none⟩ (.slice K T.ks.length kc)) w.heap.size 28 #[.int .i64 T.lv,.bool T.ng,.slice A T.ds.length c,.slice K T.ks.length kc]∧
 RB ((((w1.setCell ⟨w.heap.size,0,none⟩ (.int .i64 T.lv)).setCell ⟨w.heap.size,1,none⟩ (.bool T.ng)).setCell ⟨w.heap.size,2,none⟩ (.slice A T.ds.length c)).setCell ⟨w.heap.size,3,none⟩ (.slice K T.ks.length kc)) base T (qc T A c K kc)∧
 Below w.heap.size w ((((w1.setCell ⟨w.heap.size,0,none⟩ (.int .i64 T.lv)).setCell ⟨w.heap.size,1,none⟩ (.bool T.ng)).setCell ⟨w.heap.size,2,none⟩ (.slice A T.ds.length c)).setCell ⟨w.heap.size,3,none⟩ (.slice K T.ks.length kc)):=by
 obtain⟨s1,s2,s3⟩:=jt (k:=0) hk (.int .i64 T.lv) (.bool T.ng) (.slice A T.ds.length c) (.slice K T.ks.length kc);refine⟨?_,RB.keep hr s2 (fun j ds hg hj=>s3 j ds (by omega) hj) (Nat.le_refl _),(((hw.setCell (p:=⟨w.heap.size,0,none⟩) (Nat.le_refl _) _).setCell (p:=⟨w.heap.size,1,none⟩) (Nat.le_refl _) _).setCell (p:=⟨w.heap.size,2,none⟩) (Nat.le_refl _) _).setCell (p:=⟨w.heap.size,3,none⟩) (Nat.le_refl _) _⟩;have e:(((cs.setIfInBounds 0 (Value.int .i64 T.lv)).setIfInBounds (0+1) (.bool T.ng)).setIfInBounds (0+2) (.slice A T.ds.length c)).setIfInBounds (0+3) (.slice K T.ks.length kc)=#[.int .i64 T.lv,.bool T.ng,.slice A T.ds.length c,.slice K T.ks.length kc]:=by
  obtain⟨l⟩:=cs
  match l,hcs with
  |[a,b,c',d],_=>rfl
 rw[e]at s1;exact s1
theorem qdZ(dg:Nat)(hdg:dg≤500)(k:Int)(t:RP)(hf:zU dg t)(hfc:zU dg (qq t))(A:Option Addr)(c:Nat)(K:Option Addr)(kc B:Nat)(w:World)(hB:B≤w.heap.size)(h:RV w (· <B) t (qc t A c K kc)):
 Calls Tryz.prog 27 #[qn t A c K kc,.int .i64 k] w fun e w'=>e= .returned (.int .i64 (dgZ k t))∧jg t (qq t)∧Below w.heap.size w w':=by
 have hb0:=(Below.refl w.heap.size w).alloc (Nat.le_refl _) (.cells #[.int .i64 t.lv,.bool t.ng,.slice A t.ds.length c,.slice K t.ks.length kc] 28);have hk0:=qd.new w 28 #[.int .i64 t.lv,.bool t.ng,.slice A t.ds.length c,.slice K t.ks.length kc];have hsz:w.heap.size<(w.alloc (.cells #[.int .i64 t.lv,.bool t.ng,.slice A t.ds.length c,.slice K t.ks.length kc] 28)).heap.size:=hk0.lt;have HN:=Lib.hid (zT dg hdg t hf A c K kc B _ (Nat.le_trans hB hb0.size) (h.below (hb0.mono hB)));have HB0:=Lib.hid hb0;have HK0:=Lib.hid hk0;have HSZ:=Lib.hid hsz;unfold Ya at HN;have HZ:=Lib.hid (fun A c K kc (W:World)(h:RV W (· <W.heap.size) (qq t) (qc (qq t) A c K kc))=>qcK dg hdg (qq t) hfc A c K kc W.heap.size W (Nat.le_refl _) h);have HD:=Lib.hid (fun(h0:0<k)(h4:k≤4)(hc:qj (qq t)=true) A c K kc (W:World)(h:RV W (· <W.heap.size) (qq t) (qc (qq t) A c K kc))=>qaj 1000 (by omega) k (qv (qq t)) (qq t) (Nat.le_refl _) hc (yz.sm (by omega) (by omega) _ hfc.few) A c K kc W.heap.size W (Nat.le_refl _) h h0 h4);have HQ1:=Lib.hid (fun(h:qW (qq t)=true)=>show(-1:Int)=dgZ k t by unfold dgZ;rw[if_pos h]);have HQ2:=Lib.hid (fun(h:qW (qq t)=false)(hl:(decide (1≤k)&&decide (k≤4))=true)=>show((zo k (qq t):Nat):Int)=dgZ k t by unfold dgZ;rw[if_neg (by rw[h];decide),if_pos hl]);have HQ3:=Lib.hid (fun(h:qW (qq t)=false)(hl:(decide (1≤k)&&decide (k≤4))=false)=>show(0:Int)=dgZ k t by unfold dgZ;rw[if_neg (by rw[h];decide),if_neg (by rw[hl];decide)]);generalize dgZ k t=rz at*;unfold qn at HN HZ HD ⊢;clear h hf hfc hdg hB hb0 hk0 hsz;generalize hT:qq t=T at*;go_enter Tryz.func27,Tryz.ntmps27
 go_wp2_with fail
 generalize w.alloc (.cells #[.int .i64 t.lv,.bool t.ng,.slice A t.ds.length c,.slice K t.ks.length kc] 28)=W0 at*;refine HN.out.mono ?_;rintro e w1 ⟨A1,c1,K1,kc1,rfl,hct,hrb,hb1⟩;have kk:=HK0.out.old hb1;have d0:w1.cell? ⟨w.heap.size,0,none⟩=some (.int .i64 t.lv):=kk.cell 0;have d1:w1.cell? ⟨w.heap.size,1,none⟩=some (.bool t.ng):=kk.cell 1;have d2:w1.cell? ⟨w.heap.size,2,none⟩=some (.slice A t.ds.length c):=kk.cell 2;have d3:w1.cell? ⟨w.heap.size,3,none⟩=some (.slice K t.ks.length kc):=kk.cell 3;have f0:=kk.frozen 0;have f1:=kk.frozen 1;have f2:=kk.frozen 2;have f3:=kk.frozen 3;have z0:=kk.lt;have HOV:=Lib.hid (qaz kk rfl hrb HSZ.out (HB0.out.trans (hb1.mono HB0.out.size)));have HCT:=Lib.hid hct;clear kk hrb hb1 hct HN HK0 HB0 HSZ;go_upto_region 2 with(fail)
 generalize (((w1.setCell ⟨w.heap.size,0,none⟩ (.int .i64 T.lv)).setCell ⟨w.heap.size,1,none⟩ (.bool T.ng)).setCell ⟨w.heap.size,2,none⟩ (.slice A1 T.ds.length c1)).setCell ⟨w.heap.size,3,none⟩ (.slice K1 T.ks.length kc1)=W2 at*;clear d0 d1 d2 d3 f0 f1 f2 f3 z0;obtain⟨k2,r2,b2⟩:=HOV.out;have c0:W2.cell? ⟨w.heap.size,0,none⟩=some (.int .i64 T.lv):=k2.cell 0;have c1':W2.cell? ⟨w.heap.size,1,none⟩=some (.bool T.ng):=k2.cell 1;have c2:W2.cell? ⟨w.heap.size,2,none⟩=some (.slice A1 T.ds.length c1):=k2.cell 2;have c3:W2.cell? ⟨w.heap.size,3,none⟩=some (.slice K1 T.ks.length kc1):=k2.cell 3;have HZ1:=Lib.hid (HZ.out A1 c1 K1 kc1 W2 r2.rv);have HK2:=Lib.hid k2;have HR2:=Lib.hid r2;have HB2:=Lib.hid b2;clear HOV k2 r2 b2 HZ;go_wp2_with fail
 refine HZ1.out.mono ?_;rintro e w3 ⟨rfl,_,hb3⟩;have HE:=Lib.hid (qw HCT.out.can.1);have HB3:=Lib.hid (HB2.out.trans (hb3.mono HB2.out.size));have k3:=HK2.out.old hb3;have HR3:=Lib.hid (HR2.out.old hb3);rw[HE.out];have c0:w3.cell? ⟨w.heap.size,0,none⟩=some (.int .i64 T.lv):=k3.cell 0;have c1':w3.cell? ⟨w.heap.size,1,none⟩=some (.bool T.ng):=k3.cell 1;have c2:w3.cell? ⟨w.heap.size,2,none⟩=some (.slice A1 T.ds.length c1):=k3.cell 2;have c3:w3.cell? ⟨w.heap.size,3,none⟩=some (.slice K1 T.ks.length kc1):=k3.cell 3;clear hb3 HZ1 HB2 HK2 HR2 k3
 cases hz:qW T with
 |true=>
  have HE1:=Lib.hid (HQ1.out hz);clear hz HQ1 HQ2 HQ3;go_wp2_with fail
  go_ret
  exact⟨by rw[←HE1.out];rfl,HCT.out,HB3.out⟩
 |false=>
  have HQ4:=Lib.hid (HQ2.out hz);have HQ5:=Lib.hid (HQ3.out hz);clear hz HQ1 HQ2 HQ3;have HL:=Lib.hid (fun(W:World)=>qea k W)
  cases hl:(decide (1≤k)&&decide (k≤4))with
  |false=>
   rw[hl]at HL;have HE1:=Lib.hid (HQ5.out hl);clear hl HQ4 HQ5;go_wp2_with fail
   refine(HL.out _).mono ?_;rintro e w4 ⟨rfl,rfl⟩;go_wp2_with fail
   go_ret
   exact⟨by rw[←HE1.out];rfl,HCT.out,HB3.out⟩
  |true=>
   rw[hl]at HL;have HE1:=Lib.hid (HQ4.out hl);simp only[Bool.and_eq_true,decide_eq_true_eq]at hl;have HD1:=Lib.hid (HD.out (by omega) hl.2 HCT.out.can.1 A1 c1 K1 kc1 w3 HR3.out.rv);clear hl HD HQ4 HQ5;go_wp2_with fail
   refine(HL.out _).mono ?_;rintro e w4 ⟨rfl,rfl⟩;go_wp2_with fail
   refine HD1.out.mono ?_;rintro e w5 ⟨rfl,hb5⟩;have HB5:=Lib.hid (HB3.out.trans (hb5.mono HB3.out.size));clear hb5 HD1;go_wp2_with fail
   go_ret
   exact⟨by rw[←HE1.out];rfl,HCT.out,HB5.out⟩
