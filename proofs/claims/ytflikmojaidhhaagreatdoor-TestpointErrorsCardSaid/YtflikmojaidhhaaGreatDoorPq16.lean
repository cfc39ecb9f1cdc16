import Derived.Test.YtflikmojaidhhaaGreatDoorPq15
import Derived.Test.YtflikmojaidhhaaGreatDoorPqA
namespace Go.Proofs.YtflikmojaidhhaaGreatDoor
open Go.RowKit
def lvO(k l:Int):Nat:=if k<=l then l.toNat-1 else l.toNat
mutual
theorem qdG{d n:Nat}{k:Int}(hn:0<n)(hk:0<k):∀(t:RP),qv t=true->qN d n t->zo k t=false->jW t<=Jg n (lvO k t.lv)
 | .mk l g ds ks,h,hw,ho=>by
   simp only[qN]at hw;rw[jc]at ho;obtain⟨o1,o2⟩:=ho;simp only[RP.lv,RP.ks]at o1 o2;rcases qz h with⟨a,b,_⟩|⟨a,_,_,_,_,c,_⟩
   ·simp only[RP.lv,RP.ks]at a b;subst a;subst b;have:=qil n (lvO k 0);simp only[jW,yy,RP.lv];omega
   ·simp only[RP.lv,RP.ks]at a c;have TC:1<=lvO k l:=by unfold lvO;split<;>omega
    obtain⟨m,hm⟩:∃m,lvO k l=m+1:=⟨lvO k l-1,by omega⟩;have h1:=qbm hn hk ks m (fun u hu=>by
     obtain⟨x1,x2⟩:=c u hu;have x3:u.lv<l:=x1;have x4:=(qJ x2).1;have x5:=(jc.1 (o2 u hu)).1;refine⟨?_,x2,o2 u hu⟩;unfold lvO at hm ⊢
     split at hm<;>split<;>omega) hw.2.2
    have h2:ks.length*Jg n m<=n*Jg n m:=Nat.mul_le_mul_right _ hw.2.1;simp only[jW,RP.lv];rw[hm];show _<=n*Jg n m+1;omega
theorem qbm{d n:Nat}{k:Int}(hn:0<n)(hk:0<k):∀(ks:List RP)(m:Nat),(∀u∈ks,lvO k u.lv<=m/\qv u=true/\zo k u=false)->zO d n ks->yy ks<=ks.length*Jg n m
 |[],_,_,_=>by simp[yy]
 |x::ks,m,h,hw=>by
  simp only[zO]at hw;have h1:=h x List.mem_cons_self;have h2:=qdG hn hk x h1.2.1 hw.1 h1.2.2;have h3:=Q5 hn h1.1;have h4:=qbm hn hk ks m (fun u hu=>h u (List.mem_cons_of_mem _ hu)) hw.2;simp only[yy,List.length_cons];rw[Nat.succ_mul];omega
end
theorem qlf{d:Nat}{k:Int}{t:RP}(h:qv t=true)(hw:qN d 33 t)(hk:0<k)(Xj:k<=4)(ho:zo k t=false):yz d t:=by
 have h1:=qJ h;have h2:=zC t h;have h3:=qdG (n:=33) (by omega) hk t h hw ho;have h4:=Q5 (n:=33) (by omega) (show lvO k t.lv<=3 by unfold lvO;split<;>omega);have h5:Jg 33 3=37060:=by decide
 exact⟨by omega,hw.few (by omega),by omega⟩
theorem qdO{d:Nat}{c:RP}(hf:yz d c)(hd:qF c):nrm (JA c)<=40000*pw d:=by
 refine Gl (Qx _ (pw d) fun t ht=>?_) (Nat.mul_le_mul_right _ ?_)
 ·obtain⟨x,hx,rfl⟩:=List.mem_map.1 (show t∈(jH c (0,0,0,0)).map YN from ht);have h1:=(J8 c (0,0,0,0) 0 hf.few (by simp[zh]) x hx).1;show(qj x.1.1 x.1.2).natAbs<=_;rw[je];exact Nat.le_of_lt (qcm (ZI c _ hd x hx) h1)
 ·rw[ZN,List.length_map];exact Gl (Yi c _) hf.cnt
theorem qfC(d:Nat):40000*pw d<pw (d+1):=by
 have h:pw (d+1)=pw d*4294967296:=Nat.pow_succ ..;have h0:0<pw d:=Nat.pow_pos (by decide);omega
theorem qk8{d n:Nat}{c T:RP}(hc:qv c=true)(hw:qN d n c)(hn:1<=n)(hf:yz d c)(DC:qF c)(h:SgT c T):qv T=true/\qN (d+1) n T:=by
 obtain⟨P,hP,Tl,rfl⟩:=h;have hs:=qeg hP;refine⟨(Ys 4 (by omega) _ hs.sdesc hs.vl hs.ne).1,qaP hn 4 _ (by omega) fun t ht=>?_⟩;obtain⟨s,FE,rfl⟩:=List.mem_map.1 (show t∈P.map (fun t=>(t.1/dvs P,t.2))from ht);refine⟨zL ?_,fun i hi=>?_⟩
 ·have h1:=qaS s.1 (dvs P) (Zz FE) (qep hP (List.ne_nil_of_mem FE));have h2:=Qu FE;have h3:=hP.nrm_le Tl;have h4:=qdO hf DC;have h5:=qfC d;show(s.1/dvs P).natAbs<_;omega
 ·obtain⟨x,hx,e⟩:=Yh hP Tl FE;have:=ZM (d:=d) (n:=n) c (0,0,0,0) i hi hc hw (by rcases Yy hi with rfl|rfl|rfl|rfl<;>exact Int.le_refl _) x hx;show gt s.2 i+1<=_;rw[<-e];omega
structure Vp (k:Int) (d n:Nat) (T:RP):Prop where
 can:qv T=true
 lw:qN d (n+1) T
 oc:zo k T=false
 dig:qF T
section
variable {k:Int} {d d' d1 d2 n n' n1 n2:Nat} {p q T:RP}
theorem Vp.mono(h:Vp k d n T)(hd:d<=d')(hn:n<=n'):Vp k d' n' T:=⟨h.can,qN.mono hd (by omega) _ h.lw,h.oc,h.dig⟩
theorem Vp.fit(h:Vp k d n T)(hk:0<k)(Xj:k<=4)(hn:n<=32):yz d T:=qlf h.can (qN.mono (Gr _) (by omega) _ h.lw) hk Xj h.oc
theorem Vp.zero(hk:0<k):Vp k d n qh:=⟨by decide,qN.zero _ _,zy hk,qF.zero⟩
theorem Vp.mul(hk:0<k)(h1:Vp k d1 n1 p)(h2:Vp k d2 n2 q)(h:jZ p q T)(hn:n1+n2<=1000):Vp k (d1+d2+4) (n1+n2) T:=by
 have l1:=qJ h1.can;have l2:=qJ h2.can;exact⟨h.can,qN.mono (by omega) (Gr _) _ (h.lw d1 d2 n1 n2 h1.lw h2.lw hn),h.oc k hk h1.oc h2.oc,h.dig⟩
theorem Vp.add(hk:0<k)(h1:Vp k d n p)(h2:Vp k d n q):Vp k (d+1) n (jl 5 [p,q]):=by
 have l1:=qJ h1.can;have l2:=qJ h2.can;have hm:∀t∈[p,q],t=p∨t=q:=by simp
 refine⟨(Jn 5 _ fun t ht=>?_).1,Ya 5 _ (by simp) fun t ht=>?_,qbL hk 5 _ fun t ht=>?_,ZK 5 _⟩
 ·rcases hm t ht with rfl|rfl
  ·exact⟨h1.can,by omega⟩
  ·exact⟨h2.can,by omega⟩
 ·rcases hm t ht with rfl|rfl
  ·exact⟨h1.lw,h1.dig⟩
  ·exact⟨h2.lw,h2.dig⟩
 ·rcases hm t ht with rfl|rfl
  ·exact h1.oc
  ·exact h2.oc
theorem Vp.neg(hk:0<k)(h:Vp k d n q):Vp k (d+1) n (yN (-1) q):=⟨(ZH _ _ h.can).1,qbo (e:=1) (by decide) _ h.lw h.dig,qfI hk _ _ h.oc,ZO _ _⟩
theorem Vp.sub(hk:0<k)(h1:Vp k d n p)(h2:Vp k d n q):Vp k (d+2) n (jl 5 [p,yN (-1) q]):=(h1.mono (by omega) (Gr _)).add hk (h2.neg hk)
theorem Vp.sm(h:Vp k d n T)(hd:d<=1000)(hn:n<=999):yP 1000 T:=qN.sm hd (by omega) _ h.lw
theorem Vp.big(h:Vp k d n T)(hd:d<=1000)(hn:n<=59):qN 1000 60 T:=qN.mono hd (by omega) _ h.lw
end
def NB(gs:List Nat)(W:World)(b:Nat):Prop:=b<W.heap.size/\b∉gs
section
variable {W W':World} {gs gs':List Nat} {g base B:Nat} {T T':RP} {vs:List Value}
theorem NB.old(h:RV W (NB gs W) T vs)(hb:Below W.heap.size W W'):RV W' (NB gs W') T vs:=
 RV.mono (fun _ k=>⟨Gm k.1 hb.size,k.2⟩) _ _ (RV.keep (fun b k o=>hb.cell (p:=⟨b,o,none⟩) k.1) _ _ h)
theorem NB.add(h:RV W (NB gs W) T vs)(hb:Below W.heap.size W W')(hg:W.heap.size<=g):RV W' (NB (g::gs) W') T vs:=
 RV.mono (fun _ k=>⟨Gm k.1 hb.size,fun e=>by
  rcases List.mem_cons.1 e with rfl|e
  ·have:=k.1;omega
  ·exact k.2 e⟩) _ _ (RV.keep (fun b k o=>hb.cell (p:=⟨b,o,none⟩) k.1) _ _ h)
theorem NB.sub(h:RV W (NB gs W) T vs)(hs:∀x∈gs',x∈gs):RV W (NB gs' W) T vs:=RV.mono (fun _ k=>⟨k.1,fun e=>k.2 (hs _ e)⟩) _ _ h
theorem NB.set4(h:RV W (NB gs W) T vs)(hg:g∈gs)(x y z u:Value):RV (set4 W g 0 x y z u) (NB gs (set4 W g 0 x y z u)) T vs:=
 RV.mono (fun _ k=>⟨by rw[jP];exact k.1,k.2⟩) _ _ (RV.keep (fun b k o=>set4_far W (fun e=>k.2 (e▸hg)) 0 o x y z u) _ _ h)
theorem NB.of_rb(h:RB W base T vs)(UA:∀x∈gs,x<base/\∃cs,qf W x 28 cs):RV W (NB gs W) T vs:=
 RV.mono (fun _ k=>⟨k.lt,fun e=>by
  obtain⟨h1,cs,h2⟩:=UA _ e;exact yB.ne (W:=W) (k.mono h1) h2 rfl⟩) _ _ h
theorem NB.all(h:RV W (NB gs W) T vs):RV W (· <W.heap.size) T vs:=RV.mono (fun _ k=>k.1) _ _ h
theorem NB.low(h:RV W (· <B) T vs)(hB:∀x∈gs,B<=x)(hW:B<=W.heap.size):RV W (NB gs W) T vs:=
 RV.mono (fun b (k:b<B)=>⟨Gm k hW,fun e=>by have:=hB _ e;omega⟩) _ _ h
end
structure QI (gs:List Nat) (W:World) (g:Nat) (T:RP) (A:Oa) (c:Nat) (K:Oa) (kc:Nat):Prop where
 box:qf W g 28 #[.int .i64 T.lv,.bool T.ng,.slice A T.ds.length c,.slice K T.ks.length kc]
 tree:RV W (NB gs W) T (qe T A c K kc)
section
variable {W W':World} {gs gs':List Nat} {g g' base B:Nat} {T T':RP} {A K A' K':Oa} {c kc c' kc':Nat}
theorem QI.old(h:QI gs W g T A c K kc)(hb:Below W.heap.size W W'):QI gs W' g T A c K kc:=⟨h.box.old hb,NB.old h.tree hb⟩
theorem QI.add(h:QI gs W g T A c K kc)(hb:Below W.heap.size W W')(hg:W.heap.size<=g'):QI (g'::gs) W' g T A c K kc:=⟨h.box.old hb,NB.add h.tree hb hg⟩
theorem QI.sub(h:QI gs W g T A c K kc)(hs:∀x∈gs',x∈gs):QI gs' W g T A c K kc:=⟨h.box,NB.sub h.tree hs⟩
theorem QI.far(h:QI gs W g T A c K kc)(hg:g'∈gs)(Xl:g≠g')(x y z u:Value):QI gs (set4 W g' 0 x y z u) g T A c K kc:=⟨h.box.set4_far Xl 0 x y z u,NB.set4 h.tree hg x y z u⟩
theorem QI.put(h:QI gs W g T A c K kc)(hg:g∈gs)(ht:RV W (NB gs W) T' (qe T' A' c' K' kc')):QI gs (set4 W g 0 (.int .i64 T'.lv) (.bool T'.ng) (.slice A' T'.ds.length c') (.slice K' T'.ks.length kc')) g T' A' c' K' kc':=by
 obtain⟨s1,_,_⟩:=jm (k:=0) h.box (.int .i64 T'.lv) (.bool T'.ng) (.slice A' T'.ds.length c') (.slice K' T'.ks.length kc');exact⟨s1,NB.set4 ht hg _ _ _ _⟩
theorem QI.make(ht:RV W (NB gs W) T (qe T A c K kc)):QI (W.heap.size::gs) (W.alloc (.cells #[.int .i64 T.lv,.bool T.ng,.slice A T.ds.length c,.slice K T.ks.length kc] 28)) W.heap.size T A c K kc:=
 ⟨qf.new W 28 _,NB.add ht (Gb W _) (Gr _)⟩
end
structure Qp (k:Int) (d n:Nat) (T:RP):Prop where
 fit:yz 400 T
 vp:Vp k d n (qn T)
theorem Vp.q{k:Int}{d n:Nat}{T:RP}(h:Vp k d n T)(hk:0<k)(Xj:k<=4)(hd:d<=400)(hn:n<=32):Qp k d n T:=by
 have hf:=h.fit hk Xj hn;exact⟨⟨hf.dep,qN.few (n:=33) (by omega) _ (qN.mono hd (by omega) _ h.lw),hf.cnt⟩,by rw[qQ h.can];exact h⟩
theorem Qp.mono{k:Int}{d n d' n':Nat}{T:RP}(h:Qp k d n T)(hd:d<=d')(hn:n<=n'):Qp k d' n' T:=⟨h.fit,h.vp.mono hd hn⟩
def qf3(k:Int)(d n:Nat)(gs:List Nat)(w:World)(e:Ending)(w':World):Prop:=∃T A c K kc,Qp k d n T/\Vp k d n T/\e= .returned (qm T A c K kc)/\RV w' (NB gs w') T (qe T A c K kc)/\Below w.heap.size w w'
theorem qS.q{k:Int}{d n:Nat}{gs:List Nat}{T:RP}{w w':World}{e:Ending}(h:qS T w e w')(hv:Vp k d n T)(hk:0<k)(Xj:k<=4)(hd:d<=400)(hn:n<=32)(UA:∀x∈gs,∃cs,qf w x 28 cs):qf3 k d n gs w e w':=by
 obtain⟨A,c,K,kc,he,hr,hb⟩:=h;refine⟨T,A,c,K,kc,hv.q hk Xj hd hn,hv,he,NB.of_rb hr fun x hx=>?_,hb⟩;obtain⟨cs,h1⟩:=UA x hx;exact⟨h1.lt,cs,h1.old hb⟩
def ZL(S:Nat->Prop)(w:World)(base b:Nat):Prop:=S b∨yB w base b
def J5(S:Nat->Prop)(T:RP)(w:World)(e:Ending)(w':World):Prop:=∃A c K kc,e= .returned (qm T A c K kc)/\RV w' (ZL S w' w.heap.size) T (qe T A c K kc)/\Below w.heap.size w w'
def yM(w:World)(S0 S:Nat->Prop)(A:Oa)(ts:List RP):Prop:=∃rows,ju w S0 4 A ts.length rows.flatten/\qG w S ts rows
section
variable {w w' W W':World} {S0 S S1:Nat->Prop} {A:Oa} {ts:List RP}
theorem yM.keep(h:yM w S0 S A ts)(h0:∀b,S0 b->∀o,w'.cell? ⟨b,o,none⟩=w.cell? ⟨b,o,none⟩)(h1:∀b,S b->∀o,w'.cell? ⟨b,o,none⟩=w.cell? ⟨b,o,none⟩):yM w' S0 S A ts:=by
 obtain⟨rows,k1,k2⟩:=h;exact⟨rows,k1.keep h0,qG.keep h1 _ _ k2⟩
theorem yM.mono(h:yM w S0 S A ts){S0' S':Nat->Prop}(h0:∀b,S0 b->S0' b)(h1:∀b,S b->S' b):yM w S0' S' A ts:=by
 obtain⟨rows,k1,k2⟩:=h;exact⟨rows,k1.mono h0,qG.mono h1 _ _ k2⟩
theorem yM.old(h:yM w S0 S A ts)(hb:Below w.heap.size w w')(h0:∀b,S0 b->b<w.heap.size)(h1:∀b,S b->b<w.heap.size):yM w' S0 S A ts:=
 h.keep (fun b k o=>hb.cell (p:=⟨b,o,none⟩) (h0 b k)) (fun b k o=>hb.cell (p:=⟨b,o,none⟩) (h1 b k))
theorem yM.kid(h:yM w S0 S A ts){i:Nat}{u:RP}(hi:ts[i]? =some u):
 ∃b o A' c' K' kc',A=some ⟨b,o,none⟩/\S0 b/\w.cell? ⟨b,o+i*4,none⟩=some (.int .i64 u.lv)/\w.cell? ⟨b,o+i*4+1,none⟩=some (.bool u.ng)/\
  w.cell? ⟨b,o+i*4+2,none⟩=some (.slice A' u.ds.length c')/\w.cell? ⟨b,o+i*4+3,none⟩=some (.slice K' u.ks.length kc')/\RV w S u (qe u A' c' K' kc'):=by
 obtain⟨rows,h6,h7⟩:=h;have hl:i<ts.length:=(Gi.1 hi).1;obtain⟨a1,a2,a3⟩:=qG.at_ ts rows h7;obtain⟨r,hr,hv⟩:=a3 i u hi;obtain⟨A',c',K',kc',rfl⟩:=hv.cells;obtain⟨b,o,hA,hb,hc⟩:=h6.2 (by omega);have f:=fun j hj v (hv:(qe u A' c' K' kc')[j]? =some v)=>hc (i*4+j) v ((Ja rows a1 i _ hr j hj).trans hv);exact⟨b,o,A',c',K',kc',hA,hb,f 0 (by omega) _ rfl,f 1 (by omega) _ rfl,f 2 (by omega) _ rfl,f 3 (by omega) _ rfl,hv⟩
theorem qG.takeR{w:World}{S:Nat->Prop}:∀(n:Nat)(ts:List RP)(rows:List (List Value)),qG w S ts rows->qG w S (ts.take n) (rows.take n)
 |0,_,_,_=>by simp[qG]
 |n+1,[],rows,h=>by unfold qG at h;subst h;simp[qG]
 |n+1,t::ts,rows,h=>by
  unfold qG at h;obtain⟨r,rs,rfl,h2,h3⟩:=h;simp only[List.take_succ_cons,qG];exact⟨r,rs.take n,rfl,h2,qG.takeR n ts rs h3⟩
theorem yM.node(h:yM w S S A ts){n:Nat}(hn:n<=ts.length)(l:Int):RV w S (.mk l false [] (ts.take n)) (qe (.mk l false [] (ts.take n)) none 0 A n):=by
 obtain⟨rows,h6,h7⟩:=h;obtain⟨a1,a2,_⟩:=qG.at_ ts rows h7;have hl:(ts.take n).length=n:=by rw[List.length_take];omega
 have SI:(rows.take n).length=n:=by rw[List.length_take];omega
 have hf:(rows.take n).flatten.length=n*4:=by
  rw[jt (fun r hr=>a1 r (List.mem_of_mem_take hr)),SI]
 unfold RV;refine⟨none,0,A,n,rfl,⟨rfl,fun hp=>absurd hp (Nat.lt_irrefl 0)⟩,by simp[jg],Nat.zero_le _,by rw[hl];exact Gr _,rows.take n,⟨by rw[hl];exact hf,fun hp=>?_⟩,qG.takeR n _ _ h7⟩;obtain⟨b,o,e,hb,hc⟩:=h6.2 (by omega);refine⟨b,o,e,hb,fun j u hu=>hc j u ?_⟩;have BG:rows.flatten=(rows.take n).flatten++(rows.drop n).flatten:=by rw[<-List.flatten_append,List.take_append_drop]
 rw[BG,List.getElem?_append_left (by have:=(Gi.1 hu).1;exact this)];exact hu
end
theorem Tryz.slice_full(b o n c a:Nat)(h:a<=c)(W:World):(Instr.slice 26 (.slice (some ⟨b,o,none⟩) n c) none (some (.int .i64 (a:Int))) (some (.int .i64 (a:Int)))).run Tryz.prog W= .ok (.slice (some ⟨b,o,none⟩) a a) W:=by
 simp[Instr.slice,run_underlying Tryz.underlying26,go_sem];intro hh;omega
theorem qcs{S:Nat->Prop}{w V:World}{g:Nat}{T:RP}{A K:Oa}{c kc:Nat}{cs:Array Value}(hk:qf V g 28 cs)(XE:cs.size=4)(hr:RV V S T (qe T A c K kc))(hS:∀b,S b->b≠g)(hw:w.heap.size<=g)(hb:Below w.heap.size w V):
 qf ((((V.setCell ⟨g,0,none⟩ (.int .i64 T.lv)).setCell ⟨g,1,none⟩ (.bool T.ng)).setCell ⟨g,2,none⟩ (.slice A T.ds.length c)).setCell ⟨g,3,none⟩ (.slice K T.ks.length kc)) g 28 #[.int .i64 T.lv,.bool T.ng,.slice A T.ds.length c,.slice K T.ks.length kc]/\
 RV ((((V.setCell ⟨g,0,none⟩ (.int .i64 T.lv)).setCell ⟨g,1,none⟩ (.bool T.ng)).setCell ⟨g,2,none⟩ (.slice A T.ds.length c)).setCell ⟨g,3,none⟩ (.slice K T.ks.length kc)) S T (qe T A c K kc)/\
 Below w.heap.size w ((((V.setCell ⟨g,0,none⟩ (.int .i64 T.lv)).setCell ⟨g,1,none⟩ (.bool T.ng)).setCell ⟨g,2,none⟩ (.slice A T.ds.length c)).setCell ⟨g,3,none⟩ (.slice K T.ks.length kc)):=by
 obtain⟨s1,s2,s3⟩:=jm (k:=0) hk (.int .i64 T.lv) (.bool T.ng) (.slice A T.ds.length c) (.slice K T.ks.length kc);have e:(((cs.setIfInBounds 0 (Value.int .i64 T.lv)).setIfInBounds (0+1) (.bool T.ng)).setIfInBounds (0+2) (.slice A T.ds.length c)).setIfInBounds (0+3) (.slice K T.ks.length kc)=(Gx T A c K kc):=by
  obtain⟨l⟩:=cs
  match l,XE with
  |[_,_,_,_],_=>rfl
 rw[e]at s1;exact⟨s1,RV.keep (fun b Ux o=>set4_far V (Ne.symm (hS b Ux)) 0 o _ _ _ _) _ _ hr,qy (o:=0) hb hw _ _ _ _⟩
theorem qaD{ts:List RP}{k:Nat}(h:qI (ts.getD k qh)=false)(he:jp ts (k+1)=jp ts ts.length):jp ts ts.length=k+1:=by
 rw[<-he,jp,if_neg (by rw[h];decide)]
set_option maxHeartbeats 4000000
set_option maxRecDepth 100000
theorem qa3(S:Nat->Prop)(l:Int)(ts:List RP)(Vq:ts.length<=100000)(A:Oa)(c:Nat)(w:World)(hS:∀b,S b->b<w.heap.size)(h:yM w S S A ts)(hc:ts.length<=c):
 Calls Tryz.prog 105 #[.int .i64 l,.slice A ts.length c] w fun e w'=>∃A' c' K kc,e= .returned (qm (jI l ts) A' c' K kc)/\RV w' S (jI l ts) (qe (jI l ts) A' c' K kc)/\Below w.heap.size w w':=by
 have Xb:=Gb w (.cells Gz 28);have Xx:=qf.new w 28 Gz;have Xd:=Gh Xb;have Xo:=Gh Xx;have HT:=Gh (fun(W:World)(hW:Below w.heap.size w W)=>h.old hW hS hS);have HS:=Gh (fun(b:Nat)(hb:S b)=>show b≠w.heap.size from Nat.ne_of_lt (hS b hb));have HZ:=Gh (fun(u:RP)(A:Oa)(c:Nat)(K:Oa)(kc:Nat)(W:World)=>zf u A c K kc W);have Di:=Gh (fun(e:jp ts 0=jp ts ts.length)=>show jI l ts=qh by unfold jI;rw[if_pos (by rw[<-e];rfl)]);have SU:=Gh (fun(u:RP)(hu:ts[0]? =some u)(hz:qI u=false)(e:jp ts 1=jp ts ts.length)=>show jI l ts=u by
  have hg:ts.getD 0 qh=u:=by rw[List.getD_eq_getElem?_getD,hu];rfl
  have:=qaD (k:=0) (by rw[hg];exact hz) e;unfold jI;rw[if_neg (by omega),if_pos this];exact hg)
 have Ed:=Gh (fun(k:Nat)(u:RP)(hu:ts[k+1]? =some u)(hz:qI u=false)(e:jp ts (k+1+1)=jp ts ts.length)=>show jI l ts= .mk l false [] (ts.take (k+1+1))by
  have hg:ts.getD (k+1) qh=u:=by rw[List.getD_eq_getElem?_getD,hu];rfl
  have:=qaD (k:=k+1) (by rw[hg];exact hz) e;unfold jI;rw[if_neg (by omega),if_neg (by omega),this])
 have DI:=Gh (fun(k:Nat)(u:RP)(hu:ts[k]? =some u)(hz:qI u=true)(e:jp ts (k+1)=jp ts ts.length)=>show jp ts k=jp ts ts.length by
  have hg:ts.getD k qh=u:=by rw[List.getD_eq_getElem?_getD,hu];rfl
  rw[<-e,jp,hg,if_pos hz])
 have HC:=Gh hc;unfold qm at HZ ⊢;clear h hS Xb Xx;generalize jI l ts=T at*;generalize hn:ts.length=n at*;have HN:=Gh hn;clear hn hc;go_enter Tryz.func105,Tryz.ntmps105
 go_wp2_with fail
 go_loopg [5] n (fun gn i wr=>∃(k:Nat),k<=n/\gn=k/\i= .int .i64 k/\jp ts k=jp ts n/\Below w.heap.size w wr/\qf wr w.heap.size 28 Gz)
 case atStart=>exact⟨_,Gr _,rfl,rfl,rfl,Xd,Xo⟩
 case round=>
  clear Xd Xo;obtain⟨k,hk,XG,rfl,hz,Xe,X8⟩:=hrel;have HG:=Gh XG;have RI:=Gh X8;have Xh:=Gh Xe;have OX:=Gh hz;clear XG hz;by_cases h0:0<k
  ·obtain⟨k,rfl⟩:∃k',k=k'+1:=⟨k-1,by omega⟩;obtain⟨u,hu⟩:∃u,ts[k]? =some u:=⟨_,Gn (by rw[HN.out];omega)⟩;obtain⟨b,o,A1,q1,K1,r1,rfl,OS,x0,x1,x2,x3,XN⟩:=(HT wr Xe).kid hu;have i1:(k:Int)<(n:Int):=by omega
   have i2:(n:Int)<=(c:Int):=by have:=HC.out;omega
   have Dy:((k+1:Nat):Int)-1=(k:Int):=by omega
   have HU:=Gh hu;have Bg:=Gh (fun(V:World)(hV:Below wr.heap.size wr V)=>(HT V (Gt Xe hV)));clear hu XN Xe X8;have Vc:=Gh (HZ u A1 q1 K1 r1 wr)
   cases hz:qI u with
   |true=>
    have HX:=Gh hz;rw[hz]at Vc;clear hz Di SU Ed HZ;go_wp2_with fail
    refine Vc.out.mono ?_;rintro e w4 ⟨rfl,XB⟩;have XW:=Gh (Gt Xh XB);have Vd:=Gh (RI.out.old XB);clear XB x0 x1 x2 x3;go_wp2_with fail
    go_roundg k
    case rel=>exact⟨k,by omega,rfl,by go_num,DI k u HU HX OX,XW,Vd⟩
    case measure=>have:=HG.out;omega
   |false=>
    have HX:=Gh hz;rw[hz]at Vc;clear hz Di DI HZ;go_wp2_with fail
    refine Vc.out.mono ?_;rintro e w4 ⟨rfl,XB⟩;have XW:=Gh (Gt Xh XB);have Xj:=RI.out.old XB;have MN:=Gh (HT w4 XW);have Vd:=Gh Xj;obtain⟨d0,d1,d2,d3⟩:=G4 Xj;obtain⟨f0,f1,f2,f3,z0⟩:=G5 Xj;clear XB Xj x0 x1 x2 x3 RI Xh Vc;by_cases h1:k=0
    ·subst h1;have Df:=Gh (SU u HU HX OX);obtain⟨b',o',A2,q2,K2,r2,ee,hbS2,y0,y1,y2,y3,XN⟩:=MN.out.kid HU.out
     injection ee with ee
     injection ee with e1 e2
     subst e1;subst e2;rw[Nat.zero_mul,Nat.add_zero]at y0 y1 y2 y3;have Xg:=Gh (qcs (w:=w) Vd rfl XN HS (Gr _) XW);clear XN SU Ed HT MN Bg;have hT:=Df.out;subst hT;go_wp2_with fail
     exact qo Tryz.results105 rfl rfl Xg.out.1 Tryz.underlying28 rfl Tryz.sizeRec ⟨A2,q2,K2,r2,rfl,Xg.out.2.1,Xg.out.2.2⟩
    ·obtain⟨k,rfl⟩:∃k',k=k'+1:=⟨k-1,by omega⟩;have Df:=Gh (Ed k u HU HX OX);have Xi:(ts.take (k+1+1)).length=k+1+1:=by rw[List.length_take,HN.out];omega
     have Xg:=Gh (qcs (w:=w) Vd rfl (MN.out.node (n:=k+1+1) (by rw[HN.out];omega) l) HS (Gr _) XW);rw[show(RP.mk l false [] (ts.take (k+1+1))).ks.length=k+1+1 from Xi]at Xg;have EE:=fun W=>Tryz.slice_full b o n c (k+1+1) (by omega) W;have j1:(((k+1+1:Nat):Int)==0)=false:=by simp;omega
     have j2:(((k+1+1:Nat):Int)==1)=false:=by simp;omega
     have hT:=Df.out;subst hT;have KE:=Gh Xi;clear SU Ed HT MN Bg Xi Df;go_wp2_with fail
     refine qo Tryz.results105 rfl rfl Xg.out.1 Tryz.underlying28 rfl Tryz.sizeRec ⟨none,0,some ⟨b,o,none⟩,k+1+1,?_,Xg.out.2.1,Xg.out.2.2⟩;show _=Ending.returned (Value.agg #[_,_,_,.slice _ (ts.take (k+1+1)).length _]);rw[KE.out]
  ·obtain rfl:k=0:=by omega
   have Df:=Gh (Di OX);have Xg:=Gh (qcs (w:=w) (S:=S) RI rfl (RT.zero (w:=wr)) HS (Gr _) Xh);obtain⟨d0,d1,d2,d3⟩:=G4 X8;obtain⟨f0,f1,f2,f3,z0⟩:=G5 X8;have hT:=Df.out;subst hT;clear SU Ed HT X8 Xe Df DI Di;go_wp2_with fail
   exact qo Tryz.results105 rfl rfl Xg.out.1 Tryz.underlying28 rfl Tryz.sizeRec ⟨none,0,none,0,rfl,Xg.out.2.1,Xg.out.2.2⟩
structure ZT where
 ng:Bool
 ds:List Nat
 A:Oa
 c:Nat
def ZT.z(x:ZT):Int:=qj x.ng x.ds
def ZT.cells(x:ZT):List Value:=[.bool x.ng,.slice x.A x.ds.length x.c]
abbrev zcl(zs:List ZT):List Value:=zs.flatMap ZT.cells
theorem qcq(zs:List ZT):(zcl zs).length=zs.length*2:=by
 induction zs with
 |nil=>rfl
 |cons p ps ih=>unfold zcl at ih ⊢; rw[List.flatMap_cons,List.length_append,ih];simp[ZT.cells];omega
theorem qhO(zs:List ZT)(i j:Nat)(p:ZT)(hi:zs[i]? =some p)(hj:j<2):(zcl zs)[i*2+j]? =p.cells[j]?:=by
 induction zs generalizing i with
 |nil=>simp at hi
 |cons q ps ih=>
  unfold zcl at ih ⊢;rw[List.flatMap_cons]
  match i,hi with
  |0,hi=>
   simp at hi;subst hi;rw[List.getElem?_append_left (by simp[ZT.cells];omega)];simp
  |i+1,hi=>
   rw[List.getElem?_append_right (by simp[ZT.cells];omega)];have:=ih i (by simpa using hi);rw[<-this]
   congr 1
   simp[ZT.cells];omega
theorem qeV:∀(zs:List ZT)(i:Nat)(x:ZT),i<zs.length->((zcl zs).set (i*2) (.bool x.ng)).set (i*2+1) (.slice x.A x.ds.length x.c)=zcl (zs.set i x)
 |[],i,x,h=>by simp at h
 |z::zs,0,x,_=>by
  unfold zcl;rw[List.set_cons_zero,List.flatMap_cons,List.flatMap_cons];rfl
 |z::zs,i+1,x,h=>by
  have ih:=qeV zs i x (by simpa using h);unfold zcl at ih ⊢;rw[List.set_cons_succ,List.flatMap_cons,List.flatMap_cons,<-ih,List.set_append_right _ _ (by simp[ZT.cells];omega),List.set_append_right _ _ (by simp[ZT.cells];omega)];have e:z.cells.length=2:=rfl;rw[e,show(i+1)*2-2=i*2 by omega,show(i+1)*2+1-2=i*2+1 by omega]
structure zF (w:World) (B:Nat) (P:Oa) (zs:List ZT):Prop where
 rd:qu w B 2 P zs.length (zcl zs)
 nn:∀x∈zs,qx w B x.A x.c x.ds
section
variable {w w':World} {B B':Nat} {P:Oa} {zs:List ZT}
theorem zF.below(h:zF w B P zs)(hb:Below B w w'):zF w' B P zs:=⟨h.rd.below hb,fun x hx=>(h.nn x hx).below hb⟩
theorem zF.at_(h:zF w B P zs){i:Nat}{x:ZT}(hi:zs[i]? =some x):
 ∃b o,P=some ⟨b,o,none⟩/\b<B/\w.cell? ⟨b,o+i*2,none⟩=some (.bool x.ng)/\w.cell? ⟨b,o+i*2+1,none⟩=some (.slice x.A x.ds.length x.c)/\qx w B x.A x.c x.ds:=by
 have hl:i<zs.length:=(Gi.1 hi).1;obtain⟨b,o,e,hb,hc⟩:=h.rd.2 (by omega);have f:=fun j hj u (hu:x.cells[j]? =some u)=>hc (i*2+j) u ((qhO zs i j x hi hj).trans hu);exact⟨b,o,e,hb,f 0 (by omega) _ rfl,f 1 (by omega) _ rfl,h.nn x (Gk hi)⟩
theorem zF.of_blk{g:Nat}{t:TypeId}(hk:qf w g t (zcl zs).toArray)(hg:g<B)(hn:∀x∈zs,qx w B x.A x.c x.ds):zF w B (some ⟨g,0,none⟩) zs:=
 ⟨⟨qcq zs,fun _=>⟨g,0,rfl,hg,fun j u hu=>by rw[Nat.zero_add,hk.cell];simpa using hu⟩⟩,hn⟩
end
def yO(zs:List ZT):Int:=match zs with|[]=>0|z::zs=>z.z+yO zs
theorem qbx(z:ZT):∀zs:List ZT,yO (zs++[z])=yO zs+z.z
 |[]=>by simp[yO]
 |y::zs=>by
  rw[List.cons_append,yO,qbx z zs,yO];omega
theorem qfX{zs:List ZT}{j:Nat}{x:ZT}(h:zs[j]? =some x):yO (zs.take (j+1))=yO (zs.take j)+x.z:=by
 obtain⟨hj,rfl⟩:=Gi.1 h;rw[List.take_succ_eq_append_getElem hj,qbx]
theorem qdF{w:World}{B L:Nat}:∀(zs:List ZT),(∀x∈zs,qx w B x.A x.c x.ds/\x.ds.length<=L)->(yO zs).natAbs<=zs.length*4294967296^L
 |[],_=>by simp[yO]
 |z::zs,h=>by
  have h1:=h z List.mem_cons_self;have h2:=qdF zs fun x hx=>h x (List.mem_cons_of_mem _ hx);have h3:=Gm (jr h1.1.dg) (Nat.pow_le_pow_right (n:=4294967296) (by decide) h1.2);have h4:=Int.natAbs_add_le z.z (yO zs);unfold ZT.z at h4;rw[je]at h4;rw[yO,List.length_cons,Nat.succ_mul];unfold ZT.z;generalize 4294967296^L=X at*;generalize zs.length*X=Y at*;omega
theorem qhz{w:World}{B L:Nat}{zs:List ZT}(hl:zs.length<4294967296)(h:∀x∈zs,qx w B x.A x.c x.ds/\x.ds.length<=L):(dig (yO zs).natAbs).length<=L+1:=by
 refine qK (Nat.lt_of_le_of_lt (qdF zs h) ?_);rw[Nat.pow_succ,Nat.mul_comm];exact Nat.mul_lt_mul_of_pos_left hl (Nat.pow_pos (by decide))
structure qik (w W:World) (g:Nat) (rc:Array Value) (z:Int) (A:Oa) (c:Nat):Prop where
 bel:Below w.heap.size w W
 ge:w.heap.size<g
 res:qf W w.heap.size 25 rc
 box:qf W g 25 #[.bool (decide (z<0)),.slice A (dig z.natAbs).length c]
 len:(dig z.natAbs).length<=c
 nat:qL W A (dig z.natAbs)
theorem qik.put{w W W':World}{g:Nat}{rc:Array Value}{z z':Int}{A A':Oa}{c c':Nat}(h:qik w W g rc z A c)(hb:Below W.heap.size W W')(l:(dig z'.natAbs).length<=c')(n:qL W' A' (dig z'.natAbs)):
 qik w ((W'.setCell ⟨g,0,none⟩ (.bool (decide (z'<0)))).setCell ⟨g,1,none⟩ (.slice A' (dig z'.natAbs).length c')) g rc z' A' c':=by
 have hk:=h.box.old hb;have hg:=h.ge;exact⟨((Gt h.bel hb).setCell (p:=⟨g,0,none⟩) (Nat.le_of_lt hg) _).setCell (p:=⟨g,1,none⟩) (Nat.le_of_lt hg) _,hg,((h.res.old hb).far (p:=⟨g,0,none⟩) (Nat.ne_of_lt hg) _).far (p:=⟨g,1,none⟩) (Nat.ne_of_lt hg) _,(hk.set_ 0 _).set_ 1 _,l,n.store2 hk (by decide) _ _⟩
theorem qhp(L:Nat)(hL:L<=100000)(zs:List ZT)(hn:zs.length<=100000)(P:Oa)(c B:Nat)(w:World)(hB:B<=w.heap.size)(h:zF w B P zs)(hc:zs.length<=c)(hl:∀x∈zs,x.ds.length<=L):
 Calls Tryz.prog 104 #[.slice P zs.length c] w (qX (yO zs) w):=by
 have HR:=Gh (fun(W:World)(hW:Below w.heap.size w W)=>h.below (hW.mono hB));have CK:=Gh (fun(j:Nat)=>show(dig (yO (zs.take j)).natAbs).length<=L+1 from qhz (w:=w) (B:=B) (by rw[List.length_take];omega) fun x hx=>⟨h.nn x (List.mem_of_mem_take hx),hl x (List.mem_of_mem_take hx)⟩);have MF:=Gh hl;have HB:=Gh hB;obtain⟨Xb,k0,k1,hs⟩:=qR w 25 25 #[.bool false,.slice none 0 0] #[.bool false,.slice none 0 0];have EY:=Gh (show qik w ((w.alloc (.cells #[.bool false,.slice none 0 0] 25)).alloc (.cells #[.bool false,.slice none 0 0] 25)) (w.heap.size+1) #[.bool false,.slice none 0 0] 0 none 0 from
  ⟨Xb,Nat.lt_succ_self _,k0,by rw[show(dig (0:Int).natAbs)=[]from qH];exact k1,by rw[show(dig (0:Int).natAbs)=[]from qH];exact Gr _,by rw[show(dig (0:Int).natAbs)=[]from qH];exact .inl rfl⟩)
 unfold qX;clear h hl Xb k0 k1 hs;have Xg:=Gh (show yO zs=yO (zs.take zs.length)by rw[List.take_length]);generalize yO zs=Z at*;generalize SK:zs.length=n at*;have HN:=Gh SK;clear SK hB;go_enter Tryz.func104,Tryz.ntmps104
 go_wp2_with fail
 generalize (w.alloc (.cells #[.bool false,.slice none 0 0] 25)).alloc (.cells #[.bool false,.slice none 0 0] 25)=W0 at*;go_loopg [9] n (fun gn ix wr=>∃(j:Nat)(A:Oa)(q:Nat),j<=n/\gn=n-j/\ix= .int .i64 j/\qik w wr (w.heap.size+1) #[.bool false,.slice none 0 0] (yO (zs.take j)) A q)
 case atStart=>exact⟨0,none,0,Nat.zero_le _,rfl,rfl,EY⟩
 case round=>
  clear EY;obtain⟨j,A,q,hj,XI,rfl,SH⟩:=hrel;have HG:=Gh XI;have EY:=Gh SH;have Xe:=SH.bel;clear XI;by_cases Xi:j<n
  ·obtain⟨x,hx⟩:∃x,zs[j]? =some x:=⟨_,Gn (by rw[HN.out];exact Xi)⟩;obtain⟨b,o,rfl,Tn,x0,x1,F9⟩:=(HR wr Xe).at_ hx;have CP:=Gk hx;have XH:=Gh (qfX hx);have i3:(0:Int)<=(j:Int):=by omega
   have i4:(j:Int)<(n:Int):=by omega
   have i5:(n:Int)<=(c:Int):=by omega
   have Xc:=Gb wr (.cells #[.bool x.ng,.slice x.A x.ds.length x.c] 25);have Vy:=qf.new wr 25 #[.bool x.ng,.slice x.A x.ds.length x.c];have Vh:B<=wr.heap.size:=Gl HB Xe.size;have NS:=qc0 (decide (yO (zs.take j)<0)) x.ng A x.A q x.c (wr.alloc (.cells #[.bool x.ng,.slice x.A x.ds.length x.c] 25)).heap.size (dig (yO (zs.take j)).natAbs) x.ds (wr.alloc (.cells #[.bool x.ng,.slice x.A x.ds.length x.c] 25)) (Gr _) (yf (SH.nat.old Xc) SH.len) ((F9.below (Xc.mono Vh)).more (Gl Vh Xc.size)) (by have:=CK.out j;omega) (by have:=MF.out x CP;omega);rw[jM,show qj x.ng x.ds=x.z from rfl,<-XH.out]at NS;have SA:=Gh NS;unfold qX at SA;have El:=Gh Xc;have UV:=Gh Vy;have t0:wr.cell? ⟨w.heap.size+1,0,none⟩=some (.bool (decide (yO (zs.take j)<0))):=SH.box.cell 0;have t1:wr.cell? ⟨w.heap.size+1,1,none⟩=some (.slice A (dig (yO (zs.take j)).natAbs).length q):=SH.box.cell 1;have tl:=SH.box.lt;clear hx F9 CP SH NS Xc Vy Xe Vh XH;generalize X7:yO (zs.take (j+1))=z1 at*;have Vc:=Gh X7;clear X7;generalize XU:yO (zs.take j)=z0 at*;clear XU;generalize x.ds.length=xl at*;generalize x.ng=xg at*;go_wp2_with fail
   refine SA.out.mono ?_;rintro e w4 ⟨A4,c4,rfl,l4,n4,XB⟩;have hb:=Gt El XB;have hk:=EY.out.box.old hb;have d0:w4.cell? ⟨w.heap.size+1,0,none⟩=some (.bool (decide (z0<0))):=hk.cell 0;have d1:w4.cell? ⟨w.heap.size+1,1,none⟩=some (.slice A (dig z0.natAbs).length q):=hk.cell 1;have f0:=hk.frozen 0;have f1:=hk.frozen 1;have zl:=hk.lt;have Vu:=Gh (EY.out.put hb l4 n4);clear XB n4 l4 t0 t1 tl x0 x1 hk SA El UV hb;go_wp2_with fail
   go_roundg (n-(j+1))
   case rel=>exact⟨j+1,A4,c4,by omega,rfl,by go_num,by rw[Vc.out];exact Vu⟩
   case measure=>have:=HG.out;omega
  ·obtain rfl:j=n:=by omega
   rw[<-Xg.out]at SH;have Kw:=Gh SH;have t0:wr.cell? ⟨w.heap.size+1,0,none⟩=some (.bool (decide (Z<0))):=SH.box.cell 0;have t1:wr.cell? ⟨w.heap.size+1,1,none⟩=some (.slice A (dig Z.natAbs).length q):=SH.box.cell 1;have d0:wr.cell? ⟨w.heap.size,0,none⟩=some (.bool false):=SH.res.cell 0;have d1:wr.cell? ⟨w.heap.size,1,none⟩=some (.slice none 0 0):=SH.res.cell 1;have f0:=SH.res.frozen 0;have f1:=SH.res.frozen 1;have zl:=SH.res.lt;clear SH Xe EY;go_wp2_with fail
   exact qo Tryz.results104 rfl rfl ((Kw.out.res.set_ 0 _).set_ 1 _) Tryz.underlying25 rfl Tryz.sizeInt ⟨A,q,rfl,Kw.out.len,Kw.out.nat.store2 Kw.out.res (by decide) _ _,(Kw.out.bel.setCell (p:=⟨w.heap.size,0,none⟩) (Gr _) _).setCell (p:=⟨w.heap.size,1,none⟩) (Gr _) _⟩
theorem Tryz.infoInt2:(Tryz.prog.info? 25).map (fun i=>(i.zero,i.size,i.bytes))=some (some (.agg #[.bool false,.slice none 0 0]),2,32):=by kernel_rfl
theorem Tryz.make_int(n:Nat)(hn:n<=1000000)(w:World):(Instr.makeSlice 137 (.int .i64 (n:Int)) (.int .i64 (n:Int))).run Tryz.prog w= .ok (.slice (some ⟨w.heap.size,0,none⟩) n n) (w.alloc (.cells (madeCells #[.bool false,.slice none 0 0] (n*2)) 25)):=by
 obtain⟨i0,Uw,XU,X7,Xy⟩:=qO Tryz.infoInt2;have hr:=run_make (P:=Tryz.prog) w 137 25 i0 _ Tryz.underlying137 Uw XU .i64 .i64 n n (by omega) (by omega) (by rw[Xy];omega) (by omega);simp only[Int.toNat_natCast,X7,Value.cells]at hr;exact hr
section
variable {S:Nat->Prop} {W W1:World} {g m b0:Nat} {ts:List RP} {cur:Array Value} {rows:List (List Value)}
theorem jh.oldSh(h:jh W g m (ZL S W b0) ts cur rows)(hb:Below W.heap.size W W1)(hS:∀b,S b->b<W.heap.size):jh W1 g m (ZL S W1 b0) ts cur rows:=by
 obtain⟨k1,k2⟩:=yB.keep (w:=W) (w':=W1) (base:=b0) (base':=b0) (fun _ _ k=>k.old hb) (fun _ _ _ k=>k.old hb) (Gr _);refine(h.keep (h.row.old hb) fun b Ux o=>?_).mono fun b Ux=>Ux.imp id (k2 b);rcases Ux with h|h
 ·exact hb.cell (p:=⟨b,o,none⟩) (hS b h)
 ·exact k1 b h o
theorem jh.putSh(h:jh W g m (ZL S W (g+1)) ts cur rows)(hS:∀b,S b->b≠g){e:Nat}(he:e<m){t:RP}{A K:Oa}{c kc:Nat}(ht:RV W (ZL S W (g+1)) t (qe t A c K kc)):
 ∃cur' rows',jh (set4 W g (e*4) (.int .i64 t.lv) (.bool t.ng) (.slice A t.ds.length c) (.slice K t.ks.length kc)) g m (ZL S (set4 W g (e*4) (.int .i64 t.lv) (.bool t.ng) (.slice A t.ds.length c) (.slice K t.ks.length kc)) (g+1)) (ts.set e t) cur' rows':=by
 obtain⟨cur',hp⟩:=h.put (fun b hb=>hb.elim (hS b) fun k=>k.ne h.row) he ht;obtain⟨_,s2,s3⟩:=jm (k:=e*4) h.row (.int .i64 t.lv) (.bool t.ng) (.slice A t.ds.length c) (.slice K t.ks.length kc);exact⟨cur',_,hp.mono fun b hb=>hb.imp id ((yB.keep (base:=g+1) (base':=g+1) s2 (fun j ds hg hj=>s3 j ds (by omega) hj) (Gr _)).2 b)⟩
theorem jh.trsSh(h:jh W g m (ZL S W (g+1)) ts cur rows){base:Nat}(hb:base<=g):yM W (ZL S W base) (ZL S W base) (some ⟨g,0,none⟩) ts:=
 ⟨rows,⟨by rw[jt h.four,h.len,h.kl],fun _=>⟨g,0,rfl,.inr (.inr ⟨hb,cur,h.row⟩),fun j u hu=>by rw[Nat.zero_add];exact(h.row.cell j).trans (h.at_ j u hu)⟩⟩,qG.mono (fun b Ux=>Ux.imp id fun k=>k.mono (by omega)) _ _ h.kids⟩
theorem qe5{w V:World}{T:RP}{A K:Oa}{c kc:Nat}{cs:Array Value}(hk:qf V g 28 cs)(XE:cs.size=4)(hr:RV V (ZL S V (g+1)) T (qe T A c K kc))(hS:∀b,S b->b≠g)(hw:w.heap.size<=g)(hb:Below w.heap.size w V):
 qf ((((V.setCell ⟨g,0,none⟩ (.int .i64 T.lv)).setCell ⟨g,1,none⟩ (.bool T.ng)).setCell ⟨g,2,none⟩ (.slice A T.ds.length c)).setCell ⟨g,3,none⟩ (.slice K T.ks.length kc)) g 28 #[.int .i64 T.lv,.bool T.ng,.slice A T.ds.length c,.slice K T.ks.length kc]/\
 J5 S T w (.returned (qm T A c K kc)) ((((V.setCell ⟨g,0,none⟩ (.int .i64 T.lv)).setCell ⟨g,1,none⟩ (.bool T.ng)).setCell ⟨g,2,none⟩ (.slice A T.ds.length c)).setCell ⟨g,3,none⟩ (.slice K T.ks.length kc)):=by
 obtain⟨q1,q2,q3⟩:=qcs (w:=w) hk XE hr (fun b Ux=>Ux.elim (hS b) fun k=>k.ne hk) hw hb;obtain⟨_,s2,s3⟩:=jm (k:=0) hk (.int .i64 T.lv) (.bool T.ng) (.slice A T.ds.length c) (.slice K T.ks.length kc);exact⟨q1,A,c,K,kc,rfl,RV.mono (fun b Ux=>Ux.imp id ((yB.keep (base:=g+1) (base':=w.heap.size) s2 (fun j ds hg hj=>s3 j ds (by omega) hj) (by omega)).2 b)) _ _ q2,q3⟩
end
structure YR (S:Nat->Prop) (W0 W:World) (v:Value) (ks:List RP):Prop where
 bel:Below W0.heap.size W0 W
 row:∃rows,W.ownsRow W0.heap.size 28 4 v ks.length rows.flatten/\qG W S ks rows
theorem YR.start{S:Nat->Prop}(w:World):YR S w w (.slice none 0 0) []:=⟨Below.refl _ _,[],⟨rfl,.inl ⟨rfl,rfl⟩⟩,by unfold qG;rfl⟩
section
variable {S:Nat->Prop} {W0 W W1 W2:World} {v v':Value} {ks:List RP} {rows:List (List Value)} {u:RP} {us cs:List Value}
theorem YR.old(h:YR S W0 W v ks)(hS:∀b,S b->b<W0.heap.size)(h1:Below W.heap.size W W1):YR S W0 W1 v ks:=by
 obtain⟨rows,k1,k2⟩:=h.row;have hs:=h.bel.size;exact⟨h.bel.trans (h1.mono hs),rows,jB k1 h1,qG.keep (fun b hb o=>h1.cell (p:=⟨b,o,none⟩) (Gm (hS b hb) hs)) _ _ k2⟩
theorem YR.push(h:YR S W0 W v ks)(hS:∀b,S b->b<W0.heap.size)(hr:W.ownsRow W0.heap.size 28 4 v ks.length rows.flatten)(hm:qG W S ks rows)
 (h1:Below W.heap.size W W1)(hu:RV W1 S u us)(ho:W2.ownsRow W0.heap.size 28 4 v' (ks.length+1) (rows.flatten++us))(hg:(W1.alloc (.cells cs.toArray 28)).grownBy W2 v.ownBlock):YR S W0 W2 v' (ks++[u]):=by
 have ha:=Gb W1 (.cells cs.toArray 28);have hs:=h.bel.size;have Rg:=Gl hs h1.size;have RL:=Gl Rg ha.size;have Xf:Below W0.heap.size (W1.alloc (.cells cs.toArray 28)) W2:=⟨hg.os,hg.tape,hg.output,hg.size,fun k hk=>hg.block k (by omega) (fun e=>by have:=jY hr e.symm;omega)⟩;have Xp:Below W0.heap.size W1 W2:=(ha.mono Rg).trans Xf;have Xe:Below W0.heap.size W W2:=(h1.mono hs).trans Xp;refine⟨h.bel.trans Xe,rows++[us],by simpa using ho,qG.snoc (qG.keep (fun b hb o=>Xe.cell (p:=⟨b,o,none⟩) (hS b hb)) _ _ hm) (RV.keep (fun b hb o=>Xp.cell (p:=⟨b,o,none⟩) (hS b hb)) _ _ hu)⟩
theorem YR.arg(h:YR S W0 W v ks):∃A c,v= .slice A ks.length c/\ks.length<=c/\yM W (· <W.heap.size) S A ks:=by
 obtain⟨rows,h1,h2⟩:=h.row;obtain⟨L,lc,rfl⟩:=jd h1;refine⟨L,lc,rfl,?_,rows,ju.of (qu.of_own h1) (fun _ h=>h),h2⟩;by_cases h0:ks.length=0
 ·omega
 ·obtain⟨g',lc',e,hb,hl⟩:=h1.form (by omega)
  injection e with e1 e2 e3
  subst e1;subst e3;exact(own_blk h1).elim fun _ h=>h.2.2.1
end
theorem qeu{l:Int}{i:Nat}{ts:List RP}{k:Nat}{u:RP}(h:ts[k]? =some u):jq l i (ts.take (k+1))=jq l i (ts.take k)++(match yH l i u with|some x=>[x]|none=>[]):=by
 obtain⟨hk,rfl⟩:=Gi.1 h;unfold jq;rw[List.take_succ_eq_append_getElem hk,List.filterMap_append,List.filterMap_cons]
 cases yH l i ts[k]<;>rfl
structure qau (w W:World) (B g n:Nat) (ts:List RP) (j:Nat) (zs:List ZT):Prop where
 bel:Below w.heap.size w W
 blk:qf W g 25 (zcl zs).toArray
 len:zs.length=n
 nn:∀x∈zs,qx W B x.A x.c x.ds
 eq:zs.map (fun x=>(x.ng,x.ds))=(ts.take j).map (fun t=>(t.ng,t.ds))++List.replicate (n-j) (false,[])
theorem qg7:∀{zs:List ZT} {ts:List RP},zs.map (fun x=>(x.ng,x.ds))=ts.map (fun t=>(t.ng,t.ds))->yO zs=QD ts
 |[],[],_=>rfl
 |[],_::_,h=>by simp at h
 |_::_,[],h=>by simp at h
 |z::zs,t::ts,h=>by
  simp only[List.map_cons,List.cons.injEq,Prod.mk.injEq]at h;rw[yO,QD,qg7 h.2];unfold ZT.z;rw[h.1.1,h.1.2]
theorem qiH(n:Nat):madeCells #[Value.bool false,.slice none 0 0] (n*2)=(zcl (List.replicate n ⟨false,[],none,0⟩)).toArray:=by
 apply Array.ext';apply List.ext_getElem?;intro j;have hs:=size_madeCells #[Value.bool false,.slice none 0 0] (n*2);have hl:=qcq (List.replicate n ⟨false,[],none,0⟩);rw[List.length_replicate]at hl;by_cases hj:j<n*2
 ·rw[Array.getElem?_toList,Ym _ _ _ hj];obtain⟨k,i,hi,rfl⟩:∃k i,i<2/\j=k*2+i:=⟨j/2,j%2,Nat.mod_lt _ (by omega),by omega⟩;have:=qhO (List.replicate n ⟨false,[],none,0⟩) k i ⟨false,[],none,0⟩ (by rw[List.getElem?_replicate,if_pos (by omega)]) hi;simp only[];rw[this];rcases(by omega:i=0∨i=1)with rfl|rfl<;>simp[ZT.cells,Nat.mul_add_mod_self_right]
 ·rw[List.getElem?_eq_none (by rw[Array.length_toList,hs];omega),List.getElem?_eq_none (by simp only[];rw[hl];omega)]
theorem qau.start{w W:World}{B n:Nat}{ts:List RP}(hb:Below w.heap.size w W):qau w (W.alloc (.cells (madeCells #[.bool false,.slice none 0 0] (n*2)) 25)) B W.heap.size n ts 0 (List.replicate n ⟨false,[],none,0⟩):=by
 refine⟨hb.alloc hb.size _,?_,List.length_replicate,fun x hx=>?_,by simp⟩
 ·rw[<-qiH];exact qf.new W 25 _
 ·rw[(List.mem_replicate.1 hx).2];exact⟨qu.none_,by simp[jg],Gr _⟩
theorem qau.put{w W W1:World}{B g n:Nat}{ts:List RP}{j:Nat}{zs:List ZT}(h:qau w W B g n ts j zs)(hB:B<=w.heap.size)(hg:w.heap.size<=g)(hj:j<n){u:RP}(hu:ts[j]? =some u){A:Oa}{c:Nat}(hn:qx W B A c u.ds)(h1:Below W.heap.size W W1):
 qau w ((W1.setCell ⟨g,j*2,none⟩ (.bool u.ng)).setCell ⟨g,j*2+1,none⟩ (.slice A u.ds.length c)) B g n ts (j+1) (zs.set j ⟨u.ng,u.ds,A,c⟩):=by
 have hk:=((h.blk.old h1).set_ (j*2) (.bool u.ng)).set_ (j*2+1) (.slice A u.ds.length c);have hs:=h.bel.size;have VA:Below B W ((W1.setCell ⟨g,j*2,none⟩ (.bool u.ng)).setCell ⟨g,j*2+1,none⟩ (.slice A u.ds.length c)):=((h1.mono (by omega)).setCell (p:=⟨g,j*2,none⟩) (by show B<=g;omega) _).setCell (p:=⟨g,j*2+1,none⟩) (by show B<=g;omega) _;refine⟨((Gt h.bel h1).setCell (p:=⟨g,j*2,none⟩) hg _).setCell (p:=⟨g,j*2+1,none⟩) hg _,?_,by rw[List.length_set];exact h.len,fun x hx=>?_,?_⟩
 ·have e:=qeV zs j ⟨u.ng,u.ds,A,c⟩ (by rw[h.len];exact hj);rw[<-e];simpa using hk
 ·rcases List.mem_or_eq_of_mem_set hx with hx|rfl
  ·exact(h.nn x hx).below VA
  ·exact hn.below VA
 ·obtain⟨Fp,e⟩:=Gi.1 hu;obtain⟨r,hr⟩:∃r,n-j=r+1:=⟨n-j-1,by omega⟩;have hl:((ts.take j).map fun t=>(t.ng,t.ds)).length=j:=by rw[List.length_map,List.length_take];omega
  rw[List.map_set,h.eq,List.set_append_right _ _ (by omega),hl,Nat.sub_self,hr,List.replicate_succ,List.set_cons_zero,List.take_succ_eq_append_getElem Fp,List.map_append,List.append_assoc,e,show n-(j+1)=r by omega];rfl
theorem qau.fin{w W:World}{B g n:Nat}{ts:List RP}{zs:List ZT}(h:qau w W B g n ts n zs)(hn:ts.length=n):yO zs=QD ts/\∀x∈zs,∃t∈ts,x.ds=t.ds:=by
 have e:=h.eq;rw[Nat.sub_self,List.replicate_zero,List.append_nil,<-hn,List.take_length]at e;refine⟨qg7 e,fun x hx=>?_⟩;have:(x.ng,x.ds)∈ts.map fun t=>(t.ng,t.ds):=by
  rw[<-e];exact List.mem_map.2 ⟨x,hx,rfl⟩
 obtain⟨t,ht,ee⟩:=List.mem_map.1 this
 injection ee with _ e2
 exact⟨t,ht,e2.symm⟩
theorem qau.ints{w W:World}{B g n:Nat}{ts:List RP}{j:Nat}{zs:List ZT}(h:qau w W B g n ts j zs)(hB:B<=w.heap.size):zF W W.heap.size (some ⟨g,0,none⟩) zs:=
 zF.of_blk h.blk h.blk.lt fun x hx=>(h.nn x hx).more (Gl hB h.bel.size)
theorem qkh{S:Nat->Prop}{w V:World}{g:Nat}{z:Int}{A:Oa}{c:Nat}{cs:Array Value}(hk:qf V g 28 cs)(XE:cs.size=4)(hn:qL V A (dig z.natAbs))(hl:(dig z.natAbs).length<=c)(hw:w.heap.size<=g)(hb:Below w.heap.size w V):
 qf ((((V.setCell ⟨g,0,none⟩ (.int .i64 0)).setCell ⟨g,1,none⟩ (.bool (decide (z<0)))).setCell ⟨g,2,none⟩ (.slice A (dig z.natAbs).length c)).setCell ⟨g,3,none⟩ (.slice none 0 0)) g 28 #[.int .i64 0,.bool (decide (z<0)),.slice A (dig z.natAbs).length c,.slice none 0 0]/\
 J5 S (jy z) w (.returned (qm (jy z) A c none 0)) ((((V.setCell ⟨g,0,none⟩ (.int .i64 0)).setCell ⟨g,1,none⟩ (.bool (decide (z<0)))).setCell ⟨g,2,none⟩ (.slice A (dig z.natAbs).length c)).setCell ⟨g,3,none⟩ (.slice none 0 0)):=by
 have hr:RV V (ZL (fun _=>False) V (g+1)) (jy z) (qe (jy z) A c none 0):=RV.mono (fun b h=> .inr h) _ _ (RB.const (base:=g+1) hn (qA _) hl);obtain⟨q1,A',c',K,kc,e,q2,q3⟩:=qe5 (S:=fun _=>False) (w:=w) (T:=jy z) hk XE hr (fun _ h=>h.elim) hw hb;refine⟨q1,A',c',K,kc,e,RV.mono (fun b h=>h.imp False.elim id) _ _ q2,q3⟩
def cfA(f:Nat->RP)(n i:Nat):List RP:=(List.range i).map f++List.replicate (n-i) qh
theorem qh5(f:Nat->RP){n i:Nat}(h:i<n):(cfA f n i).set i (f i)=cfA f n (i+1):=by
 unfold cfA;obtain⟨r,hr⟩:∃r,n-i=r+1:=⟨n-i-1,by omega⟩;have hl:((List.range i).map f).length=i:=by simp
 rw[List.set_append_right _ _ (by omega),hl,Nat.sub_self,hr,List.replicate_succ,List.set_cons_zero,List.range_succ,List.map_append,List.append_assoc,show n-(i+1)=r by omega];rfl
theorem qfM(f:Nat->RP)(n:Nat):cfA f n n=(List.range n).map f:=by simp[cfA]
structure qaj (S:Nat->Prop) (w W:World) (g n:Nat) (f:Nat->RP) (i:Nat):Prop where
 bel:Below w.heap.size w W
 row:∃cur rows,jh W g n (ZL S W (g+1)) (cfA f n i) cur rows
theorem qaj.start{S:Nat->Prop}{w W:World}{n:Nat}{f:Nat->RP}(hb:Below w.heap.size w W):qaj S w (W.alloc (.cells (madeCells #[.int .i64 0,.bool false,.slice none 0 0,.slice none 0 0] (n*4)) 28)) W.heap.size n f 0:=by
 have:=jh.zeros (S:=ZL S (W.alloc (.cells (madeCells Gz (n*4)) 28)) (W.heap.size+1)) n (qf.new W 28 (madeCells Gz (n*4)));exact⟨hb.alloc hb.size _,_,_,by simpa[cfA]using this⟩
theorem qaj.put{S:Nat->Prop}{w W W1:World}{g n:Nat}{f:Nat->RP}{i:Nat}(h:qaj S w W g n f i)(hS:∀b,S b->b<w.heap.size)(hg:w.heap.size<=g)(hi:i<n)(h1:Below W.heap.size W W1){A K:Oa}{c kc base:Nat}(ht:RV W1 (ZL S W1 base) (f i) (qe (f i) A c K kc))(hb:g+1<=base):
 qaj S w (set4 W1 g (i*4) (.int .i64 (f i).lv) (.bool (f i).ng) (.slice A (f i).ds.length c) (.slice K (f i).ks.length kc)) g n f (i+1):=by
 obtain⟨cur,rows,hr⟩:=h.row;have hs:=h.bel.size;obtain⟨cur',rows',hp⟩:=(hr.oldSh h1 fun b hb=>Gm (hS b hb) hs).putSh (fun b hb=>by have:=hS b hb;omega) hi (RV.mono (fun _ k=>k.imp id fun k=>k.mono hb) _ _ ht);exact⟨qy (h.bel.trans (h1.mono hs)) hg _ _ _ _,cur',rows',by rw[<-qh5 f hi];exact hp⟩
theorem qaj.cell{S:Nat->Prop}{w W W1:World}{g n:Nat}{f:Nat->RP}{i:Nat}(h:qaj S w W g n f i)(h1:Below W.heap.size W W1){j:Nat}(hj:j<n):∃v0 v1 v2 v3,W1.cell? ⟨g,j*4,none⟩=some v0/\W1.cell? ⟨g,j*4+1,none⟩=some v1/\W1.cell? ⟨g,j*4+2,none⟩=some v2/\W1.cell? ⟨g,j*4+3,none⟩=some v3/\
 W1.frozen? ⟨g,j*4,none⟩=false/\W1.frozen? ⟨g,j*4+1,none⟩=false/\W1.frozen? ⟨g,j*4+2,none⟩=false/\W1.frozen? ⟨g,j*4+3,none⟩=false/\g<W1.heap.size:=by
 obtain⟨cur,rows,hr⟩:=h.row;have hk:=hr.row.old h1;have hz:=hr.siz;have ex:∀i,i<4->∃v,cur[j*4+i]? =some v:=fun i hi=>⟨_,Array.getElem?_eq_getElem (by omega)⟩;obtain⟨v0,q0⟩:=ex 0 (by omega);obtain⟨v1,q1⟩:=ex 1 (by omega);obtain⟨v2,q2⟩:=ex 2 (by omega);obtain⟨v3,q3⟩:=ex 3 (by omega);exact⟨v0,v1,v2,v3,(hk.cell _).trans q0,(hk.cell _).trans q1,(hk.cell _).trans q2,(hk.cell _).trans q3,hk.frozen _,hk.frozen _,hk.frozen _,hk.frozen _,hk.lt⟩
theorem ZL.old{S:Nat->Prop}{W W1:World}{base b:Nat}(h:ZL S W base b)(hb:Below W.heap.size W W1):ZL S W1 base b:=
 h.imp id ((yB.keep (w:=W) (w':=W1) (base:=base) (base':=base) (fun _ _ k=>k.old hb) (fun _ _ _ k=>k.old hb) (Gr _)).2 b)
theorem ZL.lt{S:Nat->Prop}{W:World}{base b:Nat}(h:ZL S W base b)(hS:∀b,S b->b<W.heap.size):b<W.heap.size:=h.elim (hS b) fun k=>k.lt
theorem qaL(S:Nat->Prop)(B X:Nat)(SQ:∀b,S b->b<B)(hX:X<=10000)(ts:List RP)(hL:(jR ts).1=0)(hn:ts.length<=10000)(Uh:∀t∈ts,yP X t)(P:Oa)(c:Nat)(w:World)(hB:B<=w.heap.size)(h:yM w (· <w.heap.size) S P ts)(hc:ts.length<=c):
 Calls Tryz.prog 81 #[.slice P ts.length c] w (J5 S (jy (QD ts)) w):=by
 have HR:=Gh (fun(W:World)(hW:Below w.heap.size w W)=>h.old hW (fun b hb=>hb) (fun b hb=>Gm (SQ b hb) hB));have Xb:=Gb w (.cells Gz 28);have Xx:=qf.new w 28 Gz;have Xd:=Gh Xb;have Xo:=Gh Xx;have HC:=Gh hc;have EX:=Gh (fun(b:Nat)(hb:S b)=>show b<w.heap.size from Gm (SQ b hb) hB);have UQ:=Gh SQ;have Ui:=Gh Uh;have HNL:=Gh hn;have Sy:=Gh hB;have EW:=Gh (fun(zs:List ZT)(hz:zs.length=ts.length)(P:Oa)(W:World)(h:zF W W.heap.size P zs)(hl:∀x∈zs,x.ds.length<=X)=>qhp X (by omega) zs (by omega) P zs.length W.heap.size W (Gr _) h (Gr _) hl);obtain⟨i0,Uw,XU,X7,Xy⟩:=qO Tryz.infoRec;have KL:=Gh (And.intro Uw (And.intro XU (And.intro X7 Xy)));have PB:=fun(W:World)=>Tryz.make_int ts.length (by omega) W;have HMI:=Gh PB;have Be:=Gh (show jR ts=jR (ts.take ts.length)by rw[List.take_length]);unfold J5 qm;unfold qX at EW;clear h Uh hB hc Xb Xx SQ Uw XU X7 Xy PB;obtain⟨R,hR⟩:∃R,R=jy (QD ts):=⟨_,rfl⟩;have Fw:=Gh hR;rw[<-hR];clear hR;generalize SK:ts.length=n at*;have HN:=Gh SK;clear SK;go_enter Tryz.func81,Tryz.ntmps81
 go_wp2_with fail
 generalize w.alloc (.cells Gz 28)=W0 at*;go_loopg [3,4,17] n (fun gn lv sz ix wr=>∃j:Nat,j<=n/\gn=n-j/\ix= .int .i64 j/\lv= .int .i64 (jR (ts.take j)).1/\sz= .int .i64 ((jR (ts.take j)).2:Nat)/\Below W0.heap.size W0 wr)
 case atStart=>exact⟨0,Nat.zero_le _,rfl,rfl,rfl,rfl,Below.refl _ _⟩
 case round=>
  obtain⟨j,hj,XI,rfl,rfl,rfl,Xe⟩:=hrel;have HG:=Gh XI;clear XI;have Xh:=Gh (Gt Xd Xe);have Up:=Gh Xe;by_cases Xi:j<n
  ·obtain⟨u,hu⟩:∃u,ts[j]? =some u:=⟨_,Gn (by rw[HN.out];exact Xi)⟩;obtain⟨b,o,A1,q1,K1,r1,rfl,OS,x0,x1,x2,x3,XN⟩:=(HR wr Xh).kid hu;have XH:=Gh (qdb hu);have i3:(0:Int)<=(j:Int):=by omega
   have i4:(j:Int)<(n:Int):=by omega
   have i5:(n:Int)<=(c:Int):=by have:=HC.out;omega
   have El:=Gh (Xe.trans ((Gb wr (.cells #[.int .i64 u.lv,.bool u.ng,.slice A1 u.ds.length q1,.slice K1 u.ks.length r1] 28)).mono Xe.size));have LZ:yu (jR (ts.take j)) u=if(jR (ts.take j)).1<u.lv then(u.lv,max 0 u.ks.length)else if u.lv=(jR (ts.take j)).1 then((jR (ts.take j)).1,max (jR (ts.take j)).2 u.ks.length)else jR (ts.take j):=rfl
   have Uj:=Gh (XH.out.trans LZ);clear hu XN Xe XH LZ;generalize IJ:jR (ts.take j)=pj at*;clear IJ;obtain⟨lj,sj⟩:=pj;dsimp only at*;generalize u.ds.length=ud at*;generalize u.ks.length=uk at*;generalize u.ng=ug at*;generalize u.lv=ul at*;by_cases h1:lj<ul
   ·have RR:=Gh (show jR (ts.take (j+1))=(ul,max 0 uk)by rw[Uj,if_pos h1]);have e1:decide (lj<ul)=true:=decide_eq_true h1;clear Uj;go_wp2_with fail
    go_roundg (n-(j+1))
    case rel=>exact⟨j+1,by omega,rfl,by go_num,by rw[RR.out],by rw[RR.out];congr 1,El⟩
    case measure=>have:=HG.out;omega
   ·by_cases h2:ul=lj
    ·have RR:=Gh (show jR (ts.take (j+1))=(lj,max sj uk)by rw[Uj,if_neg h1,if_pos h2]);have e1:decide (lj<ul)=false:=decide_eq_false h1;subst h2;clear Uj h1;go_wp2_with fail
     go_roundg (n-(j+1))
     case rel=>exact⟨j+1,by omega,rfl,by go_num,by rw[RR.out],by rw[RR.out];congr 1;simp only[];omega,El⟩
     case measure=>have:=HG.out;omega
    ·have RR:=Gh (show jR (ts.take (j+1))=(lj,sj)by rw[Uj,if_neg h1,if_neg h2]);have e1:decide (lj<ul)=false:=decide_eq_false h1;have e2:(ul==lj)=false:=by simpa using h2
     clear Uj h1 h2;go_wp2_with fail
     go_roundg (n-(j+1))
     case rel=>exact⟨j+1,by omega,rfl,by go_num,by rw[RR.out],by rw[RR.out],El⟩
     case measure=>have:=HG.out;omega
  ·obtain rfl:j=n:=by omega
   rw[<-Be.out];have N9:=Gh (Xo.out.old Xe);clear Xe Be HG Xi hj;have eL:((jR ts).1==0)=true:=by simpa using hL
   have Uz:=HMI.out wr;have Dw:=Up.out.size;have hgg0:w.heap.size<wr.heap.size:=Gm (Xo.out.lt) Up.out.size;have SW:=Gh (qau.start (B:=B) (n:=j) (ts:=ts) Xh);clear hL HMI Dw;generalize (jR ts).1=L at*;generalize (jR ts).2=Z at*;generalize RC:wr.heap.size=g at*;have Xu:=Gh (N9.out.alloc (.cells (madeCells #[.bool false,.slice none 0 0] (j*2)) 25));go_wp2_with fail
   generalize wr.alloc (.cells (madeCells #[.bool false,.slice none 0 0] (j*2)) 25)=W3 at*;go_loopg [8,44] j (fun gn _ ix wr=>∃(k:Nat)(zs:List ZT),k<=j/\gn=j-k/\ix= .int .i64 k/\qau w wr B g j ts k zs/\qf wr w.heap.size 28 Gz)
   case atStart=>exact⟨0,_,Nat.zero_le _,rfl,rfl,SW,Xu⟩
   case round=>
    clear SW Xu;obtain⟨k,zs,hk,XG,rfl,SL,X8⟩:=hrel;have HG:=Gh XG;have Bp:=SL.bel;have SW:=Gh SL;have RI:=Gh X8;clear XG;by_cases Xi:k<j
    ·obtain⟨u,hu⟩:∃u,ts[k]? =some u:=⟨_,Gn (by rw[HN.out];exact Xi)⟩;obtain⟨b,o,A1,q1,K1,r1,rfl,OS,x0,x1,x2,x3,XN⟩:=(HR wr Bp).kid hu;have Xc:=Gb wr (.cells #[.int .i64 u.lv,.bool u.ng,.slice A1 u.ds.length q1,.slice K1 u.ks.length r1] 28);have UU:=qf.new wr 28 #[.int .i64 u.lv,.bool u.ng,.slice A1 u.ds.length q1,.slice K1 u.ks.length r1];have Pw:qx wr B A1 q1 u.ds:=(RV.mono (fun b hb=>UQ b hb) _ _ XN).natIn;have VR:=SL.put Sy (by omega) Xi hu Pw Xc;have Rk:=Gh VR;have Uv:=SL.blk.old Xc;have Ur:(zcl zs).toArray.size=j*2:=by rw[List.size_toArray,qcq,SL.len]
     have ex:∀i,i<2->∃v,(zcl zs).toArray[k*2+i]? =some v:=fun i hi=>⟨_,Array.getElem?_eq_getElem (by omega)⟩;obtain⟨p0,s0⟩:=ex 0 (by omega);obtain⟨p1,s1⟩:=ex 1 (by omega);have i3:(0:Int)<=(k:Int):=by omega
     have i4:(k:Int)<(j:Int):=by omega
     have i5:(j:Int)<=(c:Int):=by have:=HC.out;omega
     have XA:=Gh ((X8.old Xc).far (p:=⟨g,k*2,none⟩) (by show w.heap.size≠g;omega) (.bool u.ng));have Uk:=Gh (XA.out.far (p:=⟨g,k*2+1,none⟩) (by show w.heap.size≠g;omega) (.slice A1 u.ds.length q1));clear hu Pw VR SL X8 Bp Ur XA SW RI XN;generalize u.ds.length=ud at*;generalize u.ks.length=uk at*;generalize u.lv=ul at*;go_upto_region 15 with(fail)
     generalize hV:wr.alloc (.cells #[.int .i64 ul,.bool u.ng,.slice A1 ud q1,.slice K1 uk r1] 28)=V at*;have d0:V.cell? ⟨g,k*2,none⟩=some p0:=(Uv.cell _).trans s0;have d1:V.cell? ⟨g,k*2+1,none⟩=some p1:=(Uv.cell _).trans s1;have f0:=Uv.frozen (k*2);have f1:=Uv.frozen (k*2+1);have zl:=Uv.lt;have y1:=UU.cell 1;have y2:=UU.cell 2;generalize u.ng=ug at*;clear Uv ex s0 s1 UU Xc x0 x1 x2 x3 hV;go_wp2_with fail
     go_roundg (j-(k+1))
     case rel=>exact⟨k+1,_,by omega,rfl,by go_num,Rk,Uk⟩
     case measure=>have:=HG.out;omega
    ·obtain rfl:k=j:=by omega
     obtain⟨e1,e2⟩:=SL.fin HN.out;have IE:=EW.out zs (by rw[SL.len]) (some ⟨g,0,none⟩) wr (SL.ints Sy) (fun x hx=>by
      obtain⟨t,ht,e⟩:=e2 x hx;rw[e];exact(Ui t ht).at_.1)
     rw[SL.len,e1]at IE;have HS:=Gh IE;clear IE e1 e2 SL X8 EW Ui;generalize QD ts=z at*;go_wp2_with fail
     refine HS.out.mono ?_;rintro e w4 ⟨A4,c4,rfl,l4,n4,XB⟩;have Xj:=RI.out.old XB;have Xg:=Gh (qkh (S:=S) (w:=w) Xj rfl n4 l4 (Gr _) (Gt Bp XB));obtain⟨d0,d1,d2,d3⟩:=G4 Xj;obtain⟨f0,f1,f2,f3,zl⟩:=G5 Xj;have hT:=Fw.out;subst hT;clear Xj n4 l4 XB HS Bp RI SW;go_wp2_with fail
     exact qo Tryz.results81 rfl rfl Xg.out.1 Tryz.underlying28 rfl Tryz.sizeRec Xg.out.2
