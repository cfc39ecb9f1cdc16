import Derived.Deep.RegionHeld
import Derived.Laws.CopyRow
import Derived.Lib.SlBuf
import Derived.Test.YtflikmojaidhhaaGreatDoorPq11
import Derived.Test.YtflikmojaidhhaaGreatDoorPqA
namespace Go.Proofs.YtflikmojaidhhaaGreatDoor
open Go.RowKit
theorem qgc{P:Program}(w:World)(dT sT ty elem:TypeId)(g o dLen dCap:Nat)(a:Addr)(sLen sCap:Nat)(cur:Array Value)(t:TypeId)(cs:List Value)
 (hu:P.underlying dT=some (.slice elem))(hs:(P.info? elem).map (·.size)=some 4)
 (hg:w.heap[g]? =some (.cells cur t (0,0)))(hn:cs.length=Nat.min sLen dLen*4)
 (SB:∀j v,cs[j]? =some v->w.cell? (a.add j)=some v)(UZ:o+cs.length<=cur.size)(h1:∀v∈cs,v.oneCell'=true):
 (Builtin.copy_ #[dT,sT] ty #[.slice (some ⟨g,o,none⟩) dLen dCap,.slice (some a) sLen sCap]).run P w=
   .ok (goInt (Nat.min sLen dLen)) (w.setRow g (cur.toList.take o++cs++cur.toList.drop (o+cs.length)).toArray):=by
 have hl:=run_loadCells_list (P:=P) w a cs SB;have Xs:=run_storeCells_at P g o t cs 0 cur w hg (by simpa using UZ) h1
 cases hq:P.info? elem with
 |none=>simp[hq]at hs
 |some i=>
  have hi:i.size=4:=by simpa[hq]using hs
  rw[hn]at hl;simp[Builtin.copy_,run_underlying hu,Builtin.lenOf,Builtin.firstCells,sizeOf,typeInfo,hq,hi,hl,Xs]
structure jh (W:World) (g m:Nat) (S:Nat->Prop) (ts:List RP) (cur:Array Value) (rows:List (List Value)):Prop where
 row:qf W g 28 cur
 siz:cur.size=m*4
 kl:ts.length=m
 len:rows.length=m
 four:∀r∈rows,r.length=4
 at_:∀(j:Nat)(v:Value),rows.flatten[j]? =some v->cur[j]? =some v
 kids:qG W S ts rows
abbrev set4(W:World)(g o:Nat)(a b c d:Value):World:=(((W.setCell ⟨g,o,none⟩ a).setCell ⟨g,o+1,none⟩ b).setCell ⟨g,o+2,none⟩ c).setCell ⟨g,o+3,none⟩ d
theorem set4_far(W:World){g b:Nat}(h:g≠b)(o o':Nat)(x y z u:Value):(set4 W g o x y z u).cell? ⟨b,o',none⟩=W.cell? ⟨b,o',none⟩:=by
 unfold set4;rw[World.cell?_setCell_far _ _ _ _ h,World.cell?_setCell_far _ _ _ _ h,World.cell?_setCell_far _ _ _ _ h,World.cell?_setCell_far _ _ _ _ h]
theorem jP(W:World)(g o:Nat)(x y z u:Value):(set4 W g o x y z u).heap.size=W.heap.size:=by
 have h1:=(Below.refl 0 W).setCell (p:=⟨g,o,none⟩) (Nat.zero_le _) x;simp[set4,World.size_setCell]
theorem qf.set4_far{W:World}{g k:Nat}{t:TypeId}{cs:Array Value}(h:qf W k t cs)(hk:k≠g)(o:Nat)(x y z u:Value):qf (set4 W g o x y z u) k t cs:=
 (((h.far (p:=⟨g,o,none⟩) hk x).far (p:=⟨g,o+1,none⟩) hk y).far (p:=⟨g,o+2,none⟩) hk z).far (p:=⟨g,o+3,none⟩) hk u
theorem qy{B g o:Nat}{w W:World}(h:Below B w W)(hg:B<=g)(x y z u:Value):Below B w (set4 W g o x y z u):=
 (((h.setCell (p:=⟨g,o,none⟩) hg x).setCell (p:=⟨g,o+1,none⟩) hg y).setCell (p:=⟨g,o+2,none⟩) hg z).setCell (p:=⟨g,o+3,none⟩) hg u
section
variable {W W':World} {g m:Nat} {S S':Nat->Prop} {ts:List RP} {cur:Array Value} {rows:List (List Value)}
theorem jh.mono(h:jh W g m S ts cur rows)(hS:∀b,S b->S' b):jh W g m S' ts cur rows:={h with kids:=qG.mono hS _ _ h.kids}
theorem jh.keep(h:jh W g m S ts cur rows)(hk:qf W' g 28 cur)(hS:∀b,S b->∀o,W'.cell? ⟨b,o,none⟩=W.cell? ⟨b,o,none⟩):jh W' g m S ts cur rows:={h with row:=hk,kids:=qG.keep hS _ _ h.kids}
theorem jh.old(h:jh W g m S ts cur rows)(hb:Below W.heap.size W W')(hS:∀b,S b->b<W.heap.size):jh W' g m S ts cur rows:=
 h.keep (h.row.old hb) fun b Ux o=>hb.cell (p:=⟨b,o,none⟩) (hS b Ux)
theorem jh.put(h:jh W g m S ts cur rows)(Xl:∀b,S b->b≠g){e:Nat}(he:e<m){t:RP}{A K:Oa}{c kc:Nat}(ht:RV W S t (qe t A c K kc)):
 ∃cur',jh (set4 W g (e*4) (.int .i64 t.lv) (.bool t.ng) (.slice A t.ds.length c) (.slice K t.ks.length kc)) g m S (ts.set e t) cur' (rows.set e (qe t A c K kc)):=by
 have FF:∀b,S b->∀o,(set4 W g (e*4) (.int .i64 t.lv) (.bool t.ng) (.slice A t.ds.length c) (.slice K t.ks.length kc)).cell? ⟨b,o,none⟩=W.cell? ⟨b,o,none⟩:=fun b hb o=>set4_far W (Ne.symm (Xl b hb)) _ _ _ _ _ _;obtain⟨s1,_,_⟩:=jm (k:=e*4) h.row (.int .i64 t.lv) (.bool t.ng) (.slice A t.ds.length c) (.slice K t.ks.length kc);refine⟨_,s1,by simp[h.siz],by rw[List.length_set];exact h.kl,by rw[List.length_set];exact h.len,fun r hr=>?_,qe1 h.four (by rw[h.len];exact he) (by rw[h.siz,h.len];exact Gr _) h.at_ _ _ _ _,?_⟩
 ·rcases List.mem_or_eq_of_mem_set hr with k|k
  ·exact h.four r k
  ·rw[k];rfl
 ·exact qG.put e (qG.keep FF _ _ h.kids) (RV.keep FF _ _ ht)
theorem jh.node(h:jh W g m S ts cur rows)(hg:S g)(l:Int):RV W S (.mk l false [] ts) (qe (.mk l false [] ts) none 0 (some ⟨g,0,none⟩) m):=by
 unfold RV;refine⟨none,0,some ⟨g,0,none⟩,m,rfl,⟨rfl,fun hp=>absurd hp (Nat.lt_irrefl 0)⟩,by simp[jg],Nat.zero_le _,by rw[h.kl];exact Gr _,rows,⟨?_,fun _=>⟨g,0,rfl,hg,fun j u hu=>?_⟩⟩,h.kids⟩
 ·rw[jt h.four,h.len,h.kl]
 ·rw[Nat.zero_add];exact(h.row.cell j).trans (h.at_ j u hu)
theorem jh.get(h:jh W g m S ts cur rows){i:Nat}{u:RP}(hi:ts[i]? =some u):
 ∃A c K kc,W.cell? ⟨g,i*4,none⟩=some (.int .i64 u.lv)/\W.cell? ⟨g,i*4+1,none⟩=some (.bool u.ng)/\W.cell? ⟨g,i*4+2,none⟩=some (.slice A u.ds.length c)/\W.cell? ⟨g,i*4+3,none⟩=some (.slice K u.ks.length kc)/\RV W S u (qe u A c K kc):=by
 obtain⟨_,_,a3⟩:=qG.at_ ts rows h.kids;obtain⟨r,hr,hv⟩:=a3 i u hi;obtain⟨A,c,K,kc,rfl⟩:=hv.cells;have f:=fun j hj v (hv:(qe u A c K kc)[j]? =some v)=>(h.row.cell (i*4+j)).trans (h.at_ (i*4+j) v ((Ja rows h.four i _ hr j hj).trans hv));exact⟨A,c,K,kc,f 0 (by omega) _ rfl,f 1 (by omega) _ rfl,f 2 (by omega) _ rfl,f 3 (by omega) _ rfl,hv⟩
end
theorem jh.zeros{W:World}{g:Nat}{S:Nat->Prop}(m:Nat)(hk:qf W g 28 (madeCells #[.int .i64 0,.bool false,.slice none 0 0,.slice none 0 0] (m*4))):
 jh W g m S (List.replicate m qh) (madeCells #[.int .i64 0,.bool false,.slice none 0 0,.slice none 0 0] (m*4)) (List.replicate m (qe qh none 0 none 0)):=by
 have h4:∀r∈List.replicate m (qe qh none 0 none 0),r.length=4:=fun r hr=>by rw[(List.mem_replicate.1 hr).2];rfl
 refine⟨hk,size_madeCells _ _,by simp,by simp,h4,fun j v hv=>?_,qG.zeros m⟩;have hl:=jt h4;rw[List.length_replicate]at hl;have hj:j<m*4:=by have:=(Gi.1 hv).1;omega
 rw[Ym _ _ _ hj];obtain⟨k,i,hi,rfl⟩:∃k i,i<4/\j=k*4+i:=⟨j/4,j%4,Nat.mod_lt _ (by omega),by omega⟩;rw[Ja _ h4 k (qe qh none 0 none 0) (by rw[List.getElem?_replicate,if_pos (by omega)]) i hi]at hv;rcases(by omega:i=0∨i=1∨i=2∨i=3)with rfl|rfl|rfl|rfl
 all_goals
  rw[<-hv];simp[qe,qh,RP.lv,RP.ng,RP.ds,RP.ks,Nat.mul_add_mod_self_right]
theorem RV.rows{w:World}{S:Nat->Prop}{t:RP}{A:Oa}{c:Nat}{K:Oa}{kc:Nat}(h:RV w S t (qe t A c K kc)):∃rows,ju w S 4 K t.ks.length rows.flatten/\qG w S t.ks rows:=by
 cases t with
 |mk l g ds ks=>
  unfold RV at h;obtain⟨A1,c1,K1,kc1,h1,_,_,_,_,rows,h6,h7⟩:=h;unfold qe at h1;simp only[List.cons.injEq,Value.slice.injEq,and_true,true_and]at h1;obtain⟨_,rfl,_,rfl⟩:=h1;exact⟨rows,h6,h7⟩
theorem qG.one{w:World}{S:Nat->Prop}:∀(ts:List RP)(rows:List (List Value)),qG w S ts rows->∀v∈rows.flatten,v.oneCell'=true
 |[],rows,h,v,hv=>by
  unfold qG at h;subst h;simp at hv
 |t::ts,rows,h,v,hv=>by
  unfold qG at h;obtain⟨r,rs,rfl,h2,h3⟩:=h;rw[List.flatten_cons]at hv;rcases List.mem_append.1 hv with hv|hv
  ·obtain⟨A,c,K,kc,rfl⟩:=h2.cells;simp[qe]at hv;rcases hv with rfl|rfl|rfl|rfl<;>rfl
  ·exact qG.one ts rs h3 v hv
def OkG(B base g:Nat)(W:World)(b:Nat):Prop:=b<B∨(base<=b/\b<W.heap.size/\b≠g)
def qfy(k:Int)(n:Nat)(t:RP)(B:Nat)(w:World)(e:Ending)(w':World):Prop:=
 ∃g cur rows,e= .returned (.slice (some ⟨g,0,none⟩) (n+1) (n+1))/\w.heap.size<=g/\jh w' g (n+1) (OkG B w.heap.size g w') (JS k n t) cur rows/\Below w.heap.size w w'
def ksF(k:Int)(n:Nat)(ks:List RP)(q j:Nat):List RP:=(ks.take q).map (fun u=>(JS k n u).getD j qh)++List.replicate (ks.length-q) qh
theorem qit(k:Int)(n:Nat)(ks:List RP)(j:Nat):ksF k n ks 0 j=List.replicate ks.length qh:=by simp[ksF]
theorem qju(k:Int)(n:Nat)(ks:List RP)(j:Nat):ksF k n ks ks.length j=ks.map fun u=>(JS k n u).getD j qh:=by simp[ksF]
theorem qis{k:Int}{n:Nat}{ks:List RP}{q:Nat}{u:RP}(h:ks[q]? =some u)(j:Nat):(ksF k n ks q j).set q ((JS k n u).getD j qh)=ksF k n ks (q+1) j:=by
 obtain⟨hq,rfl⟩:=Gi.1 h;have hl:((ks.take q).map (fun u=>(JS k n u).getD j qh)).length=q:=by rw[List.length_map,List.length_take];omega
 unfold ksF;obtain⟨r,hr⟩:∃r,ks.length-q=r+1:=⟨ks.length-q-1,by omega⟩;rw[List.set_append_right _ _ (by omega),hl,Nat.sub_self,hr,List.replicate_succ,List.set_cons_zero,List.take_succ_eq_append_getElem hq,List.map_append,List.append_assoc,show ks.length-(q+1)=r by omega];rfl
structure Ji (W:World) (g n:Nat) (lv:Int) (nk m:Nat):Prop where
 ex:∃cur,qf W g 28 cur/\cur.size=n*4/\∀j,j<n->∀i,i<4->cur[j*4+i]? =(if j<m then #[Value.int .i64 lv,.bool false,.slice none 0 0,.slice (some ⟨g+1+j,0,none⟩) nk nk]else #[.int .i64 0,.bool false,.slice none 0 0,.slice none 0 0])[i]?
theorem Ji.start{W:World}{g n:Nat}{lv:Int}{nk:Nat}(hk:qf W g 28 (madeCells #[.int .i64 0,.bool false,.slice none 0 0,.slice none 0 0] (n*4))):Ji W g n lv nk 0:=by
 refine⟨_,hk,size_madeCells _ _,fun j hj i hi=>?_⟩;rw[Ym _ _ _ (by omega),if_neg (by omega)];rcases(by omega:i=0∨i=1∨i=2∨i=3)with rfl|rfl|rfl|rfl<;>simp[Nat.mul_add_mod_self_right]
theorem Ji.old{W W':World}{g n:Nat}{lv:Int}{nk m:Nat}(h:Ji W g n lv nk m)(hb:Below W.heap.size W W'):Ji W' g n lv nk m:=by
 obtain⟨cur,h1,h2⟩:=h.ex;exact⟨cur,h1.old hb,h2⟩
theorem Ji.far{W:World}{g n:Nat}{lv:Int}{nk m:Nat}(h:Ji W g n lv nk m){k:Nat}(hk:g≠k)(o:Nat)(x y z u:Value):Ji (set4 W k o x y z u) g n lv nk m:=by
 obtain⟨cur,h1,h2⟩:=h.ex;exact⟨cur,h1.set4_far hk o x y z u,h2⟩
theorem Ji.put{W:World}{g n:Nat}{lv:Int}{nk m:Nat}(h:Ji W g n lv nk m)(hm:m<n):Ji (set4 W g (m*4) (.int .i64 lv) (.bool false) (.slice none 0 0) (.slice (some ⟨g+1+m,0,none⟩) nk nk)) g n lv nk (m+1):=by
 obtain⟨cur,h1,h2,h3⟩:=h.ex;obtain⟨s1,_,_⟩:=jm (k:=m*4) h1 (.int .i64 lv) (.bool false) (.slice none 0 0) (.slice (some ⟨g+1+m,0,none⟩) nk nk);refine⟨_,s1,by simp[h2],fun j hj i hi=>?_⟩;by_cases e:j=m
 ·subst e;rw[if_pos (by omega)];rcases(by omega:i=0∨i=1∨i=2∨i=3)with rfl|rfl|rfl|rfl
  ·rw[Array.getElem?_setIfInBounds_ne (by omega),Array.getElem?_setIfInBounds_ne (by omega),Array.getElem?_setIfInBounds_ne (by omega),Nat.add_zero,Array.getElem?_setIfInBounds_self_of_lt (by omega)];rfl
  ·rw[Array.getElem?_setIfInBounds_ne (by omega),Array.getElem?_setIfInBounds_ne (by omega),Array.getElem?_setIfInBounds_self_of_lt (by simp;omega)];rfl
  ·rw[Array.getElem?_setIfInBounds_ne (by omega),Array.getElem?_setIfInBounds_self_of_lt (by simp;omega)];rfl
  ·rw[Array.getElem?_setIfInBounds_self_of_lt (by simp;omega)];rfl
 ·rw[Array.getElem?_setIfInBounds_ne (by omega),Array.getElem?_setIfInBounds_ne (by omega),Array.getElem?_setIfInBounds_ne (by omega),Array.getElem?_setIfInBounds_ne (by omega),h3 j hj i hi];by_cases e2:j<m
  ·rw[if_pos e2,if_pos (by omega)]
  ·rw[if_neg e2,if_neg (by omega)]
theorem Ji.cell{W:World}{g n:Nat}{lv:Int}{nk m:Nat}(h:Ji W g n lv nk m){j:Nat}(hj:j<n):∃v0 v1 v2 v3,W.cell? ⟨g,j*4,none⟩=some v0/\W.cell? ⟨g,j*4+1,none⟩=some v1/\W.cell? ⟨g,j*4+2,none⟩=some v2/\W.cell? ⟨g,j*4+3,none⟩=some v3/\W.frozen? ⟨g,j*4,none⟩=false/\W.frozen? ⟨g,j*4+1,none⟩=false/\W.frozen? ⟨g,j*4+2,none⟩=false/\W.frozen? ⟨g,j*4+3,none⟩=false/\g<W.heap.size/\
 (j<m->v3= .slice (some ⟨g+1+j,0,none⟩) nk nk):=by
 obtain⟨cur,h1,h2,h3⟩:=h.ex;have ex:∀i,i<4->∃v,cur[j*4+i]? =some v:=fun i hi=>⟨_,Array.getElem?_eq_getElem (by omega)⟩;obtain⟨v0,q0⟩:=ex 0 (by omega);obtain⟨v1,q1⟩:=ex 1 (by omega);obtain⟨v2,q2⟩:=ex 2 (by omega);obtain⟨v3,q3⟩:=ex 3 (by omega);refine⟨v0,v1,v2,v3,(h1.cell _).trans q0,(h1.cell _).trans q1,(h1.cell _).trans q2,(h1.cell _).trans q3,h1.frozen _,h1.frozen _,h1.frozen _,h1.frozen _,h1.lt,fun hm=>?_⟩;have:=h3 j hj 3 (by omega);rw[q3,if_pos hm]at this;simpa using this
def OkH(B H:Nat)(W:World)(b:Nat):Prop:=b<B∨(H<=b/\b<W.heap.size)
structure yQ (w W:World) (B g n:Nat) (lv:Int) (nk:Nat) (KS:Nat->List RP):Prop where
 bel:Below w.heap.size w W
 gge:w.heap.size<=g
 lst:Ji W g n lv nk n
 siz:g+1+n<=W.heap.size
 rows:∀j,j<n->∃cur rows,jh W (g+1+j) nk (OkH B (g+1+n) W) (KS j) cur rows
theorem yQ.old{w W W':World}{B g n:Nat}{lv:Int}{nk:Nat}{KS:Nat->List RP}(h:yQ w W B g n lv nk KS)(hB:B<=w.heap.size)(hb:Below W.heap.size W W'):yQ w W' B g n lv nk KS:=by
 have hs:=hb.size;refine⟨Gt h.bel hb,h.gge,h.lst.old hb,Gl h.siz hs,fun j hj=>?_⟩;obtain⟨cur,rows,hr⟩:=h.rows j hj;refine⟨cur,rows,(hr.old hb fun b Ux=>?_).mono fun b Ux=>?_⟩
 ·rcases Ux with Ux|Ux
  ·have:=h.bel.size;omega
  ·exact Ux.2
 ·rcases Ux with Ux|Ux
  ·exact .inl Ux
  ·exact .inr ⟨Ux.1,Gm Ux.2 hs⟩
theorem yQ.put{w W:World}{B g n:Nat}{lv:Int}{nk:Nat}{KS:Nat->List RP}(h:yQ w W B g n lv nk KS)(hB:B<=w.heap.size){j q:Nat}(hj:j<n)(hq:q<nk){t:RP}{A K:Oa}{c kc:Nat}(ht:RV W (OkH B (g+1+n) W) t (qe t A c K kc)):
 yQ w (set4 W (g+1+j) (q*4) (.int .i64 t.lv) (.bool t.ng) (.slice A t.ds.length c) (.slice K t.ks.length kc)) B g n lv nk (fun i=>if i=j then(KS j).set q t else KS i):=by
 have RC:=h.gge;have XV:=h.siz;have Vg:∀b,OkH B (g+1+n) W b->OkH B (g+1+n) (set4 W (g+1+j) (q*4) (.int .i64 t.lv) (.bool t.ng) (.slice A t.ds.length c) (.slice K t.ks.length kc)) b:=fun b hb=>by
  unfold OkH at hb ⊢;rw[jP];exact hb
 have Xl:∀b,OkH B (g+1+n) W b->b≠g+1+j:=fun b hb=>by
  rcases hb with hb|hb<;>omega
 refine⟨qy h.bel (by omega) _ _ _ _,RC,h.lst.far (by omega) _ _ _ _ _,by rw[jP];exact XV,fun i hi=>?_⟩;obtain⟨cur,rows,hr⟩:=h.rows i hi;by_cases e:i=j
 ·subst e;rw[if_pos rfl];obtain⟨cur',hp⟩:=hr.put Xl hq ht;exact⟨cur',_,hp.mono Vg⟩
 ·rw[if_neg e];exact⟨cur,rows,(hr.keep (hr.row.set4_far (by omega) _ _ _ _ _) (fun b hb o=>set4_far W (Ne.symm (Xl b hb)) _ _ _ _ _ _)).mono Vg⟩
theorem yQ.fin{w W:World}{B g n:Nat}{lv:Int}{nk:Nat}{KS:Nat->List RP}(h:yQ w W B g n lv nk KS):
 ∃cur rows,jh W g n (OkG B w.heap.size g W) ((List.range n).map fun j=> .mk lv false [] (KS j)) cur rows:=by
 have RC:=h.gge;have XV:=h.siz;obtain⟨cur,h1,h2,h3⟩:=h.lst.ex;have Cq:∀m,m<=n->qG W (OkG B w.heap.size g W) ((List.range m).map fun j=> .mk lv false [] (KS j)) ((List.range m).map fun j=>[.int .i64 lv,.bool false,.slice none 0 0,.slice (some ⟨g+1+j,0,none⟩) nk nk]):=by
  intro m
  induction m with
  |zero=>intro _;simp[qG]
  |succ m ih=>
   intro hm;rw[List.range_succ,List.map_append,List.map_append];refine qG.snoc (ih (by omega)) ?_;obtain⟨c1,r1,hr⟩:=h.rows m (by omega);have:=(hr.mono (S':=OkG B w.heap.size g W) fun b hb=>by
    rcases hb with hb|hb
    ·exact .inl hb
    ·exact .inr ⟨by omega,hb.2,by omega⟩).node (.inr ⟨by omega,by omega,by omega⟩) lv
   have e:qe (.mk lv false [] (KS m)) none 0 (some ⟨g+1+m,0,none⟩) nk=[.int .i64 lv,.bool false,.slice none 0 0,.slice (some ⟨g+1+m,0,none⟩) nk nk]:=by
    unfold qe;simp only[RP.lv,RP.ng,RP.ds,RP.ks,List.length_nil,hr.kl]
   rw[e]at this;exact this
 have h4:∀r∈(List.range n).map (fun j=>[Value.int .i64 lv,.bool false,.slice none 0 0,.slice (some ⟨g+1+j,0,none⟩) nk nk]),r.length=4:=fun r hr=>by
  obtain⟨j,_,rfl⟩:=List.mem_map.1 hr;rfl
 refine⟨cur,_,h1,h2,by simp,by simp,h4,fun x v hv=>?_,Cq n (Gr _)⟩;have hl:=jt h4;rw[List.length_map,List.length_range]at hl;have hx:x<n*4:=by have:=(Gi.1 hv).1;omega
 obtain⟨j,i,hi,rfl⟩:∃j i,i<4/\x=j*4+i:=⟨x/4,x%4,Nat.mod_lt _ (by omega),by omega⟩;rw[Ja _ h4 j [.int .i64 lv,.bool false,.slice none 0 0,.slice (some ⟨g+1+j,0,none⟩) nk nk] (by rw[List.getElem?_map,List.getElem?_range (by omega)];rfl) i hi]at hv;rw[h3 j (by omega) i hi,if_pos (by omega),<-hv];rcases(by omega:i=0∨i=1∨i=2∨i=3)with rfl|rfl|rfl|rfl<;>rfl
theorem Ji.dr{W:World}{g n:Nat}{lv:Int}{nk m:Nat}(h:Ji W g n lv nk m):Ji W.drew g n lv nk m:=⟨h.ex⟩
theorem jh.dr{W:World}{g m:Nat}{S:Nat->Prop}{ts:List RP}{cur:Array Value}{rows:List (List Value)}(h:jh W g m S ts cur rows):jh W.drew g m S ts cur rows:=h.keep h.row fun _ _ _=>rfl
theorem yQ.dr{w W:World}{B g n:Nat}{lv:Int}{nk:Nat}{KS:Nat->List RP}(h:yQ w W B g n lv nk KS):yQ w W.drew B g n lv nk KS:=by
 refine⟨h.bel.trans ((qt.drew _).below _),h.gge,h.lst.dr,h.siz,fun j hj=>?_⟩;obtain⟨cur,rows,hr⟩:=h.rows j hj;exact⟨cur,rows,hr.dr⟩
theorem yQ.congr{w W:World}{B g n:Nat}{lv:Int}{nk:Nat}{KS KS':Nat->List RP}(h:yQ w W B g n lv nk KS)(e:∀j,j<n->KS' j=KS j):yQ w W B g n lv nk KS':=
 {h with rows:=fun j hj=>by rw[e j hj];exact h.rows j hj}
theorem jh.copy{W:World}{B g m:Nat}{ks:List RP}{rows:List (List Value)}(hk:qf W g 28 (madeCells #[.int .i64 0,.bool false,.slice none 0 0,.slice none 0 0] (m*4)))(hB:B<=g)(hr:qG W (· <B) ks rows)(hm:ks.length<=m):
 ∃cur rows',jh (W.setRow g ((madeCells #[.int .i64 0,.bool false,.slice none 0 0,.slice none 0 0] (m*4)).toList.take 0++rows.flatten++(madeCells #[.int .i64 0,.bool false,.slice none 0 0,.slice none 0 0] (m*4)).toList.drop (0+rows.flatten.length)).toArray) g m (· <B) (ks++List.replicate (m-ks.length) qh) cur rows':=by
 obtain⟨a1,a2,_⟩:=qG.at_ ks rows hr;have hz:=jh.zeros (S:=(· <B)) m hk;have hl:=jt a1;have hs:=size_madeCells #[Value.int .i64 0,.bool false,.slice none 0 0,.slice none 0 0] (m*4);have Xs:=fun(cs:Array Value)=>setRow_heap W g (madeCells Gz (m*4)) cs 28 (0,0) hk;have XX:=fun(cs:Array Value)=>below_setRow (Below.refl B W) hB cs;have Mf:=hz.at_;have EJ:=hz.kids;generalize madeCells Gz (m*4)=mc at*;have h4:∀r∈rows++List.replicate (m-ks.length) (qe qh none 0 none 0),r.length=4:=fun r hr=>by
  rcases List.mem_append.1 hr with hr|hr
  ·exact a1 r hr
  ·rw[(List.mem_replicate.1 hr).2];rfl
 refine⟨_,rows++List.replicate (m-ks.length) (qe qh none 0 none 0),Xs _,?_,by simp;omega,by simp[a2];omega,h4,fun j v hv=>?_,?_⟩
 ·have FE:mc.toList.length=m*4:=by simpa using hs
  simp only[List.size_toArray,List.length_append,List.length_take,List.length_drop,FE,hl];omega
 ·have FE:mc.toList.length=m*4:=by simpa using hs
  rw[List.flatten_append]at hv;simp only[List.take_zero,List.nil_append,Nat.zero_add,List.getElem?_toArray];by_cases hj:j<rows.flatten.length
  ·rw[List.getElem?_append_left hj]at hv ⊢;exact hv
  ·rw[List.getElem?_append_right (by omega)]at hv ⊢;rw[List.getElem?_drop,show rows.flatten.length+(j-rows.flatten.length)=j by omega];have hjl:j-rows.flatten.length<(m-ks.length)*4:=by
    have h4z:∀r∈List.replicate (m-ks.length) (qe qh none 0 none 0),r.length=4:=fun r hr=>by rw[(List.mem_replicate.1 hr).2];rfl
    have:=(Gi.1 hv).1;rw[jt h4z,List.length_replicate]at this;exact this
   obtain⟨q,i,hi,hq⟩:∃q i,i<4/\j-rows.flatten.length=q*4+i:=⟨(j-rows.flatten.length)/4,(j-rows.flatten.length)%4,Nat.mod_lt _ (by omega),by omega⟩;have hjq:j=(ks.length+q)*4+i:=by rw[hl,a2]at hq hj;omega
   rw[hq,Ja _ (fun r hr=>by rw[(List.mem_replicate.1 hr).2];rfl) q (qe qh none 0 none 0) (by rw[List.getElem?_replicate,if_pos (by omega)]) i hi]at hv;rw[hjq];have:=Mf ((ks.length+q)*4+i) v (by rw[Ja _ (fun r hr=>by rw[(List.mem_replicate.1 hr).2];rfl) (ks.length+q) (qe qh none 0 none 0) (by rw[List.getElem?_replicate,if_pos (by omega)]) i hi];exact hv);simpa using this
 ·have hap:∀(ts us:List RP)(r1 r2:List (List Value))(V:World)(S:Nat->Prop),qG V S ts r1->qG V S us r2->qG V S (ts++us) (r1++r2):=by
   intro ts us r1 r2 V S h1 h2
   induction ts generalizing r1 with
   |nil=>unfold qG at h1;subst h1;simpa using h2
   |cons t ts ih=>
    unfold qG at h1;obtain⟨r,rs,rfl,k1,k2⟩:=h1;simp only[List.cons_append,qG];exact⟨r,rs++r2,rfl,k1,ih rs k2⟩
  exact hap _ _ _ _ _ _ (qG.keep (fun b hb o=>(XX _).cell (p:=⟨b,o,none⟩) hb) _ _ hr) (qG.zeros _)
abbrev z4:Array Value:=#[.int .i64 0,.bool false,.slice none 0 0,.slice none 0 0]
theorem OkG.of{B base g:Nat}{W:World}:∀b,b<B->OkG B base g W b:=fun _ h=> .inl h
set_option maxHeartbeats 4000000
set_option maxRecDepth 100000
theorem YK(X:Nat)(hX:X<=100000)(k:Int)(Xx:0<k)(Xj:k<=4)(n:Nat)(hn:n<=1000):∀(D:Nat)(t:RP),qC t<=D->qv t=true->yP X t->zW k t<=n->∀(A:Oa)(c:Nat)(K:Oa)(kc B:Nat)(w:World),B<=w.heap.size->RV w (· <B) t (qe t A c K kc)->
 Calls Tryz.prog 80 #[qm t A c K kc,.int .i64 k,.int .i64 n] w (qfy k n t B w)
 |0,t,hD,_,_,_,_,_,_,_,_,_,_,_=>by cases t;simp only[qC]at hD;omega
 |D+1,t,hD,hc,hf,Xr,A,c,K,kc,B,w,hB,h=>by
  have IH:=Gh (YK X hX k Xx Xj n hn D);have HR:=Gh (fun(W:World)(hW:Below w.heap.size w W)=>h.below (hW.mono hB));have HD:=Gh (fun(u:RP)(hu:u∈t.ks)=>show qC u<=D by have:=qY hu;omega);have HF:=Gh hf.at_.2.2;have HB:=Gh hB;have TU:=hf.at_.2.1;have EA:=Gh h.node.2.2.2;have Rk:=Gh (qz hc);have Ra:=Gh Xr;have Ut:=Gh (JZ k n t);obtain⟨m,hm⟩:∃m,m=n+1:=⟨_,rfl⟩;have e0:IntKind.i64.wrap ((n:Int)+1)=(m:Int):=by rw[IntWalk.i64_in _ (by omega)];omega
  have Uz:=fun(W:World)=>Tryz.make_rec m (by omega) W;have HM:=Gh hm;have TC:(0:Int)<(m:Int):=by omega
  have VY:m<=1001:=by omega
  have HX:=Gh (qR w 28 28 #[.int .i64 t.lv,.bool t.ng,.slice A t.ds.length c,.slice K t.ks.length kc] (madeCells Gz (m*4)));have U7:=Gh (fun(W:World)(hW:Below w.heap.size w W)=>(HR W hW).rows);unfold qfy at IH;unfold qm at IH ⊢;clear h hD hf hB hc Xr hm hn;generalize Sq:t.ds.length=nd at*;generalize Vx:t.ks.length=nk at*;have RG:=Gh Sq;have UB:=Gh Vx;clear Sq Vx;have VW:=Gh (fun(V:World)(hV:Below w.heap.size w V)=>show RV V (· <B) t (qe t A c K kc)from HR V hV);go_enter Tryz.func80,Tryz.ntmps80
  go_upto_region 16 with(fail)
  generalize (w.alloc (.cells #[.int .i64 t.lv,.bool t.ng,.slice A nd c,.slice K nk kc] 28)).alloc (.cells (madeCells Gz (m*4)) 28)=W at*;obtain⟨Xb,k0,k1,hs⟩:=HX.out;clear HX;generalize RC:w.heap.size+1=g at*;have T0:=Gh RC;have c0:W.cell? ⟨w.heap.size,0,none⟩=some (.int .i64 t.lv):=k0.cell 0;have c1:W.cell? ⟨w.heap.size,1,none⟩=some (.bool t.ng):=k0.cell 1;have c2:W.cell? ⟨w.heap.size,2,none⟩=some (.slice A nd c):=k0.cell 2;have c3:W.cell? ⟨w.heap.size,3,none⟩=some (.slice K nk kc):=k0.cell 3;have Xd:=Gh Xb;have Xo:=Gh k0;have Xu:=Gh k1;have HS:=Gh hs;clear RC Xb k0 k1 hs;by_cases h1:t.lv<k
  ·have HC:=Gh (show JS k n t=(List.replicate m qh).set 0 t by rw[Ut,if_pos h1,HM,List.replicate_succ,List.set_cons_zero]);clear Ut Rk Ra IH Uz;have e1:decide (t.lv<k)=true:=by simpa using h1
   have HP:=Gh ((jh.zeros (S:=(· <B)) m Xu).put (fun b hb=>by have:=T0.out;have:=HB.out;have hb:b<B:=hb;omega) (e:=0) (by omega) (VW W Xd));rw[RG,UB.out]at HP;have XJ:=Gh (qy (g:=g) (o:=0*4) Xd (by have:=T0.out;omega) (.int .i64 t.lv) (.bool t.ng) (.slice A nd c) (.slice K nk kc));obtain⟨v0,v1,v2,v3,d0,d1,d2,d3,f0,f1,f2,f3,z0,_⟩:=(Ji.start (lv:=0) (nk:=0) Xu).cell (j:=0) (by omega);rw[Nat.zero_mul]at d0 d1 d2 d3 f0 f1 f2 f3;rw[Nat.zero_add]at d1 d2 d3 f1 f2 f3;clear h1;go_wp2_with fail
   go_ret
   have hm:=HM.out;subst hm;obtain⟨cur',hp⟩:=HP.out;have F7:=hp.mono (S':=OkG B w.heap.size g (set4 W g (0*4) (.int .i64 t.lv) (.bool t.ng) (.slice A nd c) (.slice K nk kc))) OkG.of;rw[<-HC.out]at F7;exact⟨g,cur',_,rfl,by have:=T0.out;omega,F7,XJ⟩
  ·by_cases h2:t.lv=k
   ·have VR:=Rk.out;have R3:2<=nk:=by
     have:=UB.out;rcases VR with⟨a,_⟩|⟨_,_,_,_,a,_⟩<;>omega
    have Cu:nk<=m:=by
     have h3:=Ra.out;rw[QO,if_neg h1,if_pos h2]at h3;have:=UB.out;have:=HM.out;omega
    have HC:=Gh (show JS k n t=t.ks++List.replicate (m-t.ks.length) qh by
     rw[Ut,if_neg h1,if_pos h2,HM,UB,List.take_of_length_le (by have:=HM.out;have:=UB.out;omega)])
    have e1:decide (t.lv<k)=false:=by simpa using h1
    have e2:(t.lv==k)=true:=by simpa using h2
    obtain⟨rows,Xv,Cq⟩:=U7.out W Xd.out;have HRS:=Gh Cq;obtain⟨b,o,rfl,Tn,XM⟩:=Xv.2 (by omega);have Vj:=Gh (fun(ty:TypeId)=>qgc (P:=Tryz.prog) W 26 26 ty 28 g 0 m m ⟨b,o,none⟩ nk kc _ 28 rows.flatten Tryz.underlying26 Tryz.sizeRec Xu (by rw[Xv.1,show Nat.min nk m=nk from Nat.min_eq_left Cu]) (fun j v hv=>by rw[show(⟨b,o,none⟩:Addr).add j=⟨b,o+j,none⟩by simp[Addr.add]];exact XM j v hv) (by rw[Xv.1,size_madeCells];omega) (qG.one _ _ Cq));have HRC:=Gh (jh.copy (m:=m) Xu (show B<=g by have:=T0.out;have:=HB.out;omega) Cq (by rw[UB.out];exact Cu));generalize ((madeCells #[Value.int .i64 0,.bool false,.slice none 0 0,.slice none 0 0] (m*4)).toList.take 0++rows.flatten++(madeCells #[Value.int .i64 0,.bool false,.slice none 0 0,.slice none 0 0] (m*4)).toList.drop (0+rows.flatten.length)).toArray=arr at*;have KY:=Gh (fun cs=>below_setRow Xd (show w.heap.size<=g by have:=T0.out;omega) cs);clear Ut Rk Ra IH Uz Xv Cq XM VR h1 h2;go_wp2_with (refine Lib.wpList_copy_run (o:=⟨some 76,_,_,_,_,_⟩) _ rfl _ _ 26 26 rfl _ _ rfl rfl (Vj _) ?_)
    go_ret
    have hm:=HM.out;subst hm;obtain⟨cur',rows',hp⟩:=HRC.out;refine⟨g,cur',rows',rfl,by have:=T0.out;omega,?_,KY _⟩;rw[HC.out];exact hp.mono OkG.of
   ·have VR:=Rk.out;obtain⟨AM,SN,R3⟩:k<t.lv/\(∀u∈t.ks,qv u=true)/\2<=nk:=by
     have:=UB.out;rcases VR with⟨a,_⟩|⟨_,_,_,_,a,b,_⟩
     ·omega
     ·exact⟨by omega,fun u hu=>(b u hu).2,by omega⟩
    have M6:=Gh SN;have HDK:=Gh (show∀u∈t.ks,zW k u<=n by
     have h3:=Ra.out;rw[QO,if_neg h1,if_neg h2]at h3;exact fun u hu=>Gl (qjm hu) h3)
    have HC:=Gh (show JS k n t=(List.range m).map fun j=> .mk t.lv false [] (ksF k n t.ks nk j)by
     rw[Ut,if_neg h1,if_neg h2,HM.out];refine List.map_congr_left fun j _=>?_;rw[<-UB,qju])
    have e1:decide (t.lv<k)=false:=by simpa using h1
    have e2:(t.lv==k)=false:=by simpa using h2
    have NI:=fun(W:World)=>Tryz.make_rec nk (by omega) W;clear Ut Rk Ra Uz VR SN h1 h2;go_wp2_with fail
    clear c0 c1 c2 c3;go_loopg [8,18] m (fun gn _ ix wr=>∃i:Nat,i<=m/\gn=m-i/\ix= .int .i64 i/\Below w.heap.size w wr/\qf wr w.heap.size 28 #[.int .i64 t.lv,.bool t.ng,.slice A nd c,.slice K nk kc]/\wr.heap.size=g+1+i/\Ji wr g m t.lv nk i/\∀j,j<i->qf wr (g+1+j) 28 (madeCells Gz (nk*4)))
    case atStart=>exact⟨0,Nat.zero_le _,rfl,rfl,Xd,Xo,by have:=HS.out;have:=T0.out;omega,Ji.start Xu,fun j hj=>absurd hj (Nat.not_lt_zero j)⟩
    case round=>
     clear Xd Xo Xu HS;obtain⟨i,hi,RA,rfl,Xe,X8,XV,Cx,Xk⟩:=hrel;have HG:=Gh RA;clear RA;have c0:wr.cell? ⟨w.heap.size,0,none⟩=some (.int .i64 t.lv):=X8.cell 0;have c3:wr.cell? ⟨w.heap.size,3,none⟩=some (.slice K nk kc):=X8.cell 3;by_cases Xi:i<m
     ·have i3:(0:Int)<=(i:Int):=by omega
      have i4:(i:Int)<(m:Int):=by omega
      obtain⟨cur,h1,h2,h3⟩:=Cx.ex;have ex:∀j,j<4->∃v,cur[i*4+j]? =some v:=fun j hj=>⟨_,Array.getElem?_eq_getElem (by omega)⟩;obtain⟨v0,q0⟩:=ex 0 (by omega);obtain⟨v1,q1⟩:=ex 1 (by omega);obtain⟨v2,q2⟩:=ex 2 (by omega);obtain⟨v3,q3⟩:=ex 3 (by omega);have d0:=fun o=>show(wr.alloc o).cell? ⟨g,i*4,none⟩=some v0 from((h1.alloc o).cell _).trans q0;have d1:=fun o=>((h1.alloc o).cell _).trans q1;have d2:=fun o=>((h1.alloc o).cell _).trans q2;have d3:=fun o=>((h1.alloc o).cell _).trans q3;have f0:=fun o=>(h1.alloc o).frozen (i*4);have f1:=fun o=>(h1.alloc o).frozen (i*4+1);have f2:=fun o=>(h1.alloc o).frozen (i*4+2);have f3:=fun o=>(h1.alloc o).frozen (i*4+3);have z0:=h1.lt;have a0:=fun o=>(X8.alloc o).cell 0;have a3:=fun o=>(X8.alloc o).cell 3;have z1:=X8.lt;have HN:=Gh (fun(V:World)(hV:V=wr.alloc (.cells (madeCells Gz (nk*4)) 28))=>
       show Below w.heap.size w (set4 V g (i*4) (.int .i64 t.lv) (.bool false) (.slice none 0 0) (.slice (some ⟨g+1+i,0,none⟩) nk nk)).drew/\qf (set4 V g (i*4) (.int .i64 t.lv) (.bool false) (.slice none 0 0) (.slice (some ⟨g+1+i,0,none⟩) nk nk)) w.heap.size 28 #[.int .i64 t.lv,.bool t.ng,.slice A nd c,.slice K nk kc]/\
        (set4 V g (i*4) (.int .i64 t.lv) (.bool false) (.slice none 0 0) (.slice (some ⟨g+1+i,0,none⟩) nk nk)).heap.size=g+1+(i+1)/\Ji (set4 V g (i*4) (.int .i64 t.lv) (.bool false) (.slice none 0 0) (.slice (some ⟨g+1+i,0,none⟩) nk nk)) g m t.lv nk (i+1)/\
        ∀j,j<i+1->qf (set4 V g (i*4) (.int .i64 t.lv) (.bool false) (.slice none 0 0) (.slice (some ⟨g+1+i,0,none⟩) nk nk)) (g+1+j) 28 (madeCells Gz (nk*4))by
       have RC:=T0.out;have Xc:=Gb wr (.cells (madeCells Gz (nk*4)) 28);rw[<-hV]at Xc;refine⟨(qy (Gt Xe Xc) (by omega) _ _ _ _).trans ((qt.drew _).below _),(X8.old Xc).set4_far (by omega) _ _ _ _ _,?_,(Cx.old Xc).put Xi,fun j hj=>qf.set4_far ?_ (by omega) _ _ _ _ _⟩
       ·rw[jP,hV,World.size_alloc];omega
       ·by_cases e:j<i
        ·exact(Xk j e).old Xc
        ·obtain rfl:j=i:=by omega
         have:=qf.new wr 28 (madeCells Gz (nk*4));rw[<-hV,XV]at this;exact this)
      clear Xe X8 Cx Xk h1 h2 h3 ex q0 q1 q2 q3;go_wp2_with fail
      go_region
      go_wp2_with fail
      go_roundg (m-(i+1))
      case rel=>
       obtain⟨b1,b2,b3,b4,b5⟩:=HN.out _ rfl;exact⟨i+1,by omega,rfl,by go_num,b1,b2,b3,b4.dr,b5⟩
      case measure=>have:=HG.out;omega
     ·obtain rfl:i=m:=by omega
      have KX:=Gh (show yQ w wr B g i t.lv nk (fun j=>ksF k n t.ks 0 j)from⟨Xe,by have:=T0.out;omega,Cx,by omega,fun j hj=>⟨_,_,by
       have h0:=jh.zeros (S:=OkH B (g+1+i) wr) nk (Xk j hj);show jh wr (g+1+j) nk _ (ksF k n t.ks 0 j) _ _;rw[qit,UB.out];exact h0⟩⟩)
      have RI:=Gh X8;clear Xe X8 Cx Xk NI Xi;go_wp2_with fail
      clear c0 c3;go_loopg [9,11,35,45] nk (fun gn _ _ ix _ wq=>∃q:Nat,q<=nk/\gn=nk-q/\ix= .int .i64 q/\qf wq w.heap.size 28 #[.int .i64 t.lv,.bool t.ng,.slice A nd c,.slice K nk kc]/\yQ w wq B g i t.lv nk (fun j=>ksF k n t.ks q j))
      case atStart=>exact⟨0,Nat.zero_le _,rfl,rfl,RI,KX⟩
      case round=>
       clear KX RI HG XV;obtain⟨q,hq,FH,rfl,X8,Ro⟩:=hrel;have HG:=Gh FH;clear FH;by_cases Xi:q<nk
       ·obtain⟨u,hu⟩:∃u,t.ks[q]? =some u:=⟨_,Gn (by rw[UB.out];exact Xi)⟩;obtain⟨b,o,A1,q1,K1,r1,rfl,Tn,x0,x1,x2,x3,XN⟩:=(VW _ Ro.bel).kid hu;have US:=Gk hu;have Xc:=Gb wr (.cells #[.int .i64 u.lv,.bool u.ng,.slice A1 u.ds.length q1,.slice K1 u.ks.length r1] 28);have Vh:B<=wr.heap.size:=Gl HB Ro.bel.size;have VC:=Gh (IH u (HD u US) (M6 u US) (HF u US) (HDK u US) A1 q1 K1 r1 B _ (Gl Vh Xc.size) (XN.below (Xc.mono Vh)));have Vu:=Gh (fun j=>qis (k:=k) (n:=n) hu j);have XQ:=Gh (Ro.old HB Xc);have UJ:=Gh (X8.old Xc);have i3:(0:Int)<=(q:Int):=by omega
        have i4:(q:Int)<(nk:Int):=by omega
        have i5:(nk:Int)<=(kc:Int):=by have:=EA.out;omega
        have SS:=Gh (Yc k n u);clear hu US XN Xc Vh Ro X8;generalize JS k n u=us at*;generalize u.ds.length=ud at*;generalize u.ks.length=uk at*;generalize u.ng=ug at*;generalize u.lv=ul at*;go_wp2_with fail
        generalize wr.alloc (.cells #[.int .i64 ul,.bool ug,.slice A1 ud q1,.slice K1 uk r1] 28)=W1 at*;refine VC.out.mono ?_;rintro e w2 ⟨g2,cur2,rows2,rfl,TV,XK,Xf⟩;rw[<-HM.out]at XK ⊢;have FP:=Gh (XQ.out.old HB Xf);have XA:=Gh (UJ.out.old Xf);have Sw:=Gh (show jh w2 g2 i (OkH B (g+1+i) w2) us cur2 rows2 from XK.mono fun b hb=>by
         have:=XQ.out.siz;rcases hb with hb|hb
         ·exact .inl hb
         ·exact .inr ⟨by omega,hb.2.1⟩)
        have Lb:=Gh (show g+1+i<=g2 by have:=XQ.out.siz;omega);clear XK Xf TV VC XQ UJ x0 x1 x2 x3;go_wp2_with fail
        go_loopg [11,45] i (fun gn _ ix wq=>∃j:Nat,j<=i/\gn=i-j/\ix= .int .i64 j/\qf wq w.heap.size 28 #[.int .i64 t.lv,.bool t.ng,.slice A nd c,.slice (some ⟨b,o,none⟩) nk kc]/\yQ w wq B g i t.lv nk (fun x=>if x<j then ksF k n t.ks (q+1) x else ksF k n t.ks q x)/\jh wq g2 i (OkH B (g+1+i) wq) us cur2 rows2)
        case atStart=>exact⟨0,Nat.zero_le _,rfl,rfl,XA,FP.out.congr (fun x _=>if_neg (Nat.not_lt_zero x)),Sw⟩
        case round=>
         clear FP XA Sw;obtain⟨j,hj,XI,rfl,X8,Ro,Xk⟩:=hrel;have SZ:=Gh XI;clear XI;by_cases Dx:j<i
         ·obtain⟨v,hv⟩:∃v,us[j]? =some v:=⟨_,Gn (by have:=SS.out;have:=HM.out;omega)⟩;obtain⟨A3,q3,K3,r3,x0,x1,x2,x3,S4⟩:=Xk.get hv;have Si:=Gh (show us.getD j qh=v by rw[List.getD_eq_getElem?_getD,hv];rfl);have Xc:=Gb wr (.cells #[.int .i64 v.lv,.bool v.ng,.slice A3 v.ds.length q3,.slice K3 v.ks.length r3] 28);have Vy:=qf.new wr 28 #[.int .i64 v.lv,.bool v.ng,.slice A3 v.ds.length q3,.slice K3 v.ks.length r3];have XQ:=Gh (Ro.old HB Xc);have UJ:=Gh (X8.old Xc);have UV:=Gh Vy;have DS:∀b,OkH B (g+1+i) wr b->b<wr.heap.size:=fun b hb=>by
           have:=Ro.bel.size;have:=HB.out;rcases hb with hb|hb
           ·omega
           ·exact hb.2
          have NF:∀b,OkH B (g+1+i) wr b->OkH B (g+1+i) (wr.alloc (.cells #[.int .i64 v.lv,.bool v.ng,.slice A3 v.ds.length q3,.slice K3 v.ks.length r3] 28)) b:=fun b hb=>hb.imp id fun hb=>⟨hb.1,Gm hb.2 Xc.size⟩;have C6:=Gh ((Xk.old Xc DS).mono NF);have Ea:=Gh (RV.mono NF _ _ (RV.keep (fun b hb o=>Xc.cell (p:=⟨b,o,none⟩) (DS b hb)) _ _ S4));have i6:(0:Int)<=(j:Int):=by omega
          have i7:(j:Int)<(i:Int):=by omega
          clear hv S4 Xc Vy Ro X8 Xk DS NF;go_upto_region 13 with(fail)
          generalize wr.alloc (.cells #[.int .i64 v.lv,.bool v.ng,.slice A3 v.ds.length q3,.slice K3 v.ks.length r3] 28)=V at*;obtain⟨cur3,rows3,UL⟩:=XQ.out.rows j Dx;obtain⟨_,_,_,y3,_,_,_,y3c,_,_,_,_,_,ye⟩:=XQ.out.lst.cell Dx;have ye:=ye Dx;subst ye;obtain⟨z0,z1,z2,z3⟩:=G4 UV.out;have EF:=UL.siz;have ex:∀j,j<4->∃v,cur3[q*4+j]? =some v:=fun j hj=>⟨_,Array.getElem?_eq_getElem (by omega)⟩;obtain⟨p0,s0⟩:=ex 0 (by omega);obtain⟨p1,s1⟩:=ex 1 (by omega);obtain⟨p2,s2⟩:=ex 2 (by omega);obtain⟨p3,s3⟩:=ex 3 (by omega);have d0:V.cell? ⟨g+1+j,q*4,none⟩=some p0:=(UL.row.cell _).trans s0;have d1:V.cell? ⟨g+1+j,q*4+1,none⟩=some p1:=(UL.row.cell _).trans s1;have d2:V.cell? ⟨g+1+j,q*4+2,none⟩=some p2:=(UL.row.cell _).trans s2;have d3:V.cell? ⟨g+1+j,q*4+3,none⟩=some p3:=(UL.row.cell _).trans s3;have f0:=UL.row.frozen (q*4);have f1:=UL.row.frozen (q*4+1);have f2:=UL.row.frozen (q*4+2);have f3:=UL.row.frozen (q*4+3);have z4:=UL.row.lt;have HN:=Gh (show yQ w (set4 V (g+1+j) (q*4) (.int .i64 v.lv) (.bool v.ng) (.slice A3 v.ds.length q3) (.slice K3 v.ks.length r3)) B g i t.lv nk (fun x=>if x<j+1 then ksF k n t.ks (q+1) x else ksF k n t.ks q x)from
           (XQ.out.put HB Dx Xi Ea).congr fun x hx=>by
             have F9:=Vu.out j;rw[Si.out]at F9;by_cases e:x=j
             ·subst e;rw[if_pos (Nat.lt_succ_self x),if_pos rfl,if_neg (Nat.lt_irrefl x),F9]
             ·rw[if_neg e];by_cases e2:x<j
              ·rw[if_pos e2,if_pos (by omega)]
              ·rw[if_neg e2,if_neg (by omega)])
          have Xl:g+1+j≠w.heap.size:=by have:=T0.out;omega
          have WT:=Gh (UJ.out.set4_far (Ne.symm Xl) (q*4) (.int .i64 v.lv) (.bool v.ng) (.slice A3 v.ds.length q3) (.slice K3 v.ks.length r3));have MP:=Gh (show jh (set4 V (g+1+j) (q*4) (.int .i64 v.lv) (.bool v.ng) (.slice A3 v.ds.length q3) (.slice K3 v.ks.length r3)) g2 i (OkH B (g+1+i) (set4 V (g+1+j) (q*4) (.int .i64 v.lv) (.bool v.ng) (.slice A3 v.ds.length q3) (.slice K3 v.ks.length r3))) us cur2 rows2 by
           have TV:=Lb.out;refine((C6.out.keep (C6.out.row.set4_far (by omega) _ _ _ _ _) fun b hb o=>set4_far V (fun e=>?_) _ _ _ _ _ _).mono fun b hb=>?_)
           ·subst e;have:=HB.out;have:=T0.out;rcases hb with hb|hb<;>omega
           ·unfold OkH at hb ⊢;rw[jP];exact hb)
          clear UL ex s0 s1 s2 s3 EF XQ UJ C6 Ea UV Vu Si x0 x1 x2 x3;generalize v.ds.length=vd at*;generalize v.ks.length=vk at*;generalize v.ng=vg at*;generalize v.lv=vl at*;go_region
          go_wp2_with fail
          go_roundg (i-(j+1))
          case rel=>exact⟨j+1,by omega,rfl,by go_num,WT,HN.out.dr,MP.out.dr⟩
          case measure=>have:=SZ.out;omega
         ·obtain rfl:j=i:=by omega
          have Ej:=Gh (Ro.congr (KS':=fun x=>ksF k n t.ks (q+1) x) fun x hx=>(if_pos hx).symm);have Ns:=Gh X8;clear Ro X8 Xk Dx;go_wp2_with fail
          go_roundg (nk-(q+1))
          case rel=>exact⟨q+1,by omega,rfl,by go_num,Ns,Ej⟩
          case measure=>have:=HG.out;omega
       ·obtain rfl:q=nk:=by omega
        obtain⟨cur',rows',hf⟩:=Ro.fin;have HF':=Gh hf;have RX:=Gh Ro.bel;clear hf Ro X8 Xi;go_wp2_with fail
        go_ret
        have hm:=HM.out;subst hm;refine⟨g,cur',rows',rfl,by have:=T0.out;omega,?_,RX⟩;rw[HC.out];exact HF'
mutual
theorem qaJ{dg:Nat}:∀(t:RP),ym dg t->qN dg 40 t
 | .mk l g ds ks,h=>by
   simp only[ym]at h;simp only[qN];exact⟨h.1,h.2.1,qfu ks h.2.2⟩
theorem qfu{dg:Nat}:∀(ts:List RP),Js dg ts->zO dg 40 ts
 |[],_=>by simp[zO]
 |t::ts,h=>by
  simp only[Js]at h;simp only[zO];exact⟨qaJ t h.1,qfu ts h.2⟩
end
theorem yz.co{dg:Nat}{t:RP}(h:yz dg t)(k:Int)(n:Nat):∀c∈JS k n t,yz dg c:=fun c hc=>
 ⟨Gl (qdZ k n t c hc) h.dep,(qhm k n t (qaJ t h.few) c hc).few (Gr _),Gl (qd3 k n t c hc) h.cnt⟩
def NeG(g:Nat)(W:World)(b:Nat):Prop:=b<W.heap.size/\b≠g
noncomputable def qD(k:Int)(t:RP):List RP:=if qI (qn t)=true then[]else(JS k (zW k (qn t)) (qn t)).map qn
def qeF(k:Int)(t:RP)(w:World)(e:Ending)(w':World):Prop:=
 jb t (qn t)/\Below w.heap.size w w'/\((qI (qn t)=true/\e= .returned (.slice none 0 0))∨
  (qI (qn t)=false/\(∀c∈JS k (zW k (qn t)) (qn t),jb c (qn c))/\∃g cur rows,w.heap.size<=g/\e= .returned (.slice (some ⟨g,0,none⟩) (qD k t).length (qD k t).length)/\jh w' g (qD k t).length (· <w'.heap.size) (qD k t) cur rows))
theorem RB.neg{w':World}{g:Nat}{cs:Array Value}{base:Nat}{t:RP}{vs:List Value}(h:RB w' base t vs)(hk:qf w' g 28 cs)(hg:g<base):RV w' (NeG g w') t vs:=
 RV.mono (fun b hb=>⟨hb.lt,fun e=>by
  subst e;rcases hb with⟨ds,hb⟩|⟨hb,_⟩
  ·unfold qf at hb hk;rw[hb]at hk
   injection hk with hk
   injection hk with _ h2
   exact absurd h2 (by decide)
  ·omega⟩) t vs h
theorem qg4{us:List RP}{i:Nat}{u:RP}(h:us[i]? =some u):((us.take i).map qn++us.drop i).set i (qn u)=(us.take (i+1)).map qn++us.drop (i+1):=by
 obtain⟨hi,rfl⟩:=Gi.1 h;have hl:((us.take i).map qn).length=i:=by rw[List.length_map,List.length_take];omega
 rw[List.set_append_right _ _ (by omega),hl,Nat.sub_self,List.drop_eq_getElem_cons hi,List.set_cons_zero,List.take_succ_eq_append_getElem hi,List.map_append,List.append_assoc];rfl
theorem qhG{us:List RP}{i:Nat}{u:RP}(h:us[i]? =some u):((us.take i).map qn++us.drop i)[i]? =some u:=by
 obtain⟨hi,rfl⟩:=Gi.1 h;have hl:((us.take i).map qn).length=i:=by rw[List.length_map,List.length_take];omega
 rw[List.getElem?_append_right (by omega),hl,Nat.sub_self,List.drop_eq_getElem_cons hi];rfl
theorem qf8(dg:Nat)(Xr:dg<=500)(k:Int)(Xx:0<k)(Xj:k<=4)(t:RP)(hf:yz dg t)(Ul:yz dg (qn t))(A:Oa)(c:Nat)(K:Oa)(kc B:Nat)(w:World)(hB:B<=w.heap.size)(h:RV w (· <B) t (qe t A c K kc)):
 Calls Tryz.prog 42 #[qm t A c K kc,.int .i64 k] w (qeF k t w):=by
 have Xb:=Gb w (.cells (Gx t A c K kc) 28);have Ty:=qf.new w 28 (Gx t A c K kc);have HN:=Gh (yh dg Xr t hf A c K kc B _ (Gl hB Xb.size) (h.below (Xb.mono hB)));have Xd:=Gh Xb;have Xo:=Gh Ty;have XJ:=Gh Ty.lt;unfold J0 at HN;have HZ:=Gh (fun A c K kc (W:World)(h:RV W (· <W.heap.size) (qn t) (qe (qn t) A c K kc))=>JJ dg Xr (qn t) Ul A c K kc W.heap.size W (Gr _) h);have Uh:=ym.sm (X:=1000) (by omega) (by omega) _ Ul.few;have Uo:zW k (qn t)<=40:=qeI k _ (qaJ _ Ul.few);have HD:=Gh (fun(hc:qv (qn t)=true) A c K kc (W:World)(h:RV W (· <W.heap.size) (qn t) (qe (qn t) A c K kc))=>Yj 1000 (by omega) k (qC (qn t)) (qn t) (Gr _) hc Uh A c K kc W.heap.size W (Gr _) h Xx Xj);have Uc:=Gh (fun(hc:qv (qn t)=true) A c K kc (W:World)(h:RV W (· <W.heap.size) (qn t) (qe (qn t) A c K kc))=>YK 1000 (by omega) k Xx Xj (zW k (qn t)) (by omega) (qC (qn t)) (qn t) (Gr _) hc Uh (Gr _) A c K kc W.heap.size W (Gr _) h);have HFC:=Gh (Ul.co k (zW k (qn t)));have UO:=Gh (fun(u:RP)(hu:yz dg u) A c K kc (W:World)(h:RV W (· <W.heap.size) u (qe u A c K kc))=>yh dg Xr u hu A c K kc W.heap.size W (Gr _) h);unfold J0 at UO;have DI:=Gh (fun(h:qI (qn t)=false)=>show qD k t=(JS k (zW k (qn t)) (qn t)).map qn by unfold qD;rw[if_neg (by rw[h];decide)]);have SS:=Gh (Yc k (zW k (qn t)) (qn t));unfold qfy at Uc;unfold qeF;generalize qD k t=cfs at*;unfold qm at HN HZ HD Uc UO ⊢;clear h hf Ul Xr hB Xb Ty Uh;generalize hT:qn t=T at*;generalize hn:zW k T=n at*;go_enter Tryz.func42,Tryz.ntmps42
 go_wp2_with fail
 generalize w.alloc (.cells (Gx t A c K kc) 28)=W0 at*;refine HN.out.mono ?_;rintro e w1 ⟨A1,c1,K1,kc1,rfl,Vz,Uy,Xp⟩;have kk:=Xo.out.old Xp;have d0:w1.cell? ⟨w.heap.size,0,none⟩=some (.int .i64 t.lv):=kk.cell 0;have d1:w1.cell? ⟨w.heap.size,1,none⟩=some (.bool t.ng):=kk.cell 1;have d2:w1.cell? ⟨w.heap.size,2,none⟩=some (.slice A t.ds.length c):=kk.cell 2;have d3:w1.cell? ⟨w.heap.size,3,none⟩=some (.slice K t.ks.length kc):=kk.cell 3;obtain⟨f0,f1,f2,f3,z0⟩:=G5 kk;have SV:=Gh (qay kk rfl Uy XJ (Gt Xd Xp));have UR:=Gh Vz;clear kk Uy Xp Vz HN Xo Xd XJ;go_upto_region 2 with(fail)
 generalize (((w1.setCell ⟨w.heap.size,0,none⟩ (.int .i64 T.lv)).setCell ⟨w.heap.size,1,none⟩ (.bool T.ng)).setCell ⟨w.heap.size,2,none⟩ (.slice A1 T.ds.length c1)).setCell ⟨w.heap.size,3,none⟩ (.slice K1 T.ks.length kc1)=W2 at*;clear d0 d1 d2 d3 f0 f1 f2 f3 z0;obtain⟨k2,r2,b2⟩:=SV.out;have c0:W2.cell? ⟨w.heap.size,0,none⟩=some (.int .i64 T.lv):=k2.cell 0;have c1':W2.cell? ⟨w.heap.size,1,none⟩=some (.bool T.ng):=k2.cell 1;have c2:W2.cell? ⟨w.heap.size,2,none⟩=some (.slice A1 T.ds.length c1):=k2.cell 2;have c3:W2.cell? ⟨w.heap.size,3,none⟩=some (.slice K1 T.ks.length kc1):=k2.cell 3;have Vc:=Gh (HZ A1 c1 K1 kc1 W2 r2.rv);have XA:=Gh k2;have Sw:=Gh r2;have Xw:=Gh b2;clear SV k2 r2 b2 HZ;go_wp2_with fail
 refine Vc.out.mono ?_;rintro e w3 ⟨rfl,_,Xz⟩;have HE:=Gh (qQ UR.out.can.1);have Um:=Gh (Gt Xw Xz);have k3:=XA.out.old Xz;have FN:=Gh (show RV w3 (· <w3.heap.size) T (qe T A1 c1 K1 kc1)from(Sw.out.old Xz).rv);rw[HE.out];clear c0 c1' c2 c3 Vc Xw XA Sw Xz
 cases hz:qI T with
 |true=>
  have Nb:=Gh hz;clear hz DI k3;go_wp2_with fail
  go_ret
  exact⟨UR,Um,.inl ⟨Nb,rfl⟩⟩
 |false=>
  have Ut:=Gh (DI hz);have Nb:=Gh hz;have e4:(decide (1<=k)&&decide (k<=4))=true:=by simp;omega
  have HL:=Gh (fun(W:World)=>Qi k W);rw[e4]at HL;clear hz DI e4;have Uk:=Gh k3;have c0:w3.cell? ⟨w.heap.size,0,none⟩=some (.int .i64 T.lv):=k3.cell 0;have c1':w3.cell? ⟨w.heap.size,1,none⟩=some (.bool T.ng):=k3.cell 1;have c2:w3.cell? ⟨w.heap.size,2,none⟩=some (.slice A1 T.ds.length c1):=k3.cell 2;have c3:w3.cell? ⟨w.heap.size,3,none⟩=some (.slice K1 T.ks.length kc1):=k3.cell 3;clear k3;go_wp2_with fail
  refine(HL _).mono ?_;rintro e w4 ⟨rfl,rfl⟩;go_wp2_with fail
  have KF:=Gh (fun(V:World)(hV:Below w3.heap.size w3 V)=>(⟨(Uk.out.old hV).cell 0,(Uk.out.old hV).cell 1,(Uk.out.old hV).cell 2,(Uk.out.old hV).cell 3⟩:
   Gc V w.heap.size (.int .i64 T.lv) (.bool T.ng) (.slice A1 T.ds.length c1) (.slice K1 T.ks.length kc1)))
  have hb:Below w3.heap.size w3 w3.drew:=(qt.drew _).below _;have Xb:Below w3.heap.size w3 w3:=Below.refl _ _;have Ex:=Gh (fun(V:World)(hV:Below w3.heap.size w3 V)=>(FN.out.below hV).more hV.size);have Sj:=Gh (fun(V:World)(hV:Below w3.heap.size w3 V)=>HD UR.out.can.1 A1 c1 K1 kc1 V (Ex V hV));have Vv:=Gh (fun(V:World)(hV:Below w3.heap.size w3 V)=>Uc UR.out.can.1 A1 c1 K1 kc1 V (Ex V hV));go_region_held3 (fun w'=>Gc w' w.heap.size (.int .i64 T.lv) (.bool T.ng) (.slice A1 T.ds.length c1) (.slice K1 T.ks.length kc1))
   (first|(with_reducible exact KF.out _ hb)|(with_reducible exact KF.out _ Xb))
   (first
     |(go_at_call 33;(with_reducible refine(Sj.out _ hb).mono ?_);rintro e w5 ⟨rfl,hk⟩;replace hb:=Gt hb hk;have On:=hb.size)
     |(go_at_call 80;(with_reducible refine(Vv.out _ hb).mono ?_);rintro e w6 ⟨g,cur,rows,rfl,hg,Xk,hk⟩;replace hb:=Gt hb hk))
  have FM:=Gh (show jh w6 g (n+1) (NeG g w6) (((JS k n T).take 0).map qn++(JS k n T).drop 0) cur rows by
   rw[List.take_zero,List.drop_zero,List.map_nil,List.nil_append];exact Xk.mono fun b Ux=>by
    have h1:=Xk.row.lt;have h2:=hk.size;rcases Ux with Ux|Ux
    ·exact⟨by omega,by omega⟩
    ·exact Ux.2)
  have TL:=Gh (Gt Um hb);have T0:=Gh (show w.heap.size<=g by have:=Um.out.size;omega);generalize Lv:JS k n T=us at*;have Wq:=Gh Lv;have hn13:n<=40:=Uo;clear c0 c1' c2 c3 KF Ex Sj Vv HD Uc Uk FN HL Xk hk hb Xb Lv On hg Uo;go_wp2_with fail
  go_loopg [6,26] (n+1) (fun gn _ ix wr=>∃(j:Nat)(cur:Array Value)(rows:List (List Value)),j<=n+1/\gn=n+1-j/\ix= .int .i64 j/\Below w.heap.size w wr/\jh wr g (n+1) (NeG g wr) ((us.take j).map qn++us.drop j) cur rows/\∀u∈us.take j,jb u (qn u))
  case atStart=>exact⟨0,cur,rows,Nat.zero_le _,rfl,rfl,TL,FM,by simp⟩
  case round=>
   clear TL FM;obtain⟨j,cur,rows,hj,XI,rfl,Xe,Xk,CZ⟩:=hrel;have HG:=Gh XI;clear XI;by_cases Xi:j<n+1
   ·obtain⟨u,hu⟩:∃u,us[j]? =some u:=⟨_,Gn (by have:=SS.out;omega)⟩;obtain⟨A3,q3,K3,r3,x0,x1,x2,x3,S4⟩:=Xk.get (qhG hu);have Vv:=Gh (UO u (HFC u (Gk hu)) A3 q3 K3 r3 wr (RV.mono (fun b hb=>hb.1) _ _ S4));have EF:=Xk.siz;have U7:=Gh Xk;have Xh:=Gh Xe;have XQ:=Gh CZ;have HU:=Gh hu;have i3:(0:Int)<=(j:Int):=by omega
    have i4:(j:Int)<((n+1:Nat):Int):=by omega
    have i5:(j:Int)<(n:Int)+1:=by omega
    clear hu S4 Xk Xe CZ;generalize u.ds.length=ud at*;generalize u.ks.length=uk at*;generalize u.ng=ug at*;generalize u.lv=ul at*;go_wp2_with fail
    refine Vv.out.mono ?_;rintro e w2 ⟨A4,q4,K4,r4,rfl,Ss,Uy,Xf⟩;have XK:=U7.out.old Xf (fun b hb=>hb.1);have VT:=U7.out.row.lt;have ex:∀i,i<4->∃v,cur[j*4+i]? =some v:=fun j hj=>⟨_,Array.getElem?_eq_getElem (by omega)⟩;obtain⟨p0,s0⟩:=ex 0 (by omega);obtain⟨p1,s1⟩:=ex 1 (by omega);obtain⟨p2,s2⟩:=ex 2 (by omega);obtain⟨p3,s3⟩:=ex 3 (by omega);have d0:w2.cell? ⟨g,j*4,none⟩=some p0:=(XK.row.cell _).trans s0;have d1:w2.cell? ⟨g,j*4+1,none⟩=some p1:=(XK.row.cell _).trans s1;have d2:w2.cell? ⟨g,j*4+2,none⟩=some p2:=(XK.row.cell _).trans s2;have d3:w2.cell? ⟨g,j*4+3,none⟩=some p3:=(XK.row.cell _).trans s3;have f0:=XK.row.frozen (j*4);have f1:=XK.row.frozen (j*4+1);have f2:=XK.row.frozen (j*4+2);have f3:=XK.row.frozen (j*4+3);have z4:=XK.row.lt;have Lw:∀b,NeG g wr b->NeG g w2 b:=fun b hb=>⟨Gm hb.1 Xf.size,hb.2⟩;have HP:=Gh ((XK.mono Lw).put (fun b hb=>hb.2) (e:=j) Xi (Uy.neg XK.row VT));rw[qg4 HU.out]at HP;have Xw:=Gh (qy (g:=g) (o:=j*4) (Gt Xh Xf) T0 (.int .i64 (qn u).lv) (.bool (qn u).ng) (.slice A4 (qn u).ds.length q4) (.slice K4 (qn u).ks.length r4));have Tk:=Gh (show∀v∈us.take (j+1),jb v (qn v)from fun v hv=>by
     obtain⟨Fp,e⟩:=Gi.1 HU.out;rw[List.take_succ_eq_append_getElem Fp,e]at hv;rcases List.mem_append.1 hv with hv|hv
     ·exact XQ v hv
     ·rw[List.mem_singleton]at hv;rw[hv];exact Ss)
    clear Uy Xf XK ex s0 s1 s2 s3 EF Lw Ss VT Vv U7 Xh XQ HU x0 x1 x2 x3;generalize (qn u).ds.length=vd at*;generalize (qn u).ks.length=vk at*;generalize (qn u).ng=vg at*;generalize (qn u).lv=vl at*;go_wp2_with fail
    obtain⟨cur',hp⟩:=HP.out;go_roundg (n+1-(j+1))
    case rel=>exact⟨j+1,cur',_,by omega,rfl,by go_num,Xw,hp.mono (fun b hb=>by unfold NeG at hb ⊢; rw[jP];exact hb),Tk⟩
    case measure=>have:=HG.out;omega
   ·obtain rfl:j=n+1:=by omega
    have U7:=Gh Xk;have Xh:=Gh Xe;have XQ:=Gh CZ;clear Xk Xe CZ Xi;go_wp2_with fail
    go_ret
    have hr:=U7.out;have hc:=XQ.out;rw[List.take_of_length_le (by have:=SS.out;omega)]at hr hc;rw[List.drop_of_length_le (by have:=SS.out;omega),List.append_nil,<-Ut.out]at hr;have hl:cfs.length=n+1:=by rw[Ut,List.length_map,SS.out]
    refine⟨UR,Xh,.inr ⟨by first|rfl|exact Nb,by rw[Wq.out];exact hc,g,cur,rows,T0,by rw[hl];rfl,?_⟩⟩;rw[hl];exact hr.mono fun b hb=>hb.1
abbrev Gd (w:World)(g:Nat)(a b c d:Value)(P:Prop):Prop:=w.cell? ⟨g,0,none⟩=some a/\w.cell? ⟨g,1,none⟩=some b/\w.cell? ⟨g,2,none⟩=some c/\w.cell? ⟨g,3,none⟩=some d/\P
