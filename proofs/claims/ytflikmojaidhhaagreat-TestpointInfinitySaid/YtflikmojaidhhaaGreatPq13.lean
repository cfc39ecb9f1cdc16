import Derived.Deep.RegionHeld
import Derived.Laws.CopyRow
import Derived.Lib.SlBuf
import Derived.Test.YtflikmojaidhhaaGreatPq12
namespace Go.Proofs.YtflikmojaidhhaaGreat
open Go.RowKit
theorem qgX{P:Program}(w:World)(dT sT ty elem:TypeId)(g o dLen dCap:Nat)(a:Addr)(sLen sCap:Nat)(cur:Array Value)(t:TypeId)(cs:List Value)
 (hu:P.underlying dT=some (.slice elem))(hs:(P.info? elem).map (·.size)=some 4)
 (hg:w.heap[g]? =some (.cells cur t (0,0)))(hn:cs.length=Nat.min sLen dLen*4)
 (hsrc:∀j v,cs[j]? =some v→w.cell? (a.add j)=some v)(hfit:o+cs.length≤cur.size)(h1:∀v∈cs,v.oneCell'=true):
 (Builtin.copy_ #[dT,sT] ty #[.slice (some ⟨g,o,none⟩) dLen dCap,.slice (some a) sLen sCap]).run P w=
   .ok (goInt (Nat.min sLen dLen)) (w.setRow g (cur.toList.take o++cs++cur.toList.drop (o+cs.length)).toArray):=by
 have hl:=run_loadCells_list (P:=P) w a cs hsrc;have hst:=run_storeCells_at P g o t cs 0 cur w hg (by simpa using hfit) h1
 cases hq:P.info? elem with
 |none=>simp[hq]at hs
 |some i=>
  have hi:i.size=4:=by simpa[hq]using hs
  rw[hn]at hl;simp[Builtin.copy_,run_underlying hu,Builtin.lenOf,Builtin.firstCells,sizeOf,typeInfo,hq,hi,hl,hst]
structure qY (W:World) (g m:Nat) (S:Nat→Prop) (ts:List RP) (cur:Array Value) (rows:List (List Value)):Prop where
 row:qd W g 28 cur
 siz:cur.size=m*4
 kl:ts.length=m
 len:rows.length=m
 four:∀r∈rows,r.length=4
 at_:∀(j:Nat)(v:Value),rows.flatten[j]? =some v→cur[j]? =some v
 kids:qH W S ts rows
abbrev jl(W:World)(g o:Nat)(a b c d:Value):World:=(((W.setCell ⟨g,o,none⟩ a).setCell ⟨g,o+1,none⟩ b).setCell ⟨g,o+2,none⟩ c).setCell ⟨g,o+3,none⟩ d
theorem set4_far(W:World){g b:Nat}(h:g≠b)(o o':Nat)(x y z u:Value):(jl W g o x y z u).cell? ⟨b,o',none⟩=W.cell? ⟨b,o',none⟩:=by
 unfold jl;rw[World.cell?_setCell_far _ _ _ _ h,World.cell?_setCell_far _ _ _ _ h,World.cell?_setCell_far _ _ _ _ h,World.cell?_setCell_far _ _ _ _ h]
theorem jQ(W:World)(g o:Nat)(x y z u:Value):(jl W g o x y z u).heap.size=W.heap.size:=by
 have h1:=(Below.refl 0 W).setCell (p:=⟨g,o,none⟩) (Nat.zero_le _) x;simp[jl,World.size_setCell]
theorem qd.set4_far{W:World}{g k:Nat}{t:TypeId}{cs:Array Value}(h:qd W k t cs)(hk:k≠g)(o:Nat)(x y z u:Value):qd (jl W g o x y z u) k t cs:=
 (((h.far (p:=⟨g,o,none⟩) hk x).far (p:=⟨g,o+1,none⟩) hk y).far (p:=⟨g,o+2,none⟩) hk z).far (p:=⟨g,o+3,none⟩) hk u
theorem qe{B g o:Nat}{w W:World}(h:Below B w W)(hg:B≤g)(x y z u:Value):Below B w (jl W g o x y z u):=
 (((h.setCell (p:=⟨g,o,none⟩) hg x).setCell (p:=⟨g,o+1,none⟩) hg y).setCell (p:=⟨g,o+2,none⟩) hg z).setCell (p:=⟨g,o+3,none⟩) hg u
section
variable {W W':World} {g m:Nat} {S S':Nat→Prop} {ts:List RP} {cur:Array Value} {rows:List (List Value)}
theorem qY.mono(h:qY W g m S ts cur rows)(hS:∀b,S b→S' b):qY W g m S' ts cur rows:={h with kids:=qH.mono hS _ _ h.kids}
theorem qY.keep(h:qY W g m S ts cur rows)(hk:qd W' g 28 cur)(hS:∀b,S b→∀o,W'.cell? ⟨b,o,none⟩=W.cell? ⟨b,o,none⟩):qY W' g m S ts cur rows:={h with row:=hk,kids:=qH.keep hS _ _ h.kids}
theorem qY.old(h:qY W g m S ts cur rows)(hb:Below W.heap.size W W')(hS:∀b,S b→b<W.heap.size):qY W' g m S ts cur rows:=
 h.keep (h.row.old hb) fun b hb' o=>hb.cell (p:=⟨b,o,none⟩) (hS b hb')
theorem qY.put(h:qY W g m S ts cur rows)(hne:∀b,S b→b≠g){e:Nat}(he:e<m){t:RP}{A K:Option Addr}{c kc:Nat}(ht:RV W S t (qc t A c K kc)):
 ∃cur',qY (jl W g (e*4) (.int .i64 t.lv) (.bool t.ng) (.slice A t.ds.length c) (.slice K t.ks.length kc)) g m S (ts.set e t) cur' (rows.set e (qc t A c K kc)):=by
 have hkp:∀b,S b→∀o,(jl W g (e*4) (.int .i64 t.lv) (.bool t.ng) (.slice A t.ds.length c) (.slice K t.ks.length kc)).cell? ⟨b,o,none⟩=W.cell? ⟨b,o,none⟩:=fun b hb o=>set4_far W (Ne.symm (hne b hb)) _ _ _ _ _ _;obtain⟨s1,_,_⟩:=jt (k:=e*4) h.row (.int .i64 t.lv) (.bool t.ng) (.slice A t.ds.length c) (.slice K t.ks.length kc);refine⟨_,s1,by simp[h.siz],by rw[List.length_set];exact h.kl,by rw[List.length_set];exact h.len,fun r hr=>?_,qfx h.four (by rw[h.len];exact he) (by rw[h.siz,h.len];exact Nat.le_refl _) h.at_ _ _ _ _,?_⟩
 ·rcases List.mem_or_eq_of_mem_set hr with k|k
  ·exact h.four r k
  ·rw[k];rfl
 ·exact qH.put e (qH.keep hkp _ _ h.kids) (RV.keep hkp _ _ ht)
theorem qY.node(h:qY W g m S ts cur rows)(hg:S g)(l:Int):RV W S (.mk l false [] ts) (qc (.mk l false [] ts) none 0 (some ⟨g,0,none⟩) m):=by
 unfold RV;refine⟨none,0,some ⟨g,0,none⟩,m,rfl,⟨rfl,fun hp=>absurd hp (Nat.lt_irrefl 0)⟩,by simp[qP],Nat.zero_le _,by rw[h.kl];exact Nat.le_refl _,rows,⟨?_,fun _=>⟨g,0,rfl,hg,fun j u hu=>?_⟩⟩,h.kids⟩
 ·rw[jq h.four,h.len,h.kl]
 ·rw[Nat.zero_add];exact(h.row.cell j).trans (h.at_ j u hu)
theorem qY.get(h:qY W g m S ts cur rows){i:Nat}{u:RP}(hi:ts[i]? =some u):
 ∃A c K kc,W.cell? ⟨g,i*4,none⟩=some (.int .i64 u.lv)∧W.cell? ⟨g,i*4+1,none⟩=some (.bool u.ng)∧W.cell? ⟨g,i*4+2,none⟩=some (.slice A u.ds.length c)∧W.cell? ⟨g,i*4+3,none⟩=some (.slice K u.ks.length kc)∧RV W S u (qc u A c K kc):=by
 obtain⟨_,_,a3⟩:=qH.at_ ts rows h.kids;obtain⟨r,hr,hv⟩:=a3 i u hi;obtain⟨A,c,K,kc,rfl⟩:=hv.cells;have f:=fun j hj v (hv:(qc u A c K kc)[j]? =some v)=>(h.row.cell (i*4+j)).trans (h.at_ (i*4+j) v ((Je rows h.four i _ hr j hj).trans hv));exact⟨A,c,K,kc,f 0 (by omega) _ rfl,f 1 (by omega) _ rfl,f 2 (by omega) _ rfl,f 3 (by omega) _ rfl,hv⟩
end
theorem qY.zeros{W:World}{g:Nat}{S:Nat→Prop}(m:Nat)(hk:qd W g 28 (madeCells #[.int .i64 0,.bool false,.slice none 0 0,.slice none 0 0] (m*4))):
 qY W g m S (List.replicate m qa) (madeCells #[.int .i64 0,.bool false,.slice none 0 0,.slice none 0 0] (m*4)) (List.replicate m (qc qa none 0 none 0)):=by
 have h4:∀r∈List.replicate m (qc qa none 0 none 0),r.length=4:=fun r hr=>by rw[(List.mem_replicate.1 hr).2];rfl
 refine⟨hk,size_madeCells _ _,by simp,by simp,h4,fun j v hv=>?_,qH.zeros m⟩;have hl:=jq h4;rw[List.length_replicate]at hl;have hj:j<m*4:=by have:=(List.getElem?_eq_some_iff.1 hv).1;omega
 rw[ZC _ _ _ hj];obtain⟨k,i,hi,rfl⟩:∃k i,i<4∧j=k*4+i:=⟨j/4,j%4,Nat.mod_lt _ (by omega),by omega⟩;rw[Je _ h4 k (qc qa none 0 none 0) (by rw[List.getElem?_replicate,if_pos (by omega)]) i hi]at hv;rcases(by omega:i=0∨i=1∨i=2∨i=3)with rfl|rfl|rfl|rfl
 all_goals
  rw[←hv];simp[qc,qa,RP.lv,RP.ng,RP.ds,RP.ks,Nat.mul_add_mod_self_right]
theorem RV.rows{w:World}{S:Nat→Prop}{t:RP}{A:Option Addr}{c:Nat}{K:Option Addr}{kc:Nat}(h:RV w S t (qc t A c K kc)):∃rows,jd w S 4 K t.ks.length rows.flatten∧qH w S t.ks rows:=by
 cases t with
 |mk l g ds ks=>
  unfold RV at h;obtain⟨A1,c1,K1,kc1,h1,_,_,_,_,rows,h6,h7⟩:=h;unfold qc at h1;simp only[List.cons.injEq,Value.slice.injEq,and_true,true_and]at h1;obtain⟨_,rfl,_,rfl⟩:=h1;exact⟨rows,h6,h7⟩
theorem qH.one{w:World}{S:Nat→Prop}:∀(ts:List RP)(rows:List (List Value)),qH w S ts rows→∀v∈rows.flatten,v.oneCell'=true
 |[],rows,h,v,hv=>by
  unfold qH at h;subst h;simp at hv
 |t::ts,rows,h,v,hv=>by
  unfold qH at h;obtain⟨r,rs,rfl,h2,h3⟩:=h;rw[List.flatten_cons]at hv;rcases List.mem_append.1 hv with hv|hv
  ·obtain⟨A,c,K,kc,rfl⟩:=h2.cells;simp[qc]at hv;rcases hv with rfl|rfl|rfl|rfl<;>rfl
  ·exact qH.one ts rs h3 v hv
def OkG(B base g:Nat)(W:World)(b:Nat):Prop:=b<B∨(base≤b∧b<W.heap.size∧b≠g)
def qiP(k:Int)(n:Nat)(t:RP)(B:Nat)(w:World)(e:Ending)(w':World):Prop:=
 ∃g cur rows,e= .returned (.slice (some ⟨g,0,none⟩) (n+1) (n+1))∧w.heap.size≤g∧qY w' g (n+1) (OkG B w.heap.size g w') (JV k n t) cur rows∧Below w.heap.size w w'
def ksF(k:Int)(n:Nat)(ks:List RP)(q j:Nat):List RP:=(ks.take q).map (fun u=>(JV k n u).getD j qa)++List.replicate (ks.length-q) qa
theorem qiI(k:Int)(n:Nat)(ks:List RP)(j:Nat):ksF k n ks 0 j=List.replicate ks.length qa:=by simp[ksF]
theorem qkg(k:Int)(n:Nat)(ks:List RP)(j:Nat):ksF k n ks ks.length j=ks.map fun u=>(JV k n u).getD j qa:=by simp[ksF]
theorem qiA{k:Int}{n:Nat}{ks:List RP}{q:Nat}{u:RP}(h:ks[q]? =some u)(j:Nat):(ksF k n ks q j).set q ((JV k n u).getD j qa)=ksF k n ks (q+1) j:=by
 obtain⟨hq,rfl⟩:=List.getElem?_eq_some_iff.1 h;have hl:((ks.take q).map (fun u=>(JV k n u).getD j qa)).length=q:=by rw[List.length_map,List.length_take];omega
 unfold ksF;obtain⟨r,hr⟩:∃r,ks.length-q=r+1:=⟨ks.length-q-1,by omega⟩;rw[List.set_append_right _ _ (by omega),hl,Nat.sub_self,hr,List.replicate_succ,List.set_cons_zero,List.take_succ_eq_append_getElem hq,List.map_append,List.append_assoc,show ks.length-(q+1)=r by omega];rfl
structure Jl (W:World) (g n:Nat) (lv:Int) (nk m:Nat):Prop where
 ex:∃cur,qd W g 28 cur∧cur.size=n*4∧∀j,j<n→∀i,i<4→cur[j*4+i]? =(if j<m then #[Value.int .i64 lv,.bool false,.slice none 0 0,.slice (some ⟨g+1+j,0,none⟩) nk nk]else #[.int .i64 0,.bool false,.slice none 0 0,.slice none 0 0])[i]?
theorem Jl.start{W:World}{g n:Nat}{lv:Int}{nk:Nat}(hk:qd W g 28 (madeCells #[.int .i64 0,.bool false,.slice none 0 0,.slice none 0 0] (n*4))):Jl W g n lv nk 0:=by
 refine⟨_,hk,size_madeCells _ _,fun j hj i hi=>?_⟩;rw[ZC _ _ _ (by omega),if_neg (by omega)];rcases(by omega:i=0∨i=1∨i=2∨i=3)with rfl|rfl|rfl|rfl<;>simp[Nat.mul_add_mod_self_right]
theorem Jl.old{W W':World}{g n:Nat}{lv:Int}{nk m:Nat}(h:Jl W g n lv nk m)(hb:Below W.heap.size W W'):Jl W' g n lv nk m:=by
 obtain⟨cur,h1,h2⟩:=h.ex;exact⟨cur,h1.old hb,h2⟩
theorem Jl.far{W:World}{g n:Nat}{lv:Int}{nk m:Nat}(h:Jl W g n lv nk m){k:Nat}(hk:g≠k)(o:Nat)(x y z u:Value):Jl (jl W k o x y z u) g n lv nk m:=by
 obtain⟨cur,h1,h2⟩:=h.ex;exact⟨cur,h1.set4_far hk o x y z u,h2⟩
theorem Jl.put{W:World}{g n:Nat}{lv:Int}{nk m:Nat}(h:Jl W g n lv nk m)(hm:m<n):Jl (jl W g (m*4) (.int .i64 lv) (.bool false) (.slice none 0 0) (.slice (some ⟨g+1+m,0,none⟩) nk nk)) g n lv nk (m+1):=by
 obtain⟨cur,h1,h2,h3⟩:=h.ex;obtain⟨s1,_,_⟩:=jt (k:=m*4) h1 (.int .i64 lv) (.bool false) (.slice none 0 0) (.slice (some ⟨g+1+m,0,none⟩) nk nk);refine⟨_,s1,by simp[h2],fun j hj i hi=>?_⟩;by_cases e:j=m
 ·subst e;rw[if_pos (by omega)];rcases(by omega:i=0∨i=1∨i=2∨i=3)with rfl|rfl|rfl|rfl
  ·rw[Array.getElem?_setIfInBounds_ne (by omega),Array.getElem?_setIfInBounds_ne (by omega),Array.getElem?_setIfInBounds_ne (by omega),Nat.add_zero,Array.getElem?_setIfInBounds_self_of_lt (by omega)];rfl
  ·rw[Array.getElem?_setIfInBounds_ne (by omega),Array.getElem?_setIfInBounds_ne (by omega),Array.getElem?_setIfInBounds_self_of_lt (by simp;omega)];rfl
  ·rw[Array.getElem?_setIfInBounds_ne (by omega),Array.getElem?_setIfInBounds_self_of_lt (by simp;omega)];rfl
  ·rw[Array.getElem?_setIfInBounds_self_of_lt (by simp;omega)];rfl
 ·rw[Array.getElem?_setIfInBounds_ne (by omega),Array.getElem?_setIfInBounds_ne (by omega),Array.getElem?_setIfInBounds_ne (by omega),Array.getElem?_setIfInBounds_ne (by omega),h3 j hj i hi];by_cases e2:j<m
  ·rw[if_pos e2,if_pos (by omega)]
  ·rw[if_neg e2,if_neg (by omega)]
theorem Jl.cell{W:World}{g n:Nat}{lv:Int}{nk m:Nat}(h:Jl W g n lv nk m){j:Nat}(hj:j<n):∃v0 v1 v2 v3,W.cell? ⟨g,j*4,none⟩=some v0∧W.cell? ⟨g,j*4+1,none⟩=some v1∧W.cell? ⟨g,j*4+2,none⟩=some v2∧W.cell? ⟨g,j*4+3,none⟩=some v3∧W.frozen? ⟨g,j*4,none⟩=false∧W.frozen? ⟨g,j*4+1,none⟩=false∧W.frozen? ⟨g,j*4+2,none⟩=false∧W.frozen? ⟨g,j*4+3,none⟩=false∧g<W.heap.size∧
 (j<m→v3= .slice (some ⟨g+1+j,0,none⟩) nk nk):=by
 obtain⟨cur,h1,h2,h3⟩:=h.ex;have ex:∀i,i<4→∃v,cur[j*4+i]? =some v:=fun i hi=>⟨_,Array.getElem?_eq_getElem (by omega)⟩;obtain⟨v0,q0⟩:=ex 0 (by omega);obtain⟨v1,q1⟩:=ex 1 (by omega);obtain⟨v2,q2⟩:=ex 2 (by omega);obtain⟨v3,q3⟩:=ex 3 (by omega);refine⟨v0,v1,v2,v3,(h1.cell _).trans q0,(h1.cell _).trans q1,(h1.cell _).trans q2,(h1.cell _).trans q3,h1.frozen _,h1.frozen _,h1.frozen _,h1.frozen _,h1.lt,fun hm=>?_⟩;have:=h3 j hj 3 (by omega);rw[q3,if_pos hm]at this;simpa using this
def OkH(B H:Nat)(W:World)(b:Nat):Prop:=b<B∨(H≤b∧b<W.heap.size)
structure yN (w W:World) (B g n:Nat) (lv:Int) (nk:Nat) (KS:Nat→List RP):Prop where
 bel:Below w.heap.size w W
 gge:w.heap.size≤g
 lst:Jl W g n lv nk n
 siz:g+1+n≤W.heap.size
 rows:∀j,j<n→∃cur rows,qY W (g+1+j) nk (OkH B (g+1+n) W) (KS j) cur rows
theorem yN.old{w W W':World}{B g n:Nat}{lv:Int}{nk:Nat}{KS:Nat→List RP}(h:yN w W B g n lv nk KS)(hB:B≤w.heap.size)(hb:Below W.heap.size W W'):yN w W' B g n lv nk KS:=by
 have hs:=hb.size;refine⟨h.bel.trans (hb.mono h.bel.size),h.gge,h.lst.old hb,Nat.le_trans h.siz hs,fun j hj=>?_⟩;obtain⟨cur,rows,hr⟩:=h.rows j hj;refine⟨cur,rows,(hr.old hb fun b hb'=>?_).mono fun b hb'=>?_⟩
 ·rcases hb' with hb'|hb'
  ·have:=h.bel.size;omega
  ·exact hb'.2
 ·rcases hb' with hb'|hb'
  ·exact .inl hb'
  ·exact .inr ⟨hb'.1,Nat.lt_of_lt_of_le hb'.2 hs⟩
theorem yN.put{w W:World}{B g n:Nat}{lv:Int}{nk:Nat}{KS:Nat→List RP}(h:yN w W B g n lv nk KS)(hB:B≤w.heap.size){j q:Nat}(hj:j<n)(hq:q<nk){t:RP}{A K:Option Addr}{c kc:Nat}(ht:RV W (OkH B (g+1+n) W) t (qc t A c K kc)):
 yN w (jl W (g+1+j) (q*4) (.int .i64 t.lv) (.bool t.ng) (.slice A t.ds.length c) (.slice K t.ks.length kc)) B g n lv nk (fun i=>if i=j then(KS j).set q t else KS i):=by
 have hgg:=h.gge;have hsz:=h.siz;have hok:∀b,OkH B (g+1+n) W b→OkH B (g+1+n) (jl W (g+1+j) (q*4) (.int .i64 t.lv) (.bool t.ng) (.slice A t.ds.length c) (.slice K t.ks.length kc)) b:=fun b hb=>by
  unfold OkH at hb ⊢;rw[jQ];exact hb
 have hne:∀b,OkH B (g+1+n) W b→b≠g+1+j:=fun b hb=>by
  rcases hb with hb|hb<;>omega
 refine⟨qe h.bel (by omega) _ _ _ _,hgg,h.lst.far (by omega) _ _ _ _ _,by rw[jQ];exact hsz,fun i hi=>?_⟩;obtain⟨cur,rows,hr⟩:=h.rows i hi;by_cases e:i=j
 ·subst e;rw[if_pos rfl];obtain⟨cur',hp⟩:=hr.put hne hq ht;exact⟨cur',_,hp.mono hok⟩
 ·rw[if_neg e];exact⟨cur,rows,(hr.keep (hr.row.set4_far (by omega) _ _ _ _ _) (fun b hb o=>set4_far W (Ne.symm (hne b hb)) _ _ _ _ _ _)).mono hok⟩
theorem yN.fin{w W:World}{B g n:Nat}{lv:Int}{nk:Nat}{KS:Nat→List RP}(h:yN w W B g n lv nk KS):
 ∃cur rows,qY W g n (OkG B w.heap.size g W) ((List.range n).map fun j=> .mk lv false [] (KS j)) cur rows:=by
 have hgg:=h.gge;have hsz:=h.siz;obtain⟨cur,h1,h2,h3⟩:=h.lst.ex;have hrs:∀m,m≤n→qH W (OkG B w.heap.size g W) ((List.range m).map fun j=> .mk lv false [] (KS j)) ((List.range m).map fun j=>[.int .i64 lv,.bool false,.slice none 0 0,.slice (some ⟨g+1+j,0,none⟩) nk nk]):=by
  intro m
  induction m with
  |zero=>intro _;simp[qH]
  |succ m ih=>
   intro hm;rw[List.range_succ,List.map_append,List.map_append];refine qH.snoc (ih (by omega)) ?_;obtain⟨c1,r1,hr⟩:=h.rows m (by omega);have:=(hr.mono (S':=OkG B w.heap.size g W) fun b hb=>by
    rcases hb with hb|hb
    ·exact .inl hb
    ·exact .inr ⟨by omega,hb.2,by omega⟩).node (.inr ⟨by omega,by omega,by omega⟩) lv
   have e:qc (.mk lv false [] (KS m)) none 0 (some ⟨g+1+m,0,none⟩) nk=[.int .i64 lv,.bool false,.slice none 0 0,.slice (some ⟨g+1+m,0,none⟩) nk nk]:=by
    unfold qc;simp only[RP.lv,RP.ng,RP.ds,RP.ks,List.length_nil,hr.kl]
   rw[e]at this;exact this
 have h4:∀r∈(List.range n).map (fun j=>[Value.int .i64 lv,.bool false,.slice none 0 0,.slice (some ⟨g+1+j,0,none⟩) nk nk]),r.length=4:=fun r hr=>by
  obtain⟨j,_,rfl⟩:=List.mem_map.1 hr;rfl
 refine⟨cur,_,h1,h2,by simp,by simp,h4,fun x v hv=>?_,hrs n (Nat.le_refl _)⟩;have hl:=jq h4;rw[List.length_map,List.length_range]at hl;have hx:x<n*4:=by have:=(List.getElem?_eq_some_iff.1 hv).1;omega
 obtain⟨j,i,hi,rfl⟩:∃j i,i<4∧x=j*4+i:=⟨x/4,x%4,Nat.mod_lt _ (by omega),by omega⟩;rw[Je _ h4 j [.int .i64 lv,.bool false,.slice none 0 0,.slice (some ⟨g+1+j,0,none⟩) nk nk] (by rw[List.getElem?_map,List.getElem?_range (by omega)];rfl) i hi]at hv;rw[h3 j (by omega) i hi,if_pos (by omega),←hv];rcases(by omega:i=0∨i=1∨i=2∨i=3)with rfl|rfl|rfl|rfl<;>rfl
theorem Jl.dr{W:World}{g n:Nat}{lv:Int}{nk m:Nat}(h:Jl W g n lv nk m):Jl W.drew g n lv nk m:=⟨h.ex⟩
theorem qY.dr{W:World}{g m:Nat}{S:Nat→Prop}{ts:List RP}{cur:Array Value}{rows:List (List Value)}(h:qY W g m S ts cur rows):qY W.drew g m S ts cur rows:=h.keep h.row fun _ _ _=>rfl
theorem yN.dr{w W:World}{B g n:Nat}{lv:Int}{nk:Nat}{KS:Nat→List RP}(h:yN w W B g n lv nk KS):yN w W.drew B g n lv nk KS:=by
 refine⟨h.bel.trans ((qm.drew _).below _),h.gge,h.lst.dr,h.siz,fun j hj=>?_⟩;obtain⟨cur,rows,hr⟩:=h.rows j hj;exact⟨cur,rows,hr.dr⟩
theorem yN.congr{w W:World}{B g n:Nat}{lv:Int}{nk:Nat}{KS KS':Nat→List RP}(h:yN w W B g n lv nk KS)(e:∀j,j<n→KS' j=KS j):yN w W B g n lv nk KS':=
 {h with rows:=fun j hj=>by rw[e j hj];exact h.rows j hj}
theorem qY.copy{W:World}{B g m:Nat}{ks:List RP}{rows:List (List Value)}(hk:qd W g 28 (madeCells #[.int .i64 0,.bool false,.slice none 0 0,.slice none 0 0] (m*4)))(hB:B≤g)(hr:qH W (· <B) ks rows)(hm:ks.length≤m):
 ∃cur rows',qY (W.setRow g ((madeCells #[.int .i64 0,.bool false,.slice none 0 0,.slice none 0 0] (m*4)).toList.take 0++rows.flatten++(madeCells #[.int .i64 0,.bool false,.slice none 0 0,.slice none 0 0] (m*4)).toList.drop (0+rows.flatten.length)).toArray) g m (· <B) (ks++List.replicate (m-ks.length) qa) cur rows':=by
 obtain⟨a1,a2,_⟩:=qH.at_ ks rows hr;have hz:=qY.zeros (S:=(· <B)) m hk;have hl:=jq a1;have hs:=size_madeCells #[Value.int .i64 0,.bool false,.slice none 0 0,.slice none 0 0] (m*4);have hst:=fun(cs:Array Value)=>setRow_heap W g (madeCells #[.int .i64 0,.bool false,.slice none 0 0,.slice none 0 0] (m*4)) cs 28 (0,0) hk;have hbl:=fun(cs:Array Value)=>below_setRow (Below.refl B W) hB cs;have hza:=hz.at_;have hkd:=hz.kids;generalize madeCells #[.int .i64 0,.bool false,.slice none 0 0,.slice none 0 0] (m*4)=mc at*;have h4:∀r∈rows++List.replicate (m-ks.length) (qc qa none 0 none 0),r.length=4:=fun r hr=>by
  rcases List.mem_append.1 hr with hr|hr
  ·exact a1 r hr
  ·rw[(List.mem_replicate.1 hr).2];rfl
 refine⟨_,rows++List.replicate (m-ks.length) (qc qa none 0 none 0),hst _,?_,by simp;omega,by simp[a2];omega,h4,fun j v hv=>?_,?_⟩
 ·have hs':mc.toList.length=m*4:=by simpa using hs
  simp only[List.size_toArray,List.length_append,List.length_take,List.length_drop,hs',hl];omega
 ·have hs':mc.toList.length=m*4:=by simpa using hs
  rw[List.flatten_append]at hv;simp only[List.take_zero,List.nil_append,Nat.zero_add,List.getElem?_toArray];by_cases hj:j<rows.flatten.length
  ·rw[List.getElem?_append_left hj]at hv ⊢;exact hv
  ·rw[List.getElem?_append_right (by omega)]at hv ⊢;rw[List.getElem?_drop,show rows.flatten.length+(j-rows.flatten.length)=j by omega];have hjl:j-rows.flatten.length<(m-ks.length)*4:=by
    have h4z:∀r∈List.replicate (m-ks.length) (qc qa none 0 none 0),r.length=4:=fun r hr=>by rw[(List.mem_replicate.1 hr).2];rfl
    have:=(List.getElem?_eq_some_iff.1 hv).1;rw[jq h4z,List.length_replicate]at this;exact this
   obtain⟨q,i,hi,hq⟩:∃q i,i<4∧j-rows.flatten.length=q*4+i:=⟨(j-rows.flatten.length)/4,(j-rows.flatten.length)%4,Nat.mod_lt _ (by omega),by omega⟩;have hjq:j=(ks.length+q)*4+i:=by rw[hl,a2]at hq hj;omega
   rw[hq,Je _ (fun r hr=>by rw[(List.mem_replicate.1 hr).2];rfl) q (qc qa none 0 none 0) (by rw[List.getElem?_replicate,if_pos (by omega)]) i hi]at hv;rw[hjq];have:=hza ((ks.length+q)*4+i) v (by rw[Je _ (fun r hr=>by rw[(List.mem_replicate.1 hr).2];rfl) (ks.length+q) (qc qa none 0 none 0) (by rw[List.getElem?_replicate,if_pos (by omega)]) i hi];exact hv);simpa using this
 ·have hap:∀(ts us:List RP)(r1 r2:List (List Value))(V:World)(S:Nat→Prop),qH V S ts r1→qH V S us r2→qH V S (ts++us) (r1++r2):=by
   intro ts us r1 r2 V S h1 h2
   induction ts generalizing r1 with
   |nil=>unfold qH at h1;subst h1;simpa using h2
   |cons t ts ih=>
    unfold qH at h1;obtain⟨r,rs,rfl,k1,k2⟩:=h1;simp only[List.cons_append,qH];exact⟨r,rs++r2,rfl,k1,ih rs k2⟩
  exact hap _ _ _ _ _ _ (qH.keep (fun b hb o=>(hbl _).cell (p:=⟨b,o,none⟩) hb) _ _ hr) (qH.zeros _)
abbrev z4:Array Value:=#[.int .i64 0,.bool false,.slice none 0 0,.slice none 0 0]
theorem OkG.of{B base g:Nat}{W:World}:∀b,b<B→OkG B base g W b:=fun _ h=> .inl h
set_option maxHeartbeats 4000000
set_option maxRecDepth 100000
theorem qbE(X:Nat)(hX:X≤100000)(k:Int)(hk0:0<k)(hk4:k≤4)(n:Nat)(hn:n≤1000):∀(D:Nat)(t:RP),qv t≤D→qj t=true→yf X t→zo k t≤n→∀(A:Option Addr)(c:Nat)(K:Option Addr)(kc B:Nat)(w:World),B≤w.heap.size→RV w (· <B) t (qc t A c K kc)→
 Calls Tryz.prog 100 #[qn t A c K kc,.int .i64 k,.int .i64 n] w (qiP k n t B w)
 |0,t,hD,_,_,_,_,_,_,_,_,_,_,_=>by cases t;simp only[qv]at hD;omega
 |D+1,t,hD,hc,hf,hdg,A,c,K,kc,B,w,hB,h=>by
  have IH:=Lib.hid (qbE X hX k hk0 hk4 n hn D);have HR:=Lib.hid (fun(W:World)(hW:Below w.heap.size w W)=>h.below (hW.mono hB));have HD:=Lib.hid (fun(u:RP)(hu:u∈t.ks)=>show qv u≤D by have:=qD hu;omega);have HF:=Lib.hid hf.at_.2.2;have HB:=Lib.hid hB;have hkl:=hf.at_.2.1;have HKC:=Lib.hid h.node.2.2.2;have HPT:=Lib.hid (qr hc);have HDG:=Lib.hid hdg;have HEQ:=Lib.hid (JH k n t);obtain⟨m,hm⟩:∃m,m=n+1:=⟨_,rfl⟩;have e0:IntKind.i64.wrap ((n:Int)+1)=(m:Int):=by rw[IntWalk.i64_in _ (by omega)];omega
  have hmk:=fun(W:World)=>Tryz.make_rec m (by omega) W;have HM:=Lib.hid hm;have hm1:(0:Int)<(m:Int):=by omega
  have hm2:m≤1001:=by omega
  have HX:=Lib.hid (qK w 28 28 #[.int .i64 t.lv,.bool t.ng,.slice A t.ds.length c,.slice K t.ks.length kc] (madeCells #[.int .i64 0,.bool false,.slice none 0 0,.slice none 0 0] (m*4)));have HRO:=Lib.hid (fun(W:World)(hW:Below w.heap.size w W)=>(HR.out W hW).rows);unfold qiP at IH;unfold qn at IH ⊢;clear h hD hf hB hc hdg hm hn;generalize hnd:t.ds.length=nd at*;generalize hnk:t.ks.length=nk at*;have HND:=Lib.hid hnd;have HNK:=Lib.hid hnk;clear hnd hnk;have HRV:=Lib.hid (fun(V:World)(hV:Below w.heap.size w V)=>show RV V (· <B) t (qc t A c K kc)from HR.out V hV);go_enter Tryz.func100,Tryz.ntmps100
  go_upto_region 16 with(fail)
  generalize (w.alloc (.cells #[.int .i64 t.lv,.bool t.ng,.slice A nd c,.slice K nk kc] 28)).alloc (.cells (madeCells #[.int .i64 0,.bool false,.slice none 0 0,.slice none 0 0] (m*4)) 28)=W at*;obtain⟨hb0,k0,k1,hs⟩:=HX.out;clear HX;generalize hgg:w.heap.size+1=g at*;have HGG:=Lib.hid hgg;have c0:W.cell? ⟨w.heap.size,0,none⟩=some (.int .i64 t.lv):=k0.cell 0;have c1:W.cell? ⟨w.heap.size,1,none⟩=some (.bool t.ng):=k0.cell 1;have c2:W.cell? ⟨w.heap.size,2,none⟩=some (.slice A nd c):=k0.cell 2;have c3:W.cell? ⟨w.heap.size,3,none⟩=some (.slice K nk kc):=k0.cell 3;have HB0:=Lib.hid hb0;have HK0:=Lib.hid k0;have HK1:=Lib.hid k1;have HS:=Lib.hid hs;clear hgg hb0 k0 k1 hs;by_cases h1:t.lv<k
  ·have HC:=Lib.hid (show JV k n t=(List.replicate m qa).set 0 t by rw[HEQ.out,if_pos h1,HM.out,List.replicate_succ,List.set_cons_zero]);clear HEQ HPT HDG IH hmk;have e1:decide (t.lv<k)=true:=by simpa using h1
   have HP:=Lib.hid ((qY.zeros (S:=(· <B)) m HK1.out).put (fun b hb=>by have:=HGG.out;have:=HB.out;have hb:b<B:=hb;omega) (e:=0) (by omega) (HRV.out W HB0.out));rw[HND.out,HNK.out]at HP;have HSZ:=Lib.hid (qe (g:=g) (o:=0*4) HB0.out (by have:=HGG.out;omega) (.int .i64 t.lv) (.bool t.ng) (.slice A nd c) (.slice K nk kc));obtain⟨v0,v1,v2,v3,d0,d1,d2,d3,f0,f1,f2,f3,z0,_⟩:=(Jl.start (lv:=0) (nk:=0) HK1.out).cell (j:=0) (by omega);rw[Nat.zero_mul]at d0 d1 d2 d3 f0 f1 f2 f3;rw[Nat.zero_add]at d1 d2 d3 f1 f2 f3;clear h1;go_wp2_with fail
   go_ret
   have hm:=HM.out;subst hm;obtain⟨cur',hp⟩:=HP.out;have hp2:=hp.mono (S':=OkG B w.heap.size g (jl W g (0*4) (.int .i64 t.lv) (.bool t.ng) (.slice A nd c) (.slice K nk kc))) OkG.of;rw[←HC.out]at hp2;exact⟨g,cur',_,rfl,by have:=HGG.out;omega,hp2,HSZ.out⟩
  ·by_cases h2:t.lv=k
   ·have hpt:=HPT.out;have hn2:2≤nk:=by
     have:=HNK.out;rcases hpt with⟨a,_⟩|⟨_,_,_,_,a,_⟩<;>omega
    have hnm:nk≤m:=by
     have h3:=HDG.out;rw[JM,if_neg h1,if_pos h2]at h3;have:=HNK.out;have:=HM.out;omega
    have HC:=Lib.hid (show JV k n t=t.ks++List.replicate (m-t.ks.length) qa by
     rw[HEQ.out,if_neg h1,if_pos h2,HM.out,HNK.out,List.take_of_length_le (by have:=HM.out;have:=HNK.out;omega)])
    have e1:decide (t.lv<k)=false:=by simpa using h1
    have e2:(t.lv==k)=true:=by simpa using h2
    obtain⟨rows,hrd,hrs⟩:=HRO.out W HB0.out;have HRS:=Lib.hid hrs;obtain⟨b,o,rfl,hbB,hcl⟩:=hrd.2 (by omega);have HCP:=Lib.hid (fun(ty:TypeId)=>qgX (P:=Tryz.prog) W 26 26 ty 28 g 0 m m ⟨b,o,none⟩ nk kc _ 28 rows.flatten Tryz.underlying26 Tryz.sizeRec HK1.out (by rw[hrd.1,show Nat.min nk m=nk from Nat.min_eq_left hnm]) (fun j v hv=>by rw[show(⟨b,o,none⟩:Addr).add j=⟨b,o+j,none⟩by simp[Addr.add]];exact hcl j v hv) (by rw[hrd.1,size_madeCells];omega) (qH.one _ _ hrs));have HRC:=Lib.hid (qY.copy (m:=m) HK1.out (show B≤g by have:=HGG.out;have:=HB.out;omega) hrs (by rw[HNK.out];exact hnm));generalize ((madeCells #[Value.int .i64 0,.bool false,.slice none 0 0,.slice none 0 0] (m*4)).toList.take 0++rows.flatten++(madeCells #[Value.int .i64 0,.bool false,.slice none 0 0,.slice none 0 0] (m*4)).toList.drop (0+rows.flatten.length)).toArray=arr at*;have HBS:=Lib.hid (fun cs=>below_setRow HB0.out (show w.heap.size≤g by have:=HGG.out;omega) cs);clear HEQ HPT HDG IH hmk hrd hrs hcl hpt h1 h2;go_wp2_with (refine Lib.wpList_copy_run (o:=⟨some 76,_,_,_,_,_⟩) _ rfl _ _ 26 26 rfl _ _ rfl rfl (HCP.out _) ?_)
    go_ret
    have hm:=HM.out;subst hm;obtain⟨cur',rows',hp⟩:=HRC.out;refine⟨g,cur',rows',rfl,by have:=HGG.out;omega,?_,HBS.out _⟩;rw[HC.out];exact hp.mono OkG.of
   ·have hpt:=HPT.out;obtain⟨hl1,hks,hn2⟩:k<t.lv∧(∀u∈t.ks,qj u=true)∧2≤nk:=by
     have:=HNK.out;rcases hpt with⟨a,_⟩|⟨_,_,_,_,a,b,_⟩
     ·omega
     ·exact⟨by omega,fun u hu=>(b u hu).2,by omega⟩
    have HKS:=Lib.hid hks;have HDK:=Lib.hid (show∀u∈t.ks,zo k u≤n by
     have h3:=HDG.out;rw[JM,if_neg h1,if_neg h2]at h3;exact fun u hu=>Nat.le_trans (Yv hu) h3)
    have HC:=Lib.hid (show JV k n t=(List.range m).map fun j=> .mk t.lv false [] (ksF k n t.ks nk j)by
     rw[HEQ.out,if_neg h1,if_neg h2,HM.out];refine List.map_congr_left fun j _=>?_;rw[←HNK.out,qkg])
    have e1:decide (t.lv<k)=false:=by simpa using h1
    have e2:(t.lv==k)=false:=by simpa using h2
    have hmk2:=fun(W:World)=>Tryz.make_rec nk (by omega) W;clear HEQ HPT HDG hmk hpt hks h1 h2;go_wp2_with fail
    clear c0 c1 c2 c3;go_loopg [8,18] m (fun gn _ ix wr=>∃i:Nat,i≤m∧gn=m-i∧ix= .int .i64 i∧Below w.heap.size w wr∧qd wr w.heap.size 28 #[.int .i64 t.lv,.bool t.ng,.slice A nd c,.slice K nk kc]∧wr.heap.size=g+1+i∧Jl wr g m t.lv nk i∧∀j,j<i→qd wr (g+1+j) 28 (madeCells #[.int .i64 0,.bool false,.slice none 0 0,.slice none 0 0] (nk*4)))
    case atStart=>exact⟨0,Nat.zero_le _,rfl,rfl,HB0.out,HK0.out,by have:=HS.out;have:=HGG.out;omega,Jl.start HK1.out,fun j hj=>absurd hj (Nat.not_lt_zero j)⟩
    case round=>
     clear HB0 HK0 HK1 HS;obtain⟨i,hi,hgi,rfl,hbw,hkw,hsz,hls,hro⟩:=hrel;have HG:=Lib.hid hgi;clear hgi;have c0:wr.cell? ⟨w.heap.size,0,none⟩=some (.int .i64 t.lv):=hkw.cell 0;have c3:wr.cell? ⟨w.heap.size,3,none⟩=some (.slice K nk kc):=hkw.cell 3;by_cases hlt:i<m
     ·have i3:(0:Int)≤(i:Int):=by omega
      have i4:(i:Int)<(m:Int):=by omega
      obtain⟨cur,h1,h2,h3⟩:=hls.ex;have ex:∀j,j<4→∃v,cur[i*4+j]? =some v:=fun j hj=>⟨_,Array.getElem?_eq_getElem (by omega)⟩;obtain⟨v0,q0⟩:=ex 0 (by omega);obtain⟨v1,q1⟩:=ex 1 (by omega);obtain⟨v2,q2⟩:=ex 2 (by omega);obtain⟨v3,q3⟩:=ex 3 (by omega);have d0:=fun o=>show(wr.alloc o).cell? ⟨g,i*4,none⟩=some v0 from((h1.alloc o).cell _).trans q0;have d1:=fun o=>((h1.alloc o).cell _).trans q1;have d2:=fun o=>((h1.alloc o).cell _).trans q2;have d3:=fun o=>((h1.alloc o).cell _).trans q3;have f0:=fun o=>(h1.alloc o).frozen (i*4);have f1:=fun o=>(h1.alloc o).frozen (i*4+1);have f2:=fun o=>(h1.alloc o).frozen (i*4+2);have f3:=fun o=>(h1.alloc o).frozen (i*4+3);have z0:=h1.lt;have a0:=fun o=>(hkw.alloc o).cell 0;have a3:=fun o=>(hkw.alloc o).cell 3;have z1:=hkw.lt;have HN:=Lib.hid (fun(V:World)(hV:V=wr.alloc (.cells (madeCells #[.int .i64 0,.bool false,.slice none 0 0,.slice none 0 0] (nk*4)) 28))=>
       show Below w.heap.size w (jl V g (i*4) (.int .i64 t.lv) (.bool false) (.slice none 0 0) (.slice (some ⟨g+1+i,0,none⟩) nk nk)).drew∧qd (jl V g (i*4) (.int .i64 t.lv) (.bool false) (.slice none 0 0) (.slice (some ⟨g+1+i,0,none⟩) nk nk)) w.heap.size 28 #[.int .i64 t.lv,.bool t.ng,.slice A nd c,.slice K nk kc]∧
        (jl V g (i*4) (.int .i64 t.lv) (.bool false) (.slice none 0 0) (.slice (some ⟨g+1+i,0,none⟩) nk nk)).heap.size=g+1+(i+1)∧Jl (jl V g (i*4) (.int .i64 t.lv) (.bool false) (.slice none 0 0) (.slice (some ⟨g+1+i,0,none⟩) nk nk)) g m t.lv nk (i+1)∧
        ∀j,j<i+1→qd (jl V g (i*4) (.int .i64 t.lv) (.bool false) (.slice none 0 0) (.slice (some ⟨g+1+i,0,none⟩) nk nk)) (g+1+j) 28 (madeCells #[.int .i64 0,.bool false,.slice none 0 0,.slice none 0 0] (nk*4))by
       have hgg:=HGG.out;have hal:=(Below.refl wr.heap.size wr).alloc (Nat.le_refl _) (.cells (madeCells #[.int .i64 0,.bool false,.slice none 0 0,.slice none 0 0] (nk*4)) 28);rw[←hV]at hal;refine⟨(qe (hbw.trans (hal.mono hbw.size)) (by omega) _ _ _ _).trans ((qm.drew _).below _),(hkw.old hal).set4_far (by omega) _ _ _ _ _,?_,(hls.old hal).put hlt,fun j hj=>qd.set4_far ?_ (by omega) _ _ _ _ _⟩
       ·rw[jQ,hV,World.size_alloc];omega
       ·by_cases e:j<i
        ·exact(hro j e).old hal
        ·obtain rfl:j=i:=by omega
         have:=qd.new wr 28 (madeCells #[.int .i64 0,.bool false,.slice none 0 0,.slice none 0 0] (nk*4));rw[←hV,hsz]at this;exact this)
      clear hbw hkw hls hro h1 h2 h3 ex q0 q1 q2 q3;go_wp2_with fail
      go_region
      go_wp2_with fail
      go_roundg (m-(i+1))
      case rel=>
       obtain⟨b1,b2,b3,b4,b5⟩:=HN.out _ rfl;exact⟨i+1,by omega,rfl,by go_num,b1,b2,b3,b4.dr,b5⟩
      case measure=>have:=HG.out;omega
     ·obtain rfl:i=m:=by omega
      have HCI:=Lib.hid (show yN w wr B g i t.lv nk (fun j=>ksF k n t.ks 0 j)from⟨hbw,by have:=HGG.out;omega,hls,by omega,fun j hj=>⟨_,_,by
       have h0:=qY.zeros (S:=OkH B (g+1+i) wr) nk (hro j hj);show qY wr (g+1+j) nk _ (ksF k n t.ks 0 j) _ _;rw[qiI,HNK.out];exact h0⟩⟩)
      have HKW:=Lib.hid hkw;clear hbw hkw hls hro hmk2 hlt;go_wp2_with fail
      clear c0 c3;go_loopg [9,11,35,45] nk (fun gn _ _ ix _ wq=>∃q:Nat,q≤nk∧gn=nk-q∧ix= .int .i64 q∧qd wq w.heap.size 28 #[.int .i64 t.lv,.bool t.ng,.slice A nd c,.slice K nk kc]∧yN w wq B g i t.lv nk (fun j=>ksF k n t.ks q j))
      case atStart=>exact⟨0,Nat.zero_le _,rfl,rfl,HKW.out,HCI.out⟩
      case round=>
       clear HCI HKW HG hsz;obtain⟨q,hq,hgq,rfl,hkw,hci⟩:=hrel;have HG:=Lib.hid hgq;clear hgq;by_cases hlt:q<nk
       ·obtain⟨u,hu⟩:∃u,t.ks[q]? =some u:=⟨_,List.getElem?_eq_getElem (by rw[HNK.out];exact hlt)⟩;obtain⟨b,o,A1,q1,K1,r1,rfl,hbB,x0,x1,x2,x3,hku⟩:=(HRV.out _ hci.bel).kid hu;have hum:=List.mem_of_getElem? hu;have hal:=(Below.refl wr.heap.size wr).alloc (Nat.le_refl _) (.cells #[.int .i64 u.lv,.bool u.ng,.slice A1 u.ds.length q1,.slice K1 u.ks.length r1] 28);have hBw:B≤wr.heap.size:=Nat.le_trans HB.out hci.bel.size;have HCC:=Lib.hid (IH.out u (HD.out u hum) (HKS.out u hum) (HF.out u hum) (HDK.out u hum) A1 q1 K1 r1 B _ (Nat.le_trans hBw hal.size) (hku.below (hal.mono hBw)));have HNX:=Lib.hid (fun j=>qiA (k:=k) (n:=n) hu j);have HCA:=Lib.hid (hci.old HB.out hal);have HKA:=Lib.hid (hkw.old hal);have i3:(0:Int)≤(q:Int):=by omega
        have i4:(q:Int)<(nk:Int):=by omega
        have i5:(nk:Int)≤(kc:Int):=by have:=HKC.out;omega
        have HUL:=Lib.hid (Yx k n u);clear hu hum hku hal hBw hci hkw;generalize JV k n u=us at*;generalize u.ds.length=ud at*;generalize u.ks.length=uk at*;generalize u.ng=ug at*;generalize u.lv=ul at*;go_wp2_with fail
        generalize wr.alloc (.cells #[.int .i64 ul,.bool ug,.slice A1 ud q1,.slice K1 uk r1] 28)=W1 at*;refine HCC.out.mono ?_;rintro e w2 ⟨g2,cur2,rows2,rfl,hg2,hr2,hb2⟩;rw[←HM.out]at hr2 ⊢;have HC2:=Lib.hid (HCA.out.old HB.out hb2);have HK2:=Lib.hid (HKA.out.old hb2);have HR2:=Lib.hid (show qY w2 g2 i (OkH B (g+1+i) w2) us cur2 rows2 from hr2.mono fun b hb=>by
         have:=HCA.out.siz;rcases hb with hb|hb
         ·exact .inl hb
         ·exact .inr ⟨by omega,hb.2.1⟩)
        have HG2:=Lib.hid (show g+1+i≤g2 by have:=HCA.out.siz;omega);clear hr2 hb2 hg2 HCC HCA HKA x0 x1 x2 x3;go_wp2_with fail
        go_loopg [11,45] i (fun gn _ ix wq=>∃j:Nat,j≤i∧gn=i-j∧ix= .int .i64 j∧qd wq w.heap.size 28 #[.int .i64 t.lv,.bool t.ng,.slice A nd c,.slice (some ⟨b,o,none⟩) nk kc]∧yN w wq B g i t.lv nk (fun x=>if x<j then ksF k n t.ks (q+1) x else ksF k n t.ks q x)∧qY wq g2 i (OkH B (g+1+i) wq) us cur2 rows2)
        case atStart=>exact⟨0,Nat.zero_le _,rfl,rfl,HK2.out,HC2.out.congr (fun x _=>if_neg (Nat.not_lt_zero x)),HR2.out⟩
        case round=>
         clear HC2 HK2 HR2;obtain⟨j,hj,hgj,rfl,hkw,hci,hro⟩:=hrel;have HGJ:=Lib.hid hgj;clear hgj;by_cases hlj:j<i
         ·obtain⟨v,hv⟩:∃v,us[j]? =some v:=⟨_,List.getElem?_eq_getElem (by have:=HUL.out;have:=HM.out;omega)⟩;obtain⟨A3,q3,K3,r3,x0,x1,x2,x3,hvv⟩:=hro.get hv;have HGD:=Lib.hid (show us.getD j qa=v by rw[List.getD_eq_getElem?_getD,hv];rfl);have hal:=(Below.refl wr.heap.size wr).alloc (Nat.le_refl _) (.cells #[.int .i64 v.lv,.bool v.ng,.slice A3 v.ds.length q3,.slice K3 v.ks.length r3] 28);have hnb:=qd.new wr 28 #[.int .i64 v.lv,.bool v.ng,.slice A3 v.ds.length q3,.slice K3 v.ks.length r3];have HCA:=Lib.hid (hci.old HB.out hal);have HKA:=Lib.hid (hkw.old hal);have HNB:=Lib.hid hnb;have hsub:∀b,OkH B (g+1+i) wr b→b<wr.heap.size:=fun b hb=>by
           have:=hci.bel.size;have:=HB.out;rcases hb with hb|hb
           ·omega
           ·exact hb.2
          have hsup:∀b,OkH B (g+1+i) wr b→OkH B (g+1+i) (wr.alloc (.cells #[.int .i64 v.lv,.bool v.ng,.slice A3 v.ds.length q3,.slice K3 v.ks.length r3] 28)) b:=fun b hb=>hb.imp id fun hb=>⟨hb.1,Nat.lt_of_lt_of_le hb.2 hal.size⟩;have HRA:=Lib.hid ((hro.old hal hsub).mono hsup);have HVA:=Lib.hid (RV.mono hsup _ _ (RV.keep (fun b hb o=>hal.cell (p:=⟨b,o,none⟩) (hsub b hb)) _ _ hvv));have i6:(0:Int)≤(j:Int):=by omega
          have i7:(j:Int)<(i:Int):=by omega
          clear hv hvv hal hnb hci hkw hro hsub hsup;go_upto_region 13 with(fail)
          generalize wr.alloc (.cells #[.int .i64 v.lv,.bool v.ng,.slice A3 v.ds.length q3,.slice K3 v.ks.length r3] 28)=V at*;obtain⟨cur3,rows3,hr3⟩:=HCA.out.rows j hlj;obtain⟨_,_,_,y3,_,_,_,y3c,_,_,_,_,_,ye⟩:=HCA.out.lst.cell hlj;have ye:=ye hlj;subst ye;have z0:=HNB.out.cell 0;have z1:=HNB.out.cell 1;have z2:=HNB.out.cell 2;have z3:=HNB.out.cell 3;have hs3:=hr3.siz;have ex:∀j,j<4→∃v,cur3[q*4+j]? =some v:=fun j hj=>⟨_,Array.getElem?_eq_getElem (by omega)⟩;obtain⟨p0,s0⟩:=ex 0 (by omega);obtain⟨p1,s1⟩:=ex 1 (by omega);obtain⟨p2,s2⟩:=ex 2 (by omega);obtain⟨p3,s3⟩:=ex 3 (by omega);have d0:V.cell? ⟨g+1+j,q*4,none⟩=some p0:=(hr3.row.cell _).trans s0;have d1:V.cell? ⟨g+1+j,q*4+1,none⟩=some p1:=(hr3.row.cell _).trans s1;have d2:V.cell? ⟨g+1+j,q*4+2,none⟩=some p2:=(hr3.row.cell _).trans s2;have d3:V.cell? ⟨g+1+j,q*4+3,none⟩=some p3:=(hr3.row.cell _).trans s3;have f0:=hr3.row.frozen (q*4);have f1:=hr3.row.frozen (q*4+1);have f2:=hr3.row.frozen (q*4+2);have f3:=hr3.row.frozen (q*4+3);have z4:=hr3.row.lt;have HN:=Lib.hid (show yN w (jl V (g+1+j) (q*4) (.int .i64 v.lv) (.bool v.ng) (.slice A3 v.ds.length q3) (.slice K3 v.ks.length r3)) B g i t.lv nk (fun x=>if x<j+1 then ksF k n t.ks (q+1) x else ksF k n t.ks q x)from
           (HCA.out.put HB.out hlj hlt HVA.out).congr fun x hx=>by
             have hnx:=HNX.out j;rw[HGD.out]at hnx;by_cases e:x=j
             ·subst e;rw[if_pos (Nat.lt_succ_self x),if_pos rfl,if_neg (Nat.lt_irrefl x),hnx]
             ·rw[if_neg e];by_cases e2:x<j
              ·rw[if_pos e2,if_pos (by omega)]
              ·rw[if_neg e2,if_neg (by omega)])
          have hne:g+1+j≠w.heap.size:=by have:=HGG.out;omega
          have HKN:=Lib.hid (HKA.out.set4_far (Ne.symm hne) (q*4) (.int .i64 v.lv) (.bool v.ng) (.slice A3 v.ds.length q3) (.slice K3 v.ks.length r3));have HRN:=Lib.hid (show qY (jl V (g+1+j) (q*4) (.int .i64 v.lv) (.bool v.ng) (.slice A3 v.ds.length q3) (.slice K3 v.ks.length r3)) g2 i (OkH B (g+1+i) (jl V (g+1+j) (q*4) (.int .i64 v.lv) (.bool v.ng) (.slice A3 v.ds.length q3) (.slice K3 v.ks.length r3))) us cur2 rows2 by
           have hg2:=HG2.out;refine((HRA.out.keep (HRA.out.row.set4_far (by omega) _ _ _ _ _) fun b hb o=>set4_far V (fun e=>?_) _ _ _ _ _ _).mono fun b hb=>?_)
           ·subst e;have:=HB.out;have:=HGG.out;rcases hb with hb|hb<;>omega
           ·unfold OkH at hb ⊢;rw[jQ];exact hb)
          clear hr3 ex s0 s1 s2 s3 hs3 HCA HKA HRA HVA HNB HNX HGD x0 x1 x2 x3;generalize v.ds.length=vd at*;generalize v.ks.length=vk at*;generalize v.ng=vg at*;generalize v.lv=vl at*;go_region
          go_wp2_with fail
          go_roundg (i-(j+1))
          case rel=>exact⟨j+1,by omega,rfl,by go_num,HKN.out,HN.out.dr,HRN.out.dr⟩
          case measure=>have:=HGJ.out;omega
         ·obtain rfl:j=i:=by omega
          have HCF:=Lib.hid (hci.congr (KS':=fun x=>ksF k n t.ks (q+1) x) fun x hx=>(if_pos hx).symm);have HKF:=Lib.hid hkw;clear hci hkw hro hlj;go_wp2_with fail
          go_roundg (nk-(q+1))
          case rel=>exact⟨q+1,by omega,rfl,by go_num,HKF.out,HCF.out⟩
          case measure=>have:=HG.out;omega
       ·obtain rfl:q=nk:=by omega
        obtain⟨cur',rows',hf⟩:=hci.fin;have HF':=Lib.hid hf;have HBF:=Lib.hid hci.bel;clear hf hci hkw hlt;go_wp2_with fail
        go_ret
        have hm:=HM.out;subst hm;refine⟨g,cur',rows',rfl,by have:=HGG.out;omega,?_,HBF.out⟩;rw[HC.out];exact HF'.out
mutual
theorem qcJ{dg:Nat}:∀(t:RP),yz dg t→qM dg 12 t
 | .mk l g ds ks,h=>by
   simp only[yz]at h;simp only[qM];exact⟨h.1,h.2.1,qfc ks h.2.2⟩
theorem qfc{dg:Nat}:∀(ts:List RP),Jw dg ts→Jd dg 12 ts
 |[],_=>by simp[Jd]
 |t::ts,h=>by
  simp only[Jw]at h;simp only[Jd];exact⟨qcJ t h.1,qfc ts h.2⟩
end
theorem zU.co{dg:Nat}{t:RP}(h:zU dg t)(k:Int)(n:Nat):∀c∈JV k n t,zU dg c:=fun c hc=>
 ⟨Nat.le_trans (qiJ k n t c hc) h.dep,(qhd k n t (qcJ t h.few) c hc).few (Nat.le_refl _),Nat.le_trans (qeV k n t c hc) h.cnt⟩
def NeG(g:Nat)(W:World)(b:Nat):Prop:=b<W.heap.size∧b≠g
noncomputable def jS(k:Int)(t:RP):List RP:=if qW (qq t)=true then[]else(JV k (zo k (qq t)) (qq t)).map qq
def qbV(k:Int)(t:RP)(w:World)(e:Ending)(w':World):Prop:=
 jg t (qq t)∧Below w.heap.size w w'∧((qW (qq t)=true∧e= .returned (.slice none 0 0))∨
  (qW (qq t)=false∧(∀c∈JV k (zo k (qq t)) (qq t),jg c (qq c))∧∃g cur rows,w.heap.size≤g∧e= .returned (.slice (some ⟨g,0,none⟩) (jS k t).length (jS k t).length)∧qY w' g (jS k t).length (· <w'.heap.size) (jS k t) cur rows))
theorem RB.neg{w':World}{g:Nat}{cs:Array Value}{base:Nat}{t:RP}{vs:List Value}(h:RB w' base t vs)(hk:qd w' g 28 cs)(hg:g<base):RV w' (NeG g w') t vs:=
 RV.mono (fun b hb=>⟨hb.lt,fun e=>by
  subst e;rcases hb with⟨ds,hb⟩|⟨hb,_⟩
  ·unfold qd at hb hk;rw[hb]at hk
   injection hk with hk
   injection hk with _ h2
   exact absurd h2 (by decide)
  ·omega⟩) t vs h
theorem qla{us:List RP}{i:Nat}{u:RP}(h:us[i]? =some u):((us.take i).map qq++us.drop i).set i (qq u)=(us.take (i+1)).map qq++us.drop (i+1):=by
 obtain⟨hi,rfl⟩:=List.getElem?_eq_some_iff.1 h;have hl:((us.take i).map qq).length=i:=by rw[List.length_map,List.length_take];omega
 rw[List.set_append_right _ _ (by omega),hl,Nat.sub_self,List.drop_eq_getElem_cons hi,List.set_cons_zero,List.take_succ_eq_append_getElem hi,List.map_append,List.append_assoc];rfl
theorem qlq{us:List RP}{i:Nat}{u:RP}(h:us[i]? =some u):((us.take i).map qq++us.drop i)[i]? =some u:=by
 obtain⟨hi,rfl⟩:=List.getElem?_eq_some_iff.1 h;have hl:((us.take i).map qq).length=i:=by rw[List.length_map,List.length_take];omega
 rw[List.getElem?_append_right (by omega),hl,Nat.sub_self,List.drop_eq_getElem_cons hi];rfl
theorem qbt(dg:Nat)(hdg:dg≤500)(k:Int)(hk0:0<k)(hk4:k≤4)(t:RP)(hf:zU dg t)(hfc:zU dg (qq t))(A:Option Addr)(c:Nat)(K:Option Addr)(kc B:Nat)(w:World)(hB:B≤w.heap.size)(h:RV w (· <B) t (qc t A c K kc)):
 Calls Tryz.prog 59 #[qn t A c K kc,.int .i64 k] w (qbV k t w):=by
 have hb0:=(Below.refl w.heap.size w).alloc (Nat.le_refl _) (.cells #[.int .i64 t.lv,.bool t.ng,.slice A t.ds.length c,.slice K t.ks.length kc] 28);have hk0':=qd.new w 28 #[.int .i64 t.lv,.bool t.ng,.slice A t.ds.length c,.slice K t.ks.length kc];have HN:=Lib.hid (zT dg hdg t hf A c K kc B _ (Nat.le_trans hB hb0.size) (h.below (hb0.mono hB)));have HB0:=Lib.hid hb0;have HK0:=Lib.hid hk0';have HSZ:=Lib.hid hk0'.lt;unfold Ya at HN;have HZ:=Lib.hid (fun A c K kc (W:World)(h:RV W (· <W.heap.size) (qq t) (qc (qq t) A c K kc))=>qcK dg hdg (qq t) hfc A c K kc W.heap.size W (Nat.le_refl _) h);have hsm:=yz.sm (X:=1000) (by omega) (by omega) _ hfc.few;have hdl:zo k (qq t)≤12:=qaN k _ (qcJ _ hfc.few);have HD:=Lib.hid (fun(hc:qj (qq t)=true) A c K kc (W:World)(h:RV W (· <W.heap.size) (qq t) (qc (qq t) A c K kc))=>qaj 1000 (by omega) k (qv (qq t)) (qq t) (Nat.le_refl _) hc hsm A c K kc W.heap.size W (Nat.le_refl _) h hk0 hk4);have HCO:=Lib.hid (fun(hc:qj (qq t)=true) A c K kc (W:World)(h:RV W (· <W.heap.size) (qq t) (qc (qq t) A c K kc))=>qbE 1000 (by omega) k hk0 hk4 (zo k (qq t)) (by omega) (qv (qq t)) (qq t) (Nat.le_refl _) hc hsm (Nat.le_refl _) A c K kc W.heap.size W (Nat.le_refl _) h);have HFC:=Lib.hid (hfc.co k (zo k (qq t)));have HNN:=Lib.hid (fun(u:RP)(hu:zU dg u) A c K kc (W:World)(h:RV W (· <W.heap.size) u (qc u A c K kc))=>zT dg hdg u hu A c K kc W.heap.size W (Nat.le_refl _) h);unfold Ya at HNN;have HQZ:=Lib.hid (fun(h:qW (qq t)=false)=>show jS k t=(JV k (zo k (qq t)) (qq t)).map qq by unfold jS;rw[if_neg (by rw[h];decide)]);have HUL:=Lib.hid (Yx k (zo k (qq t)) (qq t));unfold qiP at HCO;unfold qbV;generalize jS k t=cfs at*;unfold qn at HN HZ HD HCO HNN ⊢;clear h hf hfc hdg hB hb0 hk0' hsm;generalize hT:qq t=T at*;generalize hn:zo k T=n at*;go_enter Tryz.func59,Tryz.ntmps59
 go_wp2_with fail
 generalize w.alloc (.cells #[.int .i64 t.lv,.bool t.ng,.slice A t.ds.length c,.slice K t.ks.length kc] 28)=W0 at*;refine HN.out.mono ?_;rintro e w1 ⟨A1,c1,K1,kc1,rfl,hct,hrb,hb1⟩;have kk:=HK0.out.old hb1;have d0:w1.cell? ⟨w.heap.size,0,none⟩=some (.int .i64 t.lv):=kk.cell 0;have d1:w1.cell? ⟨w.heap.size,1,none⟩=some (.bool t.ng):=kk.cell 1;have d2:w1.cell? ⟨w.heap.size,2,none⟩=some (.slice A t.ds.length c):=kk.cell 2;have d3:w1.cell? ⟨w.heap.size,3,none⟩=some (.slice K t.ks.length kc):=kk.cell 3;have f0:=kk.frozen 0;have f1:=kk.frozen 1;have f2:=kk.frozen 2;have f3:=kk.frozen 3;have z0:=kk.lt;have HOV:=Lib.hid (qaz kk rfl hrb HSZ.out (HB0.out.trans (hb1.mono HB0.out.size)));have HCT:=Lib.hid hct;clear kk hrb hb1 hct HN HK0 HB0 HSZ;go_upto_region 2 with(fail)
 generalize (((w1.setCell ⟨w.heap.size,0,none⟩ (.int .i64 T.lv)).setCell ⟨w.heap.size,1,none⟩ (.bool T.ng)).setCell ⟨w.heap.size,2,none⟩ (.slice A1 T.ds.length c1)).setCell ⟨w.heap.size,3,none⟩ (.slice K1 T.ks.length kc1)=W2 at*;clear d0 d1 d2 d3 f0 f1 f2 f3 z0;obtain⟨k2,r2,b2⟩:=HOV.out;have c0:W2.cell? ⟨w.heap.size,0,none⟩=some (.int .i64 T.lv):=k2.cell 0;have c1':W2.cell? ⟨w.heap.size,1,none⟩=some (.bool T.ng):=k2.cell 1;have c2:W2.cell? ⟨w.heap.size,2,none⟩=some (.slice A1 T.ds.length c1):=k2.cell 2;have c3:W2.cell? ⟨w.heap.size,3,none⟩=some (.slice K1 T.ks.length kc1):=k2.cell 3;have HZ1:=Lib.hid (HZ.out A1 c1 K1 kc1 W2 r2.rv);have HK2:=Lib.hid k2;have HR2:=Lib.hid r2;have HB2:=Lib.hid b2;clear HOV k2 r2 b2 HZ;go_wp2_with fail
 refine HZ1.out.mono ?_;rintro e w3 ⟨rfl,_,hb3⟩;have HE:=Lib.hid (qw HCT.out.can.1);have HB3:=Lib.hid (HB2.out.trans (hb3.mono HB2.out.size));have k3:=HK2.out.old hb3;have HR3:=Lib.hid (show RV w3 (· <w3.heap.size) T (qc T A1 c1 K1 kc1)from(HR2.out.old hb3).rv);rw[HE.out];clear c0 c1' c2 c3 HZ1 HB2 HK2 HR2 hb3
 cases hz:qW T with
 |true=>
  have HZT:=Lib.hid hz;clear hz HQZ k3;go_wp2_with fail
  go_ret
  exact⟨HCT.out,HB3.out,.inl ⟨HZT.out,rfl⟩⟩
 |false=>
  have HEQ:=Lib.hid (HQZ.out hz);have HZT:=Lib.hid hz;have e4:(decide (1≤k)&&decide (k≤4))=true:=by simp;omega
  have HL:=Lib.hid (fun(W:World)=>qea k W);rw[e4]at HL;clear hz HQZ e4;have HK3:=Lib.hid k3;have c0:w3.cell? ⟨w.heap.size,0,none⟩=some (.int .i64 T.lv):=k3.cell 0;have c1':w3.cell? ⟨w.heap.size,1,none⟩=some (.bool T.ng):=k3.cell 1;have c2:w3.cell? ⟨w.heap.size,2,none⟩=some (.slice A1 T.ds.length c1):=k3.cell 2;have c3:w3.cell? ⟨w.heap.size,3,none⟩=some (.slice K1 T.ks.length kc1):=k3.cell 3;clear k3;go_wp2_with fail
  refine(HL.out _).mono ?_;rintro e w4 ⟨rfl,rfl⟩;go_wp2_with fail
  have KF:=Lib.hid (fun(V:World)(hV:Below w3.heap.size w3 V)=>(⟨(HK3.out.old hV).cell 0,(HK3.out.old hV).cell 1,(HK3.out.old hV).cell 2,(HK3.out.old hV).cell 3⟩:
   V.cell? ⟨w.heap.size,0,none⟩=some (.int .i64 T.lv)∧V.cell? ⟨w.heap.size,1,none⟩=some (.bool T.ng)∧V.cell? ⟨w.heap.size,2,none⟩=some (.slice A1 T.ds.length c1)∧V.cell? ⟨w.heap.size,3,none⟩=some (.slice K1 T.ks.length kc1)))
  have hb:Below w3.heap.size w3 w3.drew:=(qm.drew _).below _;have hb0:Below w3.heap.size w3 w3:=Below.refl _ _;have HRT:=Lib.hid (fun(V:World)(hV:Below w3.heap.size w3 V)=>(HR3.out.below hV).more hV.size);have HD1:=Lib.hid (fun(V:World)(hV:Below w3.heap.size w3 V)=>HD.out HCT.out.can.1 A1 c1 K1 kc1 V (HRT.out V hV));have HC1:=Lib.hid (fun(V:World)(hV:Below w3.heap.size w3 V)=>HCO.out HCT.out.can.1 A1 c1 K1 kc1 V (HRT.out V hV));go_region_held3 (fun w'=>w'.cell? ⟨w.heap.size,0,none⟩=some (.int .i64 T.lv)∧w'.cell? ⟨w.heap.size,1,none⟩=some (.bool T.ng)∧w'.cell? ⟨w.heap.size,2,none⟩=some (.slice A1 T.ds.length c1)∧w'.cell? ⟨w.heap.size,3,none⟩=some (.slice K1 T.ks.length kc1))
   (first|(with_reducible exact KF.out _ hb)|(with_reducible exact KF.out _ hb0))
   (first
     |(go_at_call 54;(with_reducible refine(HD1.out _ hb).mono ?_);rintro e w5 ⟨rfl,hk⟩;replace hb:=hb.trans (hk.mono hb.size);have hs5:=hb.size)
     |(go_at_call 100;(with_reducible refine(HC1.out _ hb).mono ?_);rintro e w6 ⟨g,cur,rows,rfl,hg,hro,hk⟩;replace hb:=hb.trans (hk.mono hb.size)))
  have HR6:=Lib.hid (show qY w6 g (n+1) (NeG g w6) (((JV k n T).take 0).map qq++(JV k n T).drop 0) cur rows by
   rw[List.take_zero,List.drop_zero,List.map_nil,List.nil_append];exact hro.mono fun b hb'=>by
    have h1:=hro.row.lt;have h2:=hk.size;rcases hb' with hb'|hb'
    ·exact⟨by omega,by omega⟩
    ·exact hb'.2)
  have HB6:=Lib.hid (HB3.out.trans (hb.mono HB3.out.size));have HGG:=Lib.hid (show w.heap.size≤g by have:=HB3.out.size;omega);generalize hus:JV k n T=us at*;have HUS:=Lib.hid hus;have hn13:n≤12:=hdl;clear c0 c1' c2 c3 KF HRT HD1 HC1 HD HCO HK3 HR3 HL hro hk hb hb0 hus hs5 hg hdl;go_wp2_with fail
  go_loopg [6,26] (n+1) (fun gn _ ix wr=>∃(j:Nat)(cur:Array Value)(rows:List (List Value)),j≤n+1∧gn=n+1-j∧ix= .int .i64 j∧Below w.heap.size w wr∧qY wr g (n+1) (NeG g wr) ((us.take j).map qq++us.drop j) cur rows∧∀u∈us.take j,jg u (qq u))
  case atStart=>exact⟨0,cur,rows,Nat.zero_le _,rfl,rfl,HB6.out,HR6.out,by simp⟩
  case round=>
   clear HB6 HR6;obtain⟨j,cur,rows,hj,hgj,rfl,hbw,hro,hca⟩:=hrel;have HG:=Lib.hid hgj;clear hgj;by_cases hlt:j<n+1
   ·obtain⟨u,hu⟩:∃u,us[j]? =some u:=⟨_,List.getElem?_eq_getElem (by have:=HUL.out;omega)⟩;obtain⟨A3,q3,K3,r3,x0,x1,x2,x3,hvv⟩:=hro.get (qlq hu);have HC1:=Lib.hid (HNN.out u (HFC.out u (List.mem_of_getElem? hu)) A3 q3 K3 r3 wr (RV.mono (fun b hb=>hb.1) _ _ hvv));have hs3:=hro.siz;have HRO:=Lib.hid hro;have HBW:=Lib.hid hbw;have HCA:=Lib.hid hca;have HU:=Lib.hid hu;have i3:(0:Int)≤(j:Int):=by omega
    have i4:(j:Int)<((n+1:Nat):Int):=by omega
    have i5:(j:Int)<(n:Int)+1:=by omega
    clear hu hvv hro hbw hca;generalize u.ds.length=ud at*;generalize u.ks.length=uk at*;generalize u.ng=ug at*;generalize u.lv=ul at*;go_wp2_with fail
    refine HC1.out.mono ?_;rintro e w2 ⟨A4,q4,K4,r4,rfl,hcu,hrb,hb2⟩;have hr2:=HRO.out.old hb2 (fun b hb=>hb.1);have hgl:=HRO.out.row.lt;have ex:∀i,i<4→∃v,cur[j*4+i]? =some v:=fun j hj=>⟨_,Array.getElem?_eq_getElem (by omega)⟩;obtain⟨p0,s0⟩:=ex 0 (by omega);obtain⟨p1,s1⟩:=ex 1 (by omega);obtain⟨p2,s2⟩:=ex 2 (by omega);obtain⟨p3,s3⟩:=ex 3 (by omega);have d0:w2.cell? ⟨g,j*4,none⟩=some p0:=(hr2.row.cell _).trans s0;have d1:w2.cell? ⟨g,j*4+1,none⟩=some p1:=(hr2.row.cell _).trans s1;have d2:w2.cell? ⟨g,j*4+2,none⟩=some p2:=(hr2.row.cell _).trans s2;have d3:w2.cell? ⟨g,j*4+3,none⟩=some p3:=(hr2.row.cell _).trans s3;have f0:=hr2.row.frozen (j*4);have f1:=hr2.row.frozen (j*4+1);have f2:=hr2.row.frozen (j*4+2);have f3:=hr2.row.frozen (j*4+3);have z4:=hr2.row.lt;have hup:∀b,NeG g wr b→NeG g w2 b:=fun b hb=>⟨Nat.lt_of_lt_of_le hb.1 hb2.size,hb.2⟩;have HP:=Lib.hid ((hr2.mono hup).put (fun b hb=>hb.2) (e:=j) hlt (hrb.neg hr2.row hgl));rw[qla HU.out]at HP;have HB2:=Lib.hid (qe (g:=g) (o:=j*4) (HBW.out.trans (hb2.mono HBW.out.size)) HGG.out (.int .i64 (qq u).lv) (.bool (qq u).ng) (.slice A4 (qq u).ds.length q4) (.slice K4 (qq u).ks.length r4));have HCN:=Lib.hid (show∀v∈us.take (j+1),jg v (qq v)from fun v hv=>by
     obtain⟨hj',e⟩:=List.getElem?_eq_some_iff.1 HU.out;rw[List.take_succ_eq_append_getElem hj',e]at hv;rcases List.mem_append.1 hv with hv|hv
     ·exact HCA.out v hv
     ·rw[List.mem_singleton]at hv;rw[hv];exact hcu)
    clear hrb hb2 hr2 ex s0 s1 s2 s3 hs3 hup hcu hgl HC1 HRO HBW HCA HU x0 x1 x2 x3;generalize (qq u).ds.length=vd at*;generalize (qq u).ks.length=vk at*;generalize (qq u).ng=vg at*;generalize (qq u).lv=vl at*;go_wp2_with fail
    obtain⟨cur',hp⟩:=HP.out;go_roundg (n+1-(j+1))
    case rel=>exact⟨j+1,cur',_,by omega,rfl,by go_num,HB2.out,hp.mono (fun b hb=>by unfold NeG at hb ⊢; rw[jQ];exact hb),HCN.out⟩
    case measure=>have:=HG.out;omega
   ·obtain rfl:j=n+1:=by omega
    have HRO:=Lib.hid hro;have HBW:=Lib.hid hbw;have HCA:=Lib.hid hca;clear hro hbw hca hlt;go_wp2_with fail
    go_ret
    have hr:=HRO.out;have hc:=HCA.out;rw[List.take_of_length_le (by have:=HUL.out;omega)]at hr hc;rw[List.drop_of_length_le (by have:=HUL.out;omega),List.append_nil,←HEQ.out]at hr;have hl:cfs.length=n+1:=by rw[HEQ.out,List.length_map,HUL.out]
    refine⟨HCT.out,HBW.out,.inr ⟨by first|rfl|exact HZT.out,by rw[HUS.out];exact hc,g,cur,rows,HGG.out,by rw[hl];rfl,?_⟩⟩;rw[hl];exact hr.mono fun b hb=>hb.1
