import Derived.WalkKit
import Derived.WalkSpells
import Derived.WalkLawsBesides
import Derived.Below
import Derived.Laws.OwnMore
import Derived.Deep.AppendLies
import Derived.Deep.Draws
import Derived.Laws.Rows
import Derived.Laws.BitsAllLaws
import Derived.Laws.BitsLemmas
import Derived.Lib.Hide
import Derived.Maps.AppendAt
import Derived.RegionTactic
import Derived.OwnWalk
import Derived.Test.YtflikmojaidhhaaGreatDoorProg
import Derived.Test.YtflikmojaidhhaaGreatDoorChecked
import Derived.Deep.LoopGhost
import Derived.Deep.CutRange
import Derived.Deep.DeepCutAuto
import Derived.Deep.QuietTactic
import Derived.BigQuiet
import Derived.Laws.CopyOwn
import Derived.Laws.MakeOwn
import Derived.Test.YtflikmojaidhhaaGreatDoorPqA
namespace Go.Proofs.YtflikmojaidhhaaGreatDoor
open Go.RowKit
def qu(w:World)(B size:Nat)(A:Oa)(n:Nat)(xs:List Value):Prop:=
 xs.length=n*size/\(0<n->∃b o,A=some ⟨b,o,none⟩/\b<B/\∀j u,xs[j]? =some u->w.cell? ⟨b,o+j,none⟩=some u)
section
variable {w w':World} {B B' size n:Nat} {A:Oa} {xs:List Value}
theorem qu.none_:qu w B size A 0 []:=⟨by simp,fun h=>absurd h (by omega)⟩
theorem qu.keep(h:qu w B size A n xs)(hk:∀p:Addr,p.block<B->w'.cell? p=w.cell? p):qu w' B size A n xs:=
 ⟨h.1,fun hn=>by
   obtain⟨b,o,e,hb,hc⟩:=h.2 hn;exact⟨b,o,e,hb,fun j u hu=>(hk _ hb).trans (hc j u hu)⟩⟩
theorem qu.more(h:qu w B size A n xs)(hB:B<=B'):qu w B' size A n xs:=
 ⟨h.1,fun hn=>by
   obtain⟨b,o,e,hb,hc⟩:=h.2 hn;exact⟨b,o,e,by omega,hc⟩⟩
theorem qu.below(h:qu w B size A n xs)(hb:Below B w w'):qu w' B size A n xs:=h.keep fun _ hp=>hb.cell hp
end
def qt(w w':World):Prop:=∃k,w'=w.drewN k
theorem qt.refl(w:World):qt w w:=⟨0,rfl⟩
theorem qt.drewN(w:World)(n:Nat):qt w (w.drewN n):=⟨n,rfl⟩
theorem qt.drew(w:World):qt w w.drew:=⟨1,rfl⟩
theorem qt.trans{a b c:World}(h:qt a b)(k:qt b c):qt a c:=by
 obtain⟨n,rfl⟩:=h;obtain⟨m,rfl⟩:=k;exact⟨n+m,by rw[World.drewN_drewN]⟩
theorem qt.cell{w w':World}(h:qt w w')(p:Addr):w'.cell? p=w.cell? p:=by obtain⟨n,rfl⟩:=h;rfl
theorem qt.below{w w':World}(h:qt w w')(B:Nat):Below B w w':=by obtain⟨n,rfl⟩:=h;exact⟨rfl,rfl,rfl,Gr _,fun _ _=>rfl⟩
theorem qt.heap{w w':World}(h:qt w w'):w'.heap=w.heap:=by obtain⟨n,rfl⟩:=h;rfl
theorem qu.drawn{w w':World}{B size n:Nat}{A:Oa}{xs:List Value}(h:qu w B size A n xs)(hd:qt w w'):qu w' B size A n xs:=h.keep fun p _=>hd.cell p
theorem qt.quiet{P:Program}{f:FuncId}{args:Array Value}{w:World}{n:Nat}{v:Value}
 (h:Calls P f args (w.drewN n) fun e w'=>e= .returned v/\qt (w.drewN n) w'):Calls P f args (w.drewN n) fun e w''=>e= .returned v/\∃m,w''=w.drewN m:=
 h.mono fun _ _ ⟨he,hm⟩=>⟨he,(qt.drewN w n).trans hm⟩
def sg(rows:List (List Int×Bool))(k:Nat):List Int:=(rows.getD k ([],false)).1
def tr(rows:List (List Int×Bool))(k:Nat):Bool:=(rows.getD k ([],false)).2
theorem qu.of_own{w:World}{base size n c:Nat}{e:TypeId}{A:Oa}{xs:List Value}(h:w.ownsRow base e size (.slice A n c) n xs):qu w w.heap.size size A n xs:=by
 refine⟨h.1,fun hn=>?_⟩;obtain⟨g,cap,hv,_,Xi⟩:=h.form hn;have hA:A=some ⟨g,0,none⟩:=by injection hv
 subst hA;exact⟨g,0,rfl,Xi,fun j u hu=>by have:=h.cells (g:=g) rfl j u hu;rwa[Addr.add_lit]at this⟩
section
variable {P:Program} (w:World)
theorem Q4(base:Nat)(t ty e:TypeId)(i:TypeInfo)(size:Nat)(ht:P.underlying t=some (.slice e))(hi:P.info? e=some i)
 (v:Value)(n:Nat)(xs:List Value)(Xn:w.ownsRow base e size v n xs)(c:Nat):(Builtin.append_ #[t,t] ty #[v,.slice none 0 c]).run P w= .ok v w:=by
 rcases Xn.2 with⟨rfl,rfl⟩|⟨g,cap,cur,rfl,_,_,hnc,_⟩
 ·simp[Builtin.append_,run_underlying ht,sizeOf,typeInfo,hi,Builtin.lenOf,Builtin.firstCells]
 ·simp[Builtin.append_,run_underlying ht,sizeOf,typeInfo,hi,Builtin.lenOf,Builtin.firstCells,hnc,storeCells]
theorem ZJ(base:Nat)(t ty e:TypeId)(i:TypeInfo)(z:Value)(size bytes:Nat)(ht:P.underlying t=some (.slice e))(hi:P.info? e=some i)(hz:i.zero=some z)
 (Rw:i.size=size)(VH:i.bytes=bytes)(F2:z.cells.size=size)(XV:0<size)
 (v:Value)(n:Nat)(xs:List Value)(Xn:w.ownsRow base e size v n xs)
 (B:Nat)(A:Oa)(m c:Nat)(news:List Value)(hr:qu w B size A m news)(h1:∀u∈news,u.oneCell'=true)
 (VK:n+m<=maxLen)(VQ:(n+m)*bytes<=140737488355328)(Xt:base<=w.heap.size):
 ∃v' w',(Builtin.append_ #[t,t] ty #[v,.slice A m c]).run P w= .ok v' w'/\w'.ownsRow base e size v' (n+m) (xs++news)/\w.grownBy w' v.ownBlock/\
  (v'.ownBlock=v.ownBlock∨v'.ownBlock=some w.heap.size):=by
 rcases A with _|ad
 ·have hm:m=0:=by
   rcases Nat.eq_zero_or_pos m with h0|h0
   ·exact h0
   ·obtain⟨b,o,h,_⟩:=hr.2 h0
    cases h
  subst hm;have hn:news=[]:=List.eq_nil_of_length_eq_zero (by simpa using hr.1);subst hn;exact⟨v,w,Q4 w base t ty e i size ht hi v n xs Xn c,by simpa using Xn,World.grownBy.refl w _,.inl rfl⟩
 ·have Md:∀j u,news[j]? =some u->w.cell? (ad.add j)=some u:=by
   intro j u hu;rcases Nat.eq_zero_or_pos m with h0|h0
   ·subst h0;have hn:news=[]:=List.eq_nil_of_length_eq_zero (by simpa using hr.1);subst hn;simp at hu
   ·obtain⟨b,o,h,_,hc⟩:=hr.2 h0
    injection h with h
    subst h;rw[Addr.add_lit];exact hc j u hu
  obtain⟨v',w',VO,h2,h3,_,h5⟩:=run_append_own_at (P:=P) w base t ty e i z size bytes ht hi hz Rw VH F2 XV v n xs Xn ad m c news hr.1 Md h1 VK VQ Xt;exact⟨v',w',VO,h2,h3,h5⟩
theorem QH{o:Oper}{a:Act}{K:Act->World->Prop}{Q:Exit->Act->World->Prop}(s x:Operand)(t:TypeId)
 (ho:o.op= .call {callee:= .builtin .append,args:=#[s,x],argTypes:=#[t,t]})
 (base:Nat)(e:TypeId)(i:TypeInfo)(z:Value)(size bytes:Nat)(ht:P.underlying t=some (.slice e))(hi:P.info? e=some i)(hz:i.zero=some z)
 (Rw:i.size=size)(VH:i.bytes=bytes)(F2:z.cells.size=size)(XV:0<size)
 (v:Value)(n:Nat)(xs:List Value)(hs:a.eval s=v)(Xn:w.ownsRow base e size v n xs)
 (B:Nat)(A:Oa)(m c:Nat)(news:List Value)(hx:a.eval x= .slice A m c)(hr:qu w B size A m news)(h1:∀u∈news,u.oneCell'=true)
 (VK:n+m<=maxLen)(VQ:(n+m)*bytes<=140737488355328)(Xt:base<=w.heap.size)
 (h:∀v' w',w'.ownsRow base e size v' (n+m) (xs++news)->w.grownBy w' v.ownBlock->(v'.ownBlock=v.ownBlock∨v'.ownBlock=some w.heap.size)->K (a.put o.dst v') w'):o.wp P a w K Q:=by
 obtain⟨v',w',VO,h2,h3,h4⟩:=ZJ (P:=P) w base t o.type e i z size bytes ht hi hz Rw VH F2 XV v n xs Xn B A m c news hr h1 VK VQ Xt;unfold Oper.wp execOp;simp only[ho,resolve,invoke,builtin,Sem.run_bind,Sem.run_pure,Result.andThen_ok,List.map_toArray,List.map_cons,List.map_nil,hs,hx,VO];exact h v' w' h2 h3 h4
theorem qM{ops:Array Oper}{rest:List Oper}{o:Oper}{a:Act}{Q:Exit->Act->World->Prop}(XF:o.guard=none)(s x:Operand)(t:TypeId)
 (ho:o.op= .call {callee:= .builtin .append,args:=#[s,x],argTypes:=#[t,t]})
 (base:Nat)(e:TypeId)(i:TypeInfo)(z:Value)(size bytes:Nat)(ht:P.underlying t=some (.slice e))(hi:P.info? e=some i)(hz:i.zero=some z)
 (Rw:i.size=size)(VH:i.bytes=bytes)(F2:z.cells.size=size)(XV:0<size)
 (v:Value)(n:Nat)(xs:List Value)(hs:a.eval s=v)(Xn:w.ownsRow base e size v n xs)
 (B:Nat)(A:Oa)(m c:Nat)(news:List Value)(hx:a.eval x= .slice A m c)(hr:qu w B size A m news)(h1:∀u∈news,u.oneCell'=true)
 (VK:n+m<=maxLen)(VQ:(n+m)*bytes<=140737488355328)(Xt:base<=w.heap.size)
 (h:∀v' w',w'.ownsRow base e size v' (n+m) (xs++news)->w.grownBy w' v.ownBlock->(v'.ownBlock=v.ownBlock∨v'.ownBlock=some w.heap.size)->wpList P ops Q rest (a.put o.dst v') w'):wpList P ops Q (o::rest) a w:=
 wpList_plain XF fun _ hK=>QH w s x t ho base e i z size bytes ht hi hz Rw VH F2 XV v n xs hs Xn B A m c news hx hr h1 VK VQ Xt fun v' w' h2 h3 h4=>hK _ _ (h v' w' h2 h3 h4)
end
theorem qu.one_new(w:World)(u:Value)(t:TypeId):qu (w.alloc (.cells #[u] t)) (w.heap.size+1) 1 (some ⟨w.heap.size,0,none⟩) 1 [u]:=by
 refine⟨rfl,fun _=>⟨_,_,rfl,by omega,fun j x hj=>?_⟩⟩
 match j,hj with
 |0,hj=>
  simp at hj;subst hj;unfold World.cell?;rw[heap_alloc_new];simp
 |j+1,hj=>simp at hj
def qf(w:World)(g:Nat)(t:TypeId)(cs:Array Value):Prop:=w.heap[g]? =some (.cells cs t (0,0))
section
variable {w w':World} {g:Nat} {t:TypeId} {cs:Array Value}
theorem qf.lt(h:qf w g t cs):g<w.heap.size:=by
 rcases Nat.lt_or_ge g w.heap.size with Xi|DA
 ·exact Xi
 ·unfold qf at h;rw[Array.getElem?_eq_none DA]at h;cases h
theorem qf.cell(h:qf w g t cs)(i:Nat):w.cell? ⟨g,i,none⟩=cs[i]?:=cell_of_row w g i cs t (0,0) h
theorem qf.frozen(h:qf w g t cs)(i:Nat):w.frozen? ⟨g,i,none⟩=false:=by
 unfold qf at h;simp[World.frozen?,h]
theorem qf.new(w:World)(t:TypeId)(cs:Array Value):qf (w.alloc (.cells cs t)) w.heap.size t cs:=heap_alloc_new w _
theorem qf.drawn(h:qf w g t cs)(hd:qt w w'):qf w' g t cs:=by unfold qf;rw[hd.heap];exact h
theorem qf.alloc(h:qf w g t cs)(o:Obj):qf (w.alloc o) g t cs:=(Below.heap_alloc w o g h.lt).trans h
theorem qf.set_(h:qf w g t cs)(i:Nat)(u:Value):qf (w.setCell ⟨g,i,none⟩ u) g t (cs.setIfInBounds i u):=by
 unfold qf at h ⊢;simp[World.setCell,Array.getElem?_modify,h]
theorem qf.far(h:qf w g t cs){p:Addr}(hp:g≠p.block)(u:Value):qf (w.setCell p u) g t cs:=(Below.heap_setCell w p u g hp).trans h
theorem qf.below{B:Nat}(h:qf w g t cs)(hb:Below B w w')(hg:g<B):qf w' g t cs:=(hb.block g hg).trans h
theorem qf.old(h:qf w g t cs)(hb:Below w.heap.size w w'):qf w' g t cs:=h.below hb h.lt
theorem qf.grown{row:Option Nat}(h:qf w g t cs)(hb:w.grownBy w' row)(hg:some g≠row):qf w' g t cs:=(hb.block g h.lt hg).trans h
theorem yx{base:Nat}{e:TypeId}{size n:Nat}{v:Value}{xs:List Value}(h:w.ownsRow base e size v n xs)(hg:qf w g t cs)(Xl:e≠t):some g≠v.ownBlock:=by
 rcases h.2 with⟨rfl,_⟩|⟨g',cap,cur,rfl,_,hh,_⟩
 ·simp[Value.ownBlock]
 ·intro he;have:g'=g:=by simpa[Value.ownBlock]using he.symm
  subst this;unfold qf at hg;rw[hh]at hg
  injection hg with hg
  injection hg with _ ht
  exact Xl ht
end
end Go.Proofs.YtflikmojaidhhaaGreatDoor
namespace Go.Proofs.YtflikmojaidhhaaGreatDoor
def val:List Nat->Nat
 |[]=>0
 |d::ds=>d+4294967296*val ds
def jg(ds:List Nat):Prop:=∀d∈ds,d<4294967296
def dig(v:Nat):List Nat:=if v=0 then[]else(v%4294967296)::dig (v/4294967296)
 termination_by v
 decreasing_by omega
theorem qH:dig 0=[]:=by unfold dig;simp
theorem JH{v:Nat}(h:v≠0):dig v=(v%4294967296)::dig (v/4294967296):=by rw[dig];simp[h]
theorem qB(v:Nat):val (dig v)=v:=by
 induction v using Nat.strongRecOn with
 |_ v ih=>
  by_cases h:v=0
  ·subst h;simp[qH,val]
  ·rw[JH h];simp only[val];rw[ih (v/4294967296) (by omega)];omega
theorem qA(v:Nat):jg (dig v):=by
 induction v using Nat.strongRecOn with
 |_ v ih=>
  by_cases h:v=0
  ·subst h;simp[qH,jg]
  ·rw[JH h];intro d hd;rcases List.mem_cons.1 hd with rfl|hd
   ·exact Nat.mod_lt _ (by decide)
   ·exact ih (v/4294967296) (by omega) d hd
theorem qeX{v:Nat}:dig v=[]↔v=0:=by
 constructor
 ·intro h;have:=qB v;rw[h]at this;exact this.symm
 ·rintro rfl;exact qH
theorem Jw{v:Nat}:(dig v).length=0↔v=0:=by rw[List.length_eq_zero_iff,qeX]
def qiu(ds:List Nat):Prop:=∀h:ds≠[],ds.getLast h≠0
theorem JT{ds:List Nat}(h:qiu ds)(Xl:ds≠[]):val ds≠0:=by
 induction ds with
 |nil=>exact absurd rfl Xl
 |cons d ds ih=>
  by_cases he:ds=[]
  ·subst he;have:=h (by simp);simp at this;simp[val];exact this
  ·have h2:qiu ds:=fun hn=>by have:=h (by simp);rwa[List.getLast_cons hn]at this
   have:=ih h2 he;simp only[val];omega
theorem qfp{ds:List Nat}(hd:jg ds)(h:qiu ds):dig (val ds)=ds:=by
 induction ds with
 |nil=>simp[val,qH]
 |cons d ds ih=>
  have Xl:=JT h (by simp);have Xi:d<4294967296:=hd d (by simp);rw[JH Xl];simp only[val];have e1:(d+4294967296*val ds)%4294967296=d:=by omega
  have e2:(d+4294967296*val ds)/4294967296=val ds:=by omega
  rw[e1,e2];by_cases he:ds=[]
  ·subst he;simp[val,qH]
  ·rw[ih (fun x hx=>hd x (by simp[hx])) (fun hn=>by have:=h (by simp);rwa[List.getLast_cons hn]at this)]
theorem ZZ(v:Nat):qiu (dig v):=by
 induction v using Nat.strongRecOn with
 |_ v ih=>
  by_cases h:v=0
  ·subst h;simp[qH,qiu]
  ·rw[JH h];intro hn;by_cases he:dig (v/4294967296)=[]
   ·simp[he];have:=qeX.1 he;omega
   ·rw[List.getLast_cons he];exact ih _ (by omega) he
theorem ja(a b:List Nat):val (a++b)=val a+4294967296^a.length*val b:=by
 induction a with
 |nil=>simp[val]
 |cons d a ih=>
  simp only[List.cons_append,val,ih,List.length_cons,Nat.pow_succ];rw[Nat.mul_add,Nat.mul_comm (4294967296^a.length) 4294967296,Nat.mul_assoc];omega
theorem jr{ds:List Nat}(h:jg ds):val ds<4294967296^ds.length:=by
 induction ds with
 |nil=>simp[val]
 |cons d ds ih=>
  have h1:d<4294967296:=h d (by simp);have h2:=ih (fun x hx=>h x (by simp[hx]));simp only[val,List.length_cons,Nat.pow_succ];generalize 4294967296^ds.length=p at*;omega
theorem yj(n:Nat):val (List.replicate n 0)=0:=by
 induction n with
 |zero=>rfl
 |succ n ih=>simp[List.replicate_succ,val,ih]
theorem qig{ds:List Nat}(h:∀d∈ds,d=0):val ds=0:=by
 rw[List.eq_replicate_iff.2 ⟨rfl,h⟩];exact yj _
theorem qE{ds:List Nat}{k:Nat}(hk:k<ds.length):val (ds.take (k+1))=val (ds.take k)+4294967296^k*ds.getD k 0:=by
 rw[List.take_add_one,ja,List.length_take,Nat.min_eq_left (Nat.le_of_lt hk),Gn hk];simp[val,Gn hk]
theorem Jb{ds:List Nat}{k:Nat}(hk:k<ds.length)(x:Nat):val (ds.set k x)+4294967296^k*ds.getD k 0=val ds+4294967296^k*x:=by
 induction ds generalizing k with
 |nil=>simp at hk
 |cons d ds ih=>
  cases k with
  |zero=>simp[val];omega
  |succ k=>
   have:=ih (k:=k) (by simpa using hk);simp only[List.set_cons_succ,val,List.getD_cons_succ,Nat.pow_succ];have e:∀y,4294967296^k*4294967296*y=4294967296*(4294967296^k*y):=fun y=>by rw[Nat.mul_comm (4294967296^k),Nat.mul_assoc]
   rw[e,e];generalize 4294967296^k*ds.getD k 0=u at*;generalize 4294967296^k*x=v at*;omega
theorem qfn{ds:List Nat}(hd:jg ds){n:Nat}(hn:n<=ds.length)(hz:∀k,n<=k->k<ds.length->ds.getD k 0=0)(hl:n=0∨ds.getD (n-1) 0≠0):ds.take n=dig (val ds):=by
 have h0:val (ds.drop n)=0:=qig fun d hd=>by
  obtain⟨k,hk,e⟩:=List.getElem_of_mem hd;have Cz:n+k<ds.length:=by simp at hk;omega
  have:=hz (n+k) (by omega) Cz;rw[List.getD_eq_getElem?_getD,Gn Cz]at this;rw[<-e,List.getElem_drop];simpa using this
 have e:val ds=val (ds.take n):=by
  conv=>lhs;rw[<-List.take_append_drop n ds]
  rw[ja,h0];simp
 rw[e,qfp (fun x hx=>hd x (List.mem_of_mem_take hx))];intro Xl;rcases hl with rfl|hl
 ·simp at Xl
 ·have Sr:0<n:=by
   rcases Nat.eq_zero_or_pos n with rfl|h
   ·simp at Xl
   ·exact h
  have Xi:n-1<ds.length:=by omega
  rw[List.getLast_eq_getElem];rw[List.getD_eq_getElem?_getD,Gn Xi]at hl;simp[Nat.min_eq_left hn];simpa using hl
theorem qcP{ds:List Nat}(hd:jg ds):dig (val ds)=ds.take (dig (val ds)).length:=by
 induction ds with
 |nil=>simp[val,qH]
 |cons d ds ih=>
  have Xi:d<4294967296:=hd d (by simp);have ih:=ih (fun x hx=>hd x (by simp[hx]));by_cases h:val (d::ds)=0
  ·rw[h,qH];rfl
  ·rw[JH h];have e1:val (d::ds)%4294967296=d:=by simp only[val];omega
   have e2:val (d::ds)/4294967296=val ds:=by simp only[val];omega
   rw[e1,e2];simp only[List.length_cons,List.take_succ_cons];rw[<-ih]
theorem qw{ds:List Nat}(hd:jg ds):(dig (val ds)).length<=ds.length:=by
 rcases Nat.lt_or_ge ds.length (dig (val ds)).length with h|h
 ·exfalso;have Xl:dig (val ds)≠[]:=by intro h0;rw[h0]at h;simp at h
  have h1:=ZZ (val ds) Xl;have h2:val (dig (val ds))=val ds:=qB _;have h3:=jr hd;have h4:4294967296^((dig (val ds)).length-1)<=val (dig (val ds)):=by
   generalize dig (val ds)=es at*;have e:es=es.take (es.length-1)++[es.getLast Xl]:=by
    rw[<-List.dropLast_eq_take];exact(List.dropLast_concat_getLast Xl).symm
   rw[e,ja];simp only[val,List.length_take,List.length_append,List.length_singleton];have e2:min (es.length-1) es.length=es.length-1:=by omega
   rw[e2,Nat.add_sub_cancel];have:4294967296^(es.length-1)*1<=4294967296^(es.length-1)*(es.getLast Xl+4294967296*0):=Nat.mul_le_mul_left _ (by omega);omega
  have h5:4294967296^ds.length<=4294967296^((dig (val ds)).length-1):=Nat.pow_le_pow_right (by decide) (by omega);omega
 ·exact h
theorem qK{v n:Nat}(h:v<4294967296^n):(dig v).length<=n:=by
 have aux:∀(n v:Nat),v<4294967296^n->∃ds,jg ds/\ds.length=n/\val ds=v:=by
  intro n
  induction n with
  |zero=>intro v h;exact⟨[],by simp[jg],rfl,by simp[val]at *; omega⟩
  |succ n ih=>
   intro v h;rw[Nat.pow_succ]at h;obtain⟨ds,h1,h2,h3⟩:=ih (v/4294967296) (by rw[Nat.div_lt_iff_lt_mul (by decide)];exact h);exact⟨(v%4294967296)::ds,fun d hd=>by rcases List.mem_cons.1 hd with rfl|hd;exact Nat.mod_lt _ (by decide);exact h1 d hd,by simp[h2],by simp only[val,h3];omega⟩
 obtain⟨ds,h1,h2,h3⟩:=aux n v h;rw[<-h3,<-h2];exact qw h1
theorem G4{w:World}{g:Nat}{t:TypeId}{c:Array Value}(h:qf w g t c):w.cell? ⟨g,0,none⟩=c[0]?/\w.cell? ⟨g,1,none⟩=c[1]?/\w.cell? ⟨g,2,none⟩=c[2]?/\w.cell? ⟨g,3,none⟩=c[3]?:=⟨h.cell 0,h.cell 1,h.cell 2,h.cell 3⟩
theorem G5{w:World}{g:Nat}{t:TypeId}{c:Array Value}(h:qf w g t c):w.frozen? ⟨g,0,none⟩=false/\w.frozen? ⟨g,1,none⟩=false/\w.frozen? ⟨g,2,none⟩=false/\w.frozen? ⟨g,3,none⟩=false/\g<w.heap.size:=⟨h.frozen 0,h.frozen 1,h.frozen 2,h.frozen 3,h.lt⟩
end Go.Proofs.YtflikmojaidhhaaGreatDoor
namespace Go.Proofs.YtflikmojaidhhaaGreatDoor
open Go.RowKit
def qp(ds:List Nat):List Value:=ds.map fun(d:Nat)=>Value.int .u32 (d:Int)
theorem jA{w:World}{B:Nat}{A:Oa}{ds:List Nat}(h:qu w B 1 A ds.length (qp ds)){k:Nat}(hk:k<ds.length):∃b o,A=some ⟨b,o,none⟩/\b<B/\w.cell? ⟨b,o+k,none⟩=some (.int .u32 ((ds.getD k 0:Nat):Int)):=by
 obtain⟨b,o,e,hb,hc⟩:=h.2 (by omega);refine⟨b,o,e,hb,hc _ _ ?_⟩;simp[qp,Gn hk]
set_option maxHeartbeats 400000
theorem ji(A:Oa)(c B:Nat)(ds:List Nat)(w:World)(hc:ds.length<=c)(hm:ds.length<=1000000)(hr:qu w B 1 A ds.length (qp ds))(hd:jg ds):
 Calls Tryz.prog 109 #[.slice A ds.length c] w fun e w'=>e= .returned (.slice A (dig (val ds)).length c)/\w=w':=by
 have HD:=Gh hd;clear hd;go_enter Tryz.func109,Tryz.ntmps109
 go_wp2
 go_loopg [3] ds.length (fun gn i wr=>∃(k:Nat),k<=ds.length/\gn=k/\i= .int .i64 k/\(∀j,k<=j->j<ds.length->ds.getD j 0=0)/\w=wr)
 case atStart=>exact⟨_,Gr _,rfl,rfl,fun j h1 h2=>by omega,rfl⟩
 case round=>
  obtain⟨k,hk,XG,rfl,hz,rfl⟩:=hrel;have HG:=Gh XG;clear XG;have HZ:=Gh hz;clear hz;by_cases h0:0<k
  ·obtain⟨k,rfl⟩:∃k',k=k'+1:=⟨k-1,by omega⟩;obtain⟨b1,o1,rfl,q1,c1⟩:=jA hr (k:=k) (by omega);have i1:(k:Int)<ds.length:=by omega
   have Dy:((k+1:Nat):Int)-1=(k:Int):=by omega
   by_cases hx:ds.getD k 0=0
   ·have HX:=Gh hx;rw[hx]at c1;clear hx;go_wp2
    go_roundg k
    case rel=>exact⟨k,by omega,rfl,by go_num,fun j h1 h2=>by
     by_cases h:j=k
     ·subst h;exact HX
     ·exact HZ j (by omega) h2,rfl⟩
    case measure=>have:=HG.out;omega
   ·have HX:=Gh hx;clear hx;have hb:(((ds.getD k 0:Nat):Int)==0)=false:=by have:=HX.out;simp;exact this
    have HE:=Gh (congrArg List.length (qfn HD hk HZ (.inr (by simpa using HX.out))));generalize ds.getD k 0=x at*;go_wp2
    go_ret
    refine⟨?_,rfl⟩;rw[<-HE.out];simp[Nat.min_eq_left hk]
  ·obtain rfl:k=0:=by omega
   have HE:=Gh (congrArg List.length (qfn HD hk HZ (.inl rfl)));go_wp2
   go_ret
   refine⟨?_,rfl⟩;rw[<-HE.out];simp
theorem Tryz.infoU32:(Tryz.prog.info? 123).map (fun i=>(i.zero,i.size,i.bytes))=some (some (.int .u32 0),1,4):=by kernel_rfl
theorem qO{P:Program}{t:TypeId}{z:Option Value}{s b:Nat}(h:(P.info? t).map (fun i=>(i.zero,i.size,i.bytes))=some (z,s,b)):∃i,P.info? t=some i/\i.zero=z/\i.size=s/\i.bytes=b:=by
 cases hi:P.info? t with
 |none=>rw[hi]at h;cases h
 |some i=>rw[hi]at h;simp at h;exact⟨i,rfl,h.1,h.2.1,h.2.2⟩
theorem qgw(n:Nat):madeCells #[Value.int .u32 0] n=(qp (List.replicate n 0)).toArray:=by
 apply Array.ext';rw[toList_madeCells_one];simp[qp]
theorem jw(l:List Nat)(i x:Nat):(qp l).toArray.setIfInBounds i (.int .u32 (x:Int))=(qp (l.set i x)).toArray:=by simp[qp,List.map_set]
theorem jC(l:List Nat)(i:Nat)(h:i<l.length):(qp l).toArray[i]? =some (.int .u32 ((l.getD i 0:Nat):Int)):=by simp[qp,Gn h]
theorem Qe(l:List Nat):∀v∈qp l,v.oneCell'=true:=by
 intro v hv;simp[qp]at hv;obtain⟨a,_,rfl⟩:=hv;rfl
theorem qbT{P:Program}(t e:TypeId)(i:TypeInfo)(ht:P.underlying t=some (.slice e))(hi:P.info? e=some i)(hz:i.zero=some (.int .u32 0))(hs:i.size=1)(hb:i.bytes=4)(n:Nat)(hn:n<=1000000)(w:World):
 (Instr.makeSlice t (.int .i64 (n:Int)) (.int .i64 (n:Int))).run P w= .ok (.slice (some ⟨w.heap.size,0,none⟩) n n) (w.alloc (.cells (qp (List.replicate n 0)).toArray e)):=by
 have hr:=run_make (P:=P) w t e i (.int .u32 0) ht hi hz .i64 .i64 n n (by omega) (by omega) (by rw[hb];omega) (by omega);simp only[Int.toNat_natCast,hs,Nat.mul_one,Value.cells]at hr;rw[hr,qgw]
theorem Tryz.make_u32(n:Nat)(hn:n<=1000000)(w:World):(Instr.makeSlice 23 (.int .i64 (n:Int)) (.int .i64 (n:Int))).run Tryz.prog w= .ok (.slice (some ⟨w.heap.size,0,none⟩) n n) (w.alloc (.cells (qp (List.replicate n 0)).toArray 123)):=by
 obtain⟨i0,Uw,XU,X7,Xy⟩:=qO Tryz.infoU32;exact qbT 23 123 i0 Tryz.underlying23 Uw XU X7 Xy n hn w
theorem Tryz.size_u32:(Tryz.prog.info? 123).map (·.size)=some 1:=by kernel_rfl
def qL(w:World)(A:Oa)(ds:List Nat):Prop:=ds=[]∨∃g zs,A=some ⟨g,0,none⟩/\qf w g 123 (qp zs).toArray/\ds=zs.take ds.length
def yg(v:Nat)(w:World)(e:Ending)(w':World):Prop:=
 ∃A c,e= .returned (.slice A (dig v).length c)/\(dig v).length<=c/\qL w' A (dig v)/\Below w.heap.size w w'
theorem qf.reads{w:World}{g:Nat}{t:TypeId}{l:List Nat}(h:qf w g t (qp l).toArray)(n:Nat)(hn:n<=l.length):qu w w.heap.size 1 (some ⟨g,0,none⟩) n (qp (l.take n)):=by
 refine⟨by simp[qp,Nat.min_eq_left hn],fun _=>⟨g,0,rfl,h.lt,fun j u hu=>?_⟩⟩;rw[Nat.zero_add,h.cell];simp[qp,List.getElem?_take]at hu ⊢;exact hu.2
theorem jF{w:World}{B:Nat}{A:Oa}{ds:List Nat}(h:qu w B 1 A ds.length (qp ds))(hd:jg ds):qu w B 1 A (dig (val ds)).length (qp (dig (val ds))):=by
 have Vo:=qw hd;refine⟨by simp[qp],fun hp=>?_⟩;obtain⟨b,o,e,hb,hc⟩:=h.2 (by omega);refine⟨b,o,e,hb,fun j u hu=>hc j u ?_⟩;rw[qcP hd]at hu;simp[qp,List.getElem?_take]at hu ⊢;exact hu.2
theorem qL.reads{w:World}{A:Oa}{ds:List Nat}(h:qL w A ds):qu w w.heap.size 1 A ds.length (qp ds):=by
 rcases h with rfl|⟨g,zs,rfl,hb,he⟩
 ·exact qu.none_
 ·have hl:ds.length<=zs.length:=by have:=congrArg List.length he;simp at this;omega
  have:=hb.reads ds.length hl;rwa[<-he]at this
theorem qL.of_blk{w:World}{g:Nat}{zs:List Nat}(h:qf w g 123 (qp zs).toArray):qL w (some ⟨g,0,none⟩) zs:= .inr ⟨g,zs,rfl,h,by simp⟩
theorem qL.dig{w:World}{A:Oa}{ds:List Nat}(h:qL w A ds)(hd:jg ds):qL w A (dig (val ds)):=by
 rcases h with rfl|⟨g,zs,rfl,hb,he⟩
 ·left;simp[val,qH]
 ·right;refine⟨g,zs,rfl,hb,?_⟩;have h1:=qcP hd;have h2:=qw hd;rw[he,List.take_take,<-he,Nat.min_eq_left h2]at h1;exact h1
theorem qL.keep{w w':World}{A:Oa}{ds:List Nat}(h:qL w A ds)(hk:∀g cs,qf w g 123 cs->qf w' g 123 cs):qL w' A ds:=by
 rcases h with rfl|⟨g,zs,rfl,hb,he⟩
 ·exact .inl rfl
 ·exact .inr ⟨g,zs,rfl,hk _ _ hb,he⟩
theorem qL.old{w w':World}{A:Oa}{ds:List Nat}(h:qL w A ds)(hb:Below w.heap.size w w'):qL w' A ds:=h.keep fun _ _ k=>k.old hb
def zA(b:Nat)(w:World)(A:Oa)(ds:List Nat):Prop:=ds=[]∨∃g zs,A=some ⟨g,0,none⟩/\b<=g/\qf w g 123 (qp zs).toArray/\ds=zs.take ds.length
theorem zA.nat{b:Nat}{w:World}{A:Oa}{ds:List Nat}(h:zA b w A ds):qL w A ds:=by
 rcases h with rfl|⟨g,zs,rfl,_,hb,he⟩
 ·exact .inl rfl
 ·exact .inr ⟨g,zs,rfl,hb,he⟩
theorem zA.of_blk{b:Nat}{w:World}{g:Nat}{zs:List Nat}(hg:b<=g)(h:qf w g 123 (qp zs).toArray):zA b w (some ⟨g,0,none⟩) zs:= .inr ⟨g,zs,rfl,hg,h,by simp⟩
theorem zA.of_nat{b g:Nat}{w:World}{ds:List Nat}(hg:b<=g)(h:qL w (some ⟨g,0,none⟩) ds):zA b w (some ⟨g,0,none⟩) ds:=by
 rcases h with rfl|⟨g',zs,e,hb,he⟩
 ·exact .inl rfl
 ·injection e with e;injection e with e _;subst e;exact .inr ⟨_,zs,rfl,hg,hb,he⟩
theorem zA.old{b:Nat}{w w':World}{A:Oa}{ds:List Nat}(h:zA b w A ds)(hb:Below w.heap.size w w'):zA b w' A ds:=by
 rcases h with rfl|⟨g,zs,rfl,hg,hk,he⟩
 ·exact .inl rfl
 ·exact .inr ⟨g,zs,rfl,hg,hk.old hb,he⟩
theorem zA.dig{b:Nat}{w:World}{A:Oa}{ds:List Nat}(h:zA b w A ds)(hd:jg ds):zA b w A (dig (val ds)):=by
 rcases h with rfl|⟨g,zs,rfl,hg,hb,he⟩
 ·left;simp[val,qH]
 ·exact .of_nat hg (qL.dig (.inr ⟨g,zs,rfl,hb,he⟩) hd)
def qbM(v:Nat)(w:World)(e:Ending)(w':World):Prop:=
 ∃A c,e= .returned (.slice A (dig v).length c)/\(dig v).length<=c/\zA w.heap.size w' A (dig v)/\Below w.heap.size w w'
theorem qbM.res{v:Nat}{w:World}{e:Ending}{w':World}(h:qbM v w e w'):yg v w e w':=by
 obtain⟨A,c,h1,h2,h3,h4⟩:=h;exact⟨A,c,h1,h2,h3.nat,h4⟩
set_option maxRecDepth 100000
theorem yw(A:Oa)(c B:Nat)(ds:List Nat)(w:World)(hB:B<=w.heap.size)(hc:ds.length<=c)(hm:ds.length<=1000000)(hr:qu w B 1 A ds.length (qp ds))(hd:jg ds):
 Calls Tryz.prog 100 #[.slice A ds.length c] w (yg (val ds) w):=by
 have XM:=ji A c B ds w hc hm hr hd;have Vo:=qw hd;have Xv:=jF hr hd;unfold yg;generalize dig (val ds)=es at*;have Uz:=fun(W:World)=>Tryz.make_u32 es.length (by omega) W;have Ud:=Gh XM;clear XM hr hd;go_enter Tryz.func100,Tryz.ntmps100
 have SB:0<(qp es).length->∃ad,A=some ad/\∀j v,(qp es)[j]? =some v->(w.alloc (.cells (qp (List.replicate es.length 0)).toArray 123)).cell? (ad.add j)=some v:=fun hp=>by
  obtain⟨b,o,e,hb,XM⟩:=Xv.2 (by simpa[qp]using hp);refine⟨⟨b,o,none⟩,e,fun j v hv=>?_⟩;have h1:=XM j v hv;have h2:=((Below.refl B w).alloc hB (.cells (qp (List.replicate es.length 0)).toArray 123)).cell (p:=⟨b,o+j,none⟩) hb;have e3:(⟨b,o,none⟩:Addr).add j=⟨b,o+j,none⟩:=by simp[Addr.add]
  rw[e3];exact h2.trans h1
 have XC:(qp es).length=Nat.min es.length es.length:=by simp[qp]
 have XX:Below w.heap.size w (w.alloc (.cells (qp (List.replicate es.length 0)).toArray 123)):=(Below.refl _ w).alloc (Gr _) _;have UZ:0+(qp es).length<=(qp (List.replicate es.length 0)).length:=by simp[qp]
 have Tz:=Gh SB;have HLEN:=Gh XC;have Uq:=Gh XX;clear SB XC XX;go_wp2_with (first|(go_at_call 109;refine Ud.out.mono ?_;rintro e w1 ⟨rfl,rfl⟩)|(refine wpList_copy_splice (o:=⟨some 11,_,_,_,_,_⟩) rfl (.tmp 9) (.tmp 10) 23 23 rfl 123 Tryz.underlying23 Tryz.size_u32 _ _ es.length es.length es.length c rfl rfl w.heap.size 0 _ 123 (heap_alloc_new w _) (qp es) HLEN (fun hp=>⟨rfl,Tz hp⟩) UZ (Qe es) w.heap.size w Uq (Gr _) ?_;intro w3 hg3 Xz))
 go_ret
 have BG:splice (qp (List.replicate es.length 0)) 0 (qp es)=qp es:=by simp[splice,qp]
 have hg:qf w3 w.heap.size 123 (qp es).toArray:=by have:=hg3.out;rwa[BG]at this
 exact⟨_,_,rfl,Gr _,.of_blk hg,Xz⟩
theorem qaC(A:Oa)(c B:Nat)(ds:List Nat)(w:World)(hc:ds.length<=c)(hm:ds.length<=1000000)(hr:qu w B 1 A ds.length (qp ds))(hd:jg ds):
 Calls Tryz.prog 85 #[.slice A ds.length c] w fun e w'=>e= .returned (.bool (val ds==0))/\w=w':=by
 have XM:=ji A c B ds w hc hm hr hd;have Vo:=qw hd;have HZ:=Gh (@Jw (val ds));have Ud:=Gh XM;clear XM hr hd;go_enter Tryz.func85,Tryz.ntmps85
 by_cases h0:(dig (val ds)).length=0
 ·have BT:=Gh (HZ.out.1 h0);have hb:(((dig (val ds)).length:Int)==0)=true:=by rw[h0];rfl
  clear h0;go_wp2_with (first|(go_at_call 109;refine Ud.out.mono ?_;rintro e w1 ⟨rfl,rfl⟩))
  go_ret
  refine⟨?_,rfl⟩;rw[BT.out];rfl
 ·have hz:val ds≠0:=fun h=>h0 (HZ.out.2 h);have hb:(((dig (val ds)).length:Int)==0)=false:=by simpa using h0
  go_wp2_with (first|(go_at_call 109;refine Ud.out.mono ?_;rintro e w1 ⟨rfl,rfl⟩))
  go_ret
  refine⟨?_,rfl⟩;simpa using hz
theorem JF{a b:Nat}(h:(dig a).length<(dig b).length):a<b:=by
 rcases Nat.lt_or_ge a b with h'|h'
 ·exact h'
 ·exfalso;have h1:=jr (qA a);rw[qB]at h1;have:=qK (v:=b) (n:=(dig a).length) (by omega);omega
def zp(a b:Nat):Int:=if a<b then -1 else if b<a then 1 else 0
theorem qbl{a:List Nat}{k:Nat}(hk:k<a.length):val a=val (a.take k)+4294967296^k*(a.getD k 0+4294967296*val (a.drop (k+1))):=by
 have e:a=a.take k++(a.getD k 0::a.drop (k+1)):=by
  rw[List.getD_eq_getElem?_getD,Gn hk,Option.getD_some];simp
 conv=>lhs;rw[e]
 rw[ja,List.length_take,Nat.min_eq_left (Nat.le_of_lt hk)];rfl
theorem qbw{a b:List Nat}(hl:a.length=b.length){k:Nat}(hk:k<a.length)(ha:jg a)(he:∀j,k<j->j<a.length->a.getD j 0=b.getD j 0)(hx:a.getD k 0<b.getD k 0):val a<val b:=by
 rw[qbl hk,qbl (a:=b) (k:=k) (by omega)];have e:a.drop (k+1)=b.drop (k+1):=by
  apply List.ext_getElem (by simp[hl]);intro i h1 h2;simp only[List.getElem_drop];have h1':k+1+i<a.length:=by simp at h1;omega
  have:=he (k+1+i) (by omega) h1';rw[List.getD_eq_getElem?_getD,List.getD_eq_getElem?_getD,Gn h1',Gn (by omega)]at this;simpa using this
 have h1:=jr (ds:=a.take k) (fun x hx=>ha x (List.mem_of_mem_take hx));rw[List.length_take,Nat.min_eq_left (by omega)]at h1;rw[e];generalize 4294967296^k=p at*;generalize val (b.drop (k+1))=q at*;generalize a.getD k 0=x at*;generalize b.getD k 0=y at*;have h2:p*(x+4294967296*q)+p<=p*(y+4294967296*q):=by
  have:=Nat.mul_le_mul_left p (show x+4294967296*q+1<=y+4294967296*q by omega);rw[Nat.mul_add,Nat.mul_one]at this;exact this
 omega
theorem qgg{a b:List Nat}(hl:a.length=b.length)(he:∀j,j<a.length->a.getD j 0=b.getD j 0):a=b:=by
 apply List.ext_getElem hl;intro i h1 h2;have:=he i h1;rw[List.getD_eq_getElem?_getD,List.getD_eq_getElem?_getD,Gn h1,Gn h2]at this;simpa using this
theorem qea(n:Nat)(hn:n<18446744073709551616)(w:World):Calls Tryz.prog 77 #[.int .u64 (n:Int)] w (yg n w):=by
 have hv:val [n%4294967296,n/4294967296]=n:=by simp only[val];omega
 have Xr:jg [n%4294967296,n/4294967296]:=by
  intro d hd;simp at hd;rcases hd with rfl|rfl<;>omega
 have hb:qf (w.alloc (.cells #[.int .u32 ((n:Int)%4294967296),.int .u32 ((n:Int)/4294967296)] 123)) w.heap.size 123 (qp [n%4294967296,n/4294967296]).toArray:=by
  have:=qf.new w 123 #[.int .u32 ((n:Int)%4294967296),.int .u32 ((n:Int)/4294967296)];simpa[qp]using this
 have Xv:=hb.reads 2 (Gr _);have XM:=yw (some ⟨w.heap.size,0,none⟩) 2 _ [n%4294967296,n/4294967296] _ (Gr _) (Gr _) (by simp) Xv Xr;rw[hv]at XM;have Ud:=Gh XM;clear XM Xv hb Xr hv;go_enter Tryz.func77,Tryz.ntmps77
 go_wp2_with fail
 refine(Ud).mono ?_;rintro e w1 ⟨A,c,rfl,h1,h2,h3⟩;generalize hes:dig n=es at*;have HE:=Gh hes;clear hes;go_wp2_with fail
 go_ret
 refine⟨A,c,?_,?_,?_,(Gb w _).trans (h3.mono (by simp))⟩
 ·rw[HE.out];rfl
 ·rw[HE.out];exact h1
 ·rw[HE.out];exact h2
set_option maxHeartbeats 1000000
theorem QZ(A A':Oa)(c c' B:Nat)(ds es:List Nat)(w:World)(hc:ds.length<=c)(RO:es.length<=c')(hm:ds.length<=1000000)(UE:es.length<=1000000)
 (hr:qu w B 1 A ds.length (qp ds))(TB:qu w B 1 A' es.length (qp es))(hd:jg ds)(VZ:jg es):
 Calls Tryz.prog 133 #[.slice A ds.length c,.slice A' es.length c'] w fun e w'=>e= .returned (.int .i64 (zp (val ds) (val es)))/\qt w w':=by
 have h1:=ji A c B ds w hc hm hr hd;have h2:=ji A' c' B es w RO UE TB VZ;have r1:=jF hr hd;have r2:=jF TB VZ;have l1:=qw hd;have l2:=qw VZ;have m1:=@JF (val ds) (val es);have m2:=@JF (val es) (val ds);have g1:=qA (val ds);have g2:=qA (val es);have v1:=qB (val ds);have v2:=qB (val es);generalize val ds=x at*;generalize val es=y at*;generalize dig x=a at*;generalize dig y=b at*;have H1:=Gh h1;have H2:=Gh h2;have M1:=Gh m1;have M2:=Gh m2;have G1:=Gh g1;have G2:=Gh g2;have V1:=Gh v1;have V2:=Gh v2;clear h1 h2 m1 m2 g1 g2 v1 v2 hr TB hd VZ;by_cases Xi:a.length<b.length
 ·go_enter Tryz.func133,Tryz.ntmps133
  go_wp2_with fail
  refine(H1).mono ?_;rintro e w1 ⟨rfl,rfl⟩;go_wp2_with fail
  refine(H2).mono ?_;rintro e w1 ⟨rfl,rfl⟩;go_wp2_with fail
  go_ret
  have:=M1.out Xi;exact⟨by unfold zp;rw[if_pos this];rfl,.refl _⟩
 by_cases EN:b.length<a.length
 ·go_enter Tryz.func133,Tryz.ntmps133
  go_wp2_with fail
  refine(H1).mono ?_;rintro e w1 ⟨rfl,rfl⟩;go_wp2_with fail
  refine(H2).mono ?_;rintro e w1 ⟨rfl,rfl⟩;go_wp2_with fail
  go_ret
  have:=M2.out EN;exact⟨by unfold zp;rw[if_neg (by omega),if_pos this];rfl,.refl _⟩
 have hl:a.length=b.length:=by omega
 have HL:=Gh hl;clear hl;go_enter Tryz.func133,Tryz.ntmps133
 go_wp2_with fail
 refine(H1).mono ?_;rintro e w1 ⟨rfl,rfl⟩;go_wp2_with fail
 refine(H2).mono ?_;rintro e w1 ⟨rfl,rfl⟩;go_wp2_with fail
 go_loopg [5] a.length (fun gn i wr=>∃(k:Nat),k<=a.length/\gn=k/\i= .int .i64 ((k:Int)-1)/\(∀j,k<=j->j<a.length->a.getD j 0=b.getD j 0)/\qt w wr)
 case atStart=>exact⟨_,Gr _,rfl,rfl,fun j h1 h2=>by omega,.refl _⟩
 case round=>
  obtain⟨k,hk,XG,rfl,hz,Us⟩:=hrel;have HG:=Gh XG;clear XG;have HZ:=Gh hz;clear hz;by_cases h0:0<k
  ·obtain⟨k,rfl⟩:∃k',k=k'+1:=⟨k-1,by omega⟩;have RM:=HL.out;obtain⟨b1,o1,rfl,q1,c1⟩:=jA (r1.drawn Us) (k:=k) (by omega);obtain⟨b2,o2,rfl,q2,c2⟩:=jA (r2.drawn Us) (k:=k) (by omega);have i1:(k:Int)<a.length:=by omega
   have i2:(k:Int)<b.length:=by omega
   have ek:((k+1:Nat):Int)-1=(k:Int):=by omega
   clear RM;rw[ek];have HA:=Gh (@qbw a b HL k (by omega) G1);have HB:=Gh (@qbw b a HL.out.symm k (by omega) G2);have HX:Hid (∃x y,x=a.getD k 0/\y=b.getD k 0):=⟨_,_,rfl,rfl⟩;generalize TP:a.getD k 0=xa at*;generalize FD:b.getD k 0=xb at*;have HXA:=Gh TP;have OY:=Gh FD;clear TP FD HX;rcases Nat.lt_trichotomy xa xb with h|h|h
   ·go_wp2
    go_quiet (fail)
    go_wp2
    go_ret
    refine⟨?_,Us.trans (.drewN _ _)⟩;have hv:x<y:=by
     rw[<-V1,<-V2.out];exact HA (fun j h1 h2=>HZ j (by omega) h2) h
    unfold zp;rw[if_pos hv];rfl
   ·subst h;go_wp2
    go_quiet (fail)
    go_wp2
    go_quiet (fail)
    go_wp2
    go_roundg k
    case rel=>exact⟨k,by omega,rfl,rfl,fun j h1 h2=>by
     by_cases hj:j=k
     ·subst hj;rw[HXA,OY.out]
     ·exact HZ j (by omega) h2,Us.trans (.drewN _ _)⟩
    case measure=>have:=HG.out;omega
   ·go_wp2
    go_quiet (fail)
    go_wp2
    go_quiet (fail)
    go_wp2
    go_ret
    refine⟨?_,(Us.trans (.drewN _ _)).trans (.drewN _ _)⟩;have hv:y<x:=by
     rw[<-V1,<-V2.out];exact HB (fun j h1 h2=>(HZ j (by omega) (by have:=HL.out;omega)).symm) h
    unfold zp;rw[if_neg (by omega),if_pos hv];rfl
  ·obtain rfl:k=0:=by omega
   go_wp2
   go_ret
   refine⟨?_,Us⟩;have hv:x=y:=by
    rw[<-V1,<-V2,qgg HL (fun j h=>HZ j (by omega) h)]
   unfold zp;rw[if_neg (by omega),if_neg (by omega)];rfl
theorem qjW{n:Nat}(h:n<4294967296):n.testBit 31=decide (2147483648<=n):=by
 rw[Nat.testBit_eq_decide_div_mod_eq]
 congr 1
 simp only[eq_iff_iff];omega
theorem qln{n:Nat}(h:n<4294967296):n/2147483648=if n.testBit 31 then 1 else 0:=by
 rw[qjW h];by_cases h1:2147483648<=n
 ·simp[h1];omega
 ·simp[h1];omega
theorem qb7{x y c d:Nat}(hx:x<4294967296)(hy:y<4294967296)(hc:c<=1)(hd:d=(x+4294967296-y-c)%4294967296):
 (((4294967295 ^^^ x) &&& y) ||| ((4294967295 ^^^ (x ^^^ y)) &&& d))/2147483648=if x<y+c then 1 else 0:=by
 have VZ:d<4294967296:=by omega
 have hn:(((4294967295 ^^^ x) &&& y) ||| ((4294967295 ^^^ (x ^^^ y)) &&& d))<4294967296:=
  Nat.or_lt_two_pow (n:=32) (Nat.and_lt_two_pow _ hy) (Nat.and_lt_two_pow _ VZ)
 rw[qln hn];have e0:(4294967295:Nat).testBit 31=true:=by decide
 rw[Nat.testBit_or,Nat.testBit_and,Nat.testBit_and,Nat.testBit_xor,Nat.testBit_xor,Nat.testBit_xor,e0,qjW hx,qjW hy,qjW VZ];by_cases h1:2147483648<=x<;>by_cases h2:2147483648<=y<;>by_cases h3:2147483648<=d<;>by_cases h4:x<y+c<;>simp[h1,h2,h3,h4]<;>omega
theorem qez{x y c:Nat}(hx:x<4294967296)(hy:y<4294967296)(hc:c<=1):
 bits BinOp.or IntKind.u32 (bits BinOp.and IntKind.u32 (bits BinOp.xor IntKind.u32 IntKind.u32.max (x:Int)) (y:Int))
  (bits BinOp.and IntKind.u32 (bits BinOp.xor IntKind.u32 IntKind.u32.max (bits BinOp.xor IntKind.u32 (x:Int) (y:Int))) (((x:Int)-y-c)%4294967296))/2147483648=((if x<y+c then 1 else 0:Nat):Int):=by
 have e0:IntKind.u32.max=((4294967295:Nat):Int):=by decide
 have e1:((x:Int)-y-c)%4294967296=(((x+4294967296-y-c)%4294967296:Nat):Int):=by omega
 have b1:(4294967295 ^^^ x)<4294967296:=Nat.xor_lt_two_pow (n:=32) (by decide) hx;have b2:(x ^^^ y)<4294967296:=Nat.xor_lt_two_pow (n:=32) hx hy;have b3:(4294967295 ^^^ (x ^^^ y))<4294967296:=Nat.xor_lt_two_pow (n:=32) (by decide) b2;have b4:(x+4294967296-y-c)%4294967296<4294967296:=by omega
 rw[e0,e1,u32_xor_nat _ _ (by decide) hx,u32_xor_nat _ _ hx hy,u32_xor_nat _ _ (by decide) b2,u32_and_nat _ _ b1 hy,u32_and_nat _ _ b3 b4,
  u32_or_nat _ _ (Nat.and_lt_two_pow (n:=32) _ hy) (Nat.and_lt_two_pow (n:=32) _ b4),<-qb7 hx hy hc rfl]
 rfl
set_option maxHeartbeats 400000
theorem yD(x y c:Nat)(hx:x<4294967296)(hy:y<4294967296)(hc:c<=1)(w:World):
 Calls Tryz.prog 150 #[.int .u32 (x:Int),.int .u32 (y:Int),.int .u32 (c:Int)] w fun e w'=>e= .returned (.tuple #[.int .u32 (((x+y+c)%4294967296:Nat):Int),.int .u32 (((x+y+c)/4294967296:Nat):Int)])/\w=w':=by
 go_enter Tryz.func150,Tryz.ntmps150
 go_wp2
 go_ret2
 exact⟨rfl,rfl⟩
theorem YX(x y c:Nat)(hx:x<4294967296)(hy:y<4294967296)(hc:c<=1)(w:World):
 Calls Tryz.prog 152 #[.int .u32 (x:Int),.int .u32 (y:Int),.int .u32 (c:Int)] w fun e w'=>e= .returned (.tuple #[.int .u32 (((x+4294967296-y-c)%4294967296:Nat):Int),.int .u32 ((if x<y+c then 1 else 0:Nat):Int)])/\w=w':=by
 have hb:=Gh (qez hx hy hc);have he:=Gh (show((x:Int)-y-c)%4294967296=(((x+4294967296-y-c)%4294967296:Nat):Int)by omega);generalize (if x<y+c then 1 else 0:Nat)=o at*;generalize (x+4294967296-y-c)%4294967296=d at*;go_enter Tryz.func152,Tryz.ntmps152
 go_wp2
 go_ret2
 refine⟨?_,rfl⟩;rw[<-hb.out,<-he.out];rfl
