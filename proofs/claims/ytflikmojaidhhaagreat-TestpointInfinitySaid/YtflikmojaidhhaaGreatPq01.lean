import Derived.WalkKit
import Derived.WalkSpells
import Derived.WalkLawsBesides
import Derived.Below
import Derived.Laws.OwnMore
import Derived.Deep.AppendLies
import Derived.Deep.Draws
import Derived.Laws.Rows
import Derived.Laws.BitsAllLaws
import Derived.Laws.BitsLemmas
import Derived.Lib.Hide
import Derived.Maps.AppendAt
import Derived.RegionTactic
import Derived.OwnWalk
import Derived.Test.YtflikmojaidhhaaGreatProg
import Derived.Test.YtflikmojaidhhaaGreatChecked
import Derived.Deep.LoopGhost
import Derived.Deep.CutRange
import Derived.Deep.DeepCutAuto
import Derived.Deep.QuietTactic
import Derived.BigQuiet
import Derived.Laws.CopyOwn
import Derived.Laws.MakeOwn
namespace Go.Proofs.YtflikmojaidhhaaGreat
open Go.RowKit
def qi(w:World)(B size:Nat)(A:Option Addr)(n:Nat)(xs:List Value):Prop:=
 xs.length=n*size∧(0<n→∃b o,A=some ⟨b,o,none⟩∧b<B∧∀j u,xs[j]? =some u→w.cell? ⟨b,o+j,none⟩=some u)
section
variable {w w':World} {B B' size n:Nat} {A:Option Addr} {xs:List Value}
theorem qi.none_:qi w B size A 0 []:=⟨by simp,fun h=>absurd h (by omega)⟩
theorem qi.keep(h:qi w B size A n xs)(hk:∀p:Addr,p.block<B→w'.cell? p=w.cell? p):qi w' B size A n xs:=
 ⟨h.1,fun hn=>by
   obtain⟨b,o,e,hb,hc⟩:=h.2 hn;exact⟨b,o,e,hb,fun j u hu=>(hk _ hb).trans (hc j u hu)⟩⟩
theorem qi.more(h:qi w B size A n xs)(hB:B≤B'):qi w B' size A n xs:=
 ⟨h.1,fun hn=>by
   obtain⟨b,o,e,hb,hc⟩:=h.2 hn;exact⟨b,o,e,by omega,hc⟩⟩
theorem qi.below(h:qi w B size A n xs)(hb:Below B w w'):qi w' B size A n xs:=h.keep fun _ hp=>hb.cell hp
end
def qm(w w':World):Prop:=∃k,w'=w.drewN k
theorem qm.refl(w:World):qm w w:=⟨0,rfl⟩
theorem qm.drewN(w:World)(n:Nat):qm w (w.drewN n):=⟨n,rfl⟩
theorem qm.drew(w:World):qm w w.drew:=⟨1,rfl⟩
theorem qm.trans{a b c:World}(h:qm a b)(k:qm b c):qm a c:=by
 obtain⟨n,rfl⟩:=h;obtain⟨m,rfl⟩:=k;exact⟨n+m,by rw[World.drewN_drewN]⟩
theorem qm.cell{w w':World}(h:qm w w')(p:Addr):w'.cell? p=w.cell? p:=by obtain⟨n,rfl⟩:=h;rfl
theorem qm.below{w w':World}(h:qm w w')(B:Nat):Below B w w':=by obtain⟨n,rfl⟩:=h;exact⟨rfl,rfl,rfl,Nat.le_refl _,fun _ _=>rfl⟩
theorem qm.heap{w w':World}(h:qm w w'):w'.heap=w.heap:=by obtain⟨n,rfl⟩:=h;rfl
theorem qi.drawn{w w':World}{B size n:Nat}{A:Option Addr}{xs:List Value}(h:qi w B size A n xs)(hd:qm w w'):qi w' B size A n xs:=h.keep fun p _=>hd.cell p
theorem qm.quiet{P:Program}{f:FuncId}{args:Array Value}{w:World}{n:Nat}{v:Value}
 (h:Calls P f args (w.drewN n) fun e w'=>e= .returned v∧qm (w.drewN n) w'):Calls P f args (w.drewN n) fun e w''=>e= .returned v∧∃m,w''=w.drewN m:=
 h.mono fun _ _ ⟨he,hm⟩=>⟨he,(qm.drewN w n).trans hm⟩
def sg(rows:List (List Int×Bool))(k:Nat):List Int:=(rows.getD k ([],false)).1
def tr(rows:List (List Int×Bool))(k:Nat):Bool:=(rows.getD k ([],false)).2
def yA(w:World)(B:Nat)(A:Option Addr)(rows:List (List Int×Bool)):Prop:=
 0<rows.length→∃b o,A=some ⟨b,o,none⟩∧b<B∧∀k,k<rows.length→∃Ak ck,w.cell? ⟨b,o+k*2,none⟩=some (.slice Ak (sg rows k).length ck)∧
  w.cell? ⟨b,o+k*2+1,none⟩=some (.bool (tr rows k))∧qi w B 1 Ak (sg rows k).length ((sg rows k).map (Value.int .i64))
theorem yA.at_{w:World}{B k:Nat}{A:Option Addr}{rows:List (List Int×Bool)}(h:yA w B A rows)(hk:k<rows.length):
 ∃b o Ak ck,A=some ⟨b,o,none⟩∧b<B∧w.cell? ⟨b,o+k*2,none⟩=some (.slice Ak (sg rows k).length ck)∧w.cell? ⟨b,o+k*2+1,none⟩=some (.bool (tr rows k))∧
  qi w B 1 Ak (sg rows k).length ((sg rows k).map (Value.int .i64)):=by
 obtain⟨b,o,e,hb,hc⟩:=h (by omega);obtain⟨Ak,ck,h1,h2,h3⟩:=hc k hk;exact⟨b,o,Ak,ck,e,hb,h1,h2,h3⟩
theorem yA.keep{w w':World}{B:Nat}{A:Option Addr}{rows:List (List Int×Bool)}(h:yA w B A rows)(hk:∀p:Addr,p.block<B→w'.cell? p=w.cell? p):yA w' B A rows:=fun hn=>by
 obtain⟨b,o,e,hb,hc⟩:=h hn;refine⟨b,o,e,hb,fun k hkk=>?_⟩;obtain⟨Ak,ck,h1,h2,h3⟩:=hc k hkk;exact⟨Ak,ck,(hk _ hb).trans h1,(hk _ hb).trans h2,h3.keep hk⟩
theorem yA.below{w w':World}{B:Nat}{A:Option Addr}{rows:List (List Int×Bool)}(h:yA w B A rows)(hb:Below B w w'):yA w' B A rows:=h.keep fun _ hp=>hb.cell hp
theorem yA.drawn{w w':World}{B:Nat}{A:Option Addr}{rows:List (List Int×Bool)}(h:yA w B A rows)(hd:qm w w'):yA w' B A rows:=h.keep fun p _=>hd.cell p
theorem yA.more{w:World}{B B':Nat}{A:Option Addr}{rows:List (List Int×Bool)}(h:yA w B A rows)(hB:B≤B'):yA w B' A rows:=fun hn=>by
 obtain⟨b,o,e,hb,hc⟩:=h hn;refine⟨b,o,e,by omega,fun k hkk=>?_⟩;obtain⟨Ak,ck,h1,h2,h3⟩:=hc k hkk;exact⟨Ak,ck,h1,h2,h3.more hB⟩
def jC(w:World)(B:Nat)(A:Option Addr)(ls:List (List Int)):Prop:=
 0<ls.length→∃b o,A=some ⟨b,o,none⟩∧b<B∧∀k,k<ls.length→∃Ak ck,w.cell? ⟨b,o+k,none⟩=some (.slice Ak (ls.getD k []).length ck)∧
  qi w B 1 Ak (ls.getD k []).length ((ls.getD k []).map (Value.int .i64))
theorem jC.at_{w:World}{B k:Nat}{A:Option Addr}{ls:List (List Int)}(h:jC w B A ls)(hk:k<ls.length):
 ∃b o Ak ck,A=some ⟨b,o,none⟩∧b<B∧w.cell? ⟨b,o+k,none⟩=some (.slice Ak (ls.getD k []).length ck)∧qi w B 1 Ak (ls.getD k []).length ((ls.getD k []).map (Value.int .i64)):=by
 obtain⟨b,o,e,hb,hc⟩:=h (by omega);obtain⟨Ak,ck,h1,h3⟩:=hc k hk;exact⟨b,o,Ak,ck,e,hb,h1,h3⟩
theorem jC.keep{w w':World}{B:Nat}{A:Option Addr}{ls:List (List Int)}(h:jC w B A ls)(hk:∀p:Addr,p.block<B→w'.cell? p=w.cell? p):jC w' B A ls:=fun hn=>by
 obtain⟨b,o,e,hb,hc⟩:=h hn;refine⟨b,o,e,hb,fun k hkk=>?_⟩;obtain⟨Ak,ck,h1,h3⟩:=hc k hkk;exact⟨Ak,ck,(hk _ hb).trans h1,h3.keep hk⟩
theorem jC.below{w w':World}{B:Nat}{A:Option Addr}{ls:List (List Int)}(h:jC w B A ls)(hb:Below B w w'):jC w' B A ls:=h.keep fun _ hp=>hb.cell hp
theorem jC.drawn{w w':World}{B:Nat}{A:Option Addr}{ls:List (List Int)}(h:jC w B A ls)(hd:qm w w'):jC w' B A ls:=h.keep fun p _=>hd.cell p
theorem jC.more{w:World}{B B':Nat}{A:Option Addr}{ls:List (List Int)}(h:jC w B A ls)(hB:B≤B'):jC w B' A ls:=fun hn=>by
 obtain⟨b,o,e,hb,hc⟩:=h hn;refine⟨b,o,e,by omega,fun k hkk=>?_⟩;obtain⟨Ak,ck,h1,h3⟩:=hc k hkk;exact⟨Ak,ck,h1,h3.more hB⟩
theorem qi.len{w:World}{B n:Nat}{A:Option Addr}{l:List Int}(h:qi w B 1 A n (l.map (Value.int .i64))):l.length=n:=by have:=h.1;simpa using this
end Go.Proofs.YtflikmojaidhhaaGreat
namespace Go.Proofs.YtflikmojaidhhaaGreat
open Go.RowKit
theorem qi.of_own{w:World}{base size n c:Nat}{e:TypeId}{A:Option Addr}{xs:List Value}(h:w.ownsRow base e size (.slice A n c) n xs):qi w w.heap.size size A n xs:=by
 refine⟨h.1,fun hn=>?_⟩;obtain⟨g,cap,hv,_,hlt⟩:=h.form hn;have hA:A=some ⟨g,0,none⟩:=by injection hv
 subst hA;exact⟨g,0,rfl,hlt,fun j u hu=>by have:=h.cells (g:=g) rfl j u hu;rwa[Addr.add_lit]at this⟩
section
variable {P:Program} (w:World)
theorem Yp(base:Nat)(t ty e:TypeId)(i:TypeInfo)(size:Nat)(ht:P.underlying t=some (.slice e))(hi:P.info? e=some i)
 (v:Value)(n:Nat)(xs:List Value)(hown:w.ownsRow base e size v n xs)(c:Nat):(Builtin.append_ #[t,t] ty #[v,.slice none 0 c]).run P w= .ok v w:=by
 rcases hown.2 with⟨rfl,rfl⟩|⟨g,cap,cur,rfl,_,_,hnc,_⟩
 ·simp[Builtin.append_,run_underlying ht,sizeOf,typeInfo,hi,Builtin.lenOf,Builtin.firstCells]
 ·simp[Builtin.append_,run_underlying ht,sizeOf,typeInfo,hi,Builtin.lenOf,Builtin.firstCells,hnc,storeCells]
theorem ZM(base:Nat)(t ty e:TypeId)(i:TypeInfo)(z:Value)(size bytes:Nat)(ht:P.underlying t=some (.slice e))(hi:P.info? e=some i)(hz:i.zero=some z)
 (hsize:i.size=size)(hby:i.bytes=bytes)(hzs:z.cells.size=size)(hsz:0<size)
 (v:Value)(n:Nat)(xs:List Value)(hown:w.ownsRow base e size v n xs)
 (B:Nat)(A:Option Addr)(m c:Nat)(news:List Value)(hr:qi w B size A m news)(h1:∀u∈news,u.oneCell'=true)
 (h63:n+m≤maxLen)(hbytes:(n+m)*bytes≤140737488355328)(hbase:base≤w.heap.size):
 ∃v' w',(Builtin.append_ #[t,t] ty #[v,.slice A m c]).run P w= .ok v' w'∧w'.ownsRow base e size v' (n+m) (xs++news)∧w.grownBy w' v.ownBlock∧
  (v'.ownBlock=v.ownBlock∨v'.ownBlock=some w.heap.size):=by
 rcases A with _|ad
 ·have hm:m=0:=by
   rcases Nat.eq_zero_or_pos m with h0|h0
   ·exact h0
   ·obtain⟨b,o,h,_⟩:=hr.2 h0
    cases h
  subst hm;have hn:news=[]:=List.eq_nil_of_length_eq_zero (by simpa using hr.1);subst hn;exact⟨v,w,Yp w base t ty e i size ht hi v n xs hown c,by simpa using hown,World.grownBy.refl w _,.inl rfl⟩
 ·have hcells:∀j u,news[j]? =some u→w.cell? (ad.add j)=some u:=by
   intro j u hu;rcases Nat.eq_zero_or_pos m with h0|h0
   ·subst h0;have hn:news=[]:=List.eq_nil_of_length_eq_zero (by simpa using hr.1);subst hn;simp at hu
   ·obtain⟨b,o,h,_,hc⟩:=hr.2 h0
    injection h with h
    subst h;rw[Addr.add_lit];exact hc j u hu
  obtain⟨v',w',hrun,h2,h3,_,h5⟩:=run_append_own_at (P:=P) w base t ty e i z size bytes ht hi hz hsize hby hzs hsz v n xs hown ad m c news hr.1 hcells h1 h63 hbytes hbase;exact⟨v',w',hrun,h2,h3,h5⟩
theorem QF{o:Oper}{a:Act}{K:Act→World→Prop}{Q:Exit→Act→World→Prop}(s x:Operand)(t:TypeId)
 (ho:o.op= .call {callee:= .builtin .append,args:=#[s,x],argTypes:=#[t,t]})
 (base:Nat)(e:TypeId)(i:TypeInfo)(z:Value)(size bytes:Nat)(ht:P.underlying t=some (.slice e))(hi:P.info? e=some i)(hz:i.zero=some z)
 (hsize:i.size=size)(hby:i.bytes=bytes)(hzs:z.cells.size=size)(hsz:0<size)
 (v:Value)(n:Nat)(xs:List Value)(hs:a.eval s=v)(hown:w.ownsRow base e size v n xs)
 (B:Nat)(A:Option Addr)(m c:Nat)(news:List Value)(hx:a.eval x= .slice A m c)(hr:qi w B size A m news)(h1:∀u∈news,u.oneCell'=true)
 (h63:n+m≤maxLen)(hbytes:(n+m)*bytes≤140737488355328)(hbase:base≤w.heap.size)
 (h:∀v' w',w'.ownsRow base e size v' (n+m) (xs++news)→w.grownBy w' v.ownBlock→(v'.ownBlock=v.ownBlock∨v'.ownBlock=some w.heap.size)→K (a.put o.dst v') w'):o.wp P a w K Q:=by
 obtain⟨v',w',hrun,h2,h3,h4⟩:=ZM (P:=P) w base t o.type e i z size bytes ht hi hz hsize hby hzs hsz v n xs hown B A m c news hr h1 h63 hbytes hbase;unfold Oper.wp execOp;simp only[ho,resolve,invoke,builtin,Sem.run_bind,Sem.run_pure,Result.andThen_ok,List.map_toArray,List.map_cons,List.map_nil,hs,hx,hrun];exact h v' w' h2 h3 h4
theorem jy{ops:Array Oper}{rest:List Oper}{o:Oper}{a:Act}{Q:Exit→Act→World→Prop}(hgd:o.guard=none)(s x:Operand)(t:TypeId)
 (ho:o.op= .call {callee:= .builtin .append,args:=#[s,x],argTypes:=#[t,t]})
 (base:Nat)(e:TypeId)(i:TypeInfo)(z:Value)(size bytes:Nat)(ht:P.underlying t=some (.slice e))(hi:P.info? e=some i)(hz:i.zero=some z)
 (hsize:i.size=size)(hby:i.bytes=bytes)(hzs:z.cells.size=size)(hsz:0<size)
 (v:Value)(n:Nat)(xs:List Value)(hs:a.eval s=v)(hown:w.ownsRow base e size v n xs)
 (B:Nat)(A:Option Addr)(m c:Nat)(news:List Value)(hx:a.eval x= .slice A m c)(hr:qi w B size A m news)(h1:∀u∈news,u.oneCell'=true)
 (h63:n+m≤maxLen)(hbytes:(n+m)*bytes≤140737488355328)(hbase:base≤w.heap.size)
 (h:∀v' w',w'.ownsRow base e size v' (n+m) (xs++news)→w.grownBy w' v.ownBlock→(v'.ownBlock=v.ownBlock∨v'.ownBlock=some w.heap.size)→wpList P ops Q rest (a.put o.dst v') w'):wpList P ops Q (o::rest) a w:=
 wpList_plain hgd fun _ hK=>QF w s x t ho base e i z size bytes ht hi hz hsize hby hzs hsz v n xs hs hown B A m c news hx hr h1 h63 hbytes hbase fun v' w' h2 h3 h4=>hK _ _ (h v' w' h2 h3 h4)
end
def qd(w:World)(g:Nat)(t:TypeId)(cs:Array Value):Prop:=w.heap[g]? =some (.cells cs t (0,0))
section
variable {w w':World} {g:Nat} {t:TypeId} {cs:Array Value}
theorem qd.lt(h:qd w g t cs):g<w.heap.size:=by
 rcases Nat.lt_or_ge g w.heap.size with hlt|hge
 ·exact hlt
 ·unfold qd at h;rw[Array.getElem?_eq_none hge]at h;cases h
theorem qd.cell(h:qd w g t cs)(i:Nat):w.cell? ⟨g,i,none⟩=cs[i]?:=cell_of_row w g i cs t (0,0) h
theorem qd.frozen(h:qd w g t cs)(i:Nat):w.frozen? ⟨g,i,none⟩=false:=by
 unfold qd at h;simp[World.frozen?,h]
theorem qd.new(w:World)(t:TypeId)(cs:Array Value):qd (w.alloc (.cells cs t)) w.heap.size t cs:=heap_alloc_new w _
theorem qd.drawn(h:qd w g t cs)(hd:qm w w'):qd w' g t cs:=by unfold qd;rw[hd.heap];exact h
theorem qd.alloc(h:qd w g t cs)(o:Obj):qd (w.alloc o) g t cs:=(Below.heap_alloc w o g h.lt).trans h
theorem qd.set_(h:qd w g t cs)(i:Nat)(u:Value):qd (w.setCell ⟨g,i,none⟩ u) g t (cs.setIfInBounds i u):=by
 unfold qd at h ⊢;simp[World.setCell,Array.getElem?_modify,h]
theorem qd.far(h:qd w g t cs){p:Addr}(hp:g≠p.block)(u:Value):qd (w.setCell p u) g t cs:=(Below.heap_setCell w p u g hp).trans h
theorem qd.below{B:Nat}(h:qd w g t cs)(hb:Below B w w')(hg:g<B):qd w' g t cs:=(hb.block g hg).trans h
theorem qd.old(h:qd w g t cs)(hb:Below w.heap.size w w'):qd w' g t cs:=h.below hb h.lt
theorem qd.grown{row:Option Nat}(h:qd w g t cs)(hb:w.grownBy w' row)(hg:some g≠row):qd w' g t cs:=(hb.block g h.lt hg).trans h
theorem qF{base:Nat}{e:TypeId}{size n:Nat}{v:Value}{xs:List Value}(h:w.ownsRow base e size v n xs)(hg:qd w g t cs)(hne:e≠t):some g≠v.ownBlock:=by
 rcases h.2 with⟨rfl,_⟩|⟨g',cap,cur,rfl,_,hh,_⟩
 ·simp[Value.ownBlock]
 ·intro he;have:g'=g:=by simpa[Value.ownBlock]using he.symm
  subst this;unfold qd at hg;rw[hh]at hg
  injection hg with hg
  injection hg with _ ht
  exact hne ht
end
def yp(w:World)(B:Nat)(xs:List Value)(ls:List (List Int)):Prop:=
 xs.length=ls.length∧∀k,k<ls.length→∃Ak ck,xs[k]? =some (.slice Ak (ls.getD k []).length ck)∧qi w B 1 Ak (ls.getD k []).length ((ls.getD k []).map (Value.int .i64))
theorem yp.keep{w w':World}{B:Nat}{xs:List Value}{ls:List (List Int)}(h:yp w B xs ls)(hk:∀p:Addr,p.block<B→w'.cell? p=w.cell? p):yp w' B xs ls:=
 ⟨h.1,fun k hkk=>by obtain⟨A,c,h1,h2⟩:=h.2 k hkk;exact⟨A,c,h1,h2.keep hk⟩⟩
theorem yp.below{w w':World}{B:Nat}{xs:List Value}{ls:List (List Int)}(h:yp w B xs ls)(hb:Below B w w'):yp w' B xs ls:=h.keep fun _ hp=>hb.cell hp
theorem yp.more{w:World}{B B':Nat}{xs:List Value}{ls:List (List Int)}(h:yp w B xs ls)(hB:B≤B'):yp w B' xs ls:=
 ⟨h.1,fun k hkk=>by obtain⟨A,c,h1,h2⟩:=h.2 k hkk;exact⟨A,c,h1,h2.more hB⟩⟩
theorem yp.nil(w:World)(B:Nat):yp w B [] []:=⟨rfl,fun k hk=>absurd hk (by simp)⟩
theorem yp.snoc{w:World}{B:Nat}{xs:List Value}{ls:List (List Int)}(h:yp w B xs ls){A:Option Addr}{c:Nat}{l:List Int}(hr:qi w B 1 A l.length (l.map (Value.int .i64))):yp w B (xs++[.slice A l.length c]) (ls++[l]):=by
 refine⟨by simp[h.1],fun k hk=>?_⟩;by_cases hlt:k<ls.length
 ·obtain⟨A',c',h1,h2⟩:=h.2 k hlt;have e:(ls++[l]).getD k []=ls.getD k []:=by simp[List.getElem?_append_left hlt]
  rw[e];exact⟨A',c',by rw[List.getElem?_append_left (by rw[h.1];exact hlt)];exact h1,h2⟩
 ·have hke:k=ls.length:=by simp at hk;omega
  subst hke;have e:(ls++[l]).getD ls.length []=l:=by simp
  rw[e];exact⟨A,c,by rw[←h.1];simp,hr⟩
theorem jC.of_own{w:World}{base B n c:Nat}{e:TypeId}{A:Option Addr}{xs:List Value}{ls:List (List Int)}(h:w.ownsRow base e 1 (.slice A n c) n xs)(hs:yp w B xs ls)(hB:B≤w.heap.size):jC w w.heap.size A ls:=by
 intro hp;have hr:=qi.of_own h;have hx:=hs.1;have hn:xs.length=n:=by have:=h.1;simpa using this
 obtain⟨b,o,e,hb,hc⟩:=hr.2 (by omega);refine⟨b,o,e,hb,fun k hk=>?_⟩;obtain⟨Ak,ck,h1,h2⟩:=hs.2 k hk;exact⟨Ak,ck,hc k _ h1,h2.more hB⟩
def val:List Nat→Nat
 |[]=>0
 |d::ds=>d+4294967296*val ds
def qP(ds:List Nat):Prop:=∀d∈ds,d<4294967296
def dig(v:Nat):List Nat:=if v=0 then[]else(v%4294967296)::dig (v/4294967296)
 termination_by v
 decreasing_by omega
theorem qt:dig 0=[]:=by unfold dig;simp
theorem JT{v:Nat}(h:v≠0):dig v=(v%4294967296)::dig (v/4294967296):=by rw[dig];simp[h]
theorem qp(v:Nat):val (dig v)=v:=by
 induction v using Nat.strongRecOn with
 |_ v ih=>
  by_cases h:v=0
  ·subst h;simp[qt,val]
  ·rw[JT h];simp only[val];rw[ih (v/4294967296) (by omega)];omega
theorem qu(v:Nat):qP (dig v):=by
 induction v using Nat.strongRecOn with
 |_ v ih=>
  by_cases h:v=0
  ·subst h;simp[qt,qP]
  ·rw[JT h];intro d hd;rcases List.mem_cons.1 hd with rfl|hd
   ·exact Nat.mod_lt _ (by decide)
   ·exact ih (v/4294967296) (by omega) d hd
theorem qfL{v:Nat}:dig v=[]↔v=0:=by
 constructor
 ·intro h;have:=qp v;rw[h]at this;exact this.symm
 ·rintro rfl;exact qt
theorem Js{v:Nat}:(dig v).length=0↔v=0:=by rw[List.length_eq_zero_iff,qfL]
def qhW(ds:List Nat):Prop:=∀h:ds≠[],ds.getLast h≠0
theorem JW{ds:List Nat}(h:qhW ds)(hne:ds≠[]):val ds≠0:=by
 induction ds with
 |nil=>exact absurd rfl hne
 |cons d ds ih=>
  by_cases he:ds=[]
  ·subst he;have:=h (by simp);simp at this;simp[val];exact this
  ·have h2:qhW ds:=fun hn=>by have:=h (by simp);rwa[List.getLast_cons hn]at this
   have:=ih h2 he;simp only[val];omega
theorem qfY{ds:List Nat}(hd:qP ds)(h:qhW ds):dig (val ds)=ds:=by
 induction ds with
 |nil=>simp[val,qt]
 |cons d ds ih=>
  have hne:=JW h (by simp);have hlt:d<4294967296:=hd d (by simp);rw[JT hne];simp only[val];have e1:(d+4294967296*val ds)%4294967296=d:=by omega
  have e2:(d+4294967296*val ds)/4294967296=val ds:=by omega
  rw[e1,e2];by_cases he:ds=[]
  ·subst he;simp[val,qt]
  ·rw[ih (fun x hx=>hd x (by simp[hx])) (fun hn=>by have:=h (by simp);rwa[List.getLast_cons hn]at this)]
theorem qaD(v:Nat):qhW (dig v):=by
 induction v using Nat.strongRecOn with
 |_ v ih=>
  by_cases h:v=0
  ·subst h;simp[qt,qhW]
  ·rw[JT h];intro hn;by_cases he:dig (v/4294967296)=[]
   ·simp[he];have:=qfL.1 he;omega
   ·rw[List.getLast_cons he];exact ih _ (by omega) he
theorem qL(a b:List Nat):val (a++b)=val a+4294967296^a.length*val b:=by
 induction a with
 |nil=>simp[val]
 |cons d a ih=>
  simp only[List.cons_append,val,ih,List.length_cons,Nat.pow_succ];rw[Nat.mul_add,Nat.mul_comm (4294967296^a.length) 4294967296,Nat.mul_assoc];omega
theorem qT{ds:List Nat}(h:qP ds):val ds<4294967296^ds.length:=by
 induction ds with
 |nil=>simp[val]
 |cons d ds ih=>
  have h1:d<4294967296:=h d (by simp);have h2:=ih (fun x hx=>h x (by simp[hx]));simp only[val,List.length_cons,Nat.pow_succ];generalize 4294967296^ds.length=p at*;omega
theorem yd(n:Nat):val (List.replicate n 0)=0:=by
 induction n with
 |zero=>rfl
 |succ n ih=>simp[List.replicate_succ,val,ih]
theorem qjd{ds:List Nat}(h:∀d∈ds,d=0):val ds=0:=by
 rw[List.eq_replicate_iff.2 ⟨rfl,h⟩];exact yd _
theorem qx{ds:List Nat}{k:Nat}(hk:k<ds.length):val (ds.take (k+1))=val (ds.take k)+4294967296^k*ds.getD k 0:=by
 rw[List.take_add_one,qL,List.length_take,Nat.min_eq_left (Nat.le_of_lt hk),List.getElem?_eq_getElem hk];simp[val,List.getElem?_eq_getElem hk]
theorem Jb{ds:List Nat}{k:Nat}(hk:k<ds.length)(x:Nat):val (ds.set k x)+4294967296^k*ds.getD k 0=val ds+4294967296^k*x:=by
 induction ds generalizing k with
 |nil=>simp at hk
 |cons d ds ih=>
  cases k with
  |zero=>simp[val];omega
  |succ k=>
   have:=ih (k:=k) (by simpa using hk);simp only[List.set_cons_succ,val,List.getD_cons_succ,Nat.pow_succ];have e:∀y,4294967296^k*4294967296*y=4294967296*(4294967296^k*y):=fun y=>by rw[Nat.mul_comm (4294967296^k),Nat.mul_assoc]
   rw[e,e];generalize 4294967296^k*ds.getD k 0=u at*;generalize 4294967296^k*x=v at*;omega
theorem qfe{ds:List Nat}(hd:qP ds){n:Nat}(hn:n≤ds.length)(hz:∀k,n≤k→k<ds.length→ds.getD k 0=0)(hl:n=0∨ds.getD (n-1) 0≠0):ds.take n=dig (val ds):=by
 have h0:val (ds.drop n)=0:=qjd fun d hd=>by
  obtain⟨k,hk,e⟩:=List.getElem_of_mem hd;have hk':n+k<ds.length:=by simp at hk;omega
  have:=hz (n+k) (by omega) hk';rw[List.getD_eq_getElem?_getD,List.getElem?_eq_getElem hk']at this;rw[←e,List.getElem_drop];simpa using this
 have e:val ds=val (ds.take n):=by
  conv=>lhs;rw[←List.take_append_drop n ds]
  rw[qL,h0];simp
 rw[e,qfY (fun x hx=>hd x (List.mem_of_mem_take hx))];intro hne;rcases hl with rfl|hl
 ·simp at hne
 ·have hn0:0<n:=by
   rcases Nat.eq_zero_or_pos n with rfl|h
   ·simp at hne
   ·exact h
  have hlt:n-1<ds.length:=by omega
  rw[List.getLast_eq_getElem];rw[List.getD_eq_getElem?_getD,List.getElem?_eq_getElem hlt]at hl;simp[Nat.min_eq_left hn];simpa using hl
theorem qd9{ds:List Nat}(hd:qP ds):dig (val ds)=ds.take (dig (val ds)).length:=by
 induction ds with
 |nil=>simp[val,qt]
 |cons d ds ih=>
  have hlt:d<4294967296:=hd d (by simp);have ih:=ih (fun x hx=>hd x (by simp[hx]));by_cases h:val (d::ds)=0
  ·rw[h,qt];rfl
  ·rw[JT h];have e1:val (d::ds)%4294967296=d:=by simp only[val];omega
   have e2:val (d::ds)/4294967296=val ds:=by simp only[val];omega
   rw[e1,e2];simp only[List.length_cons,List.take_succ_cons];rw[←ih]
theorem qo{ds:List Nat}(hd:qP ds):(dig (val ds)).length≤ds.length:=by
 rcases Nat.lt_or_ge ds.length (dig (val ds)).length with h|h
 ·exfalso;have hne:dig (val ds)≠[]:=by intro h0;rw[h0]at h;simp at h
  have h1:=qaD (val ds) hne;have h2:val (dig (val ds))=val ds:=qp _;have h3:=qT hd;have h4:4294967296^((dig (val ds)).length-1)≤val (dig (val ds)):=by
   generalize dig (val ds)=es at*;have e:es=es.take (es.length-1)++[es.getLast hne]:=by
    rw[←List.dropLast_eq_take];exact(List.dropLast_concat_getLast hne).symm
   rw[e,qL];simp only[val,List.length_take,List.length_append,List.length_singleton];have e2:min (es.length-1) es.length=es.length-1:=by omega
   rw[e2,Nat.add_sub_cancel];have:4294967296^(es.length-1)*1≤4294967296^(es.length-1)*(es.getLast hne+4294967296*0):=Nat.mul_le_mul_left _ (by omega);omega
  have h5:4294967296^ds.length≤4294967296^((dig (val ds)).length-1):=Nat.pow_le_pow_right (by decide) (by omega);omega
 ·exact h
theorem qC{v n:Nat}(h:v<4294967296^n):(dig v).length≤n:=by
 have aux:∀(n v:Nat),v<4294967296^n→∃ds,qP ds∧ds.length=n∧val ds=v:=by
  intro n
  induction n with
  |zero=>intro v h;exact⟨[],by simp[qP],rfl,by simp[val]at *; omega⟩
  |succ n ih=>
   intro v h;rw[Nat.pow_succ]at h;obtain⟨ds,h1,h2,h3⟩:=ih (v/4294967296) (by rw[Nat.div_lt_iff_lt_mul (by decide)];exact h);exact⟨(v%4294967296)::ds,fun d hd=>by rcases List.mem_cons.1 hd with rfl|hd;exact Nat.mod_lt _ (by decide);exact h1 d hd,by simp[h2],by simp only[val,h3];omega⟩
 obtain⟨ds,h1,h2,h3⟩:=aux n v h;rw[←h3,←h2];exact qo h1
open Go.RowKit
def qf(ds:List Nat):List Value:=ds.map fun(d:Nat)=>Value.int .u32 (d:Int)
theorem jj{w:World}{B:Nat}{A:Option Addr}{ds:List Nat}(h:qi w B 1 A ds.length (qf ds)){k:Nat}(hk:k<ds.length):∃b o,A=some ⟨b,o,none⟩∧b<B∧w.cell? ⟨b,o+k,none⟩=some (.int .u32 ((ds.getD k 0:Nat):Int)):=by
 obtain⟨b,o,e,hb,hc⟩:=h.2 (by omega);refine⟨b,o,e,hb,hc _ _ ?_⟩;simp[qf,List.getElem?_eq_getElem hk]
set_option maxHeartbeats 400000
theorem qU(A:Option Addr)(c B:Nat)(ds:List Nat)(w:World)(hc:ds.length≤c)(hm:ds.length≤1000000)(hr:qi w B 1 A ds.length (qf ds))(hd:qP ds):
 Calls Tryz.prog 77 #[.slice A ds.length c] w fun e w'=>e= .returned (.slice A (dig (val ds)).length c)∧w=w':=by
 have HD:=Lib.hid hd;clear hd;go_enter Tryz.func77,Tryz.ntmps77
 go_wp2
 go_loopg [3] ds.length (fun gn i wr=>∃(k:Nat),k≤ds.length∧gn=k∧i= .int .i64 k∧(∀j,k≤j→j<ds.length→ds.getD j 0=0)∧w=wr)
 case atStart=>exact⟨_,Nat.le_refl _,rfl,rfl,fun j h1 h2=>by omega,rfl⟩
 case round=>
  obtain⟨k,hk,hgk,rfl,hz,rfl⟩:=hrel;have HG:=Lib.hid hgk;clear hgk;have HZ:=Lib.hid hz;clear hz;by_cases h0:0<k
  ·obtain⟨k,rfl⟩:∃k',k=k'+1:=⟨k-1,by omega⟩;obtain⟨b1,o1,rfl,q1,c1⟩:=jj hr (k:=k) (by omega);have i1:(k:Int)<ds.length:=by omega
   have hkk:((k+1:Nat):Int)-1=(k:Int):=by omega
   by_cases hx:ds.getD k 0=0
   ·have HX:=Lib.hid hx;rw[hx]at c1;clear hx;go_wp2
    go_roundg k
    case rel=>exact⟨k,by omega,rfl,by go_num,fun j h1 h2=>by
     by_cases h:j=k
     ·subst h;exact HX.out
     ·exact HZ.out j (by omega) h2,rfl⟩
    case measure=>have:=HG.out;omega
   ·have HX:=Lib.hid hx;clear hx;have hb:(((ds.getD k 0:Nat):Int)==0)=false:=by have:=HX.out;simp;exact this
    have HE:=Lib.hid (congrArg List.length (qfe HD.out hk HZ.out (.inr (by simpa using HX.out))));generalize ds.getD k 0=x at*;go_wp2
    go_ret
    refine⟨?_,rfl⟩;rw[←HE.out];simp[Nat.min_eq_left hk]
  ·obtain rfl:k=0:=by omega
   have HE:=Lib.hid (congrArg List.length (qfe HD.out hk HZ.out (.inl rfl)));go_wp2
   go_ret
   refine⟨?_,rfl⟩;rw[←HE.out];simp
theorem Tryz.infoU32:(Tryz.prog.info? 134).map (fun i=>(i.zero,i.size,i.bytes))=some (some (.int .u32 0),1,4):=by kernel_rfl
theorem qZ{P:Program}{t:TypeId}{z:Option Value}{s b:Nat}(h:(P.info? t).map (fun i=>(i.zero,i.size,i.bytes))=some (z,s,b)):∃i,P.info? t=some i∧i.zero=z∧i.size=s∧i.bytes=b:=by
 cases hi:P.info? t with
 |none=>rw[hi]at h;cases h
 |some i=>rw[hi]at h;simp at h;exact⟨i,rfl,h.1,h.2.1,h.2.2⟩
theorem qgh(n:Nat):madeCells #[Value.int .u32 0] n=(qf (List.replicate n 0)).toArray:=by
 apply Array.ext';rw[toList_madeCells_one];simp[qf]
theorem je(l:List Nat)(i x:Nat):(qf l).toArray.setIfInBounds i (.int .u32 (x:Int))=(qf (l.set i x)).toArray:=by simp[qf,List.map_set]
theorem jn(l:List Nat)(i:Nat)(h:i<l.length):(qf l).toArray[i]? =some (.int .u32 ((l.getD i 0:Nat):Int)):=by simp[qf,List.getElem?_eq_getElem h]
theorem Qc(l:List Nat):∀v∈qf l,v.oneCell'=true:=by
 intro v hv;simp[qf]at hv;obtain⟨a,_,rfl⟩:=hv;rfl
theorem qcl{P:Program}(t e:TypeId)(i:TypeInfo)(ht:P.underlying t=some (.slice e))(hi:P.info? e=some i)(hz:i.zero=some (.int .u32 0))(hs:i.size=1)(hb:i.bytes=4)(n:Nat)(hn:n≤1000000)(w:World):
 (Instr.makeSlice t (.int .i64 (n:Int)) (.int .i64 (n:Int))).run P w= .ok (.slice (some ⟨w.heap.size,0,none⟩) n n) (w.alloc (.cells (qf (List.replicate n 0)).toArray e)):=by
 have hr:=run_make (P:=P) w t e i (.int .u32 0) ht hi hz .i64 .i64 n n (by omega) (by omega) (by rw[hb];omega) (by omega);simp only[Int.toNat_natCast,hs,Nat.mul_one,Value.cells]at hr;rw[hr,qgh]
theorem Tryz.make_u32(n:Nat)(hn:n≤1000000)(w:World):(Instr.makeSlice 23 (.int .i64 (n:Int)) (.int .i64 (n:Int))).run Tryz.prog w= .ok (.slice (some ⟨w.heap.size,0,none⟩) n n) (w.alloc (.cells (qf (List.replicate n 0)).toArray 134)):=by
 obtain⟨i0,hi0,hz0,hz1,hz2⟩:=qZ Tryz.infoU32;exact qcl 23 134 i0 Tryz.underlying23 hi0 hz0 hz1 hz2 n hn w
theorem Tryz.size_u32:(Tryz.prog.info? 134).map (·.size)=some 1:=by kernel_rfl
def qk(w:World)(A:Option Addr)(ds:List Nat):Prop:=ds=[]∨∃g zs,A=some ⟨g,0,none⟩∧qd w g 134 (qf zs).toArray∧ds=zs.take ds.length
def jT(v:Nat)(w:World)(e:Ending)(w':World):Prop:=
 ∃A c,e= .returned (.slice A (dig v).length c)∧(dig v).length≤c∧qk w' A (dig v)∧Below w.heap.size w w'
theorem qd.reads{w:World}{g:Nat}{t:TypeId}{l:List Nat}(h:qd w g t (qf l).toArray)(n:Nat)(hn:n≤l.length):qi w w.heap.size 1 (some ⟨g,0,none⟩) n (qf (l.take n)):=by
 refine⟨by simp[qf,Nat.min_eq_left hn],fun _=>⟨g,0,rfl,h.lt,fun j u hu=>?_⟩⟩;rw[Nat.zero_add,h.cell];simp[qf,List.getElem?_take]at hu ⊢;exact hu.2
theorem jo{w:World}{B:Nat}{A:Option Addr}{ds:List Nat}(h:qi w B 1 A ds.length (qf ds))(hd:qP ds):qi w B 1 A (dig (val ds)).length (qf (dig (val ds))):=by
 have hle:=qo hd;refine⟨by simp[qf],fun hp=>?_⟩;obtain⟨b,o,e,hb,hc⟩:=h.2 (by omega);refine⟨b,o,e,hb,fun j u hu=>hc j u ?_⟩;rw[qd9 hd]at hu;simp[qf,List.getElem?_take]at hu ⊢;exact hu.2
theorem qk.reads{w:World}{A:Option Addr}{ds:List Nat}(h:qk w A ds):qi w w.heap.size 1 A ds.length (qf ds):=by
 rcases h with rfl|⟨g,zs,rfl,hb,he⟩
 ·exact qi.none_
 ·have hl:ds.length≤zs.length:=by have:=congrArg List.length he;simp at this;omega
  have:=hb.reads ds.length hl;rwa[←he]at this
theorem qk.of_blk{w:World}{g:Nat}{zs:List Nat}(h:qd w g 134 (qf zs).toArray):qk w (some ⟨g,0,none⟩) zs:= .inr ⟨g,zs,rfl,h,by simp⟩
theorem qk.dig{w:World}{A:Option Addr}{ds:List Nat}(h:qk w A ds)(hd:qP ds):qk w A (dig (val ds)):=by
 rcases h with rfl|⟨g,zs,rfl,hb,he⟩
 ·left;simp[val,qt]
 ·right;refine⟨g,zs,rfl,hb,?_⟩;have h1:=qd9 hd;have h2:=qo hd;rw[he,List.take_take,←he,Nat.min_eq_left h2]at h1;exact h1
theorem qk.keep{w w':World}{A:Option Addr}{ds:List Nat}(h:qk w A ds)(hk:∀g cs,qd w g 134 cs→qd w' g 134 cs):qk w' A ds:=by
 rcases h with rfl|⟨g,zs,rfl,hb,he⟩
 ·exact .inl rfl
 ·exact .inr ⟨g,zs,rfl,hk _ _ hb,he⟩
theorem qk.old{w w':World}{A:Option Addr}{ds:List Nat}(h:qk w A ds)(hb:Below w.heap.size w w'):qk w' A ds:=h.keep fun _ _ k=>k.old hb
def zE(b:Nat)(w:World)(A:Option Addr)(ds:List Nat):Prop:=ds=[]∨∃g zs,A=some ⟨g,0,none⟩∧b≤g∧qd w g 134 (qf zs).toArray∧ds=zs.take ds.length
theorem zE.nat{b:Nat}{w:World}{A:Option Addr}{ds:List Nat}(h:zE b w A ds):qk w A ds:=by
 rcases h with rfl|⟨g,zs,rfl,_,hb,he⟩
 ·exact .inl rfl
 ·exact .inr ⟨g,zs,rfl,hb,he⟩
theorem zE.of_blk{b:Nat}{w:World}{g:Nat}{zs:List Nat}(hg:b≤g)(h:qd w g 134 (qf zs).toArray):zE b w (some ⟨g,0,none⟩) zs:= .inr ⟨g,zs,rfl,hg,h,by simp⟩
theorem zE.of_nat{b g:Nat}{w:World}{ds:List Nat}(hg:b≤g)(h:qk w (some ⟨g,0,none⟩) ds):zE b w (some ⟨g,0,none⟩) ds:=by
 rcases h with rfl|⟨g',zs,e,hb,he⟩
 ·exact .inl rfl
 ·injection e with e;injection e with e _;subst e;exact .inr ⟨_,zs,rfl,hg,hb,he⟩
theorem zE.old{b:Nat}{w w':World}{A:Option Addr}{ds:List Nat}(h:zE b w A ds)(hb:Below w.heap.size w w'):zE b w' A ds:=by
 rcases h with rfl|⟨g,zs,rfl,hg,hk,he⟩
 ·exact .inl rfl
 ·exact .inr ⟨g,zs,rfl,hg,hk.old hb,he⟩
theorem zE.dig{b:Nat}{w:World}{A:Option Addr}{ds:List Nat}(h:zE b w A ds)(hd:qP ds):zE b w A (dig (val ds)):=by
 rcases h with rfl|⟨g,zs,rfl,hg,hb,he⟩
 ·left;simp[val,qt]
 ·exact .of_nat hg (qk.dig (.inr ⟨g,zs,rfl,hb,he⟩) hd)
def qcw(v:Nat)(w:World)(e:Ending)(w':World):Prop:=
 ∃A c,e= .returned (.slice A (dig v).length c)∧(dig v).length≤c∧zE w.heap.size w' A (dig v)∧Below w.heap.size w w'
theorem qcw.res{v:Nat}{w:World}{e:Ending}{w':World}(h:qcw v w e w'):jT v w e w':=by
 obtain⟨A,c,h1,h2,h3,h4⟩:=h;exact⟨A,c,h1,h2,h3.nat,h4⟩
set_option maxRecDepth 100000
theorem yq(A:Option Addr)(c B:Nat)(ds:List Nat)(w:World)(hB:B≤w.heap.size)(hc:ds.length≤c)(hm:ds.length≤1000000)(hr:qi w B 1 A ds.length (qf ds))(hd:qP ds):
 Calls Tryz.prog 107 #[.slice A ds.length c] w (jT (val ds) w):=by
 have hcl:=qU A c B ds w hc hm hr hd;have hle:=qo hd;have hrd:=jo hr hd;unfold jT;generalize dig (val ds)=es at*;have hmk:=fun(W:World)=>Tryz.make_u32 es.length (by omega) W;have HCL:=Lib.hid hcl;clear hcl hr hd;go_enter Tryz.func107,Tryz.ntmps107
 have hsrc:0<(qf es).length→∃ad,A=some ad∧∀j v,(qf es)[j]? =some v→(w.alloc (.cells (qf (List.replicate es.length 0)).toArray 134)).cell? (ad.add j)=some v:=fun hp=>by
  obtain⟨b,o,e,hb,hcl⟩:=hrd.2 (by simpa[qf]using hp);refine⟨⟨b,o,none⟩,e,fun j v hv=>?_⟩;have h1:=hcl j v hv;have h2:=((Below.refl B w).alloc hB (.cells (qf (List.replicate es.length 0)).toArray 134)).cell (p:=⟨b,o+j,none⟩) hb;have e3:(⟨b,o,none⟩:Addr).add j=⟨b,o+j,none⟩:=by simp[Addr.add]
  rw[e3];exact h2.trans h1
 have hlen:(qf es).length=Nat.min es.length es.length:=by simp[qf]
 have hbl:Below w.heap.size w (w.alloc (.cells (qf (List.replicate es.length 0)).toArray 134)):=(Below.refl _ w).alloc (Nat.le_refl _) _;have hfit:0+(qf es).length≤(qf (List.replicate es.length 0)).length:=by simp[qf]
 have HSRC:=Lib.hid hsrc;have HLEN:=Lib.hid hlen;have HBL:=Lib.hid hbl;clear hsrc hlen hbl;go_wp2_with (first|(go_at_call 77;refine HCL.out.mono ?_;rintro e w1 ⟨rfl,rfl⟩)|(refine wpList_copy_splice (o:=⟨some 11,_,_,_,_,_⟩) rfl (.tmp 9) (.tmp 10) 23 23 rfl 134 Tryz.underlying23 Tryz.size_u32 _ _ es.length es.length es.length c rfl rfl w.heap.size 0 _ 134 (heap_alloc_new w _) (qf es) HLEN.out (fun hp=>⟨rfl,HSRC.out hp⟩) hfit (Qc es) w.heap.size w HBL.out (Nat.le_refl _) ?_;intro w3 hg3 hb3))
 go_ret
 have hsp:splice (qf (List.replicate es.length 0)) 0 (qf es)=qf es:=by simp[splice,qf]
 have hg:qd w3 w.heap.size 134 (qf es).toArray:=by have:=hg3.out;rwa[hsp]at this
 exact⟨_,_,rfl,Nat.le_refl _,.of_blk hg,hb3⟩
theorem QP(A:Option Addr)(c B:Nat)(ds:List Nat)(w:World)(hc:ds.length≤c)(hm:ds.length≤1000000)(hr:qi w B 1 A ds.length (qf ds))(hd:qP ds):
 Calls Tryz.prog 41 #[.slice A ds.length c] w fun e w'=>e= .returned (.bool (val ds==0))∧w=w':=by
 have hcl:=qU A c B ds w hc hm hr hd;have hle:=qo hd;have HZ:=Lib.hid (@Js (val ds));have HCL:=Lib.hid hcl;clear hcl hr hd;go_enter Tryz.func41,Tryz.ntmps41
 by_cases h0:(dig (val ds)).length=0
 ·have HZ0:=Lib.hid (HZ.out.1 h0);have hb:(((dig (val ds)).length:Int)==0)=true:=by rw[h0];rfl
  clear h0;go_wp2_with (first|(go_at_call 77;refine HCL.out.mono ?_;rintro e w1 ⟨rfl,rfl⟩))
  go_ret
  refine⟨?_,rfl⟩;rw[HZ0.out];rfl
 ·have hz:val ds≠0:=fun h=>h0 (HZ.out.2 h);have hb:(((dig (val ds)).length:Int)==0)=false:=by simpa using h0
  go_wp2_with (first|(go_at_call 77;refine HCL.out.mono ?_;rintro e w1 ⟨rfl,rfl⟩))
  go_ret
  refine⟨?_,rfl⟩;simpa using hz
open Go.RowKit
theorem JS{a b:Nat}(h:(dig a).length<(dig b).length):a<b:=by
 rcases Nat.lt_or_ge a b with h'|h'
 ·exact h'
 ·exfalso;have h1:=qT (qu a);rw[qp]at h1;have:=qC (v:=b) (n:=(dig a).length) (by omega);omega
def Jy(a b:Nat):Int:=if a<b then -1 else if b<a then 1 else 0
theorem qby{a:List Nat}{k:Nat}(hk:k<a.length):val a=val (a.take k)+4294967296^k*(a.getD k 0+4294967296*val (a.drop (k+1))):=by
 have e:a=a.take k++(a.getD k 0::a.drop (k+1)):=by
  rw[List.getD_eq_getElem?_getD,List.getElem?_eq_getElem hk,Option.getD_some];simp
 conv=>lhs;rw[e]
 rw[qL,List.length_take,Nat.min_eq_left (Nat.le_of_lt hk)];rfl
theorem qbG{a b:List Nat}(hl:a.length=b.length){k:Nat}(hk:k<a.length)(ha:qP a)(he:∀j,k<j→j<a.length→a.getD j 0=b.getD j 0)(hx:a.getD k 0<b.getD k 0):val a<val b:=by
 rw[qby hk,qby (a:=b) (k:=k) (by omega)];have e:a.drop (k+1)=b.drop (k+1):=by
  apply List.ext_getElem (by simp[hl]);intro i h1 h2;simp only[List.getElem_drop];have h1':k+1+i<a.length:=by simp at h1;omega
  have:=he (k+1+i) (by omega) h1';rw[List.getD_eq_getElem?_getD,List.getD_eq_getElem?_getD,List.getElem?_eq_getElem h1',List.getElem?_eq_getElem (by omega)]at this;simpa using this
 have h1:=qT (ds:=a.take k) (fun x hx=>ha x (List.mem_of_mem_take hx));rw[List.length_take,Nat.min_eq_left (by omega)]at h1;rw[e];generalize 4294967296^k=p at*;generalize val (b.drop (k+1))=q at*;generalize a.getD k 0=x at*;generalize b.getD k 0=y at*;have h2:p*(x+4294967296*q)+p≤p*(y+4294967296*q):=by
  have:=Nat.mul_le_mul_left p (show x+4294967296*q+1≤y+4294967296*q by omega);rw[Nat.mul_add,Nat.mul_one]at this;exact this
 omega
theorem qf1{a b:List Nat}(hl:a.length=b.length)(he:∀j,j<a.length→a.getD j 0=b.getD j 0):a=b:=by
 apply List.ext_getElem hl;intro i h1 h2;have:=he i h1;rw[List.getD_eq_getElem?_getD,List.getD_eq_getElem?_getD,List.getElem?_eq_getElem h1,List.getElem?_eq_getElem h2]at this;simpa using this
theorem qcm(n:Nat)(hn:n<18446744073709551616)(w:World):Calls Tryz.prog 72 #[.int .u64 (n:Int)] w (jT n w):=by
 have hv:val [n%4294967296,n/4294967296]=n:=by simp only[val];omega
 have hdg:qP [n%4294967296,n/4294967296]:=by
  intro d hd;simp at hd;rcases hd with rfl|rfl<;>omega
 have hb:qd (w.alloc (.cells #[.int .u32 ((n:Int)%4294967296),.int .u32 ((n:Int)/4294967296)] 134)) w.heap.size 134 (qf [n%4294967296,n/4294967296]).toArray:=by
  have:=qd.new w 134 #[.int .u32 ((n:Int)%4294967296),.int .u32 ((n:Int)/4294967296)];simpa[qf]using this
 have hrd:=hb.reads 2 (Nat.le_refl _);have hcl:=yq (some ⟨w.heap.size,0,none⟩) 2 _ [n%4294967296,n/4294967296] _ (Nat.le_refl _) (Nat.le_refl _) (by simp) hrd hdg;rw[hv]at hcl;have HCL:=Lib.hid hcl;clear hcl hrd hb hdg hv;go_enter Tryz.func72,Tryz.ntmps72
 go_wp2_with fail
 refine(HCL.out).mono ?_;rintro e w1 ⟨A,c,rfl,h1,h2,h3⟩;generalize hes:dig n=es at*;have HE:=Lib.hid hes;clear hes;go_wp2_with fail
 go_ret
 refine⟨A,c,?_,?_,?_,((Below.refl w.heap.size w).alloc (Nat.le_refl _) _).trans (h3.mono (by simp))⟩
 ·rw[HE.out];rfl
 ·rw[HE.out];exact h1
 ·rw[HE.out];exact h2
set_option maxHeartbeats 1000000
theorem qcE(A A':Option Addr)(c c' B:Nat)(ds es:List Nat)(w:World)(hc:ds.length≤c)(hc':es.length≤c')(hm:ds.length≤1000000)(hm':es.length≤1000000)
 (hr:qi w B 1 A ds.length (qf ds))(hr':qi w B 1 A' es.length (qf es))(hd:qP ds)(hd':qP es):
 Calls Tryz.prog 137 #[.slice A ds.length c,.slice A' es.length c'] w fun e w'=>e= .returned (.int .i64 (Jy (val ds) (val es)))∧qm w w':=by
 have h1:=qU A c B ds w hc hm hr hd;have h2:=qU A' c' B es w hc' hm' hr' hd';have r1:=jo hr hd;have r2:=jo hr' hd';have l1:=qo hd;have l2:=qo hd';have m1:=@JS (val ds) (val es);have m2:=@JS (val es) (val ds);have g1:=qu (val ds);have g2:=qu (val es);have v1:=qp (val ds);have v2:=qp (val es);generalize val ds=x at*;generalize val es=y at*;generalize dig x=a at*;generalize dig y=b at*;have H1:=Lib.hid h1;have H2:=Lib.hid h2;have M1:=Lib.hid m1;have M2:=Lib.hid m2;have G1:=Lib.hid g1;have G2:=Lib.hid g2;have V1:=Lib.hid v1;have V2:=Lib.hid v2;clear h1 h2 m1 m2 g1 g2 v1 v2 hr hr' hd hd';by_cases hlt:a.length<b.length
 ·go_enter Tryz.func137,Tryz.ntmps137
  go_wp2_with fail
  refine(H1.out).mono ?_;rintro e w1 ⟨rfl,rfl⟩;go_wp2_with fail
  refine(H2.out).mono ?_;rintro e w1 ⟨rfl,rfl⟩;go_wp2_with fail
  go_ret
  have:=M1.out hlt;exact⟨by unfold Jy;rw[if_pos this];rfl,.refl _⟩
 by_cases hgt:b.length<a.length
 ·go_enter Tryz.func137,Tryz.ntmps137
  go_wp2_with fail
  refine(H1.out).mono ?_;rintro e w1 ⟨rfl,rfl⟩;go_wp2_with fail
  refine(H2.out).mono ?_;rintro e w1 ⟨rfl,rfl⟩;go_wp2_with fail
  go_ret
  have:=M2.out hgt;exact⟨by unfold Jy;rw[if_neg (by omega),if_pos this];rfl,.refl _⟩
 have hl:a.length=b.length:=by omega
 have HL:=Lib.hid hl;clear hl;go_enter Tryz.func137,Tryz.ntmps137
 go_wp2_with fail
 refine(H1.out).mono ?_;rintro e w1 ⟨rfl,rfl⟩;go_wp2_with fail
 refine(H2.out).mono ?_;rintro e w1 ⟨rfl,rfl⟩;go_wp2_with fail
 go_loopg [5] a.length (fun gn i wr=>∃(k:Nat),k≤a.length∧gn=k∧i= .int .i64 ((k:Int)-1)∧(∀j,k≤j→j<a.length→a.getD j 0=b.getD j 0)∧qm w wr)
 case atStart=>exact⟨_,Nat.le_refl _,rfl,rfl,fun j h1 h2=>by omega,.refl _⟩
 case round=>
  obtain⟨k,hk,hgk,rfl,hz,hdr⟩:=hrel;have HG:=Lib.hid hgk;clear hgk;have HZ:=Lib.hid hz;clear hz;by_cases h0:0<k
  ·obtain⟨k,rfl⟩:∃k',k=k'+1:=⟨k-1,by omega⟩;have hlb:=HL.out;obtain⟨b1,o1,rfl,q1,c1⟩:=jj (r1.drawn hdr) (k:=k) (by omega);obtain⟨b2,o2,rfl,q2,c2⟩:=jj (r2.drawn hdr) (k:=k) (by omega);have i1:(k:Int)<a.length:=by omega
   have i2:(k:Int)<b.length:=by omega
   have ek:((k+1:Nat):Int)-1=(k:Int):=by omega
   clear hlb;rw[ek];have HA:=Lib.hid (@qbG a b HL.out k (by omega) G1.out);have HB:=Lib.hid (@qbG b a HL.out.symm k (by omega) G2.out);have HX:Hid (∃x y,x=a.getD k 0∧y=b.getD k 0):=⟨_,_,rfl,rfl⟩;generalize hxa:a.getD k 0=xa at*;generalize hxb:b.getD k 0=xb at*;have HXA:=Lib.hid hxa;have HXB:=Lib.hid hxb;clear hxa hxb HX;rcases Nat.lt_trichotomy xa xb with h|h|h
   ·go_wp2
    go_quiet (fail)
    go_wp2
    go_ret
    refine⟨?_,hdr.trans (.drewN _ _)⟩;have hv:x<y:=by
     rw[←V1.out,←V2.out];exact HA.out (fun j h1 h2=>HZ.out j (by omega) h2) h
    unfold Jy;rw[if_pos hv];rfl
   ·subst h;go_wp2
    go_quiet (fail)
    go_wp2
    go_quiet (fail)
    go_wp2
    go_roundg k
    case rel=>exact⟨k,by omega,rfl,rfl,fun j h1 h2=>by
     by_cases hj:j=k
     ·subst hj;rw[HXA.out,HXB.out]
     ·exact HZ.out j (by omega) h2,hdr.trans (.drewN _ _)⟩
    case measure=>have:=HG.out;omega
   ·go_wp2
    go_quiet (fail)
    go_wp2
    go_quiet (fail)
    go_wp2
    go_ret
    refine⟨?_,(hdr.trans (.drewN _ _)).trans (.drewN _ _)⟩;have hv:y<x:=by
     rw[←V1.out,←V2.out];exact HB.out (fun j h1 h2=>(HZ.out j (by omega) (by have:=HL.out;omega)).symm) h
    unfold Jy;rw[if_neg (by omega),if_pos hv];rfl
  ·obtain rfl:k=0:=by omega
   go_wp2
   go_ret
   refine⟨?_,hdr⟩;have hv:x=y:=by
    rw[←V1.out,←V2.out,qf1 HL.out (fun j h=>HZ.out j (by omega) h)]
   unfold Jy;rw[if_neg (by omega),if_neg (by omega)];rfl
open Go.RowKit
theorem qj1{n:Nat}(h:n<4294967296):n.testBit 31=decide (2147483648≤n):=by
 rw[Nat.testBit_eq_decide_div_mod_eq]
 congr 1
 simp only[eq_iff_iff];omega
theorem qlT{n:Nat}(h:n<4294967296):n/2147483648=if n.testBit 31 then 1 else 0:=by
 rw[qj1 h];by_cases h1:2147483648≤n
 ·simp[h1];omega
 ·simp[h1];omega
theorem qcy{x y c d:Nat}(hx:x<4294967296)(hy:y<4294967296)(hc:c≤1)(hd:d=(x+4294967296-y-c)%4294967296):
 (((4294967295 ^^^ x) &&& y) ||| ((4294967295 ^^^ (x ^^^ y)) &&& d))/2147483648=if x<y+c then 1 else 0:=by
 have hd':d<4294967296:=by omega
 have hn:(((4294967295 ^^^ x) &&& y) ||| ((4294967295 ^^^ (x ^^^ y)) &&& d))<4294967296:=
  Nat.or_lt_two_pow (n:=32) (Nat.and_lt_two_pow _ hy) (Nat.and_lt_two_pow _ hd')
 rw[qlT hn];have e0:(4294967295:Nat).testBit 31=true:=by decide
 rw[Nat.testBit_or,Nat.testBit_and,Nat.testBit_and,Nat.testBit_xor,Nat.testBit_xor,Nat.testBit_xor,e0,qj1 hx,qj1 hy,qj1 hd'];by_cases h1:2147483648≤x<;>by_cases h2:2147483648≤y<;>by_cases h3:2147483648≤d<;>by_cases h4:x<y+c<;>simp[h1,h2,h3,h4]<;>omega
theorem qeX{x y c:Nat}(hx:x<4294967296)(hy:y<4294967296)(hc:c≤1):
 bits BinOp.or IntKind.u32 (bits BinOp.and IntKind.u32 (bits BinOp.xor IntKind.u32 IntKind.u32.max (x:Int)) (y:Int))
  (bits BinOp.and IntKind.u32 (bits BinOp.xor IntKind.u32 IntKind.u32.max (bits BinOp.xor IntKind.u32 (x:Int) (y:Int))) (((x:Int)-y-c)%4294967296))/2147483648=((if x<y+c then 1 else 0:Nat):Int):=by
 have e0:IntKind.u32.max=((4294967295:Nat):Int):=by decide
 have e1:((x:Int)-y-c)%4294967296=(((x+4294967296-y-c)%4294967296:Nat):Int):=by omega
 have b1:(4294967295 ^^^ x)<4294967296:=Nat.xor_lt_two_pow (n:=32) (by decide) hx;have b2:(x ^^^ y)<4294967296:=Nat.xor_lt_two_pow (n:=32) hx hy;have b3:(4294967295 ^^^ (x ^^^ y))<4294967296:=Nat.xor_lt_two_pow (n:=32) (by decide) b2;have b4:(x+4294967296-y-c)%4294967296<4294967296:=by omega
 rw[e0,e1,u32_xor_nat _ _ (by decide) hx,u32_xor_nat _ _ hx hy,u32_xor_nat _ _ (by decide) b2,u32_and_nat _ _ b1 hy,u32_and_nat _ _ b3 b4,
  u32_or_nat _ _ (Nat.and_lt_two_pow (n:=32) _ hy) (Nat.and_lt_two_pow (n:=32) _ b4),←qcy hx hy hc rfl]
 rfl
set_option maxHeartbeats 400000
theorem yu(x y c:Nat)(hx:x<4294967296)(hy:y<4294967296)(hc:c≤1)(w:World):
 Calls Tryz.prog 151 #[.int .u32 (x:Int),.int .u32 (y:Int),.int .u32 (c:Int)] w fun e w'=>e= .returned (.tuple #[.int .u32 (((x+y+c)%4294967296:Nat):Int),.int .u32 (((x+y+c)/4294967296:Nat):Int)])∧w=w':=by
 go_enter Tryz.func151,Tryz.ntmps151
 go_wp2
 go_ret2
 exact⟨rfl,rfl⟩
theorem YF(x y c:Nat)(hx:x<4294967296)(hy:y<4294967296)(hc:c≤1)(w:World):
 Calls Tryz.prog 153 #[.int .u32 (x:Int),.int .u32 (y:Int),.int .u32 (c:Int)] w fun e w'=>e= .returned (.tuple #[.int .u32 (((x+4294967296-y-c)%4294967296:Nat):Int),.int .u32 ((if x<y+c then 1 else 0:Nat):Int)])∧w=w':=by
 have hb:=Lib.hid (qeX hx hy hc);have he:=Lib.hid (show((x:Int)-y-c)%4294967296=(((x+4294967296-y-c)%4294967296:Nat):Int)by omega);generalize (if x<y+c then 1 else 0:Nat)=o at*;generalize (x+4294967296-y-c)%4294967296=d at*;go_enter Tryz.func153,Tryz.ntmps153
 go_wp2
 go_ret2
 refine⟨?_,rfl⟩;rw[←hb.out,←he.out];rfl
