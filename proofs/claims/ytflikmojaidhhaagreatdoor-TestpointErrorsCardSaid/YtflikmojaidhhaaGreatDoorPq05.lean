import Derived.Maps.Own
import Derived.Maps.OwnOps
import Derived.Maps.OwnSet
import Derived.DeepKeys4
import Derived.StillTailTactics
import Derived.RangeFuncOwn
import Derived.Test.YtflikmojaidhhaaGreatDoorPq04
import Derived.Test.YtflikmojaidhhaaGreatDoorPqA
namespace Go.Proofs.YtflikmojaidhhaaGreatDoor
open Go.RowKit Go.Maps
def WfI(x:Int):Prop:=-9223372036854775808<=x/\x<=9223372036854775807
def WfM(m:Mo):Prop:=WfI m.1/\WfI m.2.1/\WfI m.2.2.1/\WfI m.2.2.2
theorem qaZ{x:Int}(h:WfI x):(Lit.int .i64 x).wf=true:=by
 obtain⟨h1,h2⟩:=h;simp[Lit.wf,IntKind.min,IntKind.max,IntKind.signed,IntKind.bits];omega
theorem Tryz.laidOut:laidOutB Tryz.prog=true:=by kernel_rfl
theorem Tryz.rowMono:(111:TypeId)<Tryz.prog.types.size:=of_decide_eq_true (by kernel_rfl)
theorem Tryz.wideMono:(match Tryz.prog.underlying 111 with|some (.array _ _)|some (.struct _)=>true|_=>false)=true:=by rw[Tryz.underlying111]
set_option maxRecDepth 100000
theorem Tryz.keyAt2:Tryz.prog.keyTypeAt 2 111=true:=by kernel_rfl
theorem Tryz.lawMono:Keyed Tryz.prog 111:=Keyed.of_law (deep_law_laid Tryz.laidOut (m:=2) (by decide) Tryz.rowMono Tryz.keyAt2 Tryz.wideMono)
theorem Tryz.cellsMono:Tryz.prog.cellsOf 111=4:=by kernel_rfl
theorem Tryz.cellsI:Tryz.prog.cellsOf 3=1:=by kernel_rfl
theorem Tryz.keyTMono:Tryz.prog.keyType 111=true:=by kernel_rfl
theorem Tryz.zeroI(w:World):(zeroValue 3).run Tryz.prog w= .ok (.int .i64 0) w:=by kernel_rfl
theorem qk9{a n:Nat}(h:a<n):∃k,n=k+1:=⟨n-1,by omega⟩
theorem Tryz.typesPos:∃n,Tryz.prog.types.size=n+1:=qk9 Tryz.rowMono
theorem qk1(m:Mo)(h:WfM m):∃l,keyOf Tryz.prog 111 (.agg (Jv m))=some l:=by
 obtain⟨h0,h1,h2,h3⟩:=h;have w0:=qaZ h0;have w1:=qaZ h1;have w2:=qaZ h2;have w3:=qaZ h3;obtain⟨n,hn⟩:=Tryz.typesPos;have hf:(Value.agg (Jv m)).formed Tryz.prog 111=true:=by simp[Value.formed,Tryz.underlying111,Tryz.cellsMono,Jv]
 have hr:List.range 4=[0,1,2,3]:=by decide
 refine⟨.string (keyBytes [.int .i64 m.1,.int .i64 m.2.1,.int .i64 m.2.2.1,.int .i64 m.2.2.2]),?_⟩;unfold keyOf;rw[Tryz.underlying111];simp only[Tryz.keyTMono,hf,Bool.and_self,if_true,Value.cells];unfold Jv;rw[hn];unfold Program.keyLits;rw[Tryz.underlying111];simp only[List.length_cons,List.length_nil,Tryz.cellsMono,Tryz.cellsI,hr];simp[Program.keyLits,Tryz.underlying3,w0,w1,w2,w3]
noncomputable def qcb(m:Mo):Lit:=(keyOf Tryz.prog 111 (.agg (Jv m))).getD .nil
theorem Yf{m:Mo}(h:WfM m):keyOf Tryz.prog 111 (.agg (Jv m))=some (qcb m):=by
 obtain⟨l,hl⟩:=qk1 m h;rw[hl];simp[qcb,hl]
theorem qif{m m':Mo}(h:WfM m)(h':WfM m')(e:qcb m=qcb m'):m=m':=by
 have h1:=Yf h;have h2:=Yf h';rw[e]at h1;have:=Tryz.lawMono.inj h1 h2;simp[Jv]at this;obtain⟨a,b,c,d⟩:=this;exact Prod.ext a (Prod.ext b (Prod.ext c d))
def zm(w:World)(b n:Nat)(f:Mo->Option Nat):Prop:=
 ∃D:DataW Unit,w.ownsMap Tryz.prog 111 (plainElem Tryz.prog 3) b n D/\IsMap D/\∀m,WfM m->Maps.has D (qcb m)=(f m).isSome/\D.atKey (qcb m) (.lit (.int .i64 0))= .lit (.int .i64 (((f m).getD 0:Nat):Int))
section
variable {w w':World} {b n:Nat} {f:Mo->Option Nat}
theorem qf1(w:World):zm (w.alloc (.map #[] 0)) w.heap.size 0 (fun _=>none):=
 ⟨.map [],World.ownsMap_made w Tryz.prog 111 _,isMap_empty,fun _ _=>⟨rfl,rfl⟩⟩
theorem zm.kept{row:Option Nat}(h:zm w b n f)(hg:w.grownBy w' row)(Xl:some b≠row):zm w' b n f:=by
 obtain⟨D,h1,h2,h3⟩:=h;exact⟨D,h1.kept hg Xl,h2,h3⟩
theorem zm.old(h:zm w b n f)(hb:Below w.heap.size w w'):zm w' b n f:=
 h.kept (row:=none) ⟨hb.os,hb.tape,hb.output,hb.size,fun k hk _=>hb.block k hk⟩ (by simp)
theorem zm.set_(h:zm w b n f){a:Addr}(ha:b≠a.block)(u:Value):zm (w.setCell a u) b n f:=by
 obtain⟨D,h1,h2,h3⟩:=h;exact⟨D,h1.setCell ha u,h2,h3⟩
theorem zm.ne_blk(h:zm w b n f){g:Nat}{t:TypeId}{cs:Array Value}(hg:qf w g t cs):b≠g:=by
 rintro rfl;obtain⟨D,⟨es,cl,hb,_⟩,_⟩:=h;unfold qf at hg;rw[hb]at hg
 cases hg
theorem Yb{H:Type}{P:Program}{e:TypeId}(he:P.underlying e=some (.int .i64)){v:Value}{z:DataW H×List MemPlace}(h:plainElem P e v=some z):∃x,v= .int .i64 x/\z=(.lit (.int .i64 x),[]):=by
 unfold plainElem at h;rw[he]at h
 cases v<;>simp at h
 obtain⟨⟨rfl,_⟩,h⟩:=h;exact⟨_,rfl,h.symm⟩
theorem zm.look(h:zm w b n f){m:Mo}(hm:WfM m):(Instr.lookup 150 (.map (some b)) (.agg (Jv m)) true).run Tryz.prog w= .ok (.tuple #[.int .i64 (((f m).getD 0:Nat):Int),.bool (f m).isSome]) w:=by
 obtain⟨D,h1,h2,h3⟩:=h;have hz:plainElem (H:=Unit) Tryz.prog 3 (.int .i64 0)=some (.lit (.int .i64 0),[]):=plainElem_int Tryz.underlying3 (qaZ ⟨by omega,by omega⟩);obtain⟨v,ps,VO,hv⟩:=h1.look_ok Tryz.lawMono Tryz.underlying150 (Tryz.zeroI w) hz (Yf hm);obtain⟨x,rfl,hx⟩:=Yb Tryz.underlying3 hv;obtain⟨e1,e2⟩:=h3 m hm;rw[e2]at hx
 injection hx with hx _
 injection hx with hx
 injection hx with _ hx
 rw[VO,e1,hx]
theorem zm.store(h:zm w b n f){m:Mo}(hm:WfM m)(hn:n<maxLen)(i:Nat)(hi:i<1000000):∃w',(Instr.mapUpdate 150 (.map (some b)) (.agg (Jv m)) (.int .i64 (i:Int))).run Tryz.prog w= .ok () w'/\zm w' b (n+1) (fun x=>if x=m then some i else f x)/\w.grownBy w' (some b):=by
 obtain⟨D,h1,h2,h3⟩:=h;have hz:plainElem (H:=Unit) Tryz.prog 3 (.int .i64 (i:Int))=some (.lit (.int .i64 (i:Int)),[]):=plainElem_int Tryz.underlying3 (qaZ ⟨by omega,by omega⟩);obtain⟨w',VO,Xn,ht⟩:=h1.store Tryz.lawMono Tryz.underlying150 hn (Yf hm) hz;refine⟨w',VO,⟨_,Xn,h2.put _ _,fun x hx=>?_⟩,ht.grown⟩;by_cases e:x=m
 ·subst e;have TU:WideAt.IsKeyLit (qcb x):=Tryz.lawMono.key (Yf hm);rw[has_put_same h2 TU,atKey_put_same h2 TU];simp
 ·have Xl:qcb x≠qcb m:=fun k=>e (qif hx hm k);rw[has_put_other Xl,atKey_put_other Xl];simp only[if_neg e];exact h3 x hx
end
end Go.Proofs.YtflikmojaidhhaaGreatDoor
namespace Go.Proofs.YtflikmojaidhhaaGreatDoor
open Go.RowKit
structure PT where
 ng:Bool
 ds:List Nat
 A:Oa
 c:Nat
 m:Mo
instance:Inhabited PT:=⟨⟨false,[],none,0,(0,0,0,0)⟩⟩
def PT.tm(p:PT):Tm:=(qj p.ng p.ds,p.m)
def PT.cells(p:PT):List Value:=[.bool p.ng,.slice p.A p.ds.length p.c,.int .i64 p.m.1,.int .i64 p.m.2.1,.int .i64 p.m.2.2.1,.int .i64 p.m.2.2.2]
def mkP(z:Int)(A:Oa)(c:Nat)(m:Mo):PT:=⟨decide (z<0),dig z.natAbs,A,c,m⟩
def Cn(p:PT):Prop:=∃z,p=mkP z p.A p.c p.m
theorem jM(z:Int):qj (decide (z<0)) (dig z.natAbs)=z:=by
 unfold qj;rw[qB];by_cases h:z<0<;>simp[h]<;>omega
theorem JK(z:Int)(A:Oa)(c:Nat)(m:Mo):(mkP z A c m).tm=(z,m):=by simp[mkP,PT.tm,jM]
theorem Cn.eq{p:PT}(h:Cn p):p=mkP p.tm.1 p.A p.c p.m:=by
 obtain⟨z,hz⟩:=h;have:p.tm.1=z:=by rw[hz,JK]
 rw[this];exact hz
theorem Cn.ds{p:PT}(h:Cn p):p.ds=dig p.tm.1.natAbs:=by
 have e:=congrArg PT.ds h.eq;exact e
theorem qcj(z:Int)(A:Oa)(c:Nat)(m:Mo):Cn (mkP z A c m):=⟨z,rfl⟩
theorem qcD(ps:List PT):(ps.flatMap PT.cells).length=ps.length*6:=by
 induction ps with
 |nil=>rfl
 |cons p ps ih=>rw[List.flatMap_cons,List.length_append,ih];simp[PT.cells];omega
theorem yq(ps:List PT)(i j:Nat)(p:PT)(hi:ps[i]? =some p)(hj:j<6):(ps.flatMap PT.cells)[i*6+j]? =p.cells[j]?:=by
 induction ps generalizing i with
 |nil=>simp at hi
 |cons q ps ih=>
  rw[List.flatMap_cons]
  match i,hi with
  |0,hi=>
   simp at hi;subst hi;rw[List.getElem?_append_left (by simp[PT.cells];omega)];simp
  |i+1,hi=>
   rw[List.getElem?_append_right (by simp[PT.cells];omega)];have:=ih i (by simpa using hi);rw[<-this]
   congr 1
   simp[PT.cells];omega
theorem qgN(ps:List PT):∀u∈ps.flatMap PT.cells,u.oneCell'=true:=by
 intro u hu;obtain⟨p,_,hp⟩:=List.mem_flatMap.1 hu;simp[PT.cells]at hp;rcases hp with rfl|rfl|rfl|rfl|rfl|rfl<;>rfl
structure yI (w:World) (B:Nat) (A:Oa) (ps:List PT):Prop where
 rd:qu w B 6 A ps.length (ps.flatMap PT.cells)
 nt:∀p∈ps,qx w B p.A p.c p.ds
theorem yI.below{w w':World}{B:Nat}{A:Oa}{ps:List PT}(h:yI w B A ps)(hb:Below B w w'):yI w' B A ps:=⟨h.rd.below hb,fun p hp=>(h.nt p hp).below hb⟩
theorem yI.at_{w:World}{B:Nat}{A:Oa}{ps:List PT}(h:yI w B A ps){k:Nat}{p:PT}(hk:ps[k]? =some p):
 ∃b o,A=some ⟨b,o,none⟩/\b<B/\w.cell? ⟨b,o+k*6,none⟩=some (.bool p.ng)/\w.cell? ⟨b,o+k*6+1,none⟩=some (.slice p.A p.ds.length p.c)/\
  w.cell? ⟨b,o+k*6+2,none⟩=some (.int .i64 p.m.1)/\w.cell? ⟨b,o+k*6+3,none⟩=some (.int .i64 p.m.2.1)/\w.cell? ⟨b,o+k*6+4,none⟩=some (.int .i64 p.m.2.2.1)/\w.cell? ⟨b,o+k*6+5,none⟩=some (.int .i64 p.m.2.2.2):=by
 have hl:k<ps.length:=(Gi.1 hk).1;obtain⟨b,o,e,hb,hc⟩:=h.rd.2 (by omega);have f:=fun j hj u (hu:p.cells[j]? =some u)=>hc (k*6+j) u ((yq ps k j p hk hj).trans hu);exact⟨b,o,e,hb,f 0 (by omega) _ rfl,f 1 (by omega) _ rfl,f 2 (by omega) _ rfl,f 3 (by omega) _ rfl,f 4 (by omega) _ rfl,f 5 (by omega) _ rfl⟩
def pw(k:Nat):Nat:=4294967296^k
def Big:Nat:=pw 600
theorem zL{v k:Nat}(h:v<pw k):(dig v).length<=k:=qK (n:=k) h
theorem zU{v:Nat}(h:v<Big):(dig v).length<=600:=zL h
def Yt(ps:List PT)(f:Mo->Option Nat):Prop:=(∀m i,f m=some i->∃p,ps[i]? =some p/\p.m=m)/\∀m,f m=none->∀p∈ps,p.m≠m
structure Z3 (w:World) (base g mb:Nat) (v:Value) (ps:List PT):Prop where
 gb:qf w g 152 #[.map (some mb),v]
 mp:∃f,zm w mb ps.length f/\Yt ps f
 row:w.ownsRow base 127 6 v ps.length (ps.flatMap PT.cells)
 dg:∀p∈ps,qL w p.A p.ds/\p.ds.length<=p.c
 cn:∀p∈ps,Cn p
 lg:base<=g
 lm:base<=mb
structure jD (base:Nat) (w w':World):Prop where
 below:Below base w w'
 far:∀k t cs,qf w k t cs->t≠152->t≠127->qf w' k t cs
theorem jD.trans{base:Nat}{a b c:World}(h:jD base a b)(k:jD base b c):jD base a c:=⟨h.below.trans k.below,fun x t cs hx h1 h2=>k.far x t cs (h.far x t cs hx h1 h2) h1 h2⟩
theorem jD.of_below{base:Nat}{w w':World}(hb:base<=w.heap.size)(h:Below w.heap.size w w'):jD base w w':=⟨h.mono hb,fun _ _ _ k _ _=>k.old h⟩
theorem jD.natB{base:Nat}{w w':World}(h:jD base w w'){A:Oa}{ds:List Nat}(k:qL w A ds):qL w' A ds:=k.keep fun g cs hb=>h.far g _ cs hb (by decide) (by decide)
theorem jD.set_g{base:Nat}{w:World}{g o:Nat}{cs:Array Value}(hb:base<=g)(hg:qf w g 152 cs)(u:Value):jD base w (w.setCell ⟨g,o,none⟩ u):=
 ⟨(Below.refl base w).setCell hb u,fun k t cs' h h1 _=>h.far (by
   rintro rfl;unfold qf at h hg;rw[h]at hg
   injection hg with hg
   injection hg with _ e
   exact h1 e) u⟩
theorem jD.set_t{base:Nat}{w:World}{g o:Nat}{cs:Array Value}(hb:base<=g)(hg:qf w g 127 cs)(u:Value):jD base w (w.setCell ⟨g,o,none⟩ u):=
 ⟨(Below.refl base w).setCell hb u,fun k t cs' h _ h2=>h.far (by
   rintro rfl;unfold qf at h hg;rw[h]at hg
   injection hg with hg
   injection hg with _ e
   exact h2 e) u⟩
theorem Jd{w:World}{base n size:Nat}{e t:TypeId}{v:Value}{xs:List Value}(h:w.ownsRow base e size v n xs){k:Nat}{cs:Array Value}(hk:qf w k t cs)(Xl:t≠e):some k≠v.ownBlock:=yx h hk (Ne.symm Xl)
theorem jD.grown{base:Nat}{w w':World}{v:Value}{n:Nat}{xs:List Value}(hb:base<=w.heap.size)(Xn:w.ownsRow base 127 6 v n xs)(hg:w.grownBy w' v.ownBlock):jD base w w':=by
 refine⟨(Below.refl base w).grown hg hb ?_,fun k t cs h _ h2=>h.grown hg (Jd Xn h h2)⟩;intro k hk;rcases Xn.2 with⟨rfl,_⟩|⟨g',cap,cur,rfl,h1,_⟩
 ·simp[Value.ownBlock]at hk
 ·simp[Value.ownBlock]at hk;omega
theorem jD.map_{base:Nat}{w w':World}{b n:Nat}{f:Mo->Option Nat}(hb:base<=w.heap.size)(hm:zm w b n f)(RM:base<=b)(hg:w.grownBy w' (some b)):jD base w w':=by
 refine⟨(Below.refl base w).grown hg hb (fun k hk=>by injection hk with hk;omega),fun k t cs h _ _=>h.grown hg (fun e=>?_)⟩
 injection e with e
 exact hm.ne_blk h e.symm
attribute [local go_sem ↓] Go.wp_at_zero Go.wp_at_succ
theorem Z3.new(w:World):Z3 ((w.alloc (.map #[] 0)).alloc (.cells #[.map (some w.heap.size),.slice none 0 0] 152)) w.heap.size (w.heap.size+1) w.heap.size (.slice none 0 0) [] where
 gb:=by have:=qf.new (w.alloc (.map #[] 0)) 152 #[.map (some w.heap.size),.slice none 0 0];simpa using this
 mp:=⟨_,(qf1 w).old ((Below.refl _ _).alloc (Gr _) _),fun m i h=>by simp at h,fun m _ p hp=>by simp at hp⟩
 row:=⟨by simp,.inl ⟨rfl,rfl⟩⟩
 dg p hp:=by simp at hp
 cn p hp:=by simp at hp
 lg:=by omega
 lm:=Gr _
def qkH(w:World)(e:Ending)(w':World):Prop:=∃g mb,e= .returned (.pointer (some ⟨g,0,none⟩))/\Z3 w' w.heap.size g mb (.slice none 0 0) []/\Below w.heap.size w w'
theorem qg1(w:World):Calls Tryz.prog 97 #[] w (qkH w):=by
 have LJ:=@run_makeMap Tryz.prog;have hg:=Gh (Z3.new w);have hb:=Gh ((Gb w (.map #[] 0)).alloc (by simp) (.cells #[.map (some w.heap.size),.slice none 0 0] 152));go_enter Tryz.func97,Tryz.ntmps97
 go_wp2
 go_ret
 exact⟨_,_,rfl,hg.out,hb.out⟩
def qkA(g:Nat)(v v':Value)(w w':World):Prop:=∀k t cs,qf w k t cs->k≠g->v.ownBlock≠some k->qf w' k t cs/\v'.ownBlock≠some k
def Jf(mb:Nat)(w w':World):Prop:=∀(k:Nat)(o:Obj),w.heap[k]? =some o->o.isCells=false->k≠mb->w'.heap[k]? =some o
section
variable {mb:Nat} {w V V':World}
theorem Jf.of_below(h:Below w.heap.size w V):Jf mb w V:=fun k _ hk _ _=>(h.block k (Array.getElem?_eq_some_iff.1 hk).1).trans hk
theorem Jf.below(h:Jf mb w V)(hb:Below V.heap.size V V'):Jf mb w V':=fun k o hk ho hm=>(hb.block k (Array.getElem?_eq_some_iff.1 (h k o hk ho hm)).1).trans (h k o hk ho hm)
theorem Jf.alloc(h:Jf mb w V)(o:Obj):Jf mb w (V.alloc o):=h.below ((Below.refl _ _).alloc (Gr _) _)
theorem Jf.set(h:Jf mb w V){g:Nat}{t:TypeId}{cs:Array Value}(hb:qf V g t cs)(i:Nat)(u:Value):Jf mb w (V.setCell ⟨g,i,none⟩ u):=fun k o hk ho hm=>by
 have h1:=h k o hk ho hm;have Xl:k≠g:=by
  rintro rfl;unfold qf at hb;rw[hb]at h1
  cases h1
  cases ho
 exact(Below.heap_setCell V ⟨g,i,none⟩ u k Xl).trans h1
theorem Jf.map_(h:Jf mb w V)(hg:V.grownBy V' (some mb)):Jf mb w V':=fun k o hk ho hm=>
 (hg.block k (Array.getElem?_eq_some_iff.1 (h k o hk ho hm)).1 (fun e=>hm (by injection e))).trans (h k o hk ho hm)
theorem Jf.own(h:Jf mb w V){base n size:Nat}{e:TypeId}{v:Value}{xs:List Value}(hg:V.grownBy V' v.ownBlock)(hr:V.ownsRow base e size v n xs):Jf mb w V':=fun k o hk ho hm=>by
 have h1:=h k o hk ho hm;refine(hg.block k (Array.getElem?_eq_some_iff.1 h1).1 (fun e'=>?_)).trans h1;rcases hr.2 with⟨rfl,_⟩|⟨g',cap,cur,rfl,_,hh,_⟩
 ·simp[Value.ownBlock]at e'
 ·have:k=g':=by simpa[Value.ownBlock]using e'
  subst this;rw[hh]at h1
  cases h1
  cases ho
end
def YS(base g mb:Nat)(v0:Value)(ts:List Tm)(w:World)(e:Ending)(w':World):Prop:=
 e= .returned (.tuple #[])/\∃v ps,Z3 w' base g mb v ps/\zB ts (ps.map PT.tm)/\jD base w w'/\qkA g v0 v w w'/\Jf mb w w'
theorem Z3.old{w w':World}{base g mb:Nat}{v:Value}{ps:List PT}(h:Z3 w base g mb v ps)(hb:Below w.heap.size w w'):Z3 w' base g mb v ps where
 gb:=h.gb.old hb
 mp:=by obtain⟨f,h1,h2⟩:=h.mp;exact⟨f,h1.old hb,h2⟩
 row:=h.row.kept ⟨hb.os,hb.tape,hb.output,hb.size,fun k hk _=>hb.block k hk⟩ (row:=none) (by cases v.ownBlock<;>simp)
 dg p hp:=⟨(h.dg p hp).1.old hb,(h.dg p hp).2⟩
 cn:=h.cn
 lg:=h.lg
 lm:=h.lm
set_option maxHeartbeats 1000000
theorem qhs(base g mb:Nat)(v:Value)(ts:List Tm)(ps:List PT)(m:Mo)(ng:Bool)(A:Oa)(c:Nat)(ds:List Nat)(w:World)(hG:Z3 w base g mb v ps)(hI:zB ts (ps.map PT.tm))(hb:base<=w.heap.size)(hv:zD m=false):
 Calls Tryz.prog 98 #[.pointer (some ⟨g,0,none⟩),.agg (Jv m),.agg #[.bool ng,.slice A ds.length c]] w (YS base g mb v (ts++[(qj ng ds,m)]) w):=by
 have HI:=Gh (hI.skip hv (qj ng ds));have hn:=fun W=>qcn m W;rw[hv]at hn;generalize ts++[(qj ng ds,m)]=ts' at*;have HN:=Gh hn;clear hv hI;have HX:=Gh (qR w 111 25 (Jv m) #[.bool ng,.slice A ds.length c]);clear hn;unfold Jv at*;generalize m.1=m0 at*;generalize m.2.1=m1 at*;generalize m.2.2.1=m2 at*;generalize m.2.2.2=m3 at*;go_enter Tryz.func98,Tryz.ntmps98
 go_wp2_with fail
 generalize (w.alloc (.cells #[.int .i64 m0,.int .i64 m1,.int .i64 m2,.int .i64 m3] 111)).alloc (.cells #[.bool ng,.slice A ds.length c] 25)=W at*;obtain⟨Xb,k0,k1,hs⟩:=HX.out;clear hs HX;refine(HN _).mono ?_;rintro e W1 ⟨rfl,hl⟩;have RM:=Gt Xb hl.below;go_wp2_with fail
 go_end0
 exact⟨rfl,v,ps,hG.old RM,HI,.of_below hb RM,fun k t cs h1 _ h3=>⟨h1.old RM,h3⟩,.of_below RM⟩
end Go.Proofs.YtflikmojaidhhaaGreatDoor
namespace Go.Proofs.YtflikmojaidhhaaGreatDoor
open Go.RowKit
theorem qdd(ps:List PT)(i:Nat)(p q:PT)(hi:ps[i]? =some p)(hm:q.m=p.m):(ps.set i q).flatMap PT.cells=((ps.flatMap PT.cells).set (i*6) (.bool q.ng)).set (i*6+1) (.slice q.A q.ds.length q.c):=by
 induction ps generalizing i with
 |nil=>simp at hi
 |cons r ps ih=>
  match i,hi with
  |0,hi=>
   simp at hi;subst hi;simp[PT.cells,hm]
  |i+1,hi=>
   have h:=ih i (by simpa using hi);have e1:(i+1)*6=i*6+6:=by omega
   simp only[List.set_cons_succ,List.flatMap_cons,h,e1];have e2:i*6+6+1=i*6+1+6:=by omega
   rw[e2];simp[PT.cells]
theorem Zw{w:World}{base n size cap rb:Nat}{e:TypeId}{xs:List Value}(h:w.ownsRow base e size (.slice (some ⟨rb,0,none⟩) n cap) n xs)(k:Nat)(u:Value):
 (w.setCell ⟨rb,k,none⟩ u).ownsRow base e size (.slice (some ⟨rb,0,none⟩) n cap) n (xs.set k u):=by
 obtain⟨hl,h⟩:=h;refine⟨by simpa using hl,.inr ?_⟩;rcases h with⟨h,_⟩|⟨g,cap',cur,hv,hb,hh,h1,h2,h3,h4⟩
 ·cases h
 ·injection hv with hv _ hc
  injection hv with hv
  injection hv with hv
  subst hv;subst hc;have U1:qf w rb e cur:=hh;refine⟨rb,cap,cur.setIfInBounds k u,rfl,hb,U1.set_ k u,h1,h2,by simpa using h3,?_⟩;rw[<-h4];simp[List.take_set]
theorem own_blk{w:World}{base n size cap rb:Nat}{e:TypeId}{xs:List Value}(h:w.ownsRow base e size (.slice (some ⟨rb,0,none⟩) n cap) n xs):∃cur,qf w rb e cur/\base<=rb/\n<=cap/\∀(j:Nat)(u:Value),xs[j]? =some u->cur[j]? =some u:=by
 obtain⟨hl,h⟩:=h;rcases h with⟨h,_⟩|⟨g,cap',cur,hv,hb,hh,h1,h2,h3,h4⟩
 ·cases h
 ·injection hv with hv _ hc
  injection hv with hv
  injection hv with hv
  subst hv;subst hc;refine⟨cur,hh,hb,h1,fun j u hu=>?_⟩;rw[<-h4,List.getElem?_take]at hu
  split at hu
  ·simpa using hu
  ·cases hu
theorem Yt.set{ps:List PT}{f:Mo->Option Nat}(h:Yt ps f){i:Nat}{p q:PT}(hi:ps[i]? =some p)(hm:q.m=p.m):Yt (ps.set i q) f:=by
 refine⟨fun m j hj=>?_,fun m UE r hr=>?_⟩
 ·obtain⟨r,hr,e⟩:=h.1 m j hj;by_cases CA:i=j
  ·subst CA;have Xi:i<ps.length:=(Gi.1 hi).1;rw[hi]at hr
   injection hr with hr
   subst hr;exact⟨q,by simp[Xi],hm.trans e⟩
  ·exact⟨r,by simp[CA,hr],e⟩
 ·rcases List.mem_or_eq_of_mem_set hr with k|k
  ·exact h.2 m UE r k
  ·subst k;rw[hm];exact h.2 m UE p (Gk hi)
theorem Z3.upd_len{ps:List PT}{i:Nat}{p:PT}(hi:ps[i]? =some p):i<ps.length:=(Gi.1 hi).1
theorem Z3.upd{w:World}{base g mb rb cap:Nat}{v:Value}{ps:List PT}(h:Z3 w base g mb v ps)(hv:v= .slice (some ⟨rb,0,none⟩) ps.length cap){i:Nat}{p:PT}(hi:ps[i]? =some p)(z:Int)(A:Oa)(c:Nat)(hn:qL w A (dig z.natAbs))(hc:(dig z.natAbs).length<=c):
 Z3 ((w.setCell ⟨rb,i*6,none⟩ (.bool (decide (z<0)))).setCell ⟨rb,i*6+1,none⟩ (.slice A (dig z.natAbs).length c)) base g mb v (ps.set i (mkP z A c p.m))/\
  jD base w ((w.setCell ⟨rb,i*6,none⟩ (.bool (decide (z<0)))).setCell ⟨rb,i*6+1,none⟩ (.slice A (dig z.natAbs).length c)):=by
 subst hv;obtain⟨cur,hk,St,_,_⟩:=own_blk h.row;have Cz:=hk.set_ (i*6) (.bool (decide (z<0)));have ht:jD base w ((w.setCell ⟨rb,i*6,none⟩ (.bool (decide (z<0)))).setCell ⟨rb,i*6+1,none⟩ (.slice A (dig z.natAbs).length c)):=(jD.set_t St hk _).trans (jD.set_t St Cz _);have TE:g≠rb:=by
  rintro rfl;have:=h.gb;unfold qf at this hk;rw[hk]at this
  injection this with this
  injection this with _ e
  exact absurd e (by decide)
 refine⟨⟨?_,?_,?_,?_,?_,h.lg,h.lm⟩,ht⟩
 ·exact(h.gb.far TE _).far TE _
 ·obtain⟨f,h1,h2⟩:=h.mp;have Xl:=h1.ne_blk hk;exact⟨f,by rw[List.length_set];exact(h1.set_ Xl _).set_ Xl _,h2.set hi rfl⟩
 ·rw[qdd ps i p (mkP z A c p.m) hi rfl,List.length_set];exact Zw (Zw h.row _ _) _ _
 ·intro q hq;rcases List.mem_or_eq_of_mem_set hq with k|k
  ·exact⟨ht.natB (h.dg q k).1,(h.dg q k).2⟩
  ·subst k;exact⟨ht.natB hn,hc⟩
 ·intro q hq;rcases List.mem_or_eq_of_mem_set hq with k|k
  ·exact h.cn q k
  ·subst k;exact qcj _ _ _ _
theorem yf{w:World}{A:Oa}{c:Nat}{v:Nat}(h:qL w A (dig v))(hc:(dig v).length<=c):qx w w.heap.size A c (dig v):=⟨h.reads,qA v,hc⟩
theorem Z3.nin{w:World}{base g mb:Nat}{v:Value}{ps:List PT}(h:Z3 w base g mb v ps){p:PT}(hp:p∈ps):qx w w.heap.size p.A p.c p.ds:=by
 obtain⟨h1,h2⟩:=h.dg p hp;have e:=(h.cn p hp).ds;exact⟨h1.reads,by rw[e];exact qA _,h2⟩
theorem qgF(m:Mo)(x y:Int):∀i:Nat,jU (jU m i x) i y=jU m i y
 |0=>rfl
 |1=>rfl
 |2=>rfl
 |_+3=>rfl
def PT.key(p:PT):(Bool×List Nat)×Mo:=((p.ng,p.ds),p.m)
theorem qkk(t:RP)(m:Mo):jH t m=if t.lv<=0 then[((t.ng,t.ds),m)]else if 4<t.lv then[]else jo (t.lv.toNat-1) t.ks m (Zn m (t.lv.toNat-1)):=by
 cases t
 rw[jH];rfl
theorem Zd(i:Nat):∀(ts us:List RP)(m:Mo)(e:Int),jo i (ts++us) m e=jo i ts m e++jo i us m (e+ts.length)
 |[],us,m,e=>by simp[jo]
 |t::ts,us,m,e=>by
  simp only[List.cons_append,jo,Zd i ts us,List.append_assoc,List.length_cons];rw[show e+1+(ts.length:Int)=e+((ts.length+1:Nat):Int)by omega]
theorem qf6{i:Nat}{ts:List RP}{k:Nat}{u:RP}(h:ts[k]? =some u)(m:Mo)(e:Int):jo i (ts.take (k+1)) m e=jo i (ts.take k) m e++jH u (jU m i (e+k)):=by
 have hl:k<ts.length:=(Gi.1 h).1;have e1:ts[k]=u:=(Gi.1 h).2;rw[List.take_succ_eq_append_getElem hl,Zd,e1,List.length_take,Nat.min_eq_left (by omega)];simp[jo]
mutual
theorem Yi:∀(t:RP)(m:Mo),(jH t m).length<=jW t
 | .mk l g ds ks,m=>by
   simp only[jH,jW]
   split
   ·simp
   ·split
    ·simp
    ·have:=qaQ (l.toNat-1) ks m (Zn m (l.toNat-1));omega
theorem qaQ(i:Nat):∀(ts:List RP)(m:Mo)(e:Int),(jo i ts m e).length<=yy ts
 |[],m,e=>by simp[jo]
 |t::ts,m,e=>by
  have h1:=Yi t (jU m i e);have h2:=qaQ i ts m (e+1);simp only[jo,yy,List.length_append];omega
end
theorem qgu{ts:List RP}{k:Nat}{u:RP}(h:ts[k]? =some u):yy (ts.take k)+jW u<=yy ts:=by
 induction ts generalizing k with
 |nil=>simp at h
 |cons t ts ih=>
  cases k with
  |zero=>
   simp at h;subst h;simp[yy]
  |succ k=>
   have:=ih (k:=k) (by simpa using h);simp only[List.take_succ_cons,yy];omega
theorem qb5(t:RP):jW t=yy t.ks+1:=by
 cases t
 rw[jW];rfl
def zh(m:Mo)(X:Int):Prop:=(0<=m.1/\m.1<=X)/\(0<=m.2.1/\m.2.1<=X)/\(0<=m.2.2.1/\m.2.2.1<=X)/\(0<=m.2.2.2/\m.2.2.2<=X)
theorem zh.at_{m:Mo}{X:Int}(h:zh m X)(i:Nat):0<=Zn m i/\Zn m i<=X:=by
 obtain⟨h0,h1,h2,h3⟩:=h;unfold Zn
 split<;>assumption
theorem zh.set{m:Mo}{X Y:Int}(h:zh m X)(i:Nat){x:Int}(h0:0<=x)(h1:x<=Y)(hXY:X<=Y):zh (jU m i x) Y:=by
 obtain⟨⟨a0,b0⟩,⟨a1,b1⟩,⟨a2,b2⟩,⟨a3,b3⟩⟩:=h;unfold jU zh
 split<;>(simp only[];omega)
theorem qjv(m:Mo)(i:Nat)(hi:i<4)(x:Int):(Jv m).setIfInBounds i (.int .i64 x)=Jv (jU m i x):=by
 rcases(by omega:i=0∨i=1∨i=2∨i=3)with rfl|rfl|rfl|rfl<;>rfl
theorem qfx(m:Mo)(i:Nat)(hi:i<4):(Jv m)[i]? =some (.int .i64 (Zn m i)):=by
 rcases(by omega:i=0∨i=1∨i=2∨i=3)with rfl|rfl|rfl|rfl<;>rfl
theorem qjo{w:World}{base n size g o:Nat}{e:TypeId}{v:Value}{xs:List Value}(h:w.ownsRow base e size v n xs)(Xl:v.ownBlock≠some g)(u:Value):(w.setCell ⟨g,o,none⟩ u).ownsRow base e size v n xs:=by
 obtain⟨hl,h⟩:=h;refine⟨hl,?_⟩;rcases h with h|⟨r,cap,cur,rfl,hb,hh,h1,h2,h3,h4⟩
 ·exact .inl h
 ·refine .inr ⟨r,cap,cur,rfl,hb,?_,h1,h2,h3,h4⟩;have:r≠g:=fun e=>Xl (by simp[Value.ownBlock,e]);exact(Below.heap_setCell w ⟨g,o,none⟩ u r this).trans hh
theorem jd{w:World}{base n size:Nat}{e:TypeId}{v:Value}{xs:List Value}(h:w.ownsRow base e size v n xs):∃A cap,v= .slice A n cap:=by
 rcases h.2 with⟨rfl,rfl⟩|⟨g,cap,cur,rfl,_⟩
 ·exact⟨_,_,rfl⟩
 ·exact⟨_,_,rfl⟩
theorem jB{w w':World}{base n size:Nat}{e:TypeId}{v:Value}{xs:List Value}(h:w.ownsRow base e size v n xs)(hb:Below w.heap.size w w'):w'.ownsRow base e size v n xs:=
 h.kept ⟨hb.os,hb.tape,hb.output,hb.size,fun k hk _=>hb.block k hk⟩ (row:=none) (by cases v.ownBlock<;>simp)
theorem Yt.snoc{ps:List PT}{f:Mo->Option Nat}(h:Yt ps f)(q:PT):Yt (ps++[q]) (fun x=>if x=q.m then some ps.length else f x):=by
 refine⟨fun m i hi=>?_,fun m hm p hp=>?_⟩
 ·simp only at hi;by_cases e:m=q.m
  ·rw[if_pos e]at hi
   injection hi with hi
   subst hi;exact⟨q,by simp,e.symm⟩
  ·rw[if_neg e]at hi;obtain⟨p,hp,k⟩:=h.1 m i hi;exact⟨p,by rw[List.getElem?_append_left (Gi.1 hp).1];exact hp,k⟩
 ·simp only at hm;by_cases e:m=q.m
  ·rw[if_pos e]at hm;cases hm
  ·rw[if_neg e]at hm;rcases List.mem_append.1 hp with k|k
   ·exact h.2 m hm p k
   ·simp at k;subst k;exact fun x=>e x.symm
theorem qad{w:World}{b n:Nat}{f:Mo->Option Nat}(h:zm w b n f){base k size:Nat}{e:TypeId}{v:Value}{xs:List Value}(ho:w.ownsRow base e size v k xs):some b≠v.ownBlock:=by
 rcases ho.2 with⟨rfl,_⟩|⟨g,cap,cur,rfl,_,hh,_⟩
 ·simp[Value.ownBlock]
 ·intro he;have e1:b=g:=by simpa[Value.ownBlock]using he
  exact h.ne_blk (show qf w g e cur from hh) e1
theorem qls:(152:TypeId)≠127:=by decide
theorem qdC{w:World}{b n:Nat}{f:Mo->Option Nat}(h:zm w b n f)(o:Nat):w.cell? ⟨b,o,none⟩=none:=by
 obtain⟨D,⟨es,cl,hb,_⟩,_⟩:=h;simp[World.cell?,hb]
theorem qx.map_{w w':World}{B c b n:Nat}{A:Oa}{ds:List Nat}{f:Mo->Option Nat}(h:qx w B A c ds)(hB:B<=w.heap.size)(hm:zm w b n f)(hg:w.grownBy w' (some b)):qx w' B A c ds:=by
 refine⟨⟨h.rd.1,fun hp=>?_⟩,h.dg,h.cap⟩;obtain⟨b',o,e,hb,hc⟩:=h.rd.2 hp;refine⟨b',o,e,hb,fun j u hu=>?_⟩;have h1:=hc j u hu;have Xl:b'≠b:=by
  rintro rfl;rw[qdC hm]at h1
  cases h1
 exact(World.cell?_of_block (hg.block b' (by omega) (fun e=>Xl (by injection e)))).trans h1
theorem qbk(ps:List PT)(q:PT):(ps++[q]).flatMap PT.cells=ps.flatMap PT.cells++q.cells:=by simp
theorem qij{X w4:World}{base g mb:Nat}{v v':Value}{ps:List PT}{q:PT}{f:Mo->Option Nat}(hbs:base<=X.heap.size)(hlg:base<=g)(hlm:base<=mb)(gb:qf X g 152 #[.map (some mb),v])(mp:zm X mb (ps.length+1) f)(Vs:Yt (ps++[q]) f)
 (row:X.ownsRow base 127 6 v ps.length (ps.flatMap PT.cells))(dg:∀p∈ps,qL X p.A p.ds/\p.ds.length<=p.c)(cn:∀p∈ps,Cn p)(hq:qL X q.A q.ds)(hqc:q.ds.length<=q.c)(Ml:Cn q)(o:Obj)
 (Xn:w4.ownsRow base 127 6 v' (ps.length+1) (ps.flatMap PT.cells++q.cells))(hg:(X.alloc o).grownBy w4 v.ownBlock):
 Z3 (w4.setCell ⟨g,1,none⟩ v') base g mb v' (ps++[q])/\jD base X (w4.setCell ⟨g,1,none⟩ v'):=by
 have Tc:Below X.heap.size X (X.alloc o):=(Below.refl _ X).alloc (Gr _) o;have row1:=jB row Tc;have gb1:=gb.old Tc;have gb4:=gb1.grown hg (Jd row1 gb1 (by decide));have mp1:=mp.old Tc;have mp4:=mp1.kept hg (qad mp1 row1);have t1:jD base X (X.alloc o):= .of_below hbs Tc;have t2:jD base (X.alloc o) w4:= .grown (Gl hbs Tc.size) row1 hg;have t3:jD base w4 (w4.setCell ⟨g,1,none⟩ v'):= .set_g hlg gb4 v';have t:=(t1.trans t2).trans t3;have Xl:v'.ownBlock≠some g:=fun e=>Jd Xn gb4 (by decide) e.symm;refine⟨⟨gb4.set_ 1 v',?_,?_,?_,?_,hlg,hlm⟩,t⟩
 ·exact⟨f,by rw[List.length_append];exact mp4.set_ (mp4.ne_blk gb4) v',Vs⟩
 ·rw[qbk,List.length_append];exact qjo Xn Xl v'
 ·intro p hp;rcases List.mem_append.1 hp with k|k
  ·exact⟨t.natB (dg p k).1,(dg p k).2⟩
  ·simp at k;subst k;exact⟨t.natB hq,hqc⟩
 ·intro p hp;rcases List.mem_append.1 hp with k|k
  ·exact cn p k
  ·simp at k;subst k;exact Ml
section
variable {P:Program} (w:World)
theorem yt{ops:Array Oper}{o:Oper}{a:Act}{K:Act->World->Prop}{Q:Exit->Act->World->Prop}{E:Prop}(XF:o.guard=none)(s x:Operand)(t:TypeId)
 (ho:o.op= .call {callee:= .builtin .append,args:=#[s,x],argTypes:=#[t,t]})
 (base:Nat)(e:TypeId)(i:TypeInfo)(z:Value)(size bytes:Nat)(ht:P.underlying t=some (.slice e))(hi:P.info? e=some i)(hz:i.zero=some z)
 (Rw:i.size=size)(VH:i.bytes=bytes)(F2:z.cells.size=size)(XV:0<size)
 (v:Value)(n:Nat)(xs:List Value)(hs:a.eval s=v)(Xn:w.ownsRow base e size v n xs)
 (B:Nat)(A:Oa)(m c:Nat)(news:List Value)(hx:a.eval x= .slice A m c)(hr:qu w B size A m news)(h1:∀u∈news,u.oneCell'=true)
 (VK:n+m<=maxLen)(VQ:(n+m)*bytes<=140737488355328)(Xt:base<=w.heap.size)
 (h:∀v' w',w'.ownsRow base e size v' (n+m) (xs++news)->w.grownBy w' v.ownBlock->(v'.ownBlock=v.ownBlock∨v'.ownBlock=some w.heap.size)->K (a.put o.dst v') w'):
 if Region.wanted o (yielded ops a.tmps)=true then Oper.wp P o a w K Q else E:=by
 have hw:Region.wanted o (yielded ops a.tmps)=true:=by simp[Region.wanted,XF]
 rw[if_pos hw];exact QH w s x t ho base e i z size bytes ht hi hz Rw VH F2 XV v n xs hs Xn B A m c news hx hr h1 VK VQ Xt h
end
theorem qu.six_new(w:World)(cs:List Value)(h:cs.length=6)(t:TypeId):qu (w.alloc (.cells cs.toArray t)) (w.heap.size+1) 6 (some ⟨w.heap.size,0,none⟩) 1 cs:=by
 refine⟨by omega,fun _=>⟨_,_,rfl,by omega,fun j x hj=>?_⟩⟩;have:=(qf.new w t cs.toArray).cell j;rw[Nat.zero_add,this];simpa using hj
theorem jY{w:World}{base size n g:Nat}{e:TypeId}{v:Value}{xs:List Value}(h:w.ownsRow base e size v n xs)(hv:v.ownBlock=some g):base<=g:=by
 rcases h.2 with⟨rfl,_⟩|⟨g',cap,cur,rfl,hb,_⟩
 ·simp[Value.ownBlock]at hv
 ·have:g'=g:=by simpa[Value.ownBlock]using hv
  omega
structure yW (w:World) (v:Value) (ps:List PT) (base B:Nat) (W:World) (v':Value) (qs:List PT):Prop where
 own:W.ownsRow base 127 6 v' (ps++qs).length ((ps++qs).flatMap PT.cells)
 dg:∀q∈qs,qx W B q.A q.c q.ds
 gro:w.grownBy W v.ownBlock
 row:v'.ownBlock=v.ownBlock∨∃k,v'.ownBlock=some k/\w.heap.size<=k
theorem qem(w:World)(r:Option Nat):w.grownBy w r:=⟨rfl,rfl,rfl,Gr _,fun _ _ _=>rfl⟩
theorem qfT{w W W':World}{r:Option Nat}(h:w.grownBy W r)(hb:Below W.heap.size W W'):w.grownBy W' r:=
 ⟨hb.os.trans h.os,hb.tape.trans h.tape,hb.output.trans h.output,Gl h.size hb.size,fun i hi hn=>(hb.block i (Gm hi h.size)).trans (h.block i hi hn)⟩
theorem qgl{w W:World}{r:Option Nat}(h:w.grownBy W r){g:Nat}(hg:w.heap.size<=g)(o:Nat)(u:Value):w.grownBy (W.setCell ⟨g,o,none⟩ u) r:=
 ⟨h.os,h.tape,h.output,Gl h.size (by simp),fun i hi hn=>(Below.heap_setCell W ⟨g,o,none⟩ u i (fun e=>by have e:i=g:=e;omega)).trans (h.block i hi hn)⟩
theorem yW.start{w:World}{v:Value}{ps:List PT}{base B:Nat}(h:w.ownsRow base 127 6 v ps.length (ps.flatMap PT.cells)):yW w v ps base B w v []:=
 ⟨by rw[List.append_nil];exact h,by simp,qem _ _,.inl rfl⟩
section
variable {w W:World} {v v':Value} {ps qs:List PT} {base B:Nat}
theorem yW.old(h:yW w v ps base B W v' qs){W':World}(hb:Below W.heap.size W W')(hB:B<=W.heap.size):yW w v ps base B W' v' qs:=
 ⟨jB h.own hb,fun q hq=>(h.dg q hq).below (hb.mono hB),qfT h.gro hb,h.row⟩
theorem yW.set(h:yW w v ps base B W v' qs){g:Nat}{t:TypeId}{cs:Array Value}(hg:qf W g t cs)(ht:127≠t)(hw:w.heap.size<=g)(hB:B<=g)(o:Nat)(u:Value):yW w v ps base B (W.setCell ⟨g,o,none⟩ u) v' qs:=by
 have Xl:v'.ownBlock≠some g:=fun e=>yx h.own hg ht e.symm;refine⟨h.own.kept (row:=some g) ⟨rfl,rfl,rfl,by simp,fun j _ hj=>Below.heap_setCell W ⟨g,o,none⟩ u j (fun e=>hj (by have e:j=g:=e;rw[e]))⟩ (.inr Xl),fun q hq=>(h.dg q hq).below ((Below.refl B W).setCell (p:=⟨g,o,none⟩) hB u),qgl h.gro hw o u,h.row⟩
theorem yW.below(h:yW w v ps base B W v' qs)(hv:w.ownsRow base 127 6 v ps.length (ps.flatMap PT.cells))(hB:B<=base)(hb:base<=w.heap.size):Below B w W:=
 ⟨h.gro.os,h.gro.tape,h.gro.output,h.gro.size,fun k hk=>h.gro.block k (by omega) (fun e=>by have:=jY hv e.symm;omega)⟩
theorem yW.trans{W2:World}{v2:Value}{rs:List PT}(h:yW w v ps base B W v' qs)(h2:yW W v' (ps++qs) base B W2 v2 rs)(hB:B<=base)(hb:base<=w.heap.size):yW w v ps base B W2 v2 (qs++rs):=by
 have Xe:=h2.below h.own hB (Gl hb h.gro.size);refine⟨by rw[<-List.append_assoc];exact h2.own,fun q hq=>?_,⟨h2.gro.os.trans h.gro.os,h2.gro.tape.trans h.gro.tape,h2.gro.output.trans h.gro.output,Gl h.gro.size h2.gro.size,fun i hi hn=>?_⟩,?_⟩
 ·rcases List.mem_append.1 hq with hq|hq
  ·exact(h.dg q hq).below Xe
  ·exact h2.dg q hq
 ·refine(h2.gro.block i (Gm hi h.gro.size) (fun e=>?_)).trans (h.gro.block i hi hn);rcases h.row with r|⟨k,r,hk⟩
  ·exact hn (e.trans r)
  ·rw[r]at e
   injection e with e
   omega
 ·rcases h2.row with r|⟨k,r,hk⟩
  ·rcases h.row with r'|⟨k,r',hk⟩
   ·exact .inl (r.trans r')
   ·exact .inr ⟨k,r.trans r',hk⟩
  ·exact .inr ⟨k,r,Gl h.gro.size hk⟩
theorem yW.snoc(h:yW w v ps base B W v' qs){W2:World}{v2:Value}{q:PT}(ho:W2.ownsRow base 127 6 v2 ((ps++qs).length+1) ((ps++qs).flatMap PT.cells++q.cells))(hg:W.grownBy W2 v'.ownBlock)(hr:v2.ownBlock=v'.ownBlock∨v2.ownBlock=some W.heap.size)(hq:qx W B q.A q.c q.ds)(hB:B<=base)(hb:base<=w.heap.size):
 yW w v ps base B W2 v2 (qs++[q]):=by
 have h2:yW W v' (ps++qs) base B W2 v2 [q]:=by
  refine⟨?_,fun x hx=>?_,hg,hr.imp id fun e=>⟨_,e,Gr _⟩⟩
  ·rw[List.length_append,List.flatMap_append];simpa using ho
  ·rw[List.mem_singleton]at hx;subst hx;exact hq.below ⟨hg.os,hg.tape,hg.output,hg.size,fun k hk=>hg.block k (by have:=h.gro.size;omega) (fun e=>by have:=jY h.own e.symm;omega)⟩
 exact h.trans h2 hB hb
end
def ZY(t:RP)(m:Mo)(v:Value)(ps:List PT)(base B:Nat)(w:World)(e:Ending)(w':World):Prop:=∃v' qs,e= .returned v'/\yW w v ps base B w' v' qs/\qs.map PT.key=jH t m
attribute [local go_sem ↓] Go.wp_at_zero Go.wp_at_succ
theorem QR(ps:List PT)(i:Nat)(q:PT):(ps.set i q).map PT.tm=(ps.map PT.tm).set i q.tm:=by rw[List.map_set]
set_option maxHeartbeats 2000000
set_option maxRecDepth 100000
theorem qhv(base g mb:Nat)(v:Value)(ts:List Tm)(ps:List PT)(m:Mo)(ng:Bool)(A:Oa)(c:Nat)(ds:List Nat)(w:World)(hG:Z3 w base g mb v ps)(hI:zB ts (ps.map PT.tm))(hb:base<=w.heap.size)(hv:zD m=true)(hm:WfM m)
 (Un:qx w w.heap.size A c ds)(Fo:ds.length<=1000)(XC:ps.length<=100000)(FT:nrm ts<Big)(f:Mo->Option Nat)(hf:zm w mb ps.length f)(i:Nat)(p:PT)(CB:f m=some i)(hp:ps[i]? =some p)(U4:p.m=m):
 Calls Tryz.prog 98 #[.pointer (some ⟨g,0,none⟩),.agg (Jv m),.agg #[.bool ng,.slice A ds.length c]] w (YS base g mb v (ts++[(qj ng ds,m)]) w):=by
 have Ov:p∈ps:=Gk hp;have Xi:i<ps.length:=Z3.upd_len hp;have hit:(ps.map PT.tm)[i]? =some (p.tm.1,m):=by simp[hp,PT.tm,U4]
 have HI:=Gh (hI.upd hit (qj ng ds));have U6:p.ds.length<=600:=by
  rw[(hG.cn p Ov).ds];exact zU (Nat.lt_of_le_of_lt (hI.mem_nrm (List.mem_map.2 ⟨p,Ov,rfl⟩)) FT)
 have hn:=fun W=>qcn m W;rw[hv]at hn;have EH:=fun(W:World)(hW:Below w.heap.size w W)=>(hf.old hW).look hm;rw[CB]at EH;simp only[Option.getD_some,Option.isSome_some]at EH;have ha:=fun(W:World)(hW:Below w.heap.size w W)=>qc0 p.ng ng p.A A p.c c w.heap.size p.ds ds W hW.size ((hG.nin Ov).below hW) (Un.below hW) (by omega) (by omega);obtain⟨rb,cap,Lt⟩:∃rb cap,v= .slice (some ⟨rb,0,none⟩) ps.length cap:=by
  obtain⟨g',cap,Dq,_⟩:=hG.row.form (by omega);exact⟨g',cap,Dq⟩
 have HU:=Gh (fun(W:World)(hW:Below w.heap.size w W)(A3:Oa)(c3:Nat)=>(hG.old hW).upd Lt hp (p.tm.1+qj ng ds) A3 c3);have TY:=Gh (QR ps i);have RU:=Gh U4;obtain⟨cur,Uv,_,UP,XS⟩:=own_blk (Lt▸hG.row);have r0:cur[i*6]? =some (.bool p.ng):=XS _ _ (yq ps i 0 p hp (by omega));have r1:cur[i*6+1]? =some (.slice p.A p.ds.length p.c):=XS _ _ (yq ps i 1 p hp (by omega));have Fq:=hG.gb;rw[Lt]at Fq;have HVE:=Gh Lt;unfold YS;unfold qX at ha;have F3:qj p.ng p.ds+qj ng ds=p.tm.1+qj ng ds:=rfl;rw[F3]at ha;clear F3 XS Lt CB U4 hit hv hI hm Ov hf hp;generalize ts++[(qj ng ds,m)]=ts' at*;generalize p.tm.1+qj ng ds=zz at*;generalize Dt:p.ng=png at*;generalize LH:p.ds=pds at*;generalize LI:p.A=pA at*;generalize Cs:p.c=pc at*;generalize ps.length=pn at*;clear Dt LH LI Cs;have HA:=Gh ha;have WN:=Gh EH;have HN:=Gh hn;have Xm:=Gh Uv;have DO:=Gh Fq;have R0:=Gh r0;have R1:=Gh r1;have Nt:=Gh hG;clear Uv Fq r0 r1 Un hG;have HX:=Gh (qR w 111 25 (Jv m) #[.bool ng,.slice A ds.length c]);clear hn EH ha;unfold Jv at*;generalize m.1=m0 at*;generalize m.2.1=m1 at*;generalize m.2.2.1=m2 at*;generalize m.2.2.2=m3 at*;go_enter Tryz.func98,Tryz.ntmps98
 go_wp2_with fail
 generalize (w.alloc (.cells #[.int .i64 m0,.int .i64 m1,.int .i64 m2,.int .i64 m3] 111)).alloc (.cells #[.bool ng,.slice A ds.length c] 25)=W at*;obtain⟨Xb,k0,k1,hs⟩:=HX.out;clear hs HX;refine(HN _).mono ?_;rintro e W1 ⟨rfl,hl⟩;have RM:=Gt Xb hl.below;have q0:=k0.old hl.below;have q1:=k1.old hl.below;clear k0 k1 Xb hl;have gb1:=DO.out.old RM;have kr1:=Xm.out.old RM;have g0:W1.cell? ⟨g,0,none⟩=some (.map (some mb)):=gb1.cell 0;have g1:W1.cell? ⟨g,1,none⟩=some (.slice (some ⟨rb,0,none⟩) pn cap):=gb1.cell 1;have b0:W1.cell? ⟨w.heap.size,0,none⟩=some (.int .i64 m0):=q0.cell 0;have b1:W1.cell? ⟨w.heap.size,1,none⟩=some (.int .i64 m1):=q0.cell 1;have b2:W1.cell? ⟨w.heap.size,2,none⟩=some (.int .i64 m2):=q0.cell 2;have b3:W1.cell? ⟨w.heap.size,3,none⟩=some (.int .i64 m3):=q0.cell 3;have NJ:=fun(n:Nat)=>WN (W1.drewN n) (RM.trans ((qt.drewN _ _).below _));have i0:(0:Int)<=(i:Int):=by omega
 have i1:(i:Int)<(pn:Int):=by omega
 have i2:(pn:Int)<=(cap:Int):=by omega
 go_wp2_with fail
 go_quiet (fail)
 clear NJ b0 b1 b2 b3 g0 g1;have DY:Below w.heap.size w (W1.drewN nq):=RM.trans ((qt.drewN _ _).below _)
 replace gb1:=gb1.drewN nq
 replace kr1:=kr1.drewN nq
 replace q1:=q1.drewN nq
 clear RM q0;generalize W1.drewN nq=W2 at*;have g1:W2.cell? ⟨g,1,none⟩=some (.slice (some ⟨rb,0,none⟩) pn cap):=gb1.cell 1;have c0:W2.cell? ⟨w.heap.size+1,0,none⟩=some (.bool ng):=q1.cell 0;have c1:W2.cell? ⟨w.heap.size+1,1,none⟩=some (.slice A ds.length c):=q1.cell 1;have e0:W2.cell? ⟨rb,i*6,none⟩=some (.bool png):=(kr1.cell _).trans R0.out;have e1:W2.cell? ⟨rb,i*6+1,none⟩=some (.slice pA pds.length pc):=(kr1.cell _).trans R1.out;have lg:=gb1.lt;have lr:=kr1.lt;have lq:=q1.lt;have Vw:Below w.heap.size w W2.drew:=DY.trans ((qt.drew _).below _);go_wp2_with fail
 go_region_with ((go_at_call 117;refine(HA _ Vw).mono ?_;rintro e w3 ⟨A3,c3,rfl,h3,h4,h5⟩;have kk:=qf.old (w:=W2.drew) kr1 h5;have d0:=(kk.cell (i*6)).trans R0.out;have d1:=(kk.cell (i*6+1)).trans R1.out;have f0:=kk.frozen (i*6);have f1:=kk.frozen (i*6+1);have z1:=(h5.cell lg).trans g1))
 all_goals
  go_wp2_with fail
  refine bodyPost_ret (v:= .tuple #[]) (results_none rfl _ _ _) rfl ?_;have Bm:=Gt Vw h5;obtain⟨u1,u2⟩:=HU.out w3 Bm A3 c3 h4 h3;have FR:qkA g v v w ((w3.setCell ⟨rb,i*6,none⟩ (.bool (decide (zz<0)))).setCell ⟨rb,i*6+1,none⟩ (.slice A3 (dig zz.natAbs).length c3)):=fun k t cs h1 _ h3=>by
   have Xl:k≠rb:=fun e=>h3 (by rw[HVE,e];rfl);exact⟨((h1.old Bm).far Xl _).far Xl _,h3⟩
  refine⟨rfl,v,_,u1,?_,(jD.of_below hb Bm).trans u2,FR,((Jf.of_below Bm).set kk _ _).set (kk.set_ _ _) _ _⟩;rw[TY,JK,RU.out];exact HI
end Go.Proofs.YtflikmojaidhhaaGreatDoor
namespace Go.Proofs.YtflikmojaidhhaaGreatDoor
open Go.RowKit
attribute [local go_sem ↓] Go.wp_at_zero Go.wp_at_succ
theorem Tryz.infoTerm:(Tryz.prog.info? 127).map (fun i=>(i.zero,i.size,i.bytes))=some (some (.agg #[.bool false,.slice none 0 0,.int .i64 0,.int .i64 0,.int .i64 0,.int .i64 0]),6,64):=by kernel_rfl
set_option maxHeartbeats 4000000
set_option maxRecDepth 100000
theorem qhK(base g mb:Nat)(As:Oa)(cs:Nat)(ts:List Tm)(ps:List PT)(m0 m1 m2 m3:Int)(ng:Bool)(A:Oa)(c:Nat)(ds:List Nat)(w:World)(hG:Z3 w base g mb (.slice As ps.length cs) ps)(hI:zB ts (ps.map PT.tm))(hb:base<=w.heap.size)(hv:zD (m0,m1,m2,m3)=true)(hm:WfM (m0,m1,m2,m3))
 (Un:qx w w.heap.size A c ds)(Fo:ds.length<=1000)(XC:ps.length<=100000)(f:Mo->Option Nat)(hf:zm w mb ps.length f)(Vs:Yt ps f)(CB:f (m0,m1,m2,m3)=none):
 Calls Tryz.prog 98 #[.pointer (some ⟨g,0,none⟩),.agg (Jv (m0,m1,m2,m3)),.agg #[.bool ng,.slice A ds.length c]] w (YS base g mb (.slice As ps.length cs) (ts++[(qj ng ds,(m0,m1,m2,m3))]) w):=by
 obtain⟨i0,Uw,XU,X7,Xy⟩:=qO Tryz.infoTerm;have HF:=Gh hf;have ha0:∀t∈ps.map PT.tm,t.2≠(m0,m1,m2,m3):=fun t ht=>by
  obtain⟨p,hp,rfl⟩:=List.mem_map.1 ht;exact Vs.2 _ CB p hp
 have HI:=Gh (hI.new hv ha0 (qj ng ds));have hn:=fun W=>qcn (m0,m1,m2,m3) W;rw[hv]at hn;have EH:=fun(W:World)(hW:Below w.heap.size w W)=>(hf.old hW).look hm;rw[CB]at EH;simp only[Option.getD_none,Option.isSome_none]at EH;have Xs:=fun(W:World)(hW:Below w.heap.size w W)=>(hf.old hW).store hm (by unfold maxLen;omega) ps.length (by omega);have ha:=fun(W:World)(B:Nat)(hW:qx W B A c ds)(hB:B<=W.heap.size)=>yZ ng A c B ds W hB hW (by omega);have C5:=Gh (fun(X w4:World)(v':Value)(A3:Oa)(c3:Nat)=>@qij X w4 base g mb (.slice As ps.length cs) v' ps (mkP (qj ng ds) A3 c3 (m0,m1,m2,m3)) (fun x=>if x=(m0,m1,m2,m3)then some ps.length else f x));have Dk:=Gh (fun(A3:Oa)(c3:Nat)=>Vs.snoc (mkP (qj ng ds) A3 c3 (m0,m1,m2,m3)));have Fq:=hG.gb;have Nt:=Gh hG;have DO:=Gh Fq;have Rl:=Gh Un;have HA:=Gh ha;have WN:=Gh EH;have XH:=Gh Xs;have HN:=Gh hn;have HX:=Gh (qR w 111 25 (Jv (m0,m1,m2,m3)) #[.bool ng,.slice A ds.length c]);clear ha0 hn EH Xs ha Fq hG hI hv hm Un hf Vs CB;unfold YS;unfold qX at HA;generalize ts++[(qj ng ds,(m0,m1,m2,m3))]=ts' at*;simp only[Jv]at*;go_enter Tryz.func98,Tryz.ntmps98
 go_wp2_with fail
 generalize (w.alloc (.cells #[.int .i64 m0,.int .i64 m1,.int .i64 m2,.int .i64 m3] 111)).alloc (.cells #[.bool ng,.slice A ds.length c] 25)=W at*;obtain⟨Xb,k0,k1,hs⟩:=HX.out;clear hs HX;refine(HN _).mono ?_;rintro e W1 ⟨rfl,hl⟩;have RM:=Gt Xb hl.below;have q0:=k0.old hl.below;have q1:=k1.old hl.below;clear k0 k1 Xb hl;have gb1:=DO.out.old RM;have g0:W1.cell? ⟨g,0,none⟩=some (.map (some mb)):=gb1.cell 0;have b0:W1.cell? ⟨w.heap.size,0,none⟩=some (.int .i64 m0):=q0.cell 0;have b1:W1.cell? ⟨w.heap.size,1,none⟩=some (.int .i64 m1):=q0.cell 1;have b2:W1.cell? ⟨w.heap.size,2,none⟩=some (.int .i64 m2):=q0.cell 2;have b3:W1.cell? ⟨w.heap.size,3,none⟩=some (.int .i64 m3):=q0.cell 3;have NJ:=fun(n:Nat)=>WN (W1.drewN n) (RM.trans ((qt.drewN _ _).below _));go_wp2_with fail
 go_quiet (fail)
 clear NJ b0 b1 b2 b3 g0;have DY:Below w.heap.size w (W1.drewN nq):=RM.trans ((qt.drewN _ _).below _)
 replace gb1:=gb1.drewN nq
 replace q0:=q0.drewN nq
 replace q1:=q1.drewN nq
 clear RM;generalize W1.drewN nq=W2 at*;have g0:W2.cell? ⟨g,0,none⟩=some (.map (some mb)):=gb1.cell 0;have g1:W2.cell? ⟨g,1,none⟩=some (.slice As ps.length cs):=gb1.cell 1;have b0:W2.cell? ⟨w.heap.size,0,none⟩=some (.int .i64 m0):=q0.cell 0;have b1:W2.cell? ⟨w.heap.size,1,none⟩=some (.int .i64 m1):=q0.cell 1;have b2:W2.cell? ⟨w.heap.size,2,none⟩=some (.int .i64 m2):=q0.cell 2;have b3:W2.cell? ⟨w.heap.size,3,none⟩=some (.int .i64 m3):=q0.cell 3;go_wp2_with fail
 obtain⟨W5,VO,hmp,TE⟩:=XH.out W2.drew (DY.trans ((qt.drew _).below _));refine wp_region_still_tail 10 (by kernel_rfl) (by kernel_rfl) ?_;simp only[List.take_succ_cons,List.take_zero,List.drop_succ_cons,List.drop_zero];repeat still_step
 refine wpStill_nil ?_;change wpList _ _ _ _ _ W2.drew;clear g0 g1 b0 b1 b2 b3;have Vw:Below w.heap.size w W2.drew:=DY.trans ((qt.drew _).below _);have Er:=(HF.out.old Vw);have G2:=Nt.out.old Vw;have gb5:=G2.gb.grown TE (fun e=>Er.ne_blk G2.gb (by injection e with e;exact e.symm));have q05:qf W5 w.heap.size 111 #[.int .i64 m0,.int .i64 m1,.int .i64 m2,.int .i64 m3]:=qf.grown (w:=W2.drew) q0 TE (fun e=>Er.ne_blk (show qf W2.drew _ _ _ from q0) (by injection e with e;exact e.symm));have q15:qf W5 (w.heap.size+1) 25 #[.bool ng,.slice A ds.length c]:=qf.grown (w:=W2.drew) q1 TE (fun e=>Er.ne_blk (show qf W2.drew _ _ _ from q1) (by injection e with e;exact e.symm));have ro5:=G2.row.kept TE (.inr (fun e=>qad Er G2.row e.symm));have XL:base<=W5.heap.size:=Gl hb (Gl Vw.size TE.size);have t5:jD base w W5:=(jD.of_below hb Vw).trans (jD.map_ (Gl hb Vw.size) Er G2.lm TE);have dg5:∀p∈ps,qL W5 p.A p.ds/\p.ds.length<=p.c:=fun p hp=>⟨t5.natB (Nt.out.dg p hp).1,(Nt.out.dg p hp).2⟩;have in5:qx W5 w.heap.size A c ds:=(Rl.out.below Vw).map_ Vw.size Er TE;have in5':qx W5.drew w.heap.size A c ds:=⟨in5.rd,in5.dg,in5.cap⟩;have Od:w.heap.size<=W5.drew.heap.size:=Gl Vw.size TE.size;clear in5;have hwb5:w.heap.size<=W5.heap.size:=Gl Vw.size TE.size;have DG5:=Gh dg5;have LG:=Gh G2.lg;have LM:=Gh G2.lm;have lg5:=gb5.lt;have l05:=q05.lt;have l15:=q15.lt;have g1:W5.cell? ⟨g,1,none⟩=some (.slice As ps.length cs):=gb5.cell 1;have b0:W5.cell? ⟨w.heap.size,0,none⟩=some (.int .i64 m0):=q05.cell 0;have b1:W5.cell? ⟨w.heap.size,1,none⟩=some (.int .i64 m1):=q05.cell 1;have b2:W5.cell? ⟨w.heap.size,2,none⟩=some (.int .i64 m2):=q05.cell 2;have b3:W5.cell? ⟨w.heap.size,3,none⟩=some (.int .i64 m3):=q05.cell 3;have e0:W5.cell? ⟨w.heap.size+1,0,none⟩=some (.bool ng):=q15.cell 0;have e1:W5.cell? ⟨w.heap.size+1,1,none⟩=some (.slice A ds.length c):=q15.cell 1;have VK:ps.length+1<=maxLen:=by unfold maxLen;omega
 have VH:(ps.length+1)*64<=140737488355328:=by omega
 have Lc:=Gh (fun(k:Nat)(t:TypeId)(cs':Array Value)(h1:qf w k t cs')=>show qf W5 k t cs' from(h1.old Vw).grown TE (fun e=>Er.ne_blk (h1.old Vw) (by injection e with e;exact e.symm)));have HO5:=Gh (show Jf mb w W5 from(Jf.of_below Vw).map_ TE);clear dg5 Er G2 q0 q1 DY Vw gb1 HF;go_wp2_with fail
 go_region_law (first
  |(refine yt _ rfl (.tmp 51) (.tmp 56) 107 (by rfl) base 127 i0 _ 6 64 Tryz.underlying107 Uw XU X7 Xy rfl (by decide) (.slice As ps.length cs) ps.length (ps.flatMap PT.cells) (by rfl) roX (w3.heap.size+1) (some ⟨w3.heap.size,0,none⟩) 1 1 (mkP (qj ng ds) A3 c3 (m0,m1,m2,m3)).cells (by rfl) Xv XO VK VH hbX ?_
    intro v' w4 Ub hg4 Re;obtain⟨As',cs',rfl⟩:=jd Ub;have gb4:=gbX.grown hg4 (Jd roX gbX qls);have y1:w4.cell? ⟨g,1,none⟩=some (.slice As ps.length cs):=gb4.cell 1;have y2:=gb4.frozen 1)
  |(go_simp
    go_at_call 47
    refine(HA _ _ in5' Od).mono ?_;rintro e w3 ⟨A3,c3,rfl,h3,h4,h5⟩;have z1:=(h5.cell lg5).trans g1;have z2:=(h5.cell l05).trans b0;have z3:=(h5.cell l05).trans b1;have z4:=(h5.cell l05).trans b2;have z5:=(h5.cell l05).trans b3;have Xv:qu (w3.alloc (.cells #[.bool (decide (qj ng ds<0)),.slice A3 (dig (qj ng ds).natAbs).length c3,.int .i64 m0,.int .i64 m1,.int .i64 m2,.int .i64 m3] 127)) (w3.heap.size+1) 6 (some ⟨w3.heap.size,0,none⟩) 1 (mkP (qj ng ds) A3 c3 (m0,m1,m2,m3)).cells:=qu.six_new w3 (mkP (qj ng ds) A3 c3 (m0,m1,m2,m3)).cells rfl 127;have XO:=qgN [mkP (qj ng ds) A3 c3 (m0,m1,m2,m3)];have gbX:qf (w3.alloc (.cells #[.bool (decide (qj ng ds<0)),.slice A3 (dig (qj ng ds).natAbs).length c3,.int .i64 m0,.int .i64 m1,.int .i64 m2,.int .i64 m3] 127)) g 152 #[.map (some mb),.slice As ps.length cs]:=(qf.old (w:=W5.drew) gb5 h5).alloc _;have roX:(w3.alloc (.cells #[.bool (decide (qj ng ds<0)),.slice A3 (dig (qj ng ds).natAbs).length c3,.int .i64 m0,.int .i64 m1,.int .i64 m2,.int .i64 m3] 127)).ownsRow base 127 6 (.slice As ps.length cs) ps.length (ps.flatMap PT.cells):=jB (w:=W5.drew) ro5 (h5.alloc h5.size _);have hbX:base<=(w3.alloc (.cells #[.bool (decide (qj ng ds<0)),.slice A3 (dig (qj ng ds).natAbs).length c3,.int .i64 m0,.int .i64 m1,.int .i64 m2,.int .i64 m3] 127)).heap.size:=Gl XL (h5.alloc h5.size _).size;have z6:=gbX.cell 1))
 all_goals
  go_wp2_with fail
  go_end0
  have C0:Below W5.heap.size W5 w3:=((qt.drew W5).below _).trans h5;obtain⟨u1,u2⟩:=C5.out w3 w4 _ A3 c3 (Gl XL C0.size) LG LM (gb5.old C0) (hmp.old C0) (Dk A3 c3) (jB ro5 C0) (fun p hp=>⟨(DG5 p hp).1.old C0,(DG5 p hp).2⟩) Nt.out.cn h4 h3 (qcj _ _ _ _) _ Ub hg4;have FR:qkA g (.slice As ps.length cs) (.slice As' (ps.length+1) cs') w (w4.setCell ⟨g,1,none⟩ (.slice As' (ps.length+1) cs')):=fun k t cs1 x1 x2 x3=>by
   have y1':=(Lc k t cs1 x1).old C0;have y3':=(y1'.alloc (.cells #[.bool (decide (qj ng ds<0)),.slice A3 (dig (qj ng ds).natAbs).length c3,.int .i64 m0,.int .i64 m1,.int .i64 m2,.int .i64 m3] 127)).grown hg4 (fun e=>x3 e.symm);refine⟨y3'.far x2 _,fun e=>?_⟩;rcases Re with z|z
   ·exact x3 (z.symm.trans e)
   ·have:=x1.lt;have h6:=C0.size;rw[e]at z
    injection z with z
    simp at z;omega
  refine⟨rfl,_,_,u1,?_,(t5.trans (.of_below XL C0)).trans u2,FR,(((HO5.out.below C0).alloc _).own hg4 roX).set gb4 _ _⟩;rw[List.map_append,List.map_cons,List.map_nil,JK];exact HI
theorem qhh(base g mb:Nat)(v:Value)(ts:List Tm)(ps:List PT)(m:Mo)(ng:Bool)(A:Oa)(c:Nat)(ds:List Nat)(w:World)(hG:Z3 w base g mb v ps)(hI:zB ts (ps.map PT.tm))(hb:base<=w.heap.size)(hm:WfM m)
 (Un:qx w w.heap.size A c ds)(Fo:ds.length<=1000)(XC:ts.length<=100000)(FT:nrm ts<Big):
 Calls Tryz.prog 98 #[.pointer (some ⟨g,0,none⟩),.agg (Jv m),.agg #[.bool ng,.slice A ds.length c]] w (YS base g mb v (ts++[(qj ng ds,m)]) w):=by
 have U6:ps.length<=100000:=by have:=hI.len;simp at this;omega
 cases hv:zD m with
 |false=>exact qhs base g mb v ts ps m ng A c ds w hG hI hb hv
 |true=>
  obtain⟨f,hf,Vs⟩:=hG.mp
  cases CB:f m with
  |none=>
   obtain⟨As,cs,rfl⟩:=jd hG.row;exact qhK base g mb As cs ts ps m.1 m.2.1 m.2.2.1 m.2.2.2 ng A c ds w hG hI hb hv hm Un Fo U6 f hf Vs CB
  |some i=>
   obtain⟨p,hp,U4⟩:=Vs.1 m i CB;exact qhv base g mb v ts ps m ng A c ds w hG hI hb hv hm Un Fo U6 FT f hf i p CB hp U4
end Go.Proofs.YtflikmojaidhhaaGreatDoor
