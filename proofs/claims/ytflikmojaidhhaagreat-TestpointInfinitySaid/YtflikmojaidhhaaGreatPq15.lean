import Derived.Laws.Small
import Derived.Test.YtflikmojaidhhaaGreatPq14
namespace Go.Proofs.YtflikmojaidhhaaGreat
open Go.RowKit Go.Shelf
def qdL{α:Type}(F:Fence)(n:Nat)(P:Program)(gf:Nat)(lb:Array Value)(encs:α→Array Value)(Kp:World→World→Prop)(Pr:List α→α→World→Prop)(S Sp:List α→Prop)(w:World):Prop:=
 ∀(l:Nat)(J Jx:List α→World→Prop)(W:World),Below w.heap.size w W→AbidesFrom W.heap.size J→
  (∀pre x W1,J pre W1→Pr pre x W1→YieldAt F (n-1) P l (encs x) W1 fun e W'=>(e= .returned (.bool true)∧J (pre++[x]) W'∧Kp W1 W')∨(e= .returned (.bool false)∧Jx (pre++[x]) W'))→
  J [] W→CallsIn F n P gf (#[.func (.yield l) #[] #[]]++lb) W fun e W'=>(∃v,e= .returned v)∧((∃xs,S xs∧J xs W')∨(∃pre,Sp pre∧Jx pre W'))
section
variable {P:Program} {F:Fence} {n:Nat} {α:Type} {g:Operand} {ps:Array Tmp} {assign body:Code} {Q:Exit→Act→World→Prop} {a:Act} {w:World}
def qlb(w:World)(Kp:World→World→Prop)(I:List α→World→Prop)(Ix:Code→List α→World→Prop)(xs:List α)(W:World):Exit→Act→World→Prop
 | .normal,_,W'=>KeepsFrom w.heap.size W W'∧Kp W W'∧I xs W'
 | .exit id,_,W'=>KeepsFrom w.heap.size W W'∧Ix (.exit id) xs W'
 |_,_,_=>False
theorem YK(hro:F.round=none)(h1:1≤n){gf:Nat}{lb:Array Value}(hg:a.eval g= .func (.func gf) #[] lb)(hFg:F.fn gf)(eg:∀args w,(callFunc gf args).run P w= .ok (.enter gf args) w)
 {encs:α→Array Value}{Kp:World→World→Prop}{Pr:List α→α→World→Prop}{S Sp:List α→Prop}(hseq:qdL F (n-1) P gf lb encs Kp Pr S Sp w)
 (hKt:∀{A B C:World},Kp A B→Kp B C→Kp A C)(hKb:∀(W:World)(l:Nat)(o o':Obj),W.heap[l]? =some o→o.isCells=false→Kp W (W.putObj l o'))(hps:∀x,(encs x).size=ps.size)
 (I:List α→World→Prop)(Ix:Code→List α→World→Prop)(hI:OwnFrom w.heap.size I)(hIx:∀c,OwnFrom w.heap.size (Ix c))(h0:I [] w)
 (Ax:List α→α→Act→World→Prop)(hAx:∀pre x a',OwnFrom w.heap.size (fun(_:Unit) W=>Ax pre x a' W))
 (hassign:∀(l:Nat)(pre:List α)(x:α)(W:World)(K:Act→World→Prop),I pre W→Pr pre x W→(∀a' W',KeepsFrom w.heap.size W W'→Kp W W'→I pre W'→Ax pre x a' W'→K a' W')→
   assign.wpIn (F.inRound l) (n-1-1) P (Exit.then K (fun _ _ _=>False)) {tmps:=(ps.zip (encs x)).foldl (fun t (p,v)=>t.setIfInBounds p v) a.tmps,defers:=[]} W)
 (hbody:∀(l:Nat)(pre:List α)(x:α)(a':Act)(W:World),w.heap.size≤l→I pre W→Ax pre x a' W→body.wpIn (F.inRound l) (n-1-1) P (qlb w Kp I Ix (pre++[x]) W) a' W)
 (hdone:∀(D:Nat)(xs:List α)(W:World),w.heap.size≤D→S xs→I xs W→W.heap[D]? =some (.deferred (some []))→Q .normal {a with defers:={target:= .collected D,args:=#[]}::a.defers} W)
 (hstop:∀(D:Nat)(c:Code)(pre:List α)(W:World),w.heap.size≤D→Sp pre→Ix c pre W→W.heap[D]? =some (.deferred (some []))→c.wpIn F n P Q {a with defers:={target:= .collected D,args:=#[]}::a.defers} W):
 (Code.rangeFunc g ps assign body).wpIn F n P Q a w:=by
 refine wpIn_rangeFunc fun fn hfn=>?_;rw[hro]
 let rc:LoopState→Option Code→Loop:=fun st pe=>{state:=st,pending:=pe,fn,tmps:=a.tmps,params:=ps,assign,body,defers:=w.heap.size}
 let W0:World:=(w.alloc (.deferred (some []))).alloc (.loop (rc .ready none))
 have hL0:W0.heap[w.heap.size+1]? =some (.loop (rc .ready none)):=by
  have:=World.alloc_heap_new (w.alloc (.deferred (some []))) (.loop (rc .ready none));rwa[World.size_alloc]at this
 have hD0:W0.heap[w.heap.size]? =some (.deferred (some [])):=(Below.heap_alloc _ _ _ (by simp)).trans (World.alloc_heap_new w _);have hs0:w.heap.size≤W0.heap.size:=by show w.heap.size≤((w.alloc _).alloc _).heap.size;simp;omega
 have hb0:Below w.heap.size w W0:=((Below.refl _ w).alloc (Nat.le_refl _) _).alloc (by simp) _;refine⟨w.heap.size+1,[{target:= .collected w.heap.size,args:=#[]}],W0,{target:= .fn (.func gf) lb,args:=#[.func (.yield (w.heap.size+1)) #[] #[]]},W0,gf,#[.func (.yield (w.heap.size+1)) #[] #[]]++lb,W0,
  run_enterLoop_outer _ _ _ _ _,?_,?_,?_,fun _=>h1,?_⟩
 ·simp only[resolve,hg];simp[go_sem]
 ·intro f' hf';simp[Target.leads]at hf';subst hf';exact hFg
 ·simp[invoke,go_sem,eg]
 ·have far:∀{A:World} {row:Option Nat},(∀r,row=some r→W0.heap.size≤r∧∃o:Obj,A.heap[r]? =some o∧o.isWalk=true)→∀r,row=some r→w.heap.size≤r∧∃o:Obj,A.heap[r]? =some o∧o.isCells=false:=fun hr r e=>by
   obtain⟨hB,o,ho,hw⟩:=hr r e;exact⟨Nat.le_trans hs0 hB,o,ho,Obj.not_cells_of_walk hw⟩
  refine(hseq (w.heap.size+1) (fun pre W=>I pre W∧W.heap[w.heap.size+1]? =some (.loop (rc .ready none))∧W.heap[w.heap.size]? =some (.deferred (some [])))
   (fun pre W=>∃c,Ix c pre W∧W.heap[w.heap.size+1]? =some (.loop (rc .done (some c)))∧W.heap[w.heap.size]? =some (.deferred (some []))) W0 hb0
   (fun s A B row hs hg' hr=>⟨hI s A B row hs.1 hg' (far hr),(grownBy_keeps hg' (fun r e=>(hr r e).2) hs.2.1 rfl).trans hs.2.1,(grownBy_keeps hg' (fun r e=>(hr r e).2) hs.2.2 rfl).trans hs.2.2⟩)
   ?_ ⟨hI.alloc _ (hI.alloc _ h0),hL0,hD0⟩).mono ?_
  ·rintro pre x W ⟨hi,hl,hk⟩ hpr;refine⟨fn,_,assign,body,run_yield (P:=P) (args:=encs x) hl (hps x),roundIn_of_wpIn hfn (hassign _ pre x W _ hi hpr ?_)⟩;intro a' Wa hkfa hkpa hia hax;have la:=hkfa.same _ _ (by omega) hl rfl;have ka:=hkfa.same _ _ (Nat.le_refl _) hk rfl;have sa:w.heap.size+1<Wa.heap.size:=(Array.getElem?_eq_some_iff.1 la).1;refine⟨_,run_beginRound la rfl,?_⟩
   let Wb:World:=Wa.putObj (w.heap.size+1) (.loop {rc .ready none with state:= .busy})
   have lb':Wb.heap[w.heap.size+1]? =some (.loop {rc .ready none with state:= .busy}):=World.putObj_heap_same sa;have kb:Wb.heap[w.heap.size]? =some (.deferred (some [])):=(World.putObj_heap_other (by omega)).trans ka;have pb:Kp Wa Wb:=hKb _ _ _ _ la rfl;refine wpIn_mono (hbody _ pre x a' _ (by omega) (hI.putObj _ hia (by omega) la rfl) ((hAx pre x a').putObj (s:=()) _ hax (by omega) la rfl)) ?_;rintro e a3 W3 hp
   cases e with
   |normal=>
    obtain⟨hk3,hkp3,hi3⟩:=hp;have l3:=hk3.same _ _ (by omega) lb' rfl;exact⟨_,_,run_endRound (P:=P) none l3,.inl ⟨rfl,⟨hI.putObj _ hi3 (by omega) l3 rfl,World.putObj_heap_same (Array.getElem?_eq_some_iff.1 l3).1,(World.putObj_heap_other (by omega)).trans (hk3.same _ _ (Nat.le_refl _) kb rfl)⟩,
     hKt hkpa (hKt (hKt pb hkp3) (hKb _ _ _ _ l3 rfl))⟩⟩
   |exit id=>
    obtain⟨hk3,hi3⟩:=hp;have l3:=hk3.same _ _ (by omega) lb' rfl;exact⟨_,_,run_endRound (P:=P) (some (.exit id)) l3,.inr ⟨rfl,.exit id,(hIx _).putObj _ hi3 (by omega) l3 rfl,World.putObj_heap_same (Array.getElem?_eq_some_iff.1 l3).1,(World.putObj_heap_other (by omega)).trans (hk3.same _ _ (Nat.le_refl _) kb rfl)⟩⟩
   |ret=>exact hp.elim
   |goto t=>exact hp.elim
   |panic ch=>exact hp.elim
   |outgrown=>exact hp.elim
  ·rintro e W2 ⟨⟨v,rfl⟩,(⟨xs,hS,hi,hl,hk⟩|⟨pre,hSp,c,hi,hl,hk⟩)⟩
   ·exact⟨none,_,run_endLoop (P:=P) hl (by simp[rc]),hdone _ xs _ (Nat.le_refl _) hS (hI.putObj _ hi (by omega) hl rfl) ((World.putObj_heap_other (by omega)).trans hk)⟩
   ·exact⟨some c,_,run_endLoop (P:=P) hl (by simp[rc]),hstop _ c pre _ (Nat.le_refl _) hSp ((hIx c).putObj _ hi (by omega) hl rfl) ((World.putObj_heap_other (by omega)).trans hk)⟩
end
def ql2(ps:List PT)(pre:List PT)(x:PT)(W:World):Prop:=
 qh W W.heap.size x.A x.c x.ds∧Cn x∧x.ds.length≤1000∧pre.map PT.tm++[x.tm]=(ps.take (pre.length+1)).map PT.tm∧pre.length<ps.length
theorem qbM(n:Nat)(hn:1≤n)(Bs base:Nat)(A:Option Addr)(c:Nat)(ps:List PT)(w:World)(hlen:ps.length≤100000)(hBs:qd w Bs 109 #[.slice A ps.length c])(hin:jW w base (.slice A ps.length c) ps)(hdl:∀p∈ps,p.ds.length≤1000):
 qdL Fence.wide n Tryz.prog 156 #[.pointer (some ⟨Bs,0,none⟩)] qh5 (KT Bs base (.slice A ps.length c) ps) (ql2 ps) (fun ys=>ys.map PT.tm=ps.map PT.tm) (fun pre=>∃k,pre.map PT.tm=(ps.take k).map PT.tm) w:=
 fun l J Jx W hW hJ hY h0=>qgH n hn l Bs base A c ps W J Jx hJ hlen (fun pre x W1 hj h1 h2 h3 h4 h5=>hY pre x W1 hj ⟨h1,h2,h3,h4,h5⟩) (hBs.old hW) (hin.old hW) hdl h0
end Go.Proofs.YtflikmojaidhhaaGreat
namespace Go.Proofs.YtflikmojaidhhaaGreat
open Go.RowKit
def dg(L:Int)(m:Mo):Int:=if 1≤L∧L≤4 then gt m (L-1).toNat else 0
def sm(m:Mo):Int:=m.1+m.2.1+m.2.2.1+m.2.2.2
theorem MB.gt{E:Int}{m:Mo}(h:MB E m)(j:Nat)(hj:j<4):Go.Proofs.YtflikmojaidhhaaGreat.gt m j≤E:=by
 unfold MB at h;rcases(by omega:j=0∨j=1∨j=2∨j=3)with rfl|rfl|rfl|rfl
 ·exact h.1
 ·exact h.2.1
 ·exact h.2.2.1
 ·exact h.2.2.2
end Go.Proofs.YtflikmojaidhhaaGreat
namespace Go.Proofs.YtflikmojaidhhaaGreat
open Go.RowKit Go.Shelf
attribute [local go_sem] Oper.semAt_some
theorem qd.farH{B:Nat}{W W':World}{row:Option Nat}{k:Nat}{t:TypeId}{cs:Array Value}(h:qd W k t cs)(hg:W.grownBy W' row)(hr:∀r,row=some r→B≤r∧∃o:Obj,W.heap[r]? =some o∧o.isCells=false):qd W' k t cs:=
 h.grown hg (fun e'=>by obtain⟨_,o,ho,hc⟩:=hr k e'.symm;rw[show W.heap[k]? =_ from h]at ho;cases ho;cases hc)
theorem qht{ps pre:List PT}{x:PT}(h:pre.map PT.tm++[x.tm]=(ps.take (pre.length+1)).map PT.tm)(hl:pre.length<ps.length):pre.map PT.tm=(ps.take pre.length).map PT.tm∧∃p,ps[pre.length]? =some p∧p.tm=x.tm:=by
 obtain⟨p,hp⟩:∃p,ps[pre.length]? =some p:=⟨_,List.getElem?_eq_getElem hl⟩;rw[yG hp]at h;obtain⟨h1,h2⟩:=List.append_inj' h rfl;exact⟨h1,p,hp,by simpa using h2.symm⟩
end Go.Proofs.YtflikmojaidhhaaGreat
namespace Go.Proofs.YtflikmojaidhhaaGreat
open Go.RowKit Go.Shelf
attribute [local go_sem] Oper.semAt_some
theorem qh.farC{B:Nat}{W W':World}{row:Option Nat}{B' c:Nat}{A:Option Addr}{ds:List Nat}(h:qh W B' A c ds)(hg:W.grownBy W' row)(hr:∀r,row=some r→B≤r∧∃o:Obj,W.heap[r]? =some o∧o.isCells=false):qh W' B' A c ds:=
 ⟨⟨h.rd.1,fun hp=>by obtain⟨b,o,e,hb,hc⟩:=h.rd.2 hp;exact⟨b,o,e,hb,fun j u hu=>cell_kept (hc j u hu) hg (fun r e=>(hr r e).2)⟩⟩,h.dg,h.cap⟩
theorem qb6{B:Nat}{W W':World}(h:Below W.heap.size W W'):KeepsFrom B W W':=⟨h.size,fun k _ _ hk _=>(h.block k (Array.getElem?_eq_some_iff.1 hk).1).trans hk⟩
theorem qI.take{l:List Tm}(h:qI l)(k:Nat):qI (l.take k) where
 ne t ht:=h.ne t (List.mem_of_mem_take ht)
 vl t ht:=h.vl t (List.mem_of_mem_take ht)
 so:=h.so.sublist (List.take_sublist k l)
def qg0(g:Nat)(w:World)(e:Ending)(w':World):Prop:=∃A c,e= .returned (.agg #[.bool false,.slice A (dig g).length c])∧(dig g).length≤c∧qk w' A (dig g)∧Below w.heap.size w w'
theorem qy.n{g:Nat}{w:World}{e:Ending}{w':World}(h:qy (g:Int) w e w'):qg0 g w e w':=by
 obtain⟨A1,c1,h1,h2,h3,h4⟩:=h;have e0:decide ((g:Int)<0)=false:=by simp
 rw[e0,Int.natAbs_natCast]at h1;rw[Int.natAbs_natCast]at h2 h3;exact⟨A1,c1,h1,h2,h3,h4⟩
theorem qi6(g c c':Nat)(ng:Bool)(A A':Option Addr)(ds:List Nat)(w:World)(hc:(dig g).length≤c)(h:qk w A (dig g))(h':qh w w.heap.size A' c' ds)(hm:(dig g).length≤400000)(hm':ds.length≤400000):
 Calls Tryz.prog 133 #[.agg #[.bool false,.slice A (dig g).length c],.agg #[.bool ng,.slice A' ds.length c']] w (qg0 (Nat.gcd g (val ds)) w):=by
 have:=qfu false ng A A' c c' w.heap.size (dig g) ds w (Nat.le_refl _) (qV h hc) h' hm hm';rw[qp]at this;exact this.mono fun e w' h=>h.n
def qgG(Bt Br:Nat)(w:World)(pre:List PT)(W:World):Prop:=
 ∃A c,qd W Bt 25 #[.bool false,.slice A (dig (JN (pre.map PT.tm))).length c]∧(dig (JN (pre.map PT.tm))).length≤c∧qk W A (dig (JN (pre.map PT.tm)))∧qd W Br 25 #[.bool false,.slice none 0 0]∧Below w.heap.size w W
theorem qgG.own{Bt Br B:Nat}{w:World}(hw:w.heap.size≤B):OwnFrom B (qgG Bt Br w):=by
 rintro pre W W' row ⟨A,c,h1,h2,h3,h4,h5⟩ hg hr;exact⟨A,c,h1.farH hg hr,h2,h3.keep (fun _ _ hb=>hb.farH hg hr),h4.farH hg hr,ownFrom_below (β:=Unit) (Nat.le_refl _) hw () W W' row h5 hg hr⟩
def qca(qs pre:List PT)(x:PT)(F:Nat→Act)(a:Act)(W:World):Prop:=
 ∃Bx Bd,qd W Bx 25 #[.bool x.ng,.slice x.A x.ds.length x.c]∧qh W Bd x.A x.c x.ds∧Bd≤W.heap.size∧x.ds.length≤1000∧pre.map PT.tm++[x.tm]=(qs.take (pre.length+1)).map PT.tm∧pre.length<qs.length∧a=F Bx
theorem qca.own{qs pre:List PT}{x:PT}{F:Nat→Act}{a:Act}{B:Nat}:OwnFrom B (fun(_:Unit) W=>qca qs pre x F a W):=by
 rintro _ W W' row ⟨Bx,Bd,h1,h2,h3,h4⟩ hg hr;exact⟨Bx,Bd,h1.farH hg hr,h2.farC hg hr,Nat.le_trans h3 hg.size,h4⟩
set_option maxRecDepth 100000
set_option maxHeartbeats 4000000
theorem qdq(A:Option Addr)(c B N:Nat)(E:Int)(M:Nat)(ps:List PT)(w:World)(hB:B≤w.heap.size)(h:PIn w B A ps N E M)(hN:N≤50000)(hM:M<Big):
 Calls Tryz.prog 126 #[.slice A ps.length c] w fun e w'=>∃P,qI P∧(∀m,cf P m=cf (ps.map PT.tm) m)∧nrm P≤M∧qg0 (JN P) w e w':=by
 have HT:=Lib.hid (fun(W:World)(hW:Below w.heap.size w W)=>qgN A c B N E M ps W (Nat.le_trans hB hW.size) (h.below (hW.mono hB)) hN hM);have HO:=Lib.hid (fun(W:World)=>(JP 0 (by omega) (by omega) W).mono (fun e w' h=>qy.n (g:=0) h));unfold qg0 at HO;clear h;refine(callsIn_wide (n:=3)).1 ?_;refine callsIn_of_wp_marks Tryz.func126 rfl trivial ?_ rfl;simp only[Tryz.ntmps126,List.size_toArray,List.length_cons,List.length_nil,Nat.reduceAdd,Nat.reduceSub,Array.replicate_succ,Array.replicate_zero,List.push_toArray,List.append_toArray,List.nil_append,List.cons_append]
 gi_wp2_with (first|(refine⟨trivial,?_⟩;gi_at_call 35;refine(callsIn_wide.2 (HO.out _)).mono ?_;rintro e w1 ⟨A0,c0,rfl,hc0,hn0,hbo⟩;have hx1:=((Below.refl w.heap.size w).alloc (Nat.le_refl _) (.cells #[.bool false,.slice none 0 0] 25)).trans (hbo.mono (by simp));have k1:=(qd.new w 25 #[.bool false,.slice none 0 0]).old hbo)|(refine⟨trivial,?_⟩;gi_at_call 141;refine(callsIn_wide.2 (HT.out _ (hx1.alloc hx1.size _))).mono ?_;rintro e w2 ⟨b,A1,c1,qs,rfl,hblk,hbb,hgd,hb⟩))
 have hb1:Below w.heap.size w w2:=(hx1.alloc hx1.size _).trans (hb.mono (Nat.le_trans hx1.size (by simp)));have hq:qd w2 w1.heap.size 25 #[.bool false,.slice A0 (dig 0).length c0]:=(qd.new w1 _ _).old hb;have hr:qd w2 w.heap.size 25 #[.bool false,.slice none 0 0]:=(k1.alloc _).old hb;have hn:qk w2 A0 (dig 0):=(hn0.keep fun _ _ k=>k.alloc _).old hb;have hbr:w.heap.size<w1.heap.size:=k1.lt;have HGD:=Lib.hid hgd;have hqs:qs.length≤100000:=by have:=hgd.len;omega
 have hdl:∀p∈qs,p.ds.length≤1000:=fun p hp=>Nat.le_trans (hgd.dlen (k:=600) hM hp) (by omega);have hown:=hgd.own;clear hb hbo k1 hn0 hx1 hbb hgd HT HO;generalize (w1.alloc (.cells #[.bool false,.slice A0 (dig 0).length c0] 25)).heap.size=bT at*;generalize w1.heap.size=bt at*;refine YK (F:=Fence.wide) (n:=3) rfl (by omega) (gf:=156) (lb:=#[.pointer (some ⟨b,0,none⟩)]) rfl trivial (enters_of Tryz.func156 (by kernel_rfl) rfl)
  (qbM 2 (by omega) b bT A1 c1 qs w2 hqs hblk hown hdl) KT.trans (fun W l o o' h1 h2=>KT.put o' h1 h2) (fun _=>rfl)
  (qgG bt w.heap.size w) (fun _ _ _=>False)
  (qgG.own hb1.size) (fun _ _ _ _ _ hs _ _=>hs) ⟨A0,c0,hq,hc0,hn,hr,hb1⟩
  (fun pre x a' W=>qca qs pre x (fun Bx=>{tmps:=#[.slice A ps.length c,undef,.pointer (some ⟨w.heap.size,0,none⟩),.pointer (some ⟨bt,0,none⟩),undef,.pointer (some ⟨Bx,0,none⟩),.agg #[.bool false,.slice A0 (dig 0).length c0],.slice A ps.length c,.func (.func 156) #[] #[.pointer (some ⟨b,0,none⟩)],.agg #[.int .i64 x.m.1,.int .i64 x.m.2.1,.int .i64 x.m.2.2.1,.int .i64 x.m.2.2.2],.agg #[.bool x.ng,.slice x.A x.ds.length x.c],undef,undef,undef,undef],defers:=[]}) a' W)
  (fun pre x a'=>qca.own)
  ?assign ?body ?done ?stop
 case assign=>
  rintro l pre x W K ⟨Ai,ci,i1,i2,i3,i4,i5⟩ ⟨t1,t2,t3,t4,t5⟩ hK;unfold qh5 Jo;have hba:=(Below.refl W.heap.size W).alloc (Nat.le_refl _) (.cells #[.bool x.ng,.slice x.A x.ds.length x.c] 25);have HT4:=Lib.hid t4;have HT1:=Lib.hid (t1.below hba);have HT3:=Lib.hid t3;have HI:=Lib.hid (show qgG bt w.heap.size w pre (W.alloc (.cells #[.bool x.ng,.slice x.A x.ds.length x.c] 25))from⟨Ai,ci,i1.old hba,i2,i3.old hba,i4.old hba,i5.trans (hba.mono i5.size)⟩);clear t4 t1 t3 t2 i1 i2 i3 i4 i5
  gi_wp2
  exact hK _ _ ((KeepsOthers.alloc _ _).from _) (.old hba) HI.out ⟨W.heap.size,W.heap.size,qd.new W _ _,HT1.out,hba.size,HT3.out,HT4.out,t5,rfl⟩
 case body=>
  rintro l pre x a' W hl ⟨Ai,ci,i1,i2,i3,i4,i5⟩ ⟨Bx,Bd,hx,hxn,hBd,hxl,htold,hlt,rfl⟩;obtain⟨hpre,q,hq1,hqx⟩:=qht htold hlt;have hgl:JN ((pre++[x]).map PT.tm)=Nat.gcd (JN (pre.map PT.tm)) (val x.ds):=by
   rw[List.map_append,List.map_cons,List.map_nil,qjf];show Nat.gcd _ (qb x.ng x.ds).natAbs=_;rw[qz]
  have hln:(dig (JN (pre.map PT.tm))).length≤600:=by
   rw[hpre,List.map_take];refine zX (Nat.lt_of_le_of_lt (qaw (HGD.out.can.take _)) (Nat.lt_of_le_of_lt (qdj _ _) (Nat.lt_of_le_of_lt HGD.out.nm hM)))
  have HC:=Lib.hid (qi6 (JN (pre.map PT.tm)) ci x.c x.ng Ai x.A x.ds W i2 i3 (hxn.more hBd) (by omega) (by omega));rw[←hgl]at HC;unfold qg0 at HC;have HEX:=Lib.hid (show∀(V:World)(A:Option Addr)(c:Nat),(dig (JN ((pre++[x]).map PT.tm))).length≤c→qk V A (dig (JN ((pre++[x]).map PT.tm)))→qd V bt 25 #[.bool false,.slice A (dig (JN ((pre++[x]).map PT.tm))).length c]→qd V w.heap.size 25 #[.bool false,.slice none 0 0]→Below w.heap.size w V→qgG bt w.heap.size w (pre++[x]) V from fun V A c h1 h2 h3 h4 h5=>⟨A,c,h3,h1,h2,h4,h5⟩);generalize JN ((pre++[x]).map PT.tm)=g' at*;generalize JN (pre.map PT.tm)=g at*;have c0':W.cell? ⟨bt,0,none⟩=some (.bool false):=i1.cell 0;have c1':W.cell? ⟨bt,1,none⟩=some (.slice Ai (dig g).length ci):=i1.cell 1;have e0:W.cell? ⟨Bx,0,none⟩=some (.bool x.ng):=hx.cell 0;have e1:W.cell? ⟨Bx,1,none⟩=some (.slice x.A x.ds.length x.c):=hx.cell 1;have HI1:=Lib.hid i1;have HI4:=Lib.hid i4;have HI5:=Lib.hid i5;clear i1 i2 i3 i4 i5 hx hxn hBd hxl htold hlt hpre hq1 hqx hgl hln
  gi_wp2_with (first|(refine⟨trivial,?_⟩;gi_at_call 133;refine(callsIn_wide.2 HC.out).mono ?_;rintro e w3 ⟨A3,c3,rfl,h31,h32,h33⟩;have kk:=HI1.out.old h33;have d0:w3.cell? ⟨bt,0,none⟩=some (.bool false):=kk.cell 0;have d1:w3.cell? ⟨bt,1,none⟩=some (.slice Ai (dig g).length ci):=kk.cell 1;have f0:=kk.frozen 0;have f1:=kk.frozen 1;have z0:=kk.lt;have HK3:=Lib.hid kk;have H31:=Lib.hid h31;have H32:=Lib.hid h32;have H33:=Lib.hid h33;clear kk h31 h32 h33))
  have hk:=HK3.out;have h2:=H33.out;exact⟨(qb6 h2).trans (((KeepsOthers.setCell _ _ _).from _).trans ((KeepsOthers.setCell _ _ _).from _)),(KT.old h2).trans ((KT.set hk (by decide) (by decide) (by decide) _).trans (KT.set (hk.set_ 0 _) (by decide) (by decide) (by decide) _)),
   HEX.out _ A3 c3 H31.out (H32.out.store2 hk (by decide) _ _) ((hk.set_ 0 _).set_ 1 _) (((HI4.out.old h2).far (Nat.ne_of_lt hbr) _).far (Nat.ne_of_lt hbr) _) (((HI5.out.trans (h2.mono HI5.out.size)).setCell (Nat.le_of_lt hbr) _).setCell (Nat.le_of_lt hbr) _)⟩
 case done=>
  rintro D ys W hD hS ⟨Ai,ci,i1,i2,i3,i4,i5⟩ hK;have c0':W.cell? ⟨bt,0,none⟩=some (.bool false):=i1.cell 0;have c1':W.cell? ⟨bt,1,none⟩=some (.slice Ai (dig (JN (ys.map PT.tm))).length ci):=i1.cell 1;have d0:W.cell? ⟨w.heap.size,0,none⟩=some (.bool false):=i4.cell 0;have d1:W.cell? ⟨w.heap.size,1,none⟩=some (.slice none 0 0):=i4.cell 1;have f0:=i4.frozen 0;have f1:=i4.frozen 1;have z0:=i4.lt;have HS:=Lib.hid hS;have HI4:=Lib.hid i4;have HI5:=Lib.hid i5;have HI3:=Lib.hid i3;have HI2:=Lib.hid i2;have hDR:w.heap.size≠D:=by have:=hb1.size;have:=hr.lt;omega
  have HK:=Lib.hid hK;clear hS i1 i2 i3 i4 i5 hK
  gi_wp2
  have y2:=(HI4.out.set_ 0 (.bool false)).set_ 1 (.slice Ai (dig (JN (ys.map PT.tm))).length ci);have y6:((W.setCell ⟨w.heap.size,0,none⟩ (.bool false)).setCell ⟨w.heap.size,1,none⟩ (.slice Ai (dig (JN (ys.map PT.tm))).length ci)).heap[D]? =some (.deferred (some [])):=
   (Below.heap_setCell _ ⟨w.heap.size,1,none⟩ _ D (Ne.symm hDR)).trans ((Below.heap_setCell _ ⟨w.heap.size,0,none⟩ _ D (Ne.symm hDR)).trans HK.out)
  have y7:=(World.putObj_heap_other (o:= .deferred none) hDR).trans y2;refine⟨by simp,.inl ⟨_,_,rfl,run_takeDeferred y6,?_⟩⟩;refine⟨_,results_cell_row Tryz.results126 _ _ w.heap.size 25 _ (0,0) _ rfl y7 Tryz.underlying25 rfl Tryz.sizeInt,?_⟩;have hcan:qI (ys.map PT.tm):=by rw[HS.out];exact HGD.out.can
  refine⟨ys.map PT.tm,hcan,fun m=>by rw[HS.out];exact HGD.out.cf m,by rw[HS.out];exact HGD.out.nm,Ai,ci,rfl,HI2.out,?_,?_⟩
  ·exact(HI3.out.store2 HI4.out (by decide) _ _).keep fun k cs hb=>(World.putObj_heap_other (fun e=>by subst e;rw[show _=_ from hb]at y6;cases y6)).trans hb
  ·exact((HI5.out.setCell (Nat.le_refl _) _).setCell (Nat.le_refl _) _).trans (belowK_b (w:=w) (Nat.le_refl _) _ D _ _ (by have:=hb1.size;omega) y6 rfl rfl)
 case stop=>
  rintro D cc pre W _ _ h _;exact h.elim
end Go.Proofs.YtflikmojaidhhaaGreat
namespace Go.Proofs.YtflikmojaidhhaaGreat
open Go.RowKit
attribute [local go_sem ↓] Go.wp_at_zero Go.wp_at_succ
def Qf(d:Int)(l:List Tm)(k:Nat):List Tm:=Yl d (l.take k)++l.drop k
theorem qbA(d:Int)(l:List Tm):Qf d l 0=l:=by simp[Qf,Yl]
theorem qhl(d:Int)(l:List Tm):Qf d l l.length=Yl d l:=by simp[Qf]
theorem Z7(d:Int)(l:List Tm)(k:Nat):(Qf d l k).length=l.length:=by
 simp[Qf,Yl];omega
theorem qfG(d:Int)(l:List Tm)(k:Nat):(Qf d l k)[k]? =l[k]?:=by
 by_cases h:k<l.length
 ·unfold Qf Yl;rw[List.getElem?_append_right (by simp;omega)];simp[Nat.min_eq_left (Nat.le_of_lt h)]
 ·have e:l.length≤k:=by omega
  rw[List.getElem?_eq_none (by rw[Z7];omega),List.getElem?_eq_none e]
theorem qa5{d:Int}{l:List Tm}{k:Nat}{t:Tm}(h:l[k]? =some t):(Qf d l k).set k (t.1/d,t.2)=Qf d l (k+1):=by
 have hl:k<l.length:=(List.getElem?_eq_some_iff.1 h).1;have e:l[k]=t:=(List.getElem?_eq_some_iff.1 h).2;unfold Qf;rw[List.set_append_right _ _ (by simp[Yl];omega)];have e1:k-(Yl d (l.take k)).length=0:=by simp[Yl];omega
 rw[e1,List.drop_eq_getElem_cons hl,List.set_cons_zero,List.take_succ_eq_append_getElem hl,e];unfold Yl;rw[List.map_append];simp
theorem yD.sn{X X':World}{base N M n:Nat}{E:Int}{v v':Value}{ps qs:List PT}{F:Mo→Int}(h:yD X base v ps F N E M)(hn:ps.length=n)(hq:qs.map PT.tm=Qf (dvs (ps.map PT.tm)) (ps.map PT.tm) n)(ho:jW X' base v' qs):yD X' base v' qs (Go.Proofs.YtflikmojaidhhaaGreat.cf (snL (ps.map PT.tm))) N E M:=by
 have e:qs.map PT.tm=snL (ps.map PT.tm):=by
  rw[hq,←hn,←List.length_map (f:=PT.tm)];exact qhl _ _
 refine⟨ho,by rw[e];exact qat h.can,fun m=>by rw[e],?_,fun q hqm=>?_,?_⟩
 ·have:=congrArg List.length e;rw[qlt,List.length_map,List.length_map]at this;rw[this];exact h.len
 ·have:q.tm∈snL (ps.map PT.tm):=e▸List.mem_map.2 ⟨q,hqm,rfl⟩;obtain⟨s,hs,hs'⟩:=List.mem_map.1 this;obtain⟨p,hp,rfl⟩:=List.mem_map.1 hs;have e3:q.m=p.m:=(congrArg Prod.snd hs').symm;rw[e3];exact h.mb p hp
 ·rw[e];exact Nat.le_trans (qly h.can) h.nm
def qkU(l:List Tm)(N:Nat)(E:Int)(M:Nat)(w:World)(e:Ending)(w':World):Prop:=∃P,qI P∧(∀m,cf P m=cf l m)∧qer (cf (snL P)) N E M w e w'
theorem qjc{l:List Tm}{t:Tm}(h:l[0]? =some t):hdN l=decide (t.1<0):=by
 cases l with
 |nil=>simp at h
 |cons s l=>simp at h;rw[h];rfl
theorem Qo(z:Int):(qB z<0)↔z<0:=by unfold qB;split<;>(try split)<;>omega
set_option maxHeartbeats 4000000
set_option maxRecDepth 100000
theorem qaX(A:Option Addr)(c B N:Nat)(E:Int)(M:Nat)(ps:List PT)(w:World)(hB:B≤w.heap.size)(h:PIn w B A ps N E M)(hN:N≤50000)(hM:M<Big)(hE:E≤9223372036854775807):
 Calls Tryz.prog 105 #[.slice A ps.length c] w (qkU (ps.map PT.tm) N E M w):=by
 have HP:=Lib.hid (yZ A c B N E M ps w hB h hN hM);clear h;generalize ps.map PT.tm=L0 at*;generalize ps.length=n0 at*;go_enter Tryz.func105,Tryz.ntmps105
 go_wp2_with fail
 refine HP.out.mono ?_;rintro e w1 ⟨A1,c1,qs,rfl,hgd,hb1⟩;clear HP;by_cases h0:qs.length=0
 ·obtain rfl:qs=[]:=List.length_eq_zero_iff.1 h0;have HGD:=Lib.hid hgd;have HB1:=Lib.hid hb1;clear hgd hb1 h0;go_wp2_with fail
  go_ret
  have hg:=HGD.out;exact⟨[],qI.nil,fun m=>hg.cf m,A1,c1,[],rfl,⟨hg.own,hg.can,fun m=>rfl,hg.len,hg.mb,hg.nm⟩,HB1.out⟩
 ·have HCT:=Lib.hid (qdq A1 c1 w1.heap.size N E M qs w1 (Nat.le_refl _) (hgd.pin hE hM) hN hM);unfold qg0 at HCT;have HGD:=Lib.hid hgd;have HB1:=Lib.hid hb1;have hlen:=hgd.len;obtain⟨q0,hq0⟩:∃q0,qs[0]? =some q0:=⟨_,List.getElem?_eq_getElem (by omega)⟩;have hqm:=List.mem_of_getElem? hq0;have hql:q0.ds.length≤600:=hgd.dlen (k:=600) hM hqm;obtain⟨rb,rfl⟩:∃rb,A1=some ⟨rb,0,none⟩:=by
   obtain⟨g',cap,hv',_⟩:=hgd.own.row.form (by omega)
   injection hv' with h1
   exact⟨g',h1⟩
  have HQ0:=Lib.hid hq0;have HNP:=Lib.hid (hgd.own.nin hqm);have HQL:=Lib.hid hql;have hne:qs.map PT.tm≠[]:=fun e=>h0 (by have:=congrArg List.length e;simpa using this);have HNE:=Lib.hid hne;have hpos:0<qs.length:=by omega
  have hown:=hgd.own;have HOWN:=Lib.hid hown;clear hgd hb1 hq0 hqm hql hne hown;generalize hqn:qs.length=n at*;have HQN:=Lib.hid hqn;clear hqn;have i0:(0:Int)<(n:Int):=by omega
  have hz:((n:Int)==0)=false:=by
   simp;omega
  go_wp2_with fail
  refine HCT.out.mono ?_;rintro e w2 ⟨P,hP1,hP2,hP3,Ag,cg,rfl,hcg,hng,hb2⟩;obtain rfl:P=qs.map PT.tm:=hP1.unique HGD.out.can fun m=>(hP2 m).trans rfl;have HSG:=Lib.hid (fun(W:World)(hW:Below w1.heap.size w1 W)=>zQ q0.ng q0.A q0.c w1.heap.size q0.ds W hW.size (HNP.out.below hW) (by have:=HQL.out;omega));obtain⟨cur,hkr,hbr,hcap,hcur⟩:=jx (HQN.out▸(HOWN.out.old hb2).row);have r0:cur[0]? =some (.bool q0.ng):=hcur _ _ (yk qs 0 0 q0 HQ0.out (by omega));have r1:cur[1]? =some (.slice q0.A q0.ds.length q0.c):=hcur _ _ (yk qs 0 1 q0 HQ0.out (by omega));have e0:(w2.alloc (.cells #[.bool false,.slice Ag (dig (JN (qs.map PT.tm))).length cg] 25)).cell? ⟨rb,0,none⟩=some (.bool q0.ng):=((hkr.alloc _).cell 0).trans r0;have e1:(w2.alloc (.cells #[.bool false,.slice Ag (dig (JN (qs.map PT.tm))).length cg] 25)).cell? ⟨rb,1,none⟩=some (.slice q0.A q0.ds.length q0.c):=((hkr.alloc _).cell 1).trans r1;have HX:=Lib.hid (qK w2 25 25 #[.bool false,.slice Ag (dig (JN (qs.map PT.tm))).length cg] #[.bool q0.ng,.slice q0.A q0.ds.length q0.c]);have HS1:=Lib.hid (HSG.out (w2.alloc (.cells #[.bool false,.slice Ag (dig (JN (qs.map PT.tm))).length cg] 25)) (hb2.alloc hb2.size _));have hgl:(dig (JN (qs.map PT.tm))).length≤600:=zX (Nat.lt_of_le_of_lt (qaw hP1) (Nat.lt_of_le_of_lt hP3 hM));have hgp:=qbO hP1 HNE.out;have hdn:=qcH hP1 HNE.out;have hda:=qbS (qs.map PT.tm);have hdd:dvs (qs.map PT.tm)=if hdN (qs.map PT.tm)then -(JN (qs.map PT.tm):Int)else(JN (qs.map PT.tm):Int):=rfl
  rw[qjc (t:=q0.tm) (by rw[List.getElem?_map,HQ0.out];rfl)]at hdd;have hq0z:q0.tm.1=qb q0.ng q0.ds:=rfl;rw[hq0z]at hdd;have HDD:=Lib.hid (fun(t:Tm)(ht:t∈qs.map PT.tm)=>Q8 ht);have HSN:=Lib.hid (fun(X':World)(v':Value)(rs:List PT)(hq:rs.map PT.tm=Qf (dvs (qs.map PT.tm)) (qs.map PT.tm) n)(ho:jW X' w.heap.size v' rs)=>HGD.out.sn HQN.out hq ho);have HP1:=Lib.hid hP1;have HP2:=Lib.hid (fun m=>HGD.out.cf m);have HNG:=Lib.hid (fun(W:World)(hn:qk W Ag (dig (JN (qs.map PT.tm))))=>qhj false Ag cg W.heap.size (dig (JN (qs.map PT.tm))) W (Nat.le_refl _) (qV hn hcg) (by omega));unfold qy at HNG;rw[show qb false (dig (JN (qs.map PT.tm)))=(JN (qs.map PT.tm):Int)by unfold qb;rw[qp];rfl]at HNG;have HD0:=Lib.hid hdn;have HHD:=Lib.hid hdd;have HGP:=Lib.hid hgp;have HGL:=Lib.hid (show(dig (dvs (qs.map PT.tm)).natAbs).length≤600 by rw[hda];exact hgl);have HN2:=Lib.hid hng;have HCG:=Lib.hid hcg;have HB2:=Lib.hid hb2;clear HQ0 hdn hdd hda hgp hgl hP1 hP2 hP3 hng hcg hb2 hkr hbr hcap hcur r0 r1 hq0z HCT HSG;generalize dvs (qs.map PT.tm)=D at*;generalize JN (qs.map PT.tm)=g at*;by_cases hneg:qb q0.ng q0.ds<0
  ·have hsg:=(Qo _).2 hneg;have hD:D=-(g:Int):=by rw[HHD.out];simp[hneg]
   rw[←hD]at HNG;have HNEG:=Lib.hid hneg;have HDG:=Lib.hid hD;clear hneg hD;generalize qB (qb q0.ng q0.ds)=sg at*;go_wp2_with fail
   refine HS1.out.mono ?_;rintro e w3 ⟨rfl,rfl⟩;obtain⟨hx0,k0,_,hs⟩:=HX.out;have HXS:=Lib.hid hs;clear HX hs HS1 e0 e1;generalize (w2.alloc (.cells #[.bool false,.slice Ag (dig g).length cg] 25)).alloc (.cells #[.bool q0.ng,.slice q0.A q0.ds.length q0.c] 25)=X at*;have HN3:=Lib.hid (HNG.out X (HN2.out.old hx0));have p0:X.cell? ⟨w2.heap.size,0,none⟩=some (.bool false):=k0.cell 0;have p1:X.cell? ⟨w2.heap.size,1,none⟩=some (.slice Ag (dig g).length cg):=k0.cell 1;have HBX:=Lib.hid (HB2.out.trans (hx0.mono HB2.out.size));have HKX:=Lib.hid k0;clear k0 hx0;go_wp2_with fail
   refine HN3.out.mono ?_;rintro e w4 ⟨dA,dc,rfl,h41,h42,h43⟩;have kk:=HKX.out.old h43;have d0:w4.cell? ⟨w2.heap.size,0,none⟩=some (.bool false):=kk.cell 0;have d1:w4.cell? ⟨w2.heap.size,1,none⟩=some (.slice Ag (dig g).length cg):=kk.cell 1;have f0:=kk.frozen 0;have f1:=kk.frozen 1;have z0:=kk.lt;have HVB:=Lib.hid (((HBX.out.trans (h43.mono HBX.out.size)).setCell (p:=⟨w2.heap.size,0,none⟩) HB2.out.size (.bool (decide (D<0)))).setCell (p:=⟨w2.heap.size,1,none⟩) HB2.out.size (.slice dA (dig D.natAbs).length dc));have HVK:=Lib.hid ((kk.set_ 0 (.bool (decide (D<0)))).set_ 1 (.slice dA (dig D.natAbs).length dc));have HVN:=Lib.hid (h42.store2 kk (by decide) (.bool (decide (D<0))) (.slice dA (dig D.natAbs).length dc));have HDC:=Lib.hid h41;clear kk h41 h42 h43 p0 p1 HN3 HBX HKX;go_wp2_with fail
   clear d0 d1 f0 f1 z0;generalize (w4.setCell ⟨w2.heap.size,0,none⟩ (.bool (decide (D<0)))).setCell ⟨w2.heap.size,1,none⟩ (.slice dA (dig D.natAbs).length dc)=V at*;obtain⟨uA,uc,HUK,HUN,HUC⟩:∃uA uc,Hid (qd V w2.heap.size 25 #[.bool (decide (D<0)),.slice uA (dig D.natAbs).length uc])∧Hid (qk V uA (dig D.natAbs))∧Hid ((dig D.natAbs).length≤uc):=⟨dA,dc,HVK,HVN,HDC⟩;clear HVK HVN HDC;clear HNG HNP;have hvb:=HVB.out;have hlw:w2.heap.size<V.heap.size:=HUK.out.lt;have HBV:=Lib.hid (HB1.out.trans (hvb.mono HB1.out.size));have HOV:=Lib.hid (HOWN.out.old hvb);have HNB:=Lib.hid (HGD.out.own.cn);have hB2:w.heap.size≤w2.heap.size:=Nat.le_trans HB1.out.size HB2.out.size;have HDL:=Lib.hid (fun p hp=>HGD.out.dlen (k:=600) hM (p:=p) hp);clear hvb HOWN HVB;generalize w2.heap.size=b4 at*;generalize hdn:decide (D<0)=dn at*;have HDN:=Lib.hid hdn;clear hdn;go_loopg [5,24] n (fun gn _ ix wr=>∃(k:Nat)(rs:List PT),k≤n∧gn=n-k∧ix= .int .i64 k∧jW wr w.heap.size (.slice (some ⟨rb,0,none⟩) n c1) rs∧rs.map PT.tm=Qf D (qs.map PT.tm) k∧Below w.heap.size w wr∧qd wr b4 25 #[.bool dn,.slice uA (dig D.natAbs).length uc]∧qk wr uA (dig D.natAbs))
   case atStart=>exact⟨0,qs,Nat.zero_le _,rfl,rfl,HOV.out,(qbA _ _).symm,HBV.out,HUK.out,HUN.out⟩
   case round=>
    clear HOV HBV HUK HUN hlw;obtain⟨k,rs,hk,hgk,rfl,hro,hrt,hbl,hkb,hnb⟩:=hrel;have HG:=Lib.hid hgk;clear hgk;have hrl:rs.length=n:=by
     have:=congrArg List.length hrt;rw[Z7,List.length_map,List.length_map]at this;have:=HQN.out;omega
    by_cases hlt:k<n
    ·obtain⟨q,hq⟩:∃q,qs[k]? =some q:=⟨_,List.getElem?_eq_getElem (by have:=HQN.out;omega)⟩;obtain⟨p,hp⟩:∃p,rs[k]? =some p:=⟨_,List.getElem?_eq_getElem (by omega)⟩;have hpm:=List.mem_of_getElem? hp;have htq:p.tm=q.tm:=by
      have e1:(rs.map PT.tm)[k]? =some p.tm:=by simp[hp]
      have e2:(qs.map PT.tm)[k]? =some q.tm:=by simp[hq]
      rw[hrt,qfG,e2]at e1
      injection e1 with e1
      exact e1.symm
     have hpl:p.ds.length≤600:=by
      rw[(hro.cn p hpm).ds,htq,←(HNB.out q (List.mem_of_getElem? hq)).ds];exact HDL.out q (List.mem_of_getElem? hq)
     have hdv:D∣p.tm.1:=by
      rw[htq];exact HDD.out _ (List.mem_map.2 ⟨q,List.mem_of_getElem? hq,rfl⟩)
     obtain⟨cur,hkr,hbr,hcap,hcur⟩:=jx (hrl▸hro.row);have r0:cur[k*6]? =some (.bool p.ng):=hcur _ _ (yk rs k 0 p hp (by omega));have r1:cur[k*6+1]? =some (.slice p.A p.ds.length p.c):=hcur _ _ (yk rs k 1 p hp (by omega));have HU:=Lib.hid (fun(W:World)(hW:Below wr.heap.size wr W)(A3:Option Addr)(c3:Nat)=>(hro.old hW).upd hrl hp (p.tm.1/D) A3 c3);have HT:=Lib.hid (show(rs.map PT.tm).set k (p.tm.1/D,p.m)=Qf D (qs.map PT.tm) (k+1)by
      have e2:(qs.map PT.tm)[k]? =some p.tm:=by simp[hq,htq]
      rw[hrt];exact qa5 e2)
     have HMS:=Lib.hid (QJ rs k);have hnp:=hro.nin hpm;have hid:qb dn (dig D.natAbs)=D:=by rw[←HDN.out];exact q7 D
     have hze:qb p.ng p.ds=p.tm.1:=rfl;have HA:=Lib.hid (fun(W:World)(hW:Below wr.heap.size wr W)=>qbf p.ng dn p.A uA p.c uc W.heap.size p.ds (dig D.natAbs) W (Nat.le_refl _) ((hnp.below hW).more hW.size) (qV (hnb.old hW) HUC.out) (by omega) (by have:=HGL.out;omega) (by rw[hid];exact HD0.out) (by rw[hid,hze];exact hdv));rw[hid,hze]at HA;unfold QU at HA;clear hid hze hnp hro hrt hcur htq hq hp hpm hdv;have c0:wr.cell? ⟨b4,0,none⟩=some (.bool dn):=hkb.cell 0;have c1':wr.cell? ⟨b4,1,none⟩=some (.slice uA (dig D.natAbs).length uc):=hkb.cell 1;have e0:wr.cell? ⟨rb,k*6,none⟩=some (.bool p.ng):=(hkr.cell _).trans r0;have e1:wr.cell? ⟨rb,k*6+1,none⟩=some (.slice p.A p.ds.length p.c):=(hkr.cell _).trans r1;have i0:(0:Int)≤(k:Int):=by omega
     have i1:(k:Int)<(n:Int):=by omega
     have i2:(n:Int)≤(c1:Int):=by omega
     have lr:=hkr.lt;have lq:=hkb.lt;have hne:b4≠rb:=fun e=>by
      subst e;have:=hkr.symm.trans hkb
      injection this with this
      injection this with _ h2
      exact absurd h2 (by decide)
     have HBL:=Lib.hid hbl;have HNU:=Lib.hid hnb;have hdr:Below wr.heap.size wr wr.drew:=(qm.drew _).below _;have hsz:=hbl.size;generalize hzz:p.tm.1/D=zz at*;generalize hpn:p.ng=png at*;generalize hpd:p.ds=pds at*;generalize hpA:p.A=pA at*;generalize hpc:p.c=pc at*;clear hpn hpd hpA hpc hbl hzz hnb;go_wp2_with fail
     go_region_with ((go_at_call 128;refine(HA.out _ hdr).mono ?_;rintro e w3 ⟨A3,c3,rfl,h3,h4,h5⟩;have kk:=qd.old (w:=wr.drew) hkr h5;have d0:=(kk.cell (k*6)).trans r0;have d1:=(kk.cell (k*6+1)).trans r1;have f0:=kk.frozen (k*6);have f1:=kk.frozen (k*6+1);have kc:=qd.old (w:=wr.drew) hkb h5))
     all_goals
      go_wp2_with fail
      obtain⟨u1,u2⟩:=HU.out w3 (hdr.trans h5) A3 c3 h4 h3;have hn5:=((HNU.out.old (hdr.trans h5)).far kk (by decide) (k*6) (.bool (decide (zz<0)))).far (kk.set_ (k*6) (.bool (decide (zz<0)))) (by decide) (k*6+1) (.slice A3 (dig zz.natAbs).length c3);go_roundg (n-(k+1))
      case rel=>
       refine⟨k+1,_,by omega,rfl,by go_num,u1,?_,HBL.out.trans (((hdr.trans h5).mono hsz).trans u2),(kc.far hne _).far hne _,hn5⟩;rw[HMS.out,yT];exact HT.out
      case measure=>have:=HG.out;omega
    ·obtain rfl:k=n:=by omega
     have HFIN:=HSN.out _ _ _ hrt hro;go_wp2_with fail
     go_ret
     subst hrl;exact⟨qs.map PT.tm,HP1.out,HP2.out,_,c1,rs,rfl,HFIN,hbl⟩
  ·have hsg:¬qB (qb q0.ng q0.ds)<0:=fun h=>hneg ((Qo _).1 h);have hsg:0≤qB (qb q0.ng q0.ds):=by omega
   have hD:D=(g:Int):=by rw[HHD.out];simp[hneg]
   have HDG:=Lib.hid hD;clear hneg hD;generalize qB (qb q0.ng q0.ds)=sg at*;go_wp2_with fail
   refine HS1.out.mono ?_;rintro e w3 ⟨rfl,rfl⟩;obtain⟨hx0,k0,_,hs⟩:=HX.out;have HVB:=Lib.hid (HB2.out.trans (hx0.mono HB2.out.size));clear HX hs HS1 e0 e1;generalize (w2.alloc (.cells #[.bool false,.slice Ag (dig g).length cg] 25)).alloc (.cells #[.bool q0.ng,.slice q0.A q0.ds.length q0.c] 25)=X at*;have x0:decide (D<0)=false:=by rw[HDG.out];simp
   have x1:D.natAbs=g:=by rw[HDG.out];simp
   have HVN:Hid (qk X Ag (dig D.natAbs)):=Lib.hid (by rw[x1];exact HN2.out.old hx0);have HDC:Hid ((dig D.natAbs).length≤cg):=Lib.hid (by rw[x1];exact HCG.out);have HVK:Hid (qd X w2.heap.size 25 #[.bool (decide (D<0)),.slice Ag (dig D.natAbs).length cg]):=Lib.hid (by rw[x0,x1];exact k0);clear k0 hx0 x0 x1;go_wp2_with fail
   generalize hXV:X=V at*;clear hXV;obtain⟨uA,uc,HUK,HUN,HUC⟩:∃uA uc,Hid (qd V w2.heap.size 25 #[.bool (decide (D<0)),.slice uA (dig D.natAbs).length uc])∧Hid (qk V uA (dig D.natAbs))∧Hid ((dig D.natAbs).length≤uc):=⟨Ag,cg,HVK,HVN,HDC⟩;clear HVK HVN HDC;clear HNG HNP;have hvb:=HVB.out;have hlw:w2.heap.size<V.heap.size:=HUK.out.lt;have HBV:=Lib.hid (HB1.out.trans (hvb.mono HB1.out.size));have HOV:=Lib.hid (HOWN.out.old hvb);have HNB:=Lib.hid (HGD.out.own.cn);have hB2:w.heap.size≤w2.heap.size:=Nat.le_trans HB1.out.size HB2.out.size;have HDL:=Lib.hid (fun p hp=>HGD.out.dlen (k:=600) hM (p:=p) hp);clear hvb HOWN HVB;generalize w2.heap.size=b4 at*;generalize hdn:decide (D<0)=dn at*;have HDN:=Lib.hid hdn;clear hdn;go_loopg [5,24] n (fun gn _ ix wr=>∃(k:Nat)(rs:List PT),k≤n∧gn=n-k∧ix= .int .i64 k∧jW wr w.heap.size (.slice (some ⟨rb,0,none⟩) n c1) rs∧rs.map PT.tm=Qf D (qs.map PT.tm) k∧Below w.heap.size w wr∧qd wr b4 25 #[.bool dn,.slice uA (dig D.natAbs).length uc]∧qk wr uA (dig D.natAbs))
   case atStart=>exact⟨0,qs,Nat.zero_le _,rfl,rfl,HOV.out,(qbA _ _).symm,HBV.out,HUK.out,HUN.out⟩
   case round=>
    clear HOV HBV HUK HUN hlw;obtain⟨k,rs,hk,hgk,rfl,hro,hrt,hbl,hkb,hnb⟩:=hrel;have HG:=Lib.hid hgk;clear hgk;have hrl:rs.length=n:=by
     have:=congrArg List.length hrt;rw[Z7,List.length_map,List.length_map]at this;have:=HQN.out;omega
    by_cases hlt:k<n
    ·obtain⟨q,hq⟩:∃q,qs[k]? =some q:=⟨_,List.getElem?_eq_getElem (by have:=HQN.out;omega)⟩;obtain⟨p,hp⟩:∃p,rs[k]? =some p:=⟨_,List.getElem?_eq_getElem (by omega)⟩;have hpm:=List.mem_of_getElem? hp;have htq:p.tm=q.tm:=by
      have e1:(rs.map PT.tm)[k]? =some p.tm:=by simp[hp]
      have e2:(qs.map PT.tm)[k]? =some q.tm:=by simp[hq]
      rw[hrt,qfG,e2]at e1
      injection e1 with e1
      exact e1.symm
     have hpl:p.ds.length≤600:=by
      rw[(hro.cn p hpm).ds,htq,←(HNB.out q (List.mem_of_getElem? hq)).ds];exact HDL.out q (List.mem_of_getElem? hq)
     have hdv:D∣p.tm.1:=by
      rw[htq];exact HDD.out _ (List.mem_map.2 ⟨q,List.mem_of_getElem? hq,rfl⟩)
     obtain⟨cur,hkr,hbr,hcap,hcur⟩:=jx (hrl▸hro.row);have r0:cur[k*6]? =some (.bool p.ng):=hcur _ _ (yk rs k 0 p hp (by omega));have r1:cur[k*6+1]? =some (.slice p.A p.ds.length p.c):=hcur _ _ (yk rs k 1 p hp (by omega));have HU:=Lib.hid (fun(W:World)(hW:Below wr.heap.size wr W)(A3:Option Addr)(c3:Nat)=>(hro.old hW).upd hrl hp (p.tm.1/D) A3 c3);have HT:=Lib.hid (show(rs.map PT.tm).set k (p.tm.1/D,p.m)=Qf D (qs.map PT.tm) (k+1)by
      have e2:(qs.map PT.tm)[k]? =some p.tm:=by simp[hq,htq]
      rw[hrt];exact qa5 e2)
     have HMS:=Lib.hid (QJ rs k);have hnp:=hro.nin hpm;have hid:qb dn (dig D.natAbs)=D:=by rw[←HDN.out];exact q7 D
     have hze:qb p.ng p.ds=p.tm.1:=rfl;have HA:=Lib.hid (fun(W:World)(hW:Below wr.heap.size wr W)=>qbf p.ng dn p.A uA p.c uc W.heap.size p.ds (dig D.natAbs) W (Nat.le_refl _) ((hnp.below hW).more hW.size) (qV (hnb.old hW) HUC.out) (by omega) (by have:=HGL.out;omega) (by rw[hid];exact HD0.out) (by rw[hid,hze];exact hdv));rw[hid,hze]at HA;unfold QU at HA;clear hid hze hnp hro hrt hcur htq hq hp hpm hdv;have c0:wr.cell? ⟨b4,0,none⟩=some (.bool dn):=hkb.cell 0;have c1':wr.cell? ⟨b4,1,none⟩=some (.slice uA (dig D.natAbs).length uc):=hkb.cell 1;have e0:wr.cell? ⟨rb,k*6,none⟩=some (.bool p.ng):=(hkr.cell _).trans r0;have e1:wr.cell? ⟨rb,k*6+1,none⟩=some (.slice p.A p.ds.length p.c):=(hkr.cell _).trans r1;have i0:(0:Int)≤(k:Int):=by omega
     have i1:(k:Int)<(n:Int):=by omega
     have i2:(n:Int)≤(c1:Int):=by omega
     have lr:=hkr.lt;have lq:=hkb.lt;have hne:b4≠rb:=fun e=>by
      subst e;have:=hkr.symm.trans hkb
      injection this with this
      injection this with _ h2
      exact absurd h2 (by decide)
     have HBL:=Lib.hid hbl;have HNU:=Lib.hid hnb;have hdr:Below wr.heap.size wr wr.drew:=(qm.drew _).below _;have hsz:=hbl.size;generalize hzz:p.tm.1/D=zz at*;generalize hpn:p.ng=png at*;generalize hpd:p.ds=pds at*;generalize hpA:p.A=pA at*;generalize hpc:p.c=pc at*;clear hpn hpd hpA hpc hbl hzz hnb;go_wp2_with fail
     go_region_with ((go_at_call 128;refine(HA.out _ hdr).mono ?_;rintro e w3 ⟨A3,c3,rfl,h3,h4,h5⟩;have kk:=qd.old (w:=wr.drew) hkr h5;have d0:=(kk.cell (k*6)).trans r0;have d1:=(kk.cell (k*6+1)).trans r1;have f0:=kk.frozen (k*6);have f1:=kk.frozen (k*6+1);have kc:=qd.old (w:=wr.drew) hkb h5))
     all_goals
      go_wp2_with fail
      obtain⟨u1,u2⟩:=HU.out w3 (hdr.trans h5) A3 c3 h4 h3;have hn5:=((HNU.out.old (hdr.trans h5)).far kk (by decide) (k*6) (.bool (decide (zz<0)))).far (kk.set_ (k*6) (.bool (decide (zz<0)))) (by decide) (k*6+1) (.slice A3 (dig zz.natAbs).length c3);go_roundg (n-(k+1))
      case rel=>
       refine⟨k+1,_,by omega,rfl,by go_num,u1,?_,HBL.out.trans (((hdr.trans h5).mono hsz).trans u2),(kc.far hne _).far hne _,hn5⟩;rw[HMS.out,yT];exact HT.out
      case measure=>have:=HG.out;omega
    ·obtain rfl:k=n:=by omega
     have HFIN:=HSN.out _ _ _ hrt hro;go_wp2_with fail
     go_ret
     subst hrl;exact⟨qs.map PT.tm,HP1.out,HP2.out,_,c1,rs,rfl,HFIN,hbl⟩
end Go.Proofs.YtflikmojaidhhaaGreat
namespace Go.Proofs.YtflikmojaidhhaaGreat
open Go.RowKit
def qkM(F:Mo→Int)(M:Nat)(w:World)(e:Ending)(w':World):Prop:=
 ∃A c ps base,e= .returned (.slice A ps.length c)∧yD w' base (.slice A ps.length c) ps F 1000 1000 M∧Below w.heap.size w w'
set_option maxHeartbeats 4000000
set_option maxRecDepth 100000
theorem qlA(dg:Nat)(hdg:dg≤500)(t:RP)(hfit:zU dg t)(A:Option Addr)(c:Nat)(K:Option Addr)(kc B:Nat)(w:World)(hB:B≤w.heap.size)(h:RV w (· <B) t (qc t A c K kc)):
 Calls Tryz.prog 106 #[qn t A c K kc] w (qkM (cf (jY t)) (1000*pw 500) w):=by
 have hD:=hfit.dep;have hf:=hfit.few;have hcn:=hfit.cnt;have hb0:=(Below.refl w.heap.size w).alloc (Nat.le_refl _) (.cells #[.int .i64 t.lv,.bool t.ng,.slice A t.ds.length c,.slice K t.ks.length kc] 28);have HB0:=Lib.hid hb0;have HCO:=Lib.hid (fun(W:World)(hW:Below w.heap.size w W)=>Qh dg (by omega) (qv t) t (Nat.le_refl _) hf A c K kc B W.heap.size [] (.slice none 0 0) (0,0,0,0) 0 W (Nat.le_trans hB hW.size) (Nat.le_refl _) (h.below (hW.mono hB)) (jW.nil W W.heap.size).row (by rw[List.length_nil];omega) (by simp[zm]) (by omega));unfold Z0 at HCO;have HPI:=Lib.hid (fun(w0 W:World)(A:Option Addr)(n c base:Nat)(qs:List PT)(h:yR w0 (.slice none 0 0) [] base B W (.slice A n c) qs)(hk:qs.map PT.key=ji t (0,0,0,0))(hBW:B≤W.heap.size)=>h.pin hk hf hdg (Nat.le_refl _) hD hcn hBW);have HB:=Lib.hid hB;clear h hf hcn hD hdg hB hb0 hfit;unfold qn at HCO ⊢;go_enter Tryz.func106,Tryz.ntmps106
 go_wp2_with fail
 generalize w.alloc (.cells #[.int .i64 t.lv,.bool t.ng,.slice A t.ds.length c,.slice K t.ks.length kc] 28)=W at*;have HCO1:=Lib.hid (HCO.out W HB0.out);clear HCO;refine HCO1.out.mono ?_;rintro e w3 ⟨v',qs,rfl,hcl,hkey⟩;obtain⟨A3,c3',rfl⟩:=qJ hcl.own;have hb3:Below W.heap.size W w3:=⟨hcl.gro.os,hcl.gro.tape,hcl.gro.output,hcl.gro.size,fun k hk=>hcl.gro.block k hk (by simp[Value.ownBlock])⟩;have hbw3:=HB0.out.trans (hb3.mono HB0.out.size);have HPN:=Lib.hid (yZ A3 c3' w3.heap.size 1000 1000 (1000*pw 500) qs w3 (Nat.le_refl _) (HPI.out W w3 A3 _ c3' _ qs hcl hkey (Nat.le_trans HB.out hbw3.size)) (by omega) (yx (by omega) (by omega)));unfold qer at HPN;have HKY:=Lib.hid (show∀m,cf (qs.map PT.tm) m=cf (jY t) m from fun m=>by rw[qhF,hkey];rfl);have HBW3:=Lib.hid hbw3;clear hcl hkey hb3 hbw3 HCO1 HPI HB0;rw[List.nil_append];go_wp2_with fail
 refine HPN.out.mono ?_;rintro e w4 ⟨A4,c4,rs,rfl,hgd,hb4⟩;have HG:=Lib.hid hgd;have HB4:=Lib.hid (HBW3.out.trans (hb4.mono HBW3.out.size));clear hgd hb4 HPN HBW3;go_wp2_with fail
 go_ret
 exact⟨A4,c4,rs,w3.heap.size,rfl,{HG.out with cf:=fun m=>(HG.out.cf m).trans (HKY.out m)},HB4.out⟩
theorem qjB(A:Option Addr)(c B:Nat)(ps:List PT)(w:World)(hB:B≤w.heap.size)(h:PIn w B A ps 1000 1000 (1000*pw 500))(hcan:qI (ps.map PT.tm)):
 Calls Tryz.prog 104 #[.slice A ps.length c] w (q8 (qO 4 (ps.map PT.tm)) w):=by
 have hb0:=(Below.refl w.heap.size w).alloc (Nat.le_refl _) (.cells #[.int .i64 0,.bool false,.slice none 0 0,.slice none 0 0] 28);have hk0:=qd.new w 28 #[.int .i64 0,.bool false,.slice none 0 0,.slice none 0 0];have HPN:=Lib.hid (yZ A c B 1000 1000 (1000*pw 500) ps _ (Nat.le_trans hB hb0.size) (h.below (hb0.mono hB)) (by omega) (yx (by omega) (by omega)));unfold qer at HPN;have HB0:=Lib.hid hb0;have HK0:=Lib.hid hk0;have HCN:=Lib.hid hcan;have HSZ:=Lib.hid hk0.lt;clear h hb0 hk0 hB hcan;generalize ps.length=pl at*;go_enter Tryz.func104,Tryz.ntmps104
 go_wp2_with fail
 generalize w.alloc (.cells #[.int .i64 0,.bool false,.slice none 0 0,.slice none 0 0] 28)=W at*;refine HPN.out.mono ?_;rintro e w4 ⟨A4,c4,rs,rfl,hgd,hb4⟩;have HB4:=Lib.hid (HB0.out.trans (hb4.mono HB0.out.size));have HK4:=Lib.hid (HK0.out.old hb4);have hexp:∀p∈rs,∀i,i<4→0≤gt p.m i∧gt p.m i≤1000:=fun p hp i hi=>by
  have h1:=hgd.vl hp;have h2:=hgd.mb p hp;rw[ZF]at h1;unfold MB at h2;rcases(by omega:i=0∨i=1∨i=2∨i=3)with rfl|rfl|rfl|rfl<;>(simp only[gt];omega)
 have hdl:=fun p hp=>hgd.dlen (k:=600) (yx (by omega) (by omega)) (p:=p) hp;have hcap:rs.length≤c4:=by
  by_cases hr0:rs.length=0
  ·omega
  ·obtain⟨g',cap,hv',_⟩:=hgd.own.row.form (by omega)
   injection hv' with h1
   have hrow:=hgd.own.row;rw[h1]at hrow;exact(jx hrow).choose_spec.2.2.1
 have HBD:=Lib.hid (YE 5 4 (by omega) (by omega) rs A4 c4 w4.heap.size w4 (Nat.le_refl _) hgd.own.polyIn hgd.can.desc hgd.own.cn hexp hcap hgd.len hgd.own.dg);unfold qaB qn at HBD;have HST:=Lib.hid (ZD (X:=1001) (by omega) 4 (rs.map PT.tm) (by omega) fun s hs=>by
  obtain⟨p,hp,rfl⟩:=List.mem_map.1 hs;refine⟨by rw[←(hgd.own.cn p hp).ds];have:=hdl p hp;omega,fun i hi=>?_⟩;have:=(hexp p hp i hi).2;show gt p.m i+1≤_;omega)
 have HEQ:=Lib.hid (show rs.map PT.tm=ps.map PT.tm from hgd.can.unique HCN.out hgd.cf);have HCP:=Lib.hid (fun(A:Option Addr)(c:Nat)(K:Option Addr)(kc:Nat)(W:World)(h:RV W (· <W.heap.size) (qO 4 (rs.map PT.tm)) (qc (qO 4 (rs.map PT.tm)) A c K kc))=>QZ 1001 (by omega) (qv (qO 4 (rs.map PT.tm))) _ (Nat.le_refl _) HST.out A c K kc W.heap.size W (Nat.le_refl _) h);unfold ZA at HCP;rw[Z2]at HCP;rw[HEQ.out]at HBD HCP;unfold qn at HCP;clear hgd hb4 hexp hdl hcap HPN HK0 HB0 HST HEQ;generalize qO 4 (ps.map PT.tm)=T at*;go_wp2_with fail
 refine HBD.out.mono ?_;rintro e w5 ⟨A5,c5,K5,kc5,rfl,hrb,hb5⟩;have HC5:=Lib.hid (HCP.out A5 c5 K5 kc5 w5 hrb.rv);have HB5:=Lib.hid (HB4.out.trans (hb5.mono HB4.out.size));have HK5:=Lib.hid (HK4.out.old hb5);have HS5:=Lib.hid (show w.heap.size<w5.heap.size from HK5.out.lt);clear hrb hb5 HBD HCP HB4 HK4;go_wp2_with fail
 refine HC5.out.mono ?_;rintro e w6 ⟨A6,c6,K6,kc6,rfl,hr6,hb6⟩;have k6:=HK5.out.old hb6;have HFN:=Lib.hid (jL (w:=w) k6 rfl hr6 HS5.out (Nat.le_refl _) (HB5.out.trans (hb6.mono HB5.out.size)));have d0:=k6.cell 0;have d1:=k6.cell 1;have d2:=k6.cell 2;have d3:=k6.cell 3;have f0:=k6.frozen 0;have f1:=k6.frozen 1;have f2:=k6.frozen 2;have f3:=k6.frozen 3;have z0:=k6.lt;clear k6 hr6 hb6 HC5 HK5 HB5;go_wp2_with fail
 exact qg Tryz.results104 rfl rfl HFN.out.1 Tryz.underlying28 rfl Tryz.sizeRec HFN.out.2
def SgT(t T:RP):Prop:=∃P,qI P∧(∀m,cf P m=cf (jY t) m)∧T=qO 4 (snL P)
theorem qgF(dg:Nat)(hdg:dg≤500)(t:RP)(hfit:zU dg t)(A:Option Addr)(c:Nat)(K:Option Addr)(kc B:Nat)(w:World)(hB:B≤w.heap.size)(h:RV w (· <B) t (qc t A c K kc)):
 Calls Tryz.prog 71 #[qn t A c K kc] w fun e w'=>∃T,SgT t T∧q8 T w e w':=by
 have HX:=Lib.hid (qK w 28 28 #[.int .i64 t.lv,.bool t.ng,.slice A t.ds.length c,.slice K t.ks.length kc] #[.int .i64 0,.bool false,.slice none 0 0,.slice none 0 0]);have HTO:=Lib.hid (fun(W:World)(hW:Below w.heap.size w W)=>qlA dg hdg t hfit A c K kc B W (Nat.le_trans hB hW.size) (h.below (hW.mono hB)));unfold qkM at HTO;unfold qn at HTO ⊢;clear h hfit hdg hB;go_enter Tryz.func71,Tryz.ntmps71
 go_wp2_with fail
 obtain⟨hb0,k0,k1,hs⟩:=HX.out;generalize (w.alloc (.cells #[.int .i64 t.lv,.bool t.ng,.slice A t.ds.length c,.slice K t.ks.length kc] 28)).alloc (.cells #[.int .i64 0,.bool false,.slice none 0 0,.slice none 0 0] 28)=W at*;have HT1:=Lib.hid (HTO.out W hb0);have HB0:=Lib.hid hb0;have HK1:=Lib.hid k1;clear HX HTO hb0 k0 k1 hs;refine HT1.out.mono ?_;rintro e w2 ⟨A2,c2,ps,base,rfl,hgd,hb2⟩;have HB2:=Lib.hid (HB0.out.trans (hb2.mono HB0.out.size));have HK2:=Lib.hid (HK1.out.old hb2);have HS1:=Lib.hid (qaX A2 c2 w2.heap.size 1000 1000 (1000*pw 500) ps w2 (Nat.le_refl _) (hgd.pin (by omega) (yx (by omega) (by omega))) (by omega) (yx (by omega) (by omega)) (by omega));unfold qkU qer at HS1;have HCF:=Lib.hid hgd.cf;clear hgd hb2 HT1 HB0 HK1;generalize ps.length=pl at*;go_wp2_with fail
 refine HS1.out.mono ?_;rintro e w3 ⟨P,hP,hcP,A3,c3,qs,rfl,hgd,hb3⟩;have HB3:=Lib.hid (HB2.out.trans (hb3.mono HB2.out.size));have HK3:=Lib.hid (HK2.out.old hb3);have HEQ:=Lib.hid (show qs.map PT.tm=snL P from hgd.can.unique (qat hP) hgd.cf);have HO1:=Lib.hid (qjB A3 c3 w3.heap.size qs w3 (Nat.le_refl _) (hgd.pin (by omega) (yx (by omega) (by omega))) hgd.can);have HSG:=Lib.hid (show SgT t (qO 4 (qs.map PT.tm))from⟨P,hP,fun m=>(hcP m).trans (HCF.out m),by rw[HEQ.out]⟩);have HS3:=Lib.hid (show w.heap.size+1<w3.heap.size from HK3.out.lt);unfold q8 qn at HO1;clear hgd hb3 hP hcP HS1 HB2 HK2 HEQ HCF;generalize qO 4 (qs.map PT.tm)=T at*;generalize qs.length=ql at*;go_wp2_with fail
 refine HO1.out.mono ?_;rintro e w6 ⟨A6,c6,K6,kc6,rfl,hr6,hb6⟩;have k6:=HK3.out.old hb6;have HFN:=Lib.hid (jL (w:=w) k6 rfl hr6 HS3.out (Nat.le_succ _) (HB3.out.trans (hb6.mono HB3.out.size)));have d0:=k6.cell 0;have d1:=k6.cell 1;have d2:=k6.cell 2;have d3:=k6.cell 3;have f0:=k6.frozen 0;have f1:=k6.frozen 1;have f2:=k6.frozen 2;have f3:=k6.frozen 3;have z0:=k6.lt;clear k6 hr6 hb6 HO1 HK3 HB3;go_wp2_with fail
 exact qg Tryz.results71 rfl rfl HFN.out.1 Tryz.underlying28 rfl Tryz.sizeRec ⟨T,HSG.out,HFN.out.2⟩
inductive MX where
 |mk (kd rl:Int) (p:RP) (ks:List MX)
namespace MX
def kd:MX→Int|mk k _ _ _=>k
def rl:MX→Int|mk _ r _ _=>r
def p:MX→RP|mk _ _ p _=>p
def ks:MX→List MX|mk _ _ _ k=>k
end MX
mutual
def JY:MX→Nat
 | .mk _ _ _ ks=>qfj ks+1
def qfj:List MX→Nat
 |[]=>0
 |t::ts=>max (JY t) (qfj ts)
end
theorem qgW{ks:List MX}{t:MX}(h:t∈ks):JY t≤qfj ks:=by
 induction ks with
 |nil=>cases h
 |cons s ks ih=>
  simp only[qfj];rcases List.mem_cons.1 h with rfl|h
  ·omega
  ·have:=ih h;omega
theorem QY{t u:MX}(h:u∈t.ks):JY u<JY t:=by
 cases t with
 |mk l g d ks=>
  have:=qgW (show u∈ks from h);simp only[JY];omega
def q9(m:MX)(A:Option Addr)(c:Nat)(K:Option Addr)(kc:Nat)(L:Option Addr)(lc:Nat):List Value:=[.int .i64 m.kd,.int .i64 m.rl,.int .i64 m.p.lv,.bool m.p.ng,.slice A m.p.ds.length c,.slice K m.p.ks.length kc,.slice L m.ks.length lc]
mutual
def MV(w:World)(S:Nat→Prop):MX→List Value→Prop
 | .mk k r p ks,vs=>∃A c K kc L lc,vs=q9 (.mk k r p ks) A c K kc L lc∧RV w S p (qc p A c K kc)∧ks.length≤lc∧∃rows,jd w S 7 L ks.length rows.flatten∧yi w S ks rows
def yi(w:World)(S:Nat→Prop):List MX→List (List Value)→Prop
 |[],rows=>rows=[]
 |t::ts,rows=>∃r rs,rows=r::rs∧MV w S t r∧yi w S ts rs
end
section
variable {w w':World} {S S':Nat→Prop}
mutual
theorem MV.keep(hk:∀b,S b→∀o,w'.cell? ⟨b,o,none⟩=w.cell? ⟨b,o,none⟩):∀(t:MX)(vs:List Value),MV w S t vs→MV w' S t vs
 | .mk l g p ks,vs,h=>by
   unfold MV at h ⊢;obtain⟨A,c,K,kc,L,lc,h1,h2,h3,rows,h6,h7⟩:=h;exact⟨A,c,K,kc,L,lc,h1,RV.keep hk p _ h2,h3,rows,h6.keep hk,yi.keep hk ks rows h7⟩
theorem yi.keep(hk:∀b,S b→∀o,w'.cell? ⟨b,o,none⟩=w.cell? ⟨b,o,none⟩):∀(ts:List MX)(rows:List (List Value)),yi w S ts rows→yi w' S ts rows
 |[],rows,h=>by unfold yi at h ⊢; exact h
 |t::ts,rows,h=>by
  unfold yi at h ⊢;obtain⟨r,rs,h1,h2,h3⟩:=h;exact⟨r,rs,h1,MV.keep hk t r h2,yi.keep hk ts rs h3⟩
end
mutual
theorem MV.mono(hS:∀b,S b→S' b):∀(t:MX)(vs:List Value),MV w S t vs→MV w S' t vs
 | .mk l g p ks,vs,h=>by
   unfold MV at h ⊢;obtain⟨A,c,K,kc,L,lc,h1,h2,h3,rows,h6,h7⟩:=h;exact⟨A,c,K,kc,L,lc,h1,RV.mono hS p _ h2,h3,rows,h6.mono hS,yi.mono hS ks rows h7⟩
theorem yi.mono(hS:∀b,S b→S' b):∀(ts:List MX)(rows:List (List Value)),yi w S ts rows→yi w S' ts rows
 |[],rows,h=>by unfold yi at h ⊢; exact h
 |t::ts,rows,h=>by
  unfold yi at h ⊢;obtain⟨r,rs,h1,h2,h3⟩:=h;exact⟨r,rs,h1,MV.mono hS t r h2,yi.mono hS ts rs h3⟩
end
theorem MV.cells{t:MX}{vs:List Value}(h:MV w S t vs):∃A c K kc L lc,vs=q9 t A c K kc L lc:=by
 cases t with
 |mk l g p ks=>
  unfold MV at h;obtain⟨A,c,K,kc,L,lc,h1,_⟩:=h;exact⟨A,c,K,kc,L,lc,h1⟩
theorem MV.seven{t:MX}{vs:List Value}(h:MV w S t vs):vs.length=7:=by
 obtain⟨A,c,K,kc,L,lc,rfl⟩:=h.cells;rfl
theorem MV.one{t:MX}{vs:List Value}(h:MV w S t vs):∀u∈vs,u.oneCell'=true:=by
 obtain⟨A,c,K,kc,L,lc,rfl⟩:=h.cells;intro u hu;simp[q9]at hu;rcases hu with rfl|rfl|rfl|rfl|rfl|rfl|rfl<;>rfl
theorem yi.at_:∀(ts:List MX)(rows:List (List Value)),yi w S ts rows→(∀r∈rows,r.length=7)∧rows.length=ts.length∧∀(i:Nat)(t:MX),ts[i]? =some t→∃r,rows[i]? =some r∧MV w S t r
 |[],rows,h=>by
  unfold yi at h;subst h;simp
 |t::ts,rows,h=>by
  unfold yi at h;obtain⟨r,rs,rfl,h2,h3⟩:=h;obtain⟨a1,a2,a3⟩:=yi.at_ ts rs h3;refine⟨fun x hx=>?_,by simp[a2],fun i u hu=>?_⟩
  ·rcases List.mem_cons.1 hx with rfl|hx
   ·exact h2.seven
   ·exact a1 x hx
  ·cases i with
   |zero=>simp at hu;subst hu;exact⟨r,rfl,h2⟩
   |succ i=>simp at hu;obtain⟨x,hx,hv⟩:=a3 i u hu;exact⟨x,by simpa using hx,hv⟩
theorem qkP:∀(rows:List (List Value))(_:∀r∈rows,r.length=7)(i:Nat)(r:List Value)(_:rows[i]? =some r)(j:Nat)(_:j<7),rows.flatten[i*7+j]? =r[j]?
 |[],_,i,r,h,_,_=>by simp at h
 |x::rows,h4,0,r,h,j,hj=>by
  simp at h;subst h;have:=h4 x List.mem_cons_self;rw[List.flatten_cons,Nat.zero_mul,Nat.zero_add,List.getElem?_append_left (by omega)]
 |x::rows,h4,i+1,r,h,j,hj=>by
  have h1:=h4 x List.mem_cons_self;rw[List.flatten_cons,List.getElem?_append_right (by omega),h1,show(i+1)*7+j-7=i*7+j by omega];exact qkP rows (fun y hy=>h4 y (List.mem_cons_of_mem _ hy)) i r (by simpa using h) j hj
theorem yi.snoc:∀{ts:List MX} {rows:List (List Value)} {t:MX} {r:List Value},yi w S ts rows→MV w S t r→yi w S (ts++[t]) (rows++[r])
 |[],rows,t,r,h,hr=>by
  unfold yi at h;subst h;simp only[List.nil_append,yi];exact⟨r,[],rfl,hr,rfl⟩
 |s::ts,rows,t,r,h,hr=>by
  unfold yi at h;obtain⟨x,xs,rfl,h2,h3⟩:=h;simp only[List.cons_append,yi];exact⟨x,xs++[r],rfl,h2,yi.snoc h3 hr⟩
theorem MV.node{t:MX}{A:Option Addr}{c:Nat}{K:Option Addr}{kc:Nat}{L:Option Addr}{lc:Nat}(h:MV w S t (q9 t A c K kc L lc)):RV w S t.p (qc t.p A c K kc)∧t.ks.length≤lc:=by
 cases t with
 |mk l g p ks=>
  unfold MV at h;obtain⟨A',c',K',kc',L',lc',h1,h2,h3,_⟩:=h;unfold q9 at h1;simp only[List.cons.injEq,Value.slice.injEq,and_true,true_and]at h1;obtain⟨⟨rfl,_,rfl⟩,⟨rfl,_,rfl⟩,rfl,_,rfl⟩:=h1;exact⟨h2,h3⟩
theorem MV.kid{t:MX}{A:Option Addr}{c:Nat}{K:Option Addr}{kc:Nat}{L:Option Addr}{lc:Nat}(h:MV w S t (q9 t A c K kc L lc)){i:Nat}{u:MX}(hi:t.ks[i]? =some u):
 ∃b o A' c' K' kc' L' lc',L=some ⟨b,o,none⟩∧S b∧(∀(j:Nat)(v:Value),(q9 u A' c' K' kc' L' lc')[j]? =some v→w.cell? ⟨b,o+(i*7+j),none⟩=some v)∧MV w S u (q9 u A' c' K' kc' L' lc'):=by
 cases t with
 |mk l g p ks=>
  unfold MV at h;obtain⟨A1,c1,K1,kc1,L1,lc1,h1,_,_,rows,h6,h7⟩:=h;unfold q9 at h1;simp only[List.cons.injEq,Value.slice.injEq,and_true,true_and]at h1;obtain⟨_,_,rfl,_,rfl⟩:=h1;have hi':ks[i]? =some u:=hi;have hl:i<ks.length:=(List.getElem?_eq_some_iff.1 hi').1;obtain⟨a1,a2,a3⟩:=yi.at_ ks rows h7;obtain⟨r,hr,hv⟩:=a3 i u hi';obtain⟨A',c',K',kc',L',lc',rfl⟩:=hv.cells;obtain⟨b,o,hA,hb,hc⟩:=h6.2 (by show 0<ks.length;omega);refine⟨b,o,A',c',K',kc',L',lc',hA,hb,fun j v hj=>hc (i*7+j) v ?_,hv⟩;have hj7:j<7:=by
   have:=(List.getElem?_eq_some_iff.1 hj).1;simpa[q9]using this
  exact(qkP rows a1 i _ hr j hj7).trans hj
end
theorem MV.below{w w':World}{B:Nat}{t:MX}{vs:List Value}(h:MV w (· <B) t vs)(hb:Below B w w'):MV w' (· <B) t vs:=MV.keep (fun b hS o=>hb.cell (p:=⟨b,o,none⟩) hS) t vs h
theorem MV.more{w:World}{B B':Nat}{t:MX}{vs:List Value}(h:MV w (· <B) t vs)(hB:B≤B'):MV w (· <B') t vs:=MV.mono (fun _ hS=>Nat.lt_of_lt_of_le hS hB) t vs h
theorem MV.leaf{w:World}{S:Nat→Prop}{k r:Int}{p:RP}{A:Option Addr}{c:Nat}{K:Option Addr}{kc:Nat}(h:RV w S p (qc p A c K kc)):MV w S (.mk k r p []) (q9 (.mk k r p []) A c K kc none 0):=by
 unfold MV;exact⟨A,c,K,kc,none,0,rfl,h,Nat.zero_le _,[],⟨rfl,fun hp=>absurd hp (Nat.lt_irrefl 0)⟩,by unfold yi;rfl⟩
abbrev qag:MX:= .mk 0 0 qa []
theorem MV.zero{w:World}{S:Nat→Prop}:MV w S qag (q9 qag none 0 none 0 none 0):=MV.leaf RT.zero
theorem Tryz.sizeMat:(Tryz.prog.info? 44).map (·.size)=some 7:=by kernel_rfl
theorem Tryz.infoMat:(Tryz.prog.info? 44).map (fun i=>(i.zero,i.size,i.bytes))=some (some (.agg #[.int .i64 0,.int .i64 0,.int .i64 0,.bool false,.slice none 0 0,.slice none 0 0,.slice none 0 0]),7,104):=by kernel_rfl
