import Derived.Test.YtflikmojaidhhaaGreatDoorPq29
import Derived.Test.YtflikmojaidhhaaGreatDoorPqA
namespace Go.Proofs.YtflikmojaidhhaaGreatDoor
open Go.RowKit
def QW(w:World)(base:Nat)(v:Value)(Ps:List zX):Prop:=w.ownsRow base 34 24 v Ps.length (Ps.flatMap fun P=>P.cs.toList)/\∀P∈Ps,PtA w [] P
def QuR(w:World)(e:Ending)(w':World):Prop:=∃v Ps,e= .returned v/\Ps.length<=2/\QW w' w.heap.size v Ps/\Below w.heap.size w w'
theorem QW.old{w w':World}{base:Nat}{v:Value}{Ps:List zX}(h:QW w base v Ps)(hb:Below w.heap.size w w'):QW w' base v Ps:=by
 refine⟨⟨h.1.1,?_⟩,fun P hP=>(h.2 P hP).keep (Kp.old hb)⟩;rcases h.1.2 with h|⟨g,cap,cur,h4,h5,h6,h7⟩
 ·exact .inl h
 ·exact .inr ⟨g,cap,cur,h4,h5,qf.old (show qf w g 34 cur from h6) hb,h7⟩
theorem Kp.below{w w':World}{gs:List Nat}(hb:Below w.heap.size w w'):Kp w w' gs gs:=Kp.old hb
theorem Kp.setf{w:World}{gs:List Nat}{g:Nat}{cs:Array Value}{t:TypeId}(hk:qf w g t cs)(ht:¬Ty3 t)(o:Nat)(u:Value):Kp w (w.setCell ⟨g,o,none⟩ u) gs gs:=fun _ _ _ h1 h2 h3=>⟨h3.far (p:=⟨g,o,none⟩) (jf h3 hk (fun e=>ht (e▸h2))) u,h1⟩
theorem Kp.set4f{w:World}{gs:List Nat}{g:Nat}{cs:Array Value}{t:TypeId}(hk:qf w g t cs)(ht:¬Ty3 t)(o:Nat)(a b c d:Value):Kp w (Go.Proofs.YtflikmojaidhhaaGreatDoor.set4 w g o a b c d) gs gs:=(((Kp.setf hk ht _ _).trans (Kp.setf (hk.set_ _ _) ht _ _)).trans (Kp.setf ((hk.set_ _ _).set_ _ _) ht _ _)).trans (Kp.setf (((hk.set_ _ _).set_ _ _).set_ _ _) ht _ _)
theorem QW.mono{w:World}{base base':Nat}{v:Value}{Ps:List zX}(h:QW w base v Ps)(hb:base'<=base):QW w base' v Ps:=⟨qlj h.1 hb,h.2⟩
def setP(w:World)(g:Nat)(a b c d e f k:Value):World:=((((((w.setCell ⟨g,17,none⟩ a).setCell ⟨g,18,none⟩ b).setCell ⟨g,19,none⟩ c).setCell ⟨g,20,none⟩ d).setCell ⟨g,21,none⟩ e).setCell ⟨g,22,none⟩ f).setCell ⟨g,23,none⟩ k
theorem qf.setP_far{w:World}{g x:Nat}{t:TypeId}{cs:Array Value}(h:qf w x t cs)(hx:x≠g)(a b c d e f k:Value):qf (setP w g a b c d e f k) x t cs:=
 ((((((h.far (p:=⟨g,17,none⟩) hx a).far (p:=⟨g,18,none⟩) hx b).far (p:=⟨g,19,none⟩) hx c).far (p:=⟨g,20,none⟩) hx d).far (p:=⟨g,21,none⟩) hx e).far (p:=⟨g,22,none⟩) hx f).far (p:=⟨g,23,none⟩) hx k
theorem qek{B g:Nat}{w W:World}(h:Below B w W)(hg:B<=g)(a b c d e f k:Value):Below B w (setP W g a b c d e f k):=
 ((((((h.setCell (p:=⟨g,17,none⟩) hg a).setCell (p:=⟨g,18,none⟩) hg b).setCell (p:=⟨g,19,none⟩) hg c).setCell (p:=⟨g,20,none⟩) hg d).setCell (p:=⟨g,21,none⟩) hg e).setCell (p:=⟨g,22,none⟩) hg f).setCell (p:=⟨g,23,none⟩) hg k
theorem Kp.setP{w:World}{gs:List Nat}{g:Nat}{cs:Array Value}{t:TypeId}(hk:qf w g t cs)(ht:¬Ty3 t)(a b c d e f k:Value):Kp w (Go.Proofs.YtflikmojaidhhaaGreatDoor.setP w g a b c d e f k) gs gs:=fun _ _ _ h1 h2 h3=>⟨h3.setP_far (jf h3 hk (fun e=>ht (e▸h2))) a b c d e f k,h1⟩
theorem zn{w0 w w':World}{base size n:Nat}{e:TypeId}{v:Value}{xs:List Value}(ho:w.ownsRow base e size v n xs)(hg:w.grownBy w' v.ownBlock)(hb:Below base w0 w)(hz:base<=w.heap.size):Below base w0 w':=by
 refine⟨hg.os.trans hb.os,hg.tape.trans hb.tape,hg.output.trans hb.output,Gl hb.size hg.size,fun k hk=>(hg.block k (by omega) ?_).trans (hb.block k hk)⟩;intro he;have:=(ho.lt k he.symm).1;omega
theorem Kp.grownO{w w':World}{gs:List Nat}{base n:Nat}{v:Value}{xs:List Value}(ho:w.ownsRow base 34 24 v n xs)(hg:w.grownBy w' v.ownBlock):Kp w w' gs gs:=by
 rcases ho.2 with⟨rfl,_⟩|⟨g,cap,cur,rfl,_,hh,_⟩
 ·exact fun _ _ _ h1 _ h3=>⟨h3.grown hg (by simp[Value.ownBlock]),h1⟩
 ·exact Kp.grown (show qf w g 34 cur from hh) zr hg
theorem QW.push{w w1 w2:World}{base:Nat}{v v':Value}{Ps:List zX}{P:zX}(h:QW w base v Ps)(hb:Below w.heap.size w w1)(hP:PtA w1 [] P)(ho:w2.ownsRow base 34 24 v' (Ps.length+1) ((Ps.flatMap fun P=>P.cs.toList)++P.cs.toList))(hg:w1.grownBy w2 v.ownBlock):QW w2 base v' (Ps++[P]):=by
 have h1:=h.old hb;refine⟨by simpa[List.flatMap_append]using ho,fun Q hQ=>?_⟩;rcases List.mem_append.1 hQ with hQ|hQ
 ·exact(h1.2 Q hQ).keep (Kp.grownO h1.1 hg)
 ·obtain rfl:=List.mem_singleton.1 hQ;exact hP.keep (Kp.grownO h1.1 hg)
theorem qlv{α:Type}{l:List α}(h:l.length=2):∃a b,l=[a,b]:=by
 match l,h with
 |[a,b],_=>exact⟨a,b,rfl⟩
theorem QW.two{w:World}{base:Nat}{v:Value}{Ps:List zX}(h:QW w base v Ps)(hl:Ps.length=2):∃g cap P rest,v= .slice (some ⟨g,0,none⟩) 2 cap/\base<=g/\qf w g 34 (P.cs.toList++rest).toArray/\2<=cap/\cap<=maxLen/\(P.cs.toList++rest).length=cap*24/\PtA w [] P:=by
 obtain⟨P,Q,rfl⟩:=qlv hl;have hP:=h.2 P (List.mem_cons_self ..);have ho:=h.1;have hf:([P,Q].flatMap fun P=>P.cs.toList)=P.cs.toList++Q.cs.toList:=by rw[List.flatMap_cons,List.flatMap_cons,List.flatMap_nil,List.append_nil]
 rw[hf]at ho;clear h hf;have EI:([P,Q]:List zX).length=2:=rfl;rw[EI]at ho;refine Exists.elim (show∃cs,cs=P.cs.toList from⟨_,rfl⟩) fun cs XE=>?_;rw[<-XE]at ho;generalize Q.cs.toList=ds at ho;obtain⟨_,ho|⟨g,cap,cur,h1,h2,h3,h4,h5,h6,h7⟩⟩:=ho
 ·exact absurd ho.2 (by omega)
 ·have e:cur.toList=cs++(ds++cur.toList.drop (2*24)):=by
   rw[<-List.append_assoc,<-h7,List.take_append_drop]
  refine⟨g,cap,P,ds++cur.toList.drop (2*24),h1,h2,?_,h4,h5,?_,hP⟩
  ·rw[<-XE,<-e];exact h3
  ·rw[<-XE,<-e];exact(Array.length_toList.trans h6)
theorem zX.len(P:zX):P.cs.toList.length=24:=rfl
theorem QW.one{w:World}{base g cap:Nat}{P:zX}{rest:List Value}(hg:base<=g)(hk:qf w g 34 (P.cs.toList++rest).toArray)(hc:1<=cap)(hm:cap<=maxLen)(hs:(P.cs.toList++rest).length=cap*24)(hP:PtA w [] P):QW w base (.slice (some ⟨g,0,none⟩) 1 cap) [P]:=by
 have hl:=P.len;have hf:([P].flatMap fun P=>P.cs.toList)=P.cs.toList:=by rw[List.flatMap_cons,List.flatMap_nil,List.append_nil]
 unfold QW;rw[hf];generalize P.cs.toList=cs at*;exact⟨⟨by rw[hl];rfl,.inr ⟨g,cap,_,rfl,hg,hk,hc,hm,by rw[List.size_toArray];exact hs,by rw[show([P]:List zX).length*24=24 from rfl,List.toList_toArray];exact List.take_left' hl⟩⟩,fun Q hQ=>by obtain rfl:=List.mem_singleton.1 hQ;exact hP⟩
theorem zX.set_b(P:zX)(rest:List Value)(b:Qz):((((P.cs.toList++rest).toArray.setIfInBounds 5 (.int .i64 b.T.lv)).setIfInBounds (5+1) (.bool b.T.ng)).setIfInBounds (5+2) (.slice b.A b.T.ds.length b.c)).setIfInBounds (5+3) (.slice b.K b.T.ks.length b.kc)=((zX.cs {P with b:=b}).toList++rest).toArray:=by
 simp only[zX.cs,List.cons_append,List.nil_append,List.setIfInBounds_toArray,List.set_cons_succ,List.set_cons_zero]
theorem qu.cells_new(w:World)(cs:Array Value)(t:TypeId):qu (w.alloc (.cells cs t)) (w.heap.size+1) cs.size (some ⟨w.heap.size,0,none⟩) 1 cs.toList:=by
 refine⟨by simp,fun _=>⟨_,_,rfl,by omega,fun j x hj=>?_⟩⟩;rw[Nat.zero_add,(qf.new w t cs).cell];simpa using hj
theorem zX.one(P:zX):∀u∈P.cs.toList,u.oneCell'=true:=by
 simp[zX.cs,Value.oneCell']
theorem Tryz.infoPoint:(Tryz.prog.info? 34).map (fun i=>(i.zero,i.size,i.bytes))=some (some (.agg #[.int .i64 0,.int .i64 0,.bool false,.slice none 0 0,.slice none 0 0,.int .i64 0,.bool false,.slice none 0 0,.slice none 0 0,.int .i64 0,.bool false,.slice none 0 0,.slice none 0 0,.int .i64 0,.bool false,.slice none 0 0,.slice none 0 0,.int .i64 0,.int .i64 0,.int .i64 0,.bool false,.slice none 0 0,.slice none 0 0,.slice none 0 0]),24,368):=by kernel_rfl
theorem qa2:∀(l:List Value)(k:Nat)(zs:Array Value),zs.size=k+l.length->List.foldl (fun cs x=>cs.setIfInBounds x.2 x.1) zs (l.zipIdx k)=(zs.toList.take k++l).toArray
 |[],k,zs,h=>by
  obtain⟨zl⟩:=zs;have h':zl.length=k:=by simpa using h
  simp[<-h']
 |a::l,k,zs,h=>by
  obtain⟨zl⟩:=zs;have h':zl.length=k+(l.length+1):=by simpa using h
  rw[List.zipIdx_cons,List.foldl_cons,qa2 l (k+1) _ (by simp;omega)]
  congr 1
  simp only[List.setIfInBounds_toArray,List.take_add_one,List.getElem?_set_self (show k<zl.length by omega),List.take_set_of_le (Gr k)];simp
theorem QX{cs zs:Array Value}(hz:zs.size=24)(hc:cs.size=24):Array.foldl (fun cs x=>cs.setIfInBounds x.2 x.1) zs cs.zipIdx 0 24=cs:=by
 obtain⟨l⟩:=cs;have hl:l.length=24:=hc;have e:({toList:=l}:Array Value).zipIdx=(l.zipIdx 0).toArray:=by simp
 rw[e,List.foldl_toArray' _ _ _ (by simp[hl]),qa2 l 0 zs (by rw[hz,hl])];simp
