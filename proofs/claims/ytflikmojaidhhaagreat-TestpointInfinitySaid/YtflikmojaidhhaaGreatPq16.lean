import Derived.Test.YtflikmojaidhhaaGreatPq15
namespace Go.Proofs.YtflikmojaidhhaaGreat
open Go.RowKit
theorem jr{w:World}{g g':Nat}{t t':TypeId}{cs cs':Array Value}(h:qd w g t cs)(h':qd w g' t' cs')(hne:t≠t'):g≠g':=by
 rintro rfl;unfold qd at h h';rw[h]at h'
 injection h' with h'
 injection h' with _ h2
 exact hne h2
def yQ(w:World)(base:Nat)(r:Option Nat)(b:Nat):Prop:=yK w base b∨(base≤b∧some b≠r∧∃cs,qd w b 44 cs)
theorem yQ.lt{w:World}{base b:Nat}{r:Option Nat}(h:yQ w base r b):b<w.heap.size:=by
 rcases h with h|⟨_,_,cs,h⟩
 ·exact h.lt
 ·exact h.lt
theorem yQ.keep{w w':World}{base:Nat}{r r':Option Nat}(hu:∀g cs,qd w g 134 cs→qd w' g 134 cs)(hr:∀g cs,base≤g→qd w g 28 cs→qd w' g 28 cs)
 (hm:∀g cs,base≤g→some g≠r→qd w g 44 cs→qd w' g 44 cs∧some g≠r'):
 (∀b,yQ w base r b→∀o,w'.cell? ⟨b,o,none⟩=w.cell? ⟨b,o,none⟩)∧∀b,yQ w base r b→yQ w' base r' b:=by
 obtain⟨k1,k2⟩:=yK.keep (base:=base) hu hr (Nat.le_refl _);refine⟨fun b h o=>?_,fun b h=>?_⟩
 ·rcases h with h|⟨h0,h1,cs,h⟩
  ·exact k1 b h o
  ·exact h.cell_eq (hm b cs h0 h1 h).1 o
 ·rcases h with h|⟨h0,h1,cs,h⟩
  ·exact .inl (k2 b h)
  ·exact .inr ⟨h0,(hm b cs h0 h1 h).2,cs,(hm b cs h0 h1 h).1⟩
theorem QX{W W':World}{base:Nat}{S S':Nat→Prop}{v':Value}{ms:List MX}{rows:List (List Value)}{m:MX}{news:List Value}(hr:yi W S ms rows)(hm:MV W S m news)
 (hk:∀b,S b→∀o,W'.cell? ⟨b,o,none⟩=W.cell? ⟨b,o,none⟩)(hS:∀b,S b→S' b)(ho:W'.ownsRow base 44 7 v' (ms.length+1) (rows.flatten++news)):
 ∃rows',W'.ownsRow base 44 7 v' (ms++[m]).length rows'.flatten∧yi W' S' (ms++[m]) rows':=by
 refine⟨rows++[news],?_,yi.mono hS _ _ (yi.keep hk _ _ (yi.snoc hr hm))⟩;simpa using ho
structure Y7 (Ws W:World) (b0 g:Nat) (u:Value) (xs:List MX):Prop where
 bel:Below Ws.heap.size Ws W
 ge:Ws.heap.size≤g
 b0le:b0≤Ws.heap.size
 box:qd W g 44 #[.int .i64 3,.int .i64 0,.int .i64 0,.bool false,.slice none 0 0,.slice none 0 0,u]
 row:∃rows,W.ownsRow (g+1) 44 7 u xs.length rows.flatten∧yi W (yK W b0) xs rows
section
variable {Ws W W1 W2:World} {b0 g:Nat} {u u':Value} {xs:List MX} {a:MX} {rows:List (List Value)} {news:List Value}
theorem yi.oldS{ms:List MX}(h:yi W (yK W b0) ms rows)(hb:Below W.heap.size W W1):yi W1 (yK W1 b0) ms rows:=by
 obtain⟨k1,k2⟩:=yK.keep (base:=b0) (fun _ _ k=>k.old hb) (fun _ _ _ k=>k.old hb) (Nat.le_refl _);exact yi.mono k2 _ _ (yi.keep k1 _ _ h)
theorem yi.oldM{ms:List MX}{r:Option Nat}(h:yi W (yQ W b0 r) ms rows)(hb:Below W.heap.size W W1):yi W1 (yQ W1 b0 r) ms rows:=by
 obtain⟨k1,k2⟩:=yQ.keep (base:=b0) (r:=r) (r':=r) (fun _ _ k=>k.old hb) (fun _ _ _ k=>k.old hb) (fun _ _ _ hr k=>⟨k.old hb,hr⟩);exact yi.mono k2 _ _ (yi.keep k1 _ _ h)
theorem Y7.start(hb:Below Ws.heap.size Ws W)(hg:Ws.heap.size≤g)(h0:b0≤Ws.heap.size)(hk:qd W g 44 #[.int .i64 3,.int .i64 0,.int .i64 0,.bool false,.slice none 0 0,.slice none 0 0,.slice none 0 0]):Y7 Ws W b0 g (.slice none 0 0) []:=
 ⟨hb,hg,h0,hk,[],⟨rfl,.inl ⟨rfl,rfl⟩⟩,by unfold yi;rfl⟩
theorem Y7.old(h:Y7 Ws W b0 g u xs)(hb:Below W.heap.size W W1):Y7 Ws W1 b0 g u xs:=by
 obtain⟨rows,h1,h2⟩:=h.row;exact⟨h.bel.trans (hb.mono h.bel.size),h.ge,h.b0le,h.box.old hb,rows,qQ h1 hb,h2.oldS hb⟩
theorem Q6{w:World}{base n size g o:Nat}{e:TypeId}{v:Value}{ys:List Value}(h:w.ownsRow base e size v n ys)(hg:g<base)(x:Value):(w.setCell ⟨g,o,none⟩ x).ownsRow base e size v n ys:=
 h.kept (row:=some g) ⟨rfl,rfl,rfl,by simp,fun j _ hj=>Below.heap_setCell w ⟨g,o,none⟩ x j (fun e=>hj (by have e:j=g:=e;rw[e]))⟩ (.inr fun e=>by have:=jb h e;omega)
theorem Y7.push(h:Y7 Ws W b0 g u xs)(hr:W.ownsRow (g+1) 44 7 u xs.length rows.flatten)(hm:yi W (yK W b0) xs rows)(h1:Below W.heap.size W W1)(ha:MV W1 (yK W1 b0) a news)
 (ho:W2.ownsRow (g+1) 44 7 u' (xs.length+1) (rows.flatten++news))(hg:W1.grownBy W2 u.ownBlock):Y7 Ws (W2.setCell ⟨g,6,none⟩ u') b0 g u' (xs++[a]):=by
 have hr1:=qQ hr h1;have hne:some g≠u.ownBlock:=fun e=>by have:=jb hr e.symm;omega
 have hbox2:=(h.box.old h1).grown hg hne;have hsz:Ws.heap.size≤W1.heap.size:=Nat.le_trans h.bel.size h1.size;refine⟨?_,h.ge,h.b0le,hbox2.set_ 6 u',?_⟩
 ·have hb2:Below Ws.heap.size W1 W2:=⟨hg.os,hg.tape,hg.output,hg.size,fun k hk=>hg.block k (by omega) (fun e=>by have:=jb hr e.symm;have:=h.ge;omega)⟩;exact((h.bel.trans (h1.mono h.bel.size)).trans hb2).setCell (show Ws.heap.size≤g from h.ge) u'
 ·obtain⟨k1,k2⟩:=yK.keep (w:=W1) (w':=W2.setCell ⟨g,6,none⟩ u') (base:=b0) (base':=b0)
   (fun j cs k=>(k.grown hg (qF hr1 k (by decide))).far (jr (k.grown hg (qF hr1 k (by decide))) hbox2 (by decide)) u')
   (fun j cs _ k=>(k.grown hg (qF hr1 k (by decide))).far (jr (k.grown hg (qF hr1 k (by decide))) hbox2 (by decide)) u') (Nat.le_refl _)
  exact QX (hm.oldS h1) ha k1 k2 (Q6 ho (Nat.lt_succ_self g) u')
theorem Y7.done(h:Y7 Ws W b0 g u xs){r:Option Nat}(hr:∀b,r=some b→b<Ws.heap.size):∃L lc,u= .slice L xs.length lc∧MV W (yQ W b0 r) (.mk 3 0 qa xs) (q9 (.mk 3 0 qa xs) none 0 none 0 L lc):=by
 obtain⟨rows,h1,h2⟩:=h.row;have hm:=yi.mono (S':=yQ W b0 r) (fun b hb=> .inl hb) _ _ h2;by_cases h0:xs.length=0
 ·obtain⟨L,lc,rfl⟩:=qJ h1;refine⟨L,lc,rfl,?_⟩;unfold MV;exact⟨none,0,none,0,L,lc,rfl,RT.zero,by omega,rows,⟨h1.1,fun hp=>by omega⟩,hm⟩
 ·obtain⟨g',lc,rfl,hb,hlt⟩:=h1.form (by omega);obtain⟨cur,hk,_,hc,hx⟩:=jx h1;refine⟨_,lc,rfl,?_⟩;unfold MV;refine⟨none,0,none,0,_,lc,rfl,RT.zero,hc,rows,⟨h1.1,fun _=>⟨g',0,rfl,.inr ⟨?_,?_,cur,hk⟩,fun j x hj=>?_⟩⟩,hm⟩
  ·have:=h.ge;have:=h.b0le;omega
  ·intro e;have:=hr g' e.symm;have:=h.ge;omega
  ·rw[Nat.zero_add,hk.cell];exact hx j x hj
end
structure OrI (w W:World) (g4 g:Nat) (v:Value) (ms:List MX):Prop where
 bel:Below w.heap.size w W
 ge:w.heap.size≤g4
 lt:g4<g
 res:qd W g4 44 #[.int .i64 0,.int .i64 0,.int .i64 0,.bool false,.slice none 0 0,.slice none 0 0,.slice none 0 0]
 box:qd W g 44 #[.int .i64 4,.int .i64 0,.int .i64 0,.bool false,.slice none 0 0,.slice none 0 0,v]
 row:∃rows,W.ownsRow (g+1) 44 7 v ms.length rows.flatten∧yi W (yQ W (g+1) v.ownBlock) ms rows
section
variable {w Ws W W1 W2:World} {g4 g g':Nat} {u v v':Value} {xs ms:List MX} {rows:List (List Value)} {news:List Value}
theorem OrI.start(hb:Below w.heap.size w W)(h4:w.heap.size≤g4)(hg:g4<g)(hr:qd W g4 44 #[.int .i64 0,.int .i64 0,.int .i64 0,.bool false,.slice none 0 0,.slice none 0 0,.slice none 0 0])
 (hk:qd W g 44 #[.int .i64 4,.int .i64 0,.int .i64 0,.bool false,.slice none 0 0,.slice none 0 0,.slice none 0 0]):OrI w W g4 g (.slice none 0 0) []:=
 ⟨hb,h4,hg,hr,hk,[],⟨rfl,.inl ⟨rfl,rfl⟩⟩,by unfold yi;rfl⟩
theorem OrI.old(h:OrI w W g4 g v ms)(hb:Below W.heap.size W W1):OrI w W1 g4 g v ms:=by
 obtain⟨rows,h1,h2⟩:=h.row;exact⟨h.bel.trans (hb.mono h.bel.size),h.ge,h.lt,h.res.old hb,h.box.old hb,rows,qQ h1 hb,h2.oldM hb⟩
theorem OrI.ownlt(h:OrI w W g4 g v ms):∀b,v.ownBlock=some b→b<W.heap.size:=by
 intro b hb;obtain⟨rows,h1,h2⟩:=h.row;rcases h1.2 with⟨e,_⟩|⟨g',cap,cur,e,_,hh,_⟩
 ·rw[e]at hb;simp[Value.ownBlock]at hb
 ·rw[e]at hb;have:g'=b:=by simpa[Value.ownBlock]using hb
  subst this;exact qd.lt (show qd W g' 44 cur from hh)
theorem OrI.push(h:OrI w W g4 g v ms)(hr:W.ownsRow (g+1) 44 7 v ms.length rows.flatten)(hm:yi W (yQ W (g+1) v.ownBlock) ms rows){a:MX}(h1:Below W.heap.size W W1)(ha:MV W1 (yQ W1 (g+1) v.ownBlock) a news)
 (ho:W2.ownsRow (g+1) 44 7 v' (ms.length+1) (rows.flatten++news))(hg:W1.grownBy W2 v.ownBlock)(hat:v'.ownBlock=v.ownBlock∨v'.ownBlock=some W1.heap.size):OrI w (W2.setCell ⟨g,6,none⟩ v') g4 g v' (ms++[a]):=by
 have hr1:=qQ hr h1;have hne:some g≠v.ownBlock:=fun e=>by have:=jb hr e.symm;omega
 have hne4:some g4≠v.ownBlock:=fun e=>by have:=jb hr e.symm;have:=h.lt;omega
 have hbox2:=(h.box.old h1).grown hg hne;have hsz:w.heap.size≤W1.heap.size:=Nat.le_trans h.bel.size h1.size;refine⟨?_,h.ge,h.lt,((h.res.old h1).grown hg hne4).far (by have:=h.lt;show g4≠g;omega) v',hbox2.set_ 6 v',?_⟩
 ·have hb2:Below w.heap.size W1 W2:=⟨hg.os,hg.tape,hg.output,hg.size,fun k hk=>hg.block k (by omega) (fun e=>by have:=jb hr e.symm;have:=h.ge;have:=h.lt;omega)⟩;exact((h.bel.trans (h1.mono h.bel.size)).trans hb2).setCell (show w.heap.size≤g by have:=h.ge;have:=h.lt;omega) v'
 ·obtain⟨k1,k2⟩:=yQ.keep (w:=W1) (w':=W2.setCell ⟨g,6,none⟩ v') (base:=g+1) (r:=v.ownBlock) (r':=v'.ownBlock)
   (fun j cs k=>(k.grown hg (qF hr1 k (by decide))).far (jr (k.grown hg (qF hr1 k (by decide))) hbox2 (by decide)) v')
   (fun j cs _ k=>(k.grown hg (qF hr1 k (by decide))).far (jr (k.grown hg (qF hr1 k (by decide))) hbox2 (by decide)) v')
   (fun j cs hj hne k=>⟨(k.grown hg hne).far (show j≠g by omega) v',by
     rcases hat with e|e
     ·rw[e];exact hne
     ·rw[e];intro e;injection e with e;have:=k.lt;omega⟩)
  exact QX (hm.oldM h1) ha k1 k2 (Q6 ho (Nat.lt_succ_self g) v')
theorem JX{w:World}{g:Nat}(h:qd w g 44 #[.int .i64 0,.int .i64 0,.int .i64 0,.bool false,.slice none 0 0,.slice none 0 0,.slice none 0 0])(a0 a1 a2 a3 a4 a5 a6:Value):
 qd (((((((w.setCell ⟨g,0,none⟩ a0).setCell ⟨g,1,none⟩ a1).setCell ⟨g,2,none⟩ a2).setCell ⟨g,3,none⟩ a3).setCell ⟨g,4,none⟩ a4).setCell ⟨g,5,none⟩ a5).setCell ⟨g,6,none⟩ a6) g 44 #[a0,a1,a2,a3,a4,a5,a6]∧
  (∀j t cs,j≠g→qd w j t cs→qd (((((((w.setCell ⟨g,0,none⟩ a0).setCell ⟨g,1,none⟩ a1).setCell ⟨g,2,none⟩ a2).setCell ⟨g,3,none⟩ a3).setCell ⟨g,4,none⟩ a4).setCell ⟨g,5,none⟩ a5).setCell ⟨g,6,none⟩ a6) j t cs)∧
  ∀B,B≤g→Below B w (((((((w.setCell ⟨g,0,none⟩ a0).setCell ⟨g,1,none⟩ a1).setCell ⟨g,2,none⟩ a2).setCell ⟨g,3,none⟩ a3).setCell ⟨g,4,none⟩ a4).setCell ⟨g,5,none⟩ a5).setCell ⟨g,6,none⟩ a6):=
 ⟨((((((h.set_ 0 a0).set_ 1 a1).set_ 2 a2).set_ 3 a3).set_ 4 a4).set_ 5 a5).set_ 6 a6,
   fun _ _ _ hj k=>(((((((k.far (p:=⟨g,0,none⟩) hj a0).far (p:=⟨g,1,none⟩) hj a1).far (p:=⟨g,2,none⟩) hj a2).far (p:=⟨g,3,none⟩) hj a3).far (p:=⟨g,4,none⟩) hj a4).far (p:=⟨g,5,none⟩) hj a5).far (p:=⟨g,6,none⟩) hj a6),
   fun B hB=>(((((((Below.refl B w).setCell (p:=⟨g,0,none⟩) hB a0).setCell (p:=⟨g,1,none⟩) hB a1).setCell (p:=⟨g,2,none⟩) hB a2).setCell (p:=⟨g,3,none⟩) hB a3).setCell (p:=⟨g,4,none⟩) hB a4).setCell (p:=⟨g,5,none⟩) hB a5).setCell (p:=⟨g,6,none⟩) hB a6⟩
theorem OrI.fin(h:OrI w W g4 g v ms){W':World}(s2:∀j t cs,j≠g4→qd W j t cs→qd W' j t cs):∃L lc,v= .slice L ms.length lc∧MV W' (yQ W' w.heap.size none) (.mk 4 0 qa ms) (q9 (.mk 4 0 qa ms) none 0 none 0 L lc):=by
 obtain⟨rows,h1,h2⟩:=h.row;have hlt:=h.lt;have hge:=h.ge;obtain⟨L,lc,hv⟩:=qJ h1;refine⟨L,lc,hv,?_⟩;subst hv;have hk:∀b,yQ W (g+1) (Value.slice L ms.length lc).ownBlock b→(∀o,W'.cell? ⟨b,o,none⟩=W.cell? ⟨b,o,none⟩)∧yQ W' w.heap.size none b:=fun b hb=>by
  rcases hb with hb|⟨h0,_,cs,hb⟩
  ·rcases hb with⟨cs,hb⟩|⟨h0,cs,hb⟩
   ·have h3:=s2 b _ _ (jr hb h.res (by decide)) hb;exact⟨fun o=>hb.cell_eq h3 o,.inl (.inl ⟨cs,h3⟩)⟩
   ·have h3:=s2 b _ _ (by omega) hb;exact⟨fun o=>hb.cell_eq h3 o,.inl (.inr ⟨by omega,cs,h3⟩)⟩
  ·have h3:=s2 b _ _ (by omega) hb;exact⟨fun o=>hb.cell_eq h3 o,.inr ⟨by omega,by simp,cs,h3⟩⟩
 have hm:=yi.mono (fun b hb=>(hk b hb).2) _ _ (yi.keep (fun b hb o=>(hk b hb).1 o) _ _ h2);unfold MV;by_cases h0:ms.length=0
 ·exact⟨none,0,none,0,L,lc,rfl,RT.zero,by omega,rows,⟨h1.1,fun hp=>by omega⟩,hm⟩
 ·obtain⟨g',lc',e,hb,hl⟩:=h1.form (by omega)
  injection e with e1 e2 e3
  subst e1;subst e3;obtain⟨cur,hk,_,hc,hx⟩:=jx h1;have hk':=s2 g' _ _ (by omega) hk;refine⟨none,0,none,0,_,lc,rfl,RT.zero,hc,rows,⟨h1.1,fun _=>⟨g',0,rfl,.inr ⟨by omega,by simp,cur,hk'⟩,fun j x hj=>?_⟩⟩,hm⟩;rw[Nat.zero_add,hk'.cell];exact hx j x hj
end
def Jp(r:Int):Int:=if r=1 then 1 else if r=2 then 3 else if r=4 then 5 else if r=5 then 6 else if r=6 then 4 else 2
def qiq(s:Int):Int:=if s=-1 then 1 else if s=0 then 2 else 4
def YI(b:Int):Int:=if b=1 then 4 else if b=4 then 1 else if b=3 then 6 else if b=6 then 3 else b
def JL(b:Int):Int:=if b=1 then 1 else if b=3 then 2 else if b=2 then 3 else if b=5 then 4 else if b=6 then 5 else 6
theorem Y8(r:Int):Jp r=1∨Jp r=2∨Jp r=3∨Jp r=4∨Jp r=5∨Jp r=6:=by
 unfold Jp
 split
 ·simp
 ·split
  ·simp
  ·split
   ·simp
   ·split
    ·simp
    ·split<;>simp
set_option maxHeartbeats 1000000
set_option maxRecDepth 100000
theorem qbw(r:Int)(w:World):Calls Tryz.prog 66 #[.int .i64 r] w fun e w'=>e= .returned (.int .i64 (Jp r))∧w'=w:=by
 unfold Jp;by_cases h1:r=1
 ·subst h1;go_enter Tryz.func66,Tryz.ntmps66
  go_wp2_with fail
  go_ret
  exact⟨rfl,rfl⟩
 rw[if_neg h1];have e1:(r==1)=false:=by simpa using h1
 by_cases h2:r=2
 ·subst h2;clear h1 e1;go_enter Tryz.func66,Tryz.ntmps66
  go_wp2_with fail
  go_ret
  exact⟨rfl,rfl⟩
 rw[if_neg h2];have e2:(r==2)=false:=by simpa using h2
 by_cases h4:r=4
 ·subst h4;clear h1 e1 h2 e2;go_enter Tryz.func66,Tryz.ntmps66
  go_wp2_with fail
  go_ret
  exact⟨rfl,rfl⟩
 rw[if_neg h4];have e4:(r==4)=false:=by simpa using h4
 by_cases h5:r=5
 ·subst h5;clear h1 e1 h2 e2 h4 e4;go_enter Tryz.func66,Tryz.ntmps66
  go_wp2_with fail
  go_ret
  exact⟨rfl,rfl⟩
 rw[if_neg h5];have e5:(r==5)=false:=by simpa using h5
 by_cases h6:r=6
 ·subst h6;clear h1 e1 h2 e2 h4 e4 h5 e5;go_enter Tryz.func66,Tryz.ntmps66
  go_wp2_with fail
  go_ret
  exact⟨rfl,rfl⟩
 rw[if_neg h6];have e6:(r==6)=false:=by simpa using h6
 clear h1 h2 h4 h5 h6;go_enter Tryz.func66,Tryz.ntmps66
 go_wp2_with fail
 go_ret
 exact⟨rfl,rfl⟩
theorem qkl(s:Int)(w:World):Calls Tryz.prog 67 #[.int .i64 s] w fun e w'=>e= .returned (.int .i64 (qiq s))∧w'=w:=by
 unfold qiq;by_cases h1:s=-1
 ·subst h1;go_enter Tryz.func67,Tryz.ntmps67
  go_wp2_with fail
  go_ret
  exact⟨rfl,rfl⟩
 rw[if_neg h1];have e1:(s== -1)=false:=by simpa using h1
 by_cases h2:s=0
 ·subst h2;clear h1 e1;go_enter Tryz.func67,Tryz.ntmps67
  go_wp2_with fail
  go_ret
  exact⟨rfl,rfl⟩
 rw[if_neg h2];have e2:(s==0)=false:=by simpa using h2
 clear h1 h2;go_enter Tryz.func67,Tryz.ntmps67
 go_wp2_with fail
 go_ret
 exact⟨rfl,rfl⟩
set_option maxHeartbeats 4000000
theorem qj6(b:Int)(hb:b=1∨b=2∨b=3∨b=4∨b=5∨b=6)(w:World):Calls Tryz.prog 69 #[.int .i64 b] w fun e w'=>e= .returned (.int .i64 (YI b))∧w'=w:=by
 rcases hb with rfl|rfl|rfl|rfl|rfl|rfl
 all_goals
  go_enter Tryz.func69,Tryz.ntmps69
  go_wp2_with fail
  go_ret
  exact⟨rfl,rfl⟩
theorem QK{b:Int}(hb:b=1∨b=2∨b=3∨b=4∨b=5∨b=6):1≤JL b∧JL b≤6∧Jp (JL b)=b∧∀r,1≤r→r<JL b→Jp r≠b:=by
 rcases hb with rfl|rfl|rfl|rfl|rfl|rfl
 all_goals
  refine⟨by decide,by decide,by decide,fun r h1 h2=>?_⟩;have h6:r<6:=Int.lt_of_lt_of_le h2 (by decide);have h3:r=1∨r=2∨r=3∨r=4∨r=5:=by omega
  rcases h3 with rfl|rfl|rfl|rfl|rfl<;>revert h2<;>decide
theorem qdN(b:Int)(hb:b=1∨b=2∨b=3∨b=4∨b=5∨b=6)(w:World):Calls Tryz.prog 70 #[.int .i64 b] w fun e w'=>e= .returned (.tuple #[.int .i64 (JL b),.bool true])∧w'=w:=by
 obtain⟨r1,r6,rs,rl⟩:=QK hb;have HRS:=Lib.hid rs;have HRL:=Lib.hid rl;have HSG:=Lib.hid (fun(r:Int)=>qbw r w);clear rs rl hb;generalize JL b=rb at*;go_enter Tryz.func70,Tryz.ntmps70
 go_wp2_with fail
 go_loopg [4] 6 (fun gn ix wr=>∃r:Nat,1≤r∧(r:Int)≤rb∧gn=7-r∧ix= .int .i64 (r:Int)∧wr=w)
 case atStart=>exact⟨1,Nat.le_refl _,r1,rfl,rfl,rfl⟩
 case round=>
  obtain⟨r,hr1,hrb,hg,rfl,rfl⟩:=hrel;have HG:=Lib.hid hg;clear hg;have i1:(r:Int)≤6:=by omega
  have HS1:=Lib.hid (HSG.out (r:Int));by_cases hlt:(r:Int)=rb
  ·have e1:(Jp (r:Int)==b)=true:=by rw[hlt,HRS.out];simp
   have HLT:=Lib.hid hlt;clear hlt;generalize Jp (r:Int)=sr at*;go_wp2_with fail
   refine HS1.out.mono ?_;rintro e w2 ⟨rfl,rfl⟩;go_wp2_with fail
   go_ret2
   exact⟨by rw[←HLT.out];rfl,rfl⟩
  ·have e1:(Jp (r:Int)==b)=false:=by simpa using HRL.out (r:Int) (by omega) (by omega)
   have i2:(r:Int)+1≤rb:=by omega
   clear hlt;generalize Jp (r:Int)=sr at*;go_wp2_with fail
   refine HS1.out.mono ?_;rintro e w2 ⟨rfl,rfl⟩;go_wp2_with fail
   go_roundg (7-(r+1))
   case rel=>exact⟨r+1,by omega,by omega,rfl,by go_num,rfl⟩
   case measure=>have:=HG.out;omega
def QN(b:Bool):MX:= .mk (if b then 1 else 0) 0 qa []
theorem qay(b:Bool)(w:World):Calls Tryz.prog 65 #[.bool b] w fun e w'=>e= .returned (.agg #[.int .i64 (QN b).kd,.int .i64 0,.int .i64 0,.bool false,.slice none 0 0,.slice none 0 0,.slice none 0 0])∧Below w.heap.size w w':=by
 cases b
 all_goals
  go_enter Tryz.func65,Tryz.ntmps65
  go_wp2_with fail
  refine qg Tryz.results65 rfl rfl (qd.new w _ _) Tryz.underlying44 rfl Tryz.sizeMat ⟨rfl,(Below.refl w.heap.size w).alloc (Nat.le_refl _) _⟩
theorem qgR(X:Nat)(hX:X≤100000)(t:RP)(hc:qj t=true)(hf:yf X t)(A:Option Addr)(c:Nat)(K:Option Addr)(kc B:Nat)(w:World)(hB:B≤w.heap.size)(h:RV w (· <B) t (qc t A c K kc)):
 Calls Tryz.prog 68 #[qn t A c K kc] w fun e w'=>e= .returned (.int .i64 (qB (Yz t)))∧Below w.heap.size w w':=by
 have hb0:=(Below.refl w.heap.size w).alloc (Nat.le_refl _) (.cells #[.int .i64 t.lv,.bool t.ng,.slice A t.ds.length c,.slice K t.ks.length kc] 28);have hk0:=qd.new w 28 #[.int .i64 t.lv,.bool t.ng,.slice A t.ds.length c,.slice K t.ks.length kc];have HB0:=Lib.hid hb0;have HK0:=Lib.hid hk0;have HB:=Lib.hid hB;have HC:=Lib.hid hc;have HF:=Lib.hid hf;have HV:=Lib.hid (h.below (hb0.mono hB));have HSG:=Lib.hid (fun(ng:Bool)(A:Option Addr)(c:Nat)(ds:List Nat)(W:World)(hW:B≤W.heap.size)(h:qh W B A c ds)(hm:ds.length≤1000000)=>zQ ng A c B ds W hW h hm);unfold qn;clear h hc hf hB hb0 hk0;go_enter Tryz.func68,Tryz.ntmps68
 go_wp2_with fail
 generalize w.alloc (.cells #[.int .i64 t.lv,.bool t.ng,.slice A t.ds.length c,.slice K t.ks.length kc] 28)=W at*;go_loopg [] (qv t) (fun gn wr=>∃(u:RP)(A:Option Addr)(c:Nat)(K:Option Addr)(kc:Nat),gn=qv u∧qj u=true∧yf X u∧Yz u=Yz t∧Below w.heap.size w wr∧qd wr w.heap.size 28 #[.int .i64 u.lv,.bool u.ng,.slice A u.ds.length c,.slice K u.ks.length kc]∧RV wr (· <B) u (qc u A c K kc))
 case atStart=>exact⟨t,A,c,K,kc,rfl,HC.out,HF.out,rfl,HB0.out,HK0.out,HV.out⟩
 case round=>
  clear HB0 HK0 HV HC HF;obtain⟨u,A,c,K,kc,hg,hcu,hfu,hld,hbw,hk,hv⟩:=hrel;have HG:=Lib.hid hg;clear hg;have c0:=hk.cell 0;have c1:=hk.cell 1;have c2:=hk.cell 2;have c3:=hk.cell 3;have hnl:=hfu.at_.2.1;have hdl:=hfu.at_.1;have HBW:=Lib.hid hbw;by_cases h0:u.ks.length=0
  ·have HLE:=Lib.hid (show qB (Yz t)=qB (qb u.ng u.ds)by rw[←hld,qb7,List.eq_nil_of_length_eq_zero h0,ldL]);have HS1:=Lib.hid (HSG.out u.ng A c u.ds wr (Nat.le_trans HB.out hbw.size) hv.natIn (by omega));rw[h0]at c3;clear hv hk hbw hcu hfu hld;generalize u.ks.length=uk at*;generalize u.ds.length=ud at*;go_wp2_with fail
   refine HS1.out.mono ?_;rintro e w2 ⟨rfl,rfl⟩;go_wp2_with fail
   go_ret
   exact⟨by rw[HLE.out];rfl,HBW.out.trans (((Below.refl _ _).alloc (Nat.le_refl _) _).mono HBW.out.size)⟩
  ·obtain⟨x,hx⟩:∃x,u.ks[u.ks.length-1]? =some x:=⟨_,List.getElem?_eq_getElem (by omega)⟩;have hxm:=List.mem_of_getElem? hx;obtain⟨b,o,A1,q1,K1,r1,rfl,hbB,x0,x1,x2,x3,hku⟩:=hv.kid hx;have HCX:=Lib.hid (show qj x=true by
    rcases qr hcu with⟨_,b,_⟩|⟨_,_,_,_,_,a,_⟩
    ·rw[b]at hxm;cases hxm
    ·exact(a x hxm).2)
   have HFX:=Lib.hid (hfu.at_.2.2 x hxm);have HLX:=Lib.hid (show Yz x=Yz t by rw[←hld,qb7 u,qab _ _ x hx]);have HDX:=Lib.hid (show qv x<qv u from qD hxm);have hkc:=hv.node.2.2.2;have f0:=hk.frozen 0;have f1:=hk.frozen 1;have f2:=hk.frozen 2;have f3:=hk.frozen 3;have z0:=hk.lt;have HKN:=Lib.hid (show qd (jl wr w.heap.size 0 (.int .i64 x.lv) (.bool x.ng) (.slice A1 x.ds.length q1) (.slice K1 x.ks.length r1)) w.heap.size 28 #[.int .i64 x.lv,.bool x.ng,.slice A1 x.ds.length q1,.slice K1 x.ks.length r1]from(jt (k:=0) hk _ _ _ _).1);have HVN:=Lib.hid (RV.keep (fun b hb o=>set4_far wr (g:=w.heap.size) (by have:=HB.out;have hb:b<B:=hb;omega) 0 o (.int .i64 x.lv) (.bool x.ng) (.slice A1 x.ds.length q1) (.slice K1 x.ks.length r1)) _ _ hku);have HBN:=Lib.hid (qe (o:=0) hbw (Nat.le_refl _) (.int .i64 x.lv) (.bool x.ng) (.slice A1 x.ds.length q1) (.slice K1 x.ks.length r1));have e2:IntKind.i64.wrap ((u.ks.length:Int)-1)=((u.ks.length-1:Nat):Int):=by rw[IntWalk.i64_in _ (by omega)];omega
   have i1:(0:Int)<(u.ks.length:Int):=by omega
   have i2:((u.ks.length-1:Nat):Int)<(u.ks.length:Int):=by omega
   have i3:(u.ks.length:Int)≤(kc:Int):=by omega
   have i4:(0:Int)≤((u.ks.length-1:Nat):Int):=by omega
   clear hv hk hbw hcu hfu hld hx hxm hku h0;generalize u.ks.length-1=nm at*;generalize u.ks.length=uk at*;generalize u.ds.length=ud at*;go_wp2_with fail
   go_roundg (qv x)
   case rel=>exact⟨x,A1,q1,K1,r1,rfl,HCX.out,HFX.out,HLX.out,HBN.out,HKN.out,HVN.out⟩
   case measure=>have:=HG.out;have:=HDX.out;omega
theorem RV.over{V:World}{B base g:Nat}{T:RP}{vs:List Value}{cs:Array Value}(h:RV V (OkC B base V) T vs)(hk:qd V g 28 cs)(hB:B≤g)(hg:g<base)(x y z u:Value):RV (jl V g 0 x y z u) (OkC B base (jl V g 0 x y z u)) T vs:=by
 obtain⟨_,s2,s3⟩:=jt (k:=0) hk x y z u;obtain⟨k1,k2⟩:=yK.keep (base:=base) (base':=base) (w':=jl V g 0 x y z u) s2 (fun j ds hg' hj=>s3 j ds (by omega) hj) (Nat.le_refl _);exact RV.mono (fun b hb=>hb.imp id (k2 b)) _ _ (RV.keep (fun b hb o=>hb.elim (fun hb=>set4_far V (by omega) 0 o x y z u) (fun hb=>k1 b hb o)) _ _ h)
theorem OkC.lt{B base:Nat}{W:World}(hB:B≤W.heap.size):∀b,OkC B base W b→b<W.heap.size:=fun _ h=>h.elim (fun h=>Nat.lt_of_lt_of_le h hB) (fun h=>h.lt)
theorem OkC.old{B base:Nat}{W W':World}{T:RP}{vs:List Value}(h:RV W (OkC B base W) T vs)(hb:Below W.heap.size W W')(hB:B≤W.heap.size):RV W' (OkC B base W') T vs:=by
 obtain⟨_,k2⟩:=yK.keep (base:=base) (base':=base) (w:=W) (w':=W') (fun _ _ k=>k.old hb) (fun _ _ _ k=>k.old hb) (Nat.le_refl _);exact RV.mono (fun b hb=>hb.imp id (k2 b)) _ _ (RV.keep (fun b hb' o=>hb.cell (p:=⟨b,o,none⟩) (OkC.lt hB b hb')) _ _ h)
theorem YJ{w w1:World}{B base:Nat}{T:RP}{A K:Option Addr}{c kc:Nat}{cs:Array Value}(hk:qd w1 w.heap.size 28 cs)(hcs:cs.size=4)(hr:RV w1 (OkC B base w1) T (qc T A c K kc))(hB:B≤w.heap.size)(hb:w.heap.size<base)(hw:Below w.heap.size w w1):
 qd (jl w1 w.heap.size 0 (.int .i64 T.lv) (.bool T.ng) (.slice A T.ds.length c) (.slice K T.ks.length kc)) w.heap.size 28 #[.int .i64 T.lv,.bool T.ng,.slice A T.ds.length c,.slice K T.ks.length kc]∧
 RV (jl w1 w.heap.size 0 (.int .i64 T.lv) (.bool T.ng) (.slice A T.ds.length c) (.slice K T.ks.length kc)) (OkC B base (jl w1 w.heap.size 0 (.int .i64 T.lv) (.bool T.ng) (.slice A T.ds.length c) (.slice K T.ks.length kc))) T (qc T A c K kc)∧
 Below w.heap.size w (jl w1 w.heap.size 0 (.int .i64 T.lv) (.bool T.ng) (.slice A T.ds.length c) (.slice K T.ks.length kc)):=by
 refine⟨?_,hr.over hk hB hb _ _ _ _,qe hw (Nat.le_refl _) _ _ _ _⟩;obtain⟨s1,_,_⟩:=jt (k:=0) hk (.int .i64 T.lv) (.bool T.ng) (.slice A T.ds.length c) (.slice K T.ks.length kc);have e:(((cs.setIfInBounds 0 (Value.int .i64 T.lv)).setIfInBounds (0+1) (.bool T.ng)).setIfInBounds (0+2) (.slice A T.ds.length c)).setIfInBounds (0+3) (.slice K T.ks.length kc)=#[.int .i64 T.lv,.bool T.ng,.slice A T.ds.length c,.slice K T.ks.length kc]:=by
  obtain⟨l⟩:=cs
  match l,hcs with
  |[_,_,_,_],_=>rfl
 rw[e]at s1;exact s1
def qem(t:RP)(w:World)(e:Ending)(w':World):Prop:=jg t (qq t)∧Below w.heap.size w w'∧
 (((qq t).lv≠0∧e= .returned (.tuple #[.agg #[.bool false,.slice none 0 0],.bool false]))∨
   ((qq t).lv=0∧∃z A c,z=qb (qq t).ng (qq t).ds∧e= .returned (.tuple #[.agg #[.bool (decide (z<0)),.slice A (dig z.natAbs).length c],.bool true])∧(dig z.natAbs).length≤c∧qk w' A (dig z.natAbs)))
theorem qj9(dg:Nat)(hdg:dg≤500)(t:RP)(hf:zU dg t)(A:Option Addr)(c:Nat)(K:Option Addr)(kc B:Nat)(w:World)(hB:B≤w.heap.size)(h:RV w (· <B) t (qc t A c K kc)):
 Calls Tryz.prog 31 #[qn t A c K kc] w (qem t w):=by
 have HX:=Lib.hid (qK w 28 25 #[.int .i64 t.lv,.bool t.ng,.slice A t.ds.length c,.slice K t.ks.length kc] #[.bool false,.slice none 0 0]);have HCA:=Lib.hid (fun(W:World)(hW:Below w.heap.size w W)=>JQ dg hdg t hf.dep hf.few hf.cnt A c K kc B W (Nat.le_trans hB hW.size) (h.below (hW.mono hB)));unfold qfg at HCA;have HB:=Lib.hid hB;unfold qn at HCA ⊢;unfold qem;clear h hf hdg hB;go_enter Tryz.func31,Tryz.ntmps31
 go_wp2_with fail
 obtain⟨hb0,k0,k1,hs⟩:=HX.out;generalize (w.alloc (.cells #[.int .i64 t.lv,.bool t.ng,.slice A t.ds.length c,.slice K t.ks.length kc] 28)).alloc (.cells #[.bool false,.slice none 0 0] 25)=W at*;have HC1:=Lib.hid (HCA.out W hb0);have HB0:=Lib.hid hb0;have HK0:=Lib.hid k0;have HK1:=Lib.hid k1;have HSW:=Lib.hid k0.lt;clear HX HCA hb0 k0 k1 hs;refine HC1.out.mono ?_;rintro e w1 ⟨T,A1,c1,K1,kc1,hct,rfl,hrv,hsm,hb1⟩;have kk:=HK0.out.old hb1;have d0:w1.cell? ⟨w.heap.size,0,none⟩=some (.int .i64 t.lv):=kk.cell 0;have d1:w1.cell? ⟨w.heap.size,1,none⟩=some (.bool t.ng):=kk.cell 1;have d2:w1.cell? ⟨w.heap.size,2,none⟩=some (.slice A t.ds.length c):=kk.cell 2;have d3:w1.cell? ⟨w.heap.size,3,none⟩=some (.slice K t.ks.length kc):=kk.cell 3;have f0:=kk.frozen 0;have f1:=kk.frozen 1;have f2:=kk.frozen 2;have f3:=kk.frozen 3;have z0:=kk.lt;have HOV:=Lib.hid (YJ kk rfl hrv HB.out (HSW.out) (HB0.out.trans (hb1.mono HB0.out.size)));have HR1:=Lib.hid ((HK1.out.old hb1).set4_far (g:=w.heap.size) (by omega) 0 (.int .i64 T.lv) (.bool T.ng) (.slice A1 T.ds.length c1) (.slice K1 T.ks.length kc1));have HCT:=Lib.hid hct;have hdl:=hsm.at_.1;clear kk hrv hb1 hct hsm HC1 HK0 HB0 HK1;go_upto_region 2 with(fail)
 generalize hW2:(((w1.setCell ⟨w.heap.size,0,none⟩ (.int .i64 T.lv)).setCell ⟨w.heap.size,1,none⟩ (.bool T.ng)).setCell ⟨w.heap.size,2,none⟩ (.slice A1 T.ds.length c1)).setCell ⟨w.heap.size,3,none⟩ (.slice K1 T.ks.length kc1)=W2 at*;have HW2:=Lib.hid (show jl w1 w.heap.size 0 (.int .i64 T.lv) (.bool T.ng) (.slice A1 T.ds.length c1) (.slice K1 T.ks.length kc1)=W2 from hW2);rw[HW2.out]at HOV HR1;clear d0 d1 d2 d3 f0 f1 f2 f3 z0 hW2 HW2;obtain⟨k2,r2,b2⟩:=HOV.out;have hBW:B≤W2.heap.size:=Nat.le_trans HB.out b2.size;have HNI:=Lib.hid ((RV.mono (OkC.lt hBW) _ _ r2).natIn);have HE:=Lib.hid (QH HCT.out);have c0:=k2.cell 0;have c1':=k2.cell 1;have c2:=k2.cell 2;have c3:=k2.cell 3;have HB2:=Lib.hid b2;clear HOV k2 r2 b2;by_cases h0:T.lv=0
 ·have HIN:=Lib.hid (jH T.ng A1 c1 W2.heap.size T.ds W2 (Nat.le_refl _) HNI.out (by omega));unfold qy at HIN;have HZ:=Lib.hid (show qb T.ng T.ds=qb (qq t).ng (qq t).ds by rw[HE.out]);have HL:=Lib.hid (show(qq t).lv=0 by rw[HE.out];exact h0);have e1:(T.lv != 0)=false:=by simp[h0]
  generalize qb T.ng T.ds=z at*;clear h0;go_wp2_with fail
  refine HIN.out.mono ?_;rintro e w5 ⟨A5,c5,rfl,l5,n5,hb5⟩;have kr:=HR1.out.old hb5;have d0:=kr.cell 0;have d1:=kr.cell 1;have f0:=kr.frozen 0;have f1:=kr.frozen 1;have z0:=kr.lt;have HKR:=Lib.hid kr;have HN5:=Lib.hid n5;have HL5:=Lib.hid l5;have HB5:=Lib.hid (HB2.out.trans (hb5.mono HB2.out.size));clear kr n5 l5 hb5 HIN;go_wp2_with fail
  refine YO Tryz.results31 rfl rfl ((HKR.out.set_ 0 _).set_ 1 _) Tryz.underlying25 rfl Tryz.sizeInt ?_;refine⟨by rw[HE.out];exact HCT.out,(HB5.out.setCell (p:=⟨w.heap.size+1,0,none⟩) (Nat.le_succ _) _).setCell (p:=⟨w.heap.size+1,1,none⟩) (Nat.le_succ _) _,.inr ⟨HL.out,z,A5,c5,HZ.out,rfl,HL5.out,HN5.out.store2 HKR.out (by decide) _ _⟩⟩
 ·have HL:=Lib.hid (show(qq t).lv≠0 by rw[HE.out];exact h0);have e1:(T.lv != 0)=true:=by simpa using h0
  have kr:=HR1.out;have d0:=kr.cell 0;have d1:=kr.cell 1;have f0:=kr.frozen 0;have f1:=kr.frozen 1;have z0:=kr.lt;have HKR:=Lib.hid kr;clear kr h0;go_wp2_with fail
  refine YO Tryz.results31 rfl rfl ((HKR.out.set_ 0 _).set_ 1 _) Tryz.underlying25 rfl Tryz.sizeInt ?_;exact⟨by rw[HE.out];exact HCT.out,(HB2.out.setCell (p:=⟨w.heap.size+1,0,none⟩) (Nat.le_succ _) _).setCell (p:=⟨w.heap.size+1,1,none⟩) (Nat.le_succ _) _,.inl ⟨HL.out,rfl⟩⟩
def qif(rel s:Int):Bool:=if rel=1 then decide (s<0)else if rel=2 then decide (s≤0)else if rel=4 then s != 0 else if rel=5 then decide (0≤s)else if rel=6 then decide (0<s)else s==0
abbrev ZP(m:MX)(A:Option Addr)(c:Nat)(K:Option Addr)(kc:Nat)(L:Option Addr)(lc:Nat):Value:= .agg #[.int .i64 m.kd,.int .i64 m.rl,.int .i64 m.p.lv,.bool m.p.ng,.slice A m.p.ds.length c,.slice K m.p.ks.length kc,.slice L m.ks.length lc]
def J6(M:MX)(w:World)(e:Ending)(w':World):Prop:=∃A c K kc L lc,e= .returned (ZP M A c K kc L lc)∧MV w' (yQ w' w.heap.size none) M (q9 M A c K kc L lc)∧Below w.heap.size w w'
abbrev Jh(W:World)(g:Nat)(a0 a1 a2 a3 a4 a5 a6:Value):World:=((((((W.setCell ⟨g,0,none⟩ a0).setCell ⟨g,1,none⟩ a1).setCell ⟨g,2,none⟩ a2).setCell ⟨g,3,none⟩ a3).setCell ⟨g,4,none⟩ a4).setCell ⟨g,5,none⟩ a5).setCell ⟨g,6,none⟩ a6
theorem Yt{w V:World}{g base:Nat}{M:MX}{A K L:Option Addr}{c kc lc:Nat}(hk:qd V g 44 #[.int .i64 0,.int .i64 0,.int .i64 0,.bool false,.slice none 0 0,.slice none 0 0,.slice none 0 0])(hr:MV V (yQ V base none) M (q9 M A c K kc L lc))(hg:g<base)(hw:w.heap.size≤g)(hb:Below w.heap.size w V):
 qd (Jh V g (.int .i64 M.kd) (.int .i64 M.rl) (.int .i64 M.p.lv) (.bool M.p.ng) (.slice A M.p.ds.length c) (.slice K M.p.ks.length kc) (.slice L M.ks.length lc)) g 44 #[.int .i64 M.kd,.int .i64 M.rl,.int .i64 M.p.lv,.bool M.p.ng,.slice A M.p.ds.length c,.slice K M.p.ks.length kc,.slice L M.ks.length lc]∧
 J6 M w (.returned (ZP M A c K kc L lc)) (Jh V g (.int .i64 M.kd) (.int .i64 M.rl) (.int .i64 M.p.lv) (.bool M.p.ng) (.slice A M.p.ds.length c) (.slice K M.p.ks.length kc) (.slice L M.ks.length lc)):=by
 obtain⟨s1,s2,s3⟩:=JX hk (.int .i64 M.kd) (.int .i64 M.rl) (.int .i64 M.p.lv) (.bool M.p.ng) (.slice A M.p.ds.length c) (.slice K M.p.ks.length kc) (.slice L M.ks.length lc);obtain⟨k1,k2⟩:=yQ.keep (w:=V) (w':=Jh V g (.int .i64 M.kd) (.int .i64 M.rl) (.int .i64 M.p.lv) (.bool M.p.ng) (.slice A M.p.ds.length c) (.slice K M.p.ks.length kc) (.slice L M.ks.length lc)) (base:=base) (r:=none) (r':=none)
  (fun j cs h=>s2 j _ cs (jr h hk (by decide)) h) (fun j cs _ h=>s2 j _ cs (jr h hk (by decide)) h) (fun j cs hj _ h=>⟨s2 j _ cs (by omega) h,by simp⟩)
 refine⟨s1,A,c,K,kc,L,lc,rfl,MV.mono (fun b hb=>?_) _ _ (MV.keep k1 _ _ hr),hb.trans (s3 _ hw)⟩;rcases k2 b hb with h|⟨h1,h2,h3⟩
 ·exact .inl (h.mono (by omega))
 ·exact .inr ⟨by omega,h2,h3⟩
abbrev lfv(m:MX)(A:Option Addr)(c:Nat)(K:Option Addr)(kc:Nat):Value:= .agg #[.int .i64 m.kd,.int .i64 m.rl,.int .i64 m.p.lv,.bool m.p.ng,.slice A m.p.ds.length c,.slice K m.p.ks.length kc,.slice none 0 0]
def QC(M:MX)(w:World)(e:Ending)(w':World):Prop:=M.ks=[]∧∃A c K kc,e= .returned (lfv M A c K kc)∧RB w' w.heap.size M.p (qc M.p A c K kc)∧Below w.heap.size w w'
theorem jZ{w V:World}{g base:Nat}{M:MX}{A K:Option Addr}{c kc:Nat}(hM:M.ks=[])(hk:qd V g 44 #[.int .i64 0,.int .i64 0,.int .i64 0,.bool false,.slice none 0 0,.slice none 0 0,.slice none 0 0])(hr:RB V base M.p (qc M.p A c K kc))(hg:g<base)(hw:w.heap.size≤g)(hb:Below w.heap.size w V):
 qd (Jh V g (.int .i64 M.kd) (.int .i64 M.rl) (.int .i64 M.p.lv) (.bool M.p.ng) (.slice A M.p.ds.length c) (.slice K M.p.ks.length kc) (.slice none 0 0)) g 44 #[.int .i64 M.kd,.int .i64 M.rl,.int .i64 M.p.lv,.bool M.p.ng,.slice A M.p.ds.length c,.slice K M.p.ks.length kc,.slice none 0 0]∧
 QC M w (.returned (lfv M A c K kc)) (Jh V g (.int .i64 M.kd) (.int .i64 M.rl) (.int .i64 M.p.lv) (.bool M.p.ng) (.slice A M.p.ds.length c) (.slice K M.p.ks.length kc) (.slice none 0 0)):=by
 obtain⟨s1,s2,s3⟩:=JX hk (.int .i64 M.kd) (.int .i64 M.rl) (.int .i64 M.p.lv) (.bool M.p.ng) (.slice A M.p.ds.length c) (.slice K M.p.ks.length kc) (.slice none 0 0);exact⟨s1,hM,A,c,K,kc,rfl,RB.mono (RB.keep (base':=base) hr (fun j cs h=>s2 j _ cs (jr h hk (by decide)) h) (fun j cs _ h=>s2 j _ cs (jr h hk (by decide)) h) (Nat.le_refl _)) (by omega),hb.trans (s3 _ hw)⟩
def QR(rel:Int)(t:RP)(M:MX):Prop:=
 ((qq t).lv=0∧M=QN (qif rel (qB (qb (qq t).ng (qq t).ds))))∨
 ((qq t).lv≠0∧∃T,SgT t T∧M= .mk 2 (JL (if Yz (qq t)<0 then YI (Jp rel)else Jp rel)) T [])
theorem qkJ(rel z:Int):(bits BinOp.and IntKind.i64 (Jp rel) (qiq (qB z)) != 0)=qif rel (qB z):=by
 have hs:qB z=-1∨qB z=0∨qB z=1:=by unfold qB;split<;>(try split)<;>simp
 generalize qB z=s at*;unfold Jp qif;by_cases h1:rel=1
 ·rw[if_pos h1,if_pos h1];rcases hs with rfl|rfl|rfl<;>decide
 rw[if_neg h1,if_neg h1];by_cases h2:rel=2
 ·rw[if_pos h2,if_pos h2];rcases hs with rfl|rfl|rfl<;>decide
 rw[if_neg h2,if_neg h2];by_cases h4:rel=4
 ·rw[if_pos h4,if_pos h4];rcases hs with rfl|rfl|rfl<;>decide
 rw[if_neg h4,if_neg h4];by_cases h5:rel=5
 ·rw[if_pos h5,if_pos h5];rcases hs with rfl|rfl|rfl<;>decide
 rw[if_neg h5,if_neg h5];by_cases h6:rel=6
 ·rw[if_pos h6,if_pos h6];rcases hs with rfl|rfl|rfl<;>decide
 rw[if_neg h6,if_neg h6];rcases hs with rfl|rfl|rfl<;>decide
theorem ZH:∀(L:Nat)(ts:List Tm),qG (qO L ts)
 |L,[]=>by rw[yC];unfold qa;simp[qG,yX,qP]
 |0,t::r=>by rw[qO];unfold ju;simp only[qG,yX];exact⟨qu _,trivial⟩
 |L+1,t::r=>by
  rw[qO]
  split
  ·exact ZH L (t::r)
  ·simp only[qG];exact⟨by simp[qP],yX.mem.2 (Yb (Q:=qG) (qO L) L _ _ _ (by have:=ZH 0 [];rwa[yC]at this) (fun l _=>ZH L l))⟩
theorem jg.dig{t T:RP}(h:jg t T)(hd:qG t):qG T:=by
 rcases h with⟨_,rfl⟩|⟨_,P,_,_,rfl⟩
 ·exact hd
 ·exact ZH 4 P
theorem qbm{b:Int}(hb:b=1∨b=2∨b=3∨b=4∨b=5∨b=6):YI b=1∨YI b=2∨YI b=3∨YI b=4∨YI b=5∨YI b=6:=by
 rcases hb with rfl|rfl|rfl|rfl|rfl|rfl<;>decide
theorem ZV(dg:Nat)(hdg:dg≤500)(rel:Int)(t:RP)(hf:zU dg t)(hfc:yf 1000 (qq t))(A:Option Addr)(c:Nat)(K:Option Addr)(kc B:Nat)(w:World)(hB:B≤w.heap.size)(h:RV w (· <B) t (qc t A c K kc)):
 Calls Tryz.prog 33 #[qn t A c K kc,.int .i64 rel] w fun e w'=>jg t (qq t)∧∃M,QR rel t M∧QC M w e w':=by
 have HX:=Lib.hid (qK w 28 44 #[.int .i64 t.lv,.bool t.ng,.slice A t.ds.length c,.slice K t.ks.length kc] #[.int .i64 0,.int .i64 0,.int .i64 0,.bool false,.slice none 0 0,.slice none 0 0,.slice none 0 0]);have HCS:=Lib.hid (fun(W:World)(hW:Below w.heap.size w W)=>qj9 dg hdg t hf A c K kc B W (Nat.le_trans hB hW.size) (h.below (hW.mono hB)));have HNM:=Lib.hid (fun(W:World)(hW:Below w.heap.size w W)=>zT dg hdg t hf A c K kc B W (Nat.le_trans hB hW.size) (h.below (hW.mono hB)));have HMS:=Lib.hid (fun(W:World)(hW:Below w.heap.size w W)=>qgF dg hdg t hf A c K kc B W (Nat.le_trans hB hW.size) (h.below (hW.mono hB)));have HFI:=Lib.hid (fun(hc:qj (qq t)=true) A c K kc (W:World)(h:RV W (· <W.heap.size) (qq t) (qc (qq t) A c K kc))=>qgR 1000 (by omega) (qq t) hc hfc A c K kc W.heap.size W (Nat.le_refl _) h);have hdl:=hfc.at_.1;have HDT:=Lib.hid (h.digT);have HSG:=Lib.hid (fun(W:World)=>qbw rel W);unfold qem at HCS;unfold Ya at HNM;unfold q8 at HMS;unfold qn at HCS HNM HMS HFI ⊢;clear h hf hfc hdg hB;generalize hU:qq t=U at*;have HU:=Lib.hid hU;go_enter Tryz.func33,Tryz.ntmps33
 go_wp2_with fail
 obtain⟨hb0,k0,k1,hs⟩:=HX.out;generalize (w.alloc (.cells #[.int .i64 t.lv,.bool t.ng,.slice A t.ds.length c,.slice K t.ks.length kc] 28)).alloc (.cells #[.int .i64 0,.int .i64 0,.int .i64 0,.bool false,.slice none 0 0,.slice none 0 0,.slice none 0 0] 44)=W0 at*;have HC1:=Lib.hid (HCS.out W0 hb0);have HB0:=Lib.hid hb0;have HK0:=Lib.hid k0;have HK1:=Lib.hid k1;clear HX HCS hb0 k0 k1 hs;refine HC1.out.mono ?_;rintro e w1 ⟨hct,hb1,hcase⟩;have HCT:=Lib.hid hct;have HB1:=Lib.hid (HB0.out.trans (hb1.mono HB0.out.size));have HJ0:=Lib.hid (HK0.out.old hb1);have HJ1:=Lib.hid (HK1.out.old hb1);clear HC1 HB0 HK0 HK1 hct hb1;rcases hcase with⟨hlv,rfl⟩|⟨hlv,z,Az,cz,hz,rfl,hlz,hnz⟩
 ·have HLV:=Lib.hid hlv;have HCB:=Lib.hid HCT.out.can.1;have hal:=(Below.refl w1.heap.size w1).alloc (Nat.le_refl _) (.cells #[.bool false,.slice none 0 0] 25);have k0:=HJ0.out.old hal;have k1:=HJ1.out.old hal;have HB0:=Lib.hid (HB1.out.trans (hal.mono HB1.out.size));clear hal HJ0 HJ1 HB1 hlv;go_upto_region 4 with(fail)
  generalize w1.alloc (.cells #[.bool false,.slice none 0 0] 25)=W at*;have KF:=Lib.hid (fun(V:World)(hV:Below W.heap.size W V)=>And.intro (k0.old hV) (k1.old hV));have c0:=k0.cell 0;have c1:=k0.cell 1;have c2:=k0.cell 2;have c3:=k0.cell 3;have HN1:=Lib.hid (HNM.out W HB0.out);clear k0 k1 HNM;go_wp2_with fail
  refine(HSG.out _).mono ?_;rintro e w2 ⟨rfl,rfl⟩;go_wp2_with fail
  refine HN1.out.mono ?_;rintro e w4 ⟨A4,c4,K4,kc4,rfl,_,hr4,hb4⟩;have hb:=hb4;have HF1:=Lib.hid (HFI.out HCB.out A4 c4 K4 kc4 w4 hr4.rv);clear c0 c1 c2 c3 hr4 hb4 HN1 HFI;go_wp2_with fail
  refine HF1.out.mono ?_;rintro e w5 ⟨rfl,hb5⟩
  replace hb:=hb.trans (hb5.mono hb.size)
  obtain⟨k0,k1⟩:=KF.out _ hb;have c0:=k0.cell 0;have c1:=k0.cell 1;have c2:=k0.cell 2;have c3:=k0.cell 3;have HB5:=Lib.hid (HB0.out.trans (hb.mono HB0.out.size));have HM1:=Lib.hid (HMS.out w5 HB5.out);have HK1:=Lib.hid k1;have hsb:=Y8 rel;have hob:=qbm hsb;have HSB:=Lib.hid hsb;have HS5:=Lib.hid (show w.heap.size+1<w5.heap.size from k1.lt);clear hb5 k0 k1 HF1 HMS hb KF;by_cases hneg:Yz U<0
  ·have e1:decide (qB (Yz U)<0)=true:=by simpa using(Qo _).2 hneg
   have HRL:=Lib.hid (fun(W:World)=>qdN (YI (Jp rel)) hob W);have HOP:=Lib.hid (fun(W:World)=>qj6 (Jp rel) hsb W);have HMM:=Lib.hid (fun(T:RP)(hT:SgT t T)=>show QR rel t (.mk 2 (JL (YI (Jp rel))) T [])from .inr ⟨by rw[HU.out];exact HLV.out,T,hT,by rw[HU.out,if_pos hneg]⟩);clear hsb hob hneg;generalize Jp rel=xb at*;generalize YI xb=yb at*;generalize qB (Yz U)=zz at*;go_wp2_with fail
   refine(HOP.out _).mono ?_;rintro e w2 ⟨rfl,rfl⟩;go_wp2_with fail
   refine(HRL.out _).mono ?_;rintro e w2 ⟨rfl,rfl⟩;go_wp2_with fail
   refine HM1.out.mono ?_;rintro e w6 ⟨T,hT,A6,c6,K6,kc6,rfl,hr6,hb6⟩;have k6:=HK1.out.old hb6;have HFN:=Lib.hid (jZ (w:=w) (M:= .mk 2 (JL yb) T []) rfl k6 hr6 HS5.out (Nat.le_succ _) (HB5.out.trans (hb6.mono HB5.out.size)));have HTT:=Lib.hid (HMM.out T hT);have d0:=k6.cell 0;have d1:=k6.cell 1;have d2:=k6.cell 2;have d3:=k6.cell 3;have d4:=k6.cell 4;have d5:=k6.cell 5;have d6:=k6.cell 6;have f0:=k6.frozen 0;have f1:=k6.frozen 1;have f2:=k6.frozen 2;have f3:=k6.frozen 3;have f4:=k6.frozen 4;have f5:=k6.frozen 5;have f6:=k6.frozen 6;have z0:=k6.lt;clear k6 hr6 hb6 hT HM1;go_wp2_with fail
   exact qg Tryz.results33 rfl rfl HFN.out.1 Tryz.underlying44 rfl Tryz.sizeMat ⟨HCT.out,_,HTT.out,HFN.out.2⟩
  ·have e1:decide (qB (Yz U)<0)=false:=by
    rw[decide_eq_false_iff_not,Qo];exact hneg
   have HRL:=Lib.hid (fun(W:World)=>qdN (Jp rel) hsb W);have HMM:=Lib.hid (fun(T:RP)(hT:SgT t T)=>show QR rel t (.mk 2 (JL (Jp rel)) T [])from .inr ⟨by rw[HU.out];exact HLV.out,T,hT,by rw[HU.out,if_neg hneg]⟩);clear hsb hob hneg;generalize Jp rel=yb at*;generalize qB (Yz U)=zz at*;go_wp2_with fail
   refine(HRL.out _).mono ?_;rintro e w2 ⟨rfl,rfl⟩;go_wp2_with fail
   refine HM1.out.mono ?_;rintro e w6 ⟨T,hT,A6,c6,K6,kc6,rfl,hr6,hb6⟩;have k6:=HK1.out.old hb6;have HFN:=Lib.hid (jZ (w:=w) (M:= .mk 2 (JL yb) T []) rfl k6 hr6 HS5.out (Nat.le_succ _) (HB5.out.trans (hb6.mono HB5.out.size)));have HTT:=Lib.hid (HMM.out T hT);have d0:=k6.cell 0;have d1:=k6.cell 1;have d2:=k6.cell 2;have d3:=k6.cell 3;have d4:=k6.cell 4;have d5:=k6.cell 5;have d6:=k6.cell 6;have f0:=k6.frozen 0;have f1:=k6.frozen 1;have f2:=k6.frozen 2;have f3:=k6.frozen 3;have f4:=k6.frozen 4;have f5:=k6.frozen 5;have f6:=k6.frozen 6;have z0:=k6.lt;clear k6 hr6 hb6 hT HM1;go_wp2_with fail
   exact qg Tryz.results33 rfl rfl HFN.out.1 Tryz.underlying44 rfl Tryz.sizeMat ⟨HCT.out,_,HTT.out,HFN.out.2⟩
 ·have HM:=Lib.hid (show QR rel t (QN (bits BinOp.and IntKind.i64 (Jp rel) (qiq (qB z)) != 0))from .inl ⟨by rw[HU.out];exact hlv,by rw[HU.out,←hz,qkJ]⟩);have HZN:=Lib.hid (show qh w1 w1.heap.size Az cz (dig z.natAbs)from qV hnz hlz);have hzl:(dig z.natAbs).length≤1000:=by
   rw[hz,qz];have hdg:=(HCT.out.dig HDT.out).at_.1;exact Nat.le_trans (qo hdg) hdl
  clear hlv hz hlz hnz;have hal:=(Below.refl w1.heap.size w1).alloc (Nat.le_refl _) (.cells #[.bool (decide (z<0)),.slice Az (dig z.natAbs).length cz] 25);have k5:=qd.new w1 25 #[.bool (decide (z<0)),.slice Az (dig z.natAbs).length cz];have k1:=HJ1.out.old hal;have HB0:=Lib.hid (HB1.out.trans (hal.mono HB1.out.size));have HSI:=Lib.hid (fun(W:World)(hW:Below (w1.alloc (.cells #[.bool (decide (z<0)),.slice Az (dig z.natAbs).length cz] 25)).heap.size (w1.alloc (.cells #[.bool (decide (z<0)),.slice Az (dig z.natAbs).length cz] 25)) W)=>
   (zQ (decide (z<0)) Az cz w1.heap.size (dig z.natAbs) W (Nat.le_trans hal.size hW.size) ((HZN.out.below hal).below (hW.mono hal.size)) (by omega)).mono (R':=fun e w'=>e= .returned (.int .i64 (qB z))∧Below W.heap.size W w') (by
     rintro e w' ⟨he,rfl⟩;rw[q7]at he;exact⟨he,(Below.refl _ _).alloc (Nat.le_refl _) _⟩))
  have HBT:=Lib.hid (fun(W:World)=>qkl (qB z) W);have HTR:=Lib.hid (fun(b:Bool)(W:World)=>qay b W);have HGW:=Lib.hid (show w.heap.size+1<w1.heap.size from HJ1.out.lt);clear hal HJ0 HJ1 HB1;go_upto_region 3 with(fail)
  generalize qB z=sz at*;generalize Jp rel=xb at*;generalize qiq sz=yb at*;generalize (dig z.natAbs).length=nz at*;generalize decide (z<0)=gz at*;generalize w1.alloc (.cells #[.bool gz,.slice Az nz cz] 25)=W at*;have KF:=Lib.hid (fun(V:World)(hV:Below W.heap.size W V)=>(⟨(k5.old hV).cell 0,(k5.old hV).cell 1⟩:
   V.cell? ⟨w1.heap.size,0,none⟩=some (.bool gz)∧V.cell? ⟨w1.heap.size,1,none⟩=some (.slice Az nz cz)))
  have KS:=Lib.hid (fun(V:World)(hV:Below W.heap.size W V)(x0 x1 x2 x3 x4 x5 x6:Value)=>(⟨((((((((k5.old hV).far (p:=⟨w.heap.size+1,0,none⟩) (fun e=>absurd HGW.out (by show¬_;have e:w1.heap.size=w.heap.size+1:=e;omega)) x0).far (p:=⟨w.heap.size+1,1,none⟩) (fun e=>absurd HGW.out (by show¬_;have e:w1.heap.size=w.heap.size+1:=e;omega)) x1).far (p:=⟨w.heap.size+1,2,none⟩) (fun e=>absurd HGW.out (by show¬_;have e:w1.heap.size=w.heap.size+1:=e;omega)) x2).far (p:=⟨w.heap.size+1,3,none⟩) (fun e=>absurd HGW.out (by show¬_;have e:w1.heap.size=w.heap.size+1:=e;omega)) x3).far (p:=⟨w.heap.size+1,4,none⟩) (fun e=>absurd HGW.out (by show¬_;have e:w1.heap.size=w.heap.size+1:=e;omega)) x4).far (p:=⟨w.heap.size+1,5,none⟩) (fun e=>absurd HGW.out (by show¬_;have e:w1.heap.size=w.heap.size+1:=e;omega)) x5).far (p:=⟨w.heap.size+1,6,none⟩) (fun e=>absurd HGW.out (by show¬_;have e:w1.heap.size=w.heap.size+1:=e;omega)) x6).cell 0,((((((((k5.old hV).far (p:=⟨w.heap.size+1,0,none⟩) (fun e=>absurd HGW.out (by show¬_;have e:w1.heap.size=w.heap.size+1:=e;omega)) x0).far (p:=⟨w.heap.size+1,1,none⟩) (fun e=>absurd HGW.out (by show¬_;have e:w1.heap.size=w.heap.size+1:=e;omega)) x1).far (p:=⟨w.heap.size+1,2,none⟩) (fun e=>absurd HGW.out (by show¬_;have e:w1.heap.size=w.heap.size+1:=e;omega)) x2).far (p:=⟨w.heap.size+1,3,none⟩) (fun e=>absurd HGW.out (by show¬_;have e:w1.heap.size=w.heap.size+1:=e;omega)) x3).far (p:=⟨w.heap.size+1,4,none⟩) (fun e=>absurd HGW.out (by show¬_;have e:w1.heap.size=w.heap.size+1:=e;omega)) x4).far (p:=⟨w.heap.size+1,5,none⟩) (fun e=>absurd HGW.out (by show¬_;have e:w1.heap.size=w.heap.size+1:=e;omega)) x5).far (p:=⟨w.heap.size+1,6,none⟩) (fun e=>absurd HGW.out (by show¬_;have e:w1.heap.size=w.heap.size+1:=e;omega)) x6).cell 1⟩:
   (((((((V.setCell ⟨w.heap.size+1,0,none⟩ x0).setCell ⟨w.heap.size+1,1,none⟩ x1).setCell ⟨w.heap.size+1,2,none⟩ x2).setCell ⟨w.heap.size+1,3,none⟩ x3).setCell ⟨w.heap.size+1,4,none⟩ x4).setCell ⟨w.heap.size+1,5,none⟩ x5).setCell ⟨w.heap.size+1,6,none⟩ x6).cell? ⟨w1.heap.size,0,none⟩=some (.bool gz)∧(((((((V.setCell ⟨w.heap.size+1,0,none⟩ x0).setCell ⟨w.heap.size+1,1,none⟩ x1).setCell ⟨w.heap.size+1,2,none⟩ x2).setCell ⟨w.heap.size+1,3,none⟩ x3).setCell ⟨w.heap.size+1,4,none⟩ x4).setCell ⟨w.heap.size+1,5,none⟩ x5).setCell ⟨w.heap.size+1,6,none⟩ x6).cell? ⟨w1.heap.size,1,none⟩=some (.slice Az nz cz)))
  have KR:=Lib.hid (fun(V:World)(hV:Below W.heap.size W V)=>(⟨(k1.old hV).cell 0,(k1.old hV).cell 1,(k1.old hV).cell 2,(k1.old hV).cell 3,(k1.old hV).cell 4,(k1.old hV).cell 5,(k1.old hV).cell 6,(k1.old hV).frozen 0,(k1.old hV).frozen 1,(k1.old hV).frozen 2,(k1.old hV).frozen 3,(k1.old hV).frozen 4,(k1.old hV).frozen 5,(k1.old hV).frozen 6,(k1.old hV).lt⟩:
   V.cell? ⟨w.heap.size+1,0,none⟩=some (.int .i64 0)∧V.cell? ⟨w.heap.size+1,1,none⟩=some (.int .i64 0)∧V.cell? ⟨w.heap.size+1,2,none⟩=some (.int .i64 0)∧V.cell? ⟨w.heap.size+1,3,none⟩=some (.bool false)∧V.cell? ⟨w.heap.size+1,4,none⟩=some (.slice none 0 0)∧V.cell? ⟨w.heap.size+1,5,none⟩=some (.slice none 0 0)∧V.cell? ⟨w.heap.size+1,6,none⟩=some (.slice none 0 0)∧V.frozen? ⟨w.heap.size+1,0,none⟩=false∧V.frozen? ⟨w.heap.size+1,1,none⟩=false∧V.frozen? ⟨w.heap.size+1,2,none⟩=false∧V.frozen? ⟨w.heap.size+1,3,none⟩=false∧V.frozen? ⟨w.heap.size+1,4,none⟩=false∧V.frozen? ⟨w.heap.size+1,5,none⟩=false∧V.frozen? ⟨w.heap.size+1,6,none⟩=false∧w.heap.size+1<V.heap.size))
  have HRB:=Lib.hid k1;have hb:Below W.heap.size W W.drew:=(qm.drew _).below _;have hbz:Below W.heap.size W W:=Below.refl _ _;have HSI2:=Lib.hid (fun(V:World)(hV:Below W.heap.size W V)=>HSI.out V hV);clear HSI;go_region_held3 (fun w'=>w'.cell? ⟨w1.heap.size,0,none⟩=some (.bool gz)∧w'.cell? ⟨w1.heap.size,1,none⟩=some (.slice Az nz cz))
   (first|(with_reducible exact KF.out _ hb)|(with_reducible exact KF.out _ hbz)|(with_reducible exact KS.out _ hb _ _ _ _ _ _ _))
   (first
     |(go_at_call 66;(with_reducible refine(HSG.out _).mono ?_);rintro e v0 ⟨rfl,rfl⟩;have hs0:=hb.size)
     |(go_at_call 18;(with_reducible refine(HSI2.out _ hb).mono ?_);rintro e v1 ⟨rfl,hk⟩;replace hb:=hb.trans (hk.mono hb.size);have hs1:=hb.size)
     |(go_at_call 67;(with_reducible refine(HBT.out _).mono ?_);rintro e v2 ⟨rfl,rfl⟩;have hs2:=hb.size)
     |(go_at_call 65;(with_reducible refine(HTR.out _ _).mono ?_);rintro e v3 ⟨rfl,hk⟩;replace hb:=hb.trans (hk.mono hb.size);obtain⟨d0,d1,d2,d3,d4,d5,d6,f0,f1,f2,f3,f4,f5,f6,z0⟩:=KR.out _ hb))
  have k2:=HRB.out.old hb;have hlw:=HRB.out.lt;have HFN:=Lib.hid (jZ (w:=w) (M:=QN (bits BinOp.and IntKind.i64 xb yb != 0)) (base:=w.heap.size+1+1) (A:=none) (K:=none) (c:=0) (kc:=0) rfl k2 RB.zero (Nat.lt_succ_self _) (Nat.le_succ _) (HB0.out.trans (hb.mono HB0.out.size)));clear hb hbz KF KS KR HSI2 k2;go_wp2_with fail
  exact qg Tryz.results33 rfl rfl HFN.out.1 Tryz.underlying44 rfl Tryz.sizeMat ⟨HCT.out,_,HM.out,HFN.out.2⟩
