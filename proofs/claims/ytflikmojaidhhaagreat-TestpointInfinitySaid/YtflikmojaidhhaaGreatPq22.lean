import Derived.Test.YtflikmojaidhhaaGreatPq21
namespace Go.Proofs.YtflikmojaidhhaaGreat
open Go.RowKit
def qa2(r:Int):Int:=if r<1∨6<r then 3 else r
mutual
noncomputable def Ji:MX→MX
 | .mk k r p ks=>if k=1 then .mk 1 0 qa []else if k=2 then .mk 2 (qa2 r) (qq p) []else if k=3∨k=4 then .mk k 0 qa (nmL ks)else qag
noncomputable def nmL:List MX→List MX
 |[]=>[]
 |t::ts=>Ji t::nmL ts
end
theorem ZE:∀ts:List MX,nmL ts=ts.map Ji
 |[]=>rfl
 |t::ts=>by rw[nmL,ZE ts];rfl
theorem qkX(t:MX):Ji t=if t.kd=1 then .mk 1 0 qa []else if t.kd=2 then .mk 2 (qa2 t.rl) (qq t.p) []else if t.kd=3∨t.kd=4 then .mk t.kd 0 qa (t.ks.map Ji)else qag:=by
 cases t
 simp only[Ji,ZE];rfl
mutual
def Yd(G:RP→Prop):MX→Prop
 | .mk k _ p ks=>(k=2→G p)∧ks.length≤1000∧GnL G ks
def GnL(G:RP→Prop):List MX→Prop
 |[]=>True
 |t::ts=>Yd G t∧GnL G ts
end
theorem GnL.mem{G:RP→Prop}{ts:List MX}:GnL G ts↔∀t∈ts,Yd G t:=by
 induction ts with
 |nil=>simp[GnL]
 |cons t ts ih=>simp[GnL,ih]
theorem Yd.parts{G:RP→Prop}{t:MX}(h:Yd G t):(t.kd=2→G t.p)∧t.ks.length≤1000∧∀u∈t.ks,Yd G u:=by
 cases t with
 |mk k r p ks=>
  simp only[Yd]at h;exact⟨h.1,h.2.1,GnL.mem.1 h.2.2⟩
theorem Yd.mk{G:RP→Prop}{t:MX}(h1:t.kd=2→G t.p)(h2:t.ks.length≤1000)(h3:∀u∈t.ks,Yd G u):Yd G t:=by
 cases t with
 |mk k r p ks=>
  simp only[Yd];exact⟨h1,h2,GnL.mem.2 h3⟩
structure KmI (kd:Int) (g0:Nat) (ac:Array Value) (w W:World) (g4 g:Nat) (v:Value) (ms:List MX):Prop where
 bel:Below w.heap.size w W
 ge:w.heap.size≤g4
 lt:g4<g
 ge0:w.heap.size≤g0
 lt0:g0<g4
 arg:qd W g0 44 ac
 res:qd W g4 44 #[.int .i64 0,.int .i64 0,.int .i64 0,.bool false,.slice none 0 0,.slice none 0 0,.slice none 0 0]
 box:qd W g 44 #[.int .i64 kd,.int .i64 0,.int .i64 0,.bool false,.slice none 0 0,.slice none 0 0,v]
 row:∃rows,W.ownsRow (g+1) 44 7 v ms.length rows.flatten∧yi W (yQ W (g+1) v.ownBlock) ms rows
section
variable {kd:Int} {g0:Nat} {ac:Array Value} {w Ws W W1 W2:World} {g4 g g':Nat} {u v v':Value} {xs ms:List MX} {rows:List (List Value)} {news:List Value}
theorem KmI.start(hb:Below w.heap.size w W)(h4:w.heap.size≤g4)(hg:g4<g)(h00:w.heap.size≤g0)(h04:g0<g4)(hac:qd W g0 44 ac)(hr:qd W g4 44 #[.int .i64 0,.int .i64 0,.int .i64 0,.bool false,.slice none 0 0,.slice none 0 0,.slice none 0 0])
 (hk:qd W g 44 #[.int .i64 kd,.int .i64 0,.int .i64 0,.bool false,.slice none 0 0,.slice none 0 0,.slice none 0 0]):KmI kd g0 ac w W g4 g (.slice none 0 0) []:=
 ⟨hb,h4,hg,h00,h04,hac,hr,hk,[],⟨rfl,.inl ⟨rfl,rfl⟩⟩,by unfold yi;rfl⟩
theorem KmI.old(h:KmI kd g0 ac w W g4 g v ms)(hb:Below W.heap.size W W1):KmI kd g0 ac w W1 g4 g v ms:=by
 obtain⟨rows,h1,h2⟩:=h.row;exact⟨h.bel.trans (hb.mono h.bel.size),h.ge,h.lt,h.ge0,h.lt0,h.arg.old hb,h.res.old hb,h.box.old hb,rows,qQ h1 hb,h2.oldM hb⟩
theorem KmI.ownlt(h:KmI kd g0 ac w W g4 g v ms):∀b,v.ownBlock=some b→b<W.heap.size:=by
 intro b hb;obtain⟨rows,h1,h2⟩:=h.row;rcases h1.2 with⟨e,_⟩|⟨g',cap,cur,e,_,hh,_⟩
 ·rw[e]at hb;simp[Value.ownBlock]at hb
 ·rw[e]at hb;have:g'=b:=by simpa[Value.ownBlock]using hb
  subst this;exact qd.lt (show qd W g' 44 cur from hh)
theorem KmI.push(h:KmI kd g0 ac w W g4 g v ms)(hr:W.ownsRow (g+1) 44 7 v ms.length rows.flatten)(hm:yi W (yQ W (g+1) v.ownBlock) ms rows){a:MX}(h1:Below W.heap.size W W1)(ha:MV W1 (yQ W1 (g+1) v.ownBlock) a news)
 (ho:W2.ownsRow (g+1) 44 7 v' (ms.length+1) (rows.flatten++news))(hg:W1.grownBy W2 v.ownBlock)(hat:v'.ownBlock=v.ownBlock∨v'.ownBlock=some W1.heap.size):KmI kd g0 ac w (W2.setCell ⟨g,6,none⟩ v') g4 g v' (ms++[a]):=by
 have hr1:=qQ hr h1;have hne:some g≠v.ownBlock:=fun e=>by have:=jb hr e.symm;omega
 have hne4:some g4≠v.ownBlock:=fun e=>by have:=jb hr e.symm;have:=h.lt;omega
 have hne0:some g0≠v.ownBlock:=fun e=>by have:=jb hr e.symm;have:=h.lt;have:=h.lt0;omega
 have hbox2:=(h.box.old h1).grown hg hne;have hsz:w.heap.size≤W1.heap.size:=Nat.le_trans h.bel.size h1.size;refine⟨?_,h.ge,h.lt,h.ge0,h.lt0,((h.arg.old h1).grown hg hne0).far (by have:=h.lt;have:=h.lt0;show g0≠g;omega) v',((h.res.old h1).grown hg hne4).far (by have:=h.lt;show g4≠g;omega) v',hbox2.set_ 6 v',?_⟩
 ·have hb2:Below w.heap.size W1 W2:=⟨hg.os,hg.tape,hg.output,hg.size,fun k hk=>hg.block k (by omega) (fun e=>by have:=jb hr e.symm;have:=h.ge;have:=h.lt;omega)⟩;exact((h.bel.trans (h1.mono h.bel.size)).trans hb2).setCell (show w.heap.size≤g by have:=h.ge;have:=h.lt;omega) v'
 ·obtain⟨k1,k2⟩:=yQ.keep (w:=W1) (w':=W2.setCell ⟨g,6,none⟩ v') (base:=g+1) (r:=v.ownBlock) (r':=v'.ownBlock)
   (fun j cs k=>(k.grown hg (qF hr1 k (by decide))).far (jr (k.grown hg (qF hr1 k (by decide))) hbox2 (by decide)) v')
   (fun j cs _ k=>(k.grown hg (qF hr1 k (by decide))).far (jr (k.grown hg (qF hr1 k (by decide))) hbox2 (by decide)) v')
   (fun j cs hj hne k=>⟨(k.grown hg hne).far (show j≠g by omega) v',by
     rcases hat with e|e
     ·rw[e];exact hne
     ·rw[e];intro e;injection e with e;have:=k.lt;omega⟩)
  exact QX (hm.oldM h1) ha k1 k2 (Q6 ho (Nat.lt_succ_self g) v')
theorem KmI.fin(h:KmI kd g0 ac w W g4 g v ms){W':World}(s2:∀j t cs,j≠g4→qd W j t cs→qd W' j t cs):∃L lc,v= .slice L ms.length lc∧MV W' (yQ W' w.heap.size none) (.mk kd 0 qa ms) (q9 (.mk kd 0 qa ms) none 0 none 0 L lc):=by
 obtain⟨rows,h1,h2⟩:=h.row;have hlt:=h.lt;have hge:=h.ge;obtain⟨L,lc,hv⟩:=qJ h1;refine⟨L,lc,hv,?_⟩;subst hv;have hk:∀b,yQ W (g+1) (Value.slice L ms.length lc).ownBlock b→(∀o,W'.cell? ⟨b,o,none⟩=W.cell? ⟨b,o,none⟩)∧yQ W' w.heap.size none b:=fun b hb=>by
  rcases hb with hb|⟨h0,_,cs,hb⟩
  ·rcases hb with⟨cs,hb⟩|⟨h0,cs,hb⟩
   ·have h3:=s2 b _ _ (jr hb h.res (by decide)) hb;exact⟨fun o=>hb.cell_eq h3 o,.inl (.inl ⟨cs,h3⟩)⟩
   ·have h3:=s2 b _ _ (by omega) hb;exact⟨fun o=>hb.cell_eq h3 o,.inl (.inr ⟨by omega,cs,h3⟩)⟩
  ·have h3:=s2 b _ _ (by omega) hb;exact⟨fun o=>hb.cell_eq h3 o,.inr ⟨by omega,by simp,cs,h3⟩⟩
 have hm:=yi.mono (fun b hb=>(hk b hb).2) _ _ (yi.keep (fun b hb o=>(hk b hb).1 o) _ _ h2);unfold MV;by_cases h0:ms.length=0
 ·exact⟨none,0,none,0,L,lc,rfl,RT.zero,by omega,rows,⟨h1.1,fun hp=>by omega⟩,hm⟩
 ·obtain⟨g',lc',e,hb,hl⟩:=h1.form (by omega)
  injection e with e1 e2 e3
  subst e1;subst e3;obtain⟨cur,hk,_,hc,hx⟩:=jx h1;have hk':=s2 g' _ _ (by omega) hk;refine⟨none,0,none,0,_,lc,rfl,RT.zero,hc,rows,⟨h1.1,fun _=>⟨g',0,rfl,.inr ⟨by omega,by simp,cur,hk'⟩,fun j x hj=>?_⟩⟩,hm⟩;rw[Nat.zero_add,hk'.cell];exact hx j x hj
end
theorem yQ.re{w:World}{base g k:Nat}{r:Option Nat}(hg:g<base)(hr:∀k',r=some k'→k'<base)(h:yQ w base none k):yQ w (g+1) r k:=by
 rcases h with h|⟨h1,h2,h3⟩
 ·exact .inl (h.mono (by omega))
 ·exact .inr ⟨by omega,by intro e;have:=hr k e.symm;omega,h3⟩
set_option maxHeartbeats 4000000
set_option maxRecDepth 100000
theorem Z8(dg:Nat)(hdg:dg≤500):∀(D:Nat)(t:MX),JY t≤D→Yd (zU dg) t→∀(A:Option Addr)(c:Nat)(K:Option Addr)(kc:Nat)(L:Option Addr)(lc B:Nat)(w:World),B≤w.heap.size→MV w (· <B) t (q9 t A c K kc L lc)→
 Calls Tryz.prog 23 #[ZP t A c K kc L lc] w (J6 (Ji t) w)
 |0,t,hD,_,_,_,_,_,_,_,_,_,_,_=>by cases t;simp only[JY]at hD;omega
 |D+1,t,hD,hgd,A,c,K,kc,L,lc,B,w,hB,h=>by
  have IH:=Lib.hid (Z8 dg hdg D);have HX:=Lib.hid (qK w 44 44 #[.int .i64 t.kd,.int .i64 t.rl,.int .i64 t.p.lv,.bool t.p.ng,.slice A t.p.ds.length c,.slice K t.p.ks.length kc,.slice L t.ks.length lc] #[.int .i64 0,.int .i64 0,.int .i64 0,.bool false,.slice none 0 0,.slice none 0 0,.slice none 0 0]);have HT:=Lib.hid (fun(W:World)(hW:Below w.heap.size w W)=>h.below (hW.mono hB));have HDD:=Lib.hid (fun(u:MX)(hu:u∈t.ks)=>show JY u≤D by have:=QY hu;omega);have HGG:=Lib.hid hgd.parts.2.2;have hkl:=hgd.parts.2.1;have HNM:=Lib.hid (fun(h2:t.kd=2)(W:World)(hW:Below w.heap.size w W)=>zT dg hdg t.p (hgd.parts.1 h2) A c K kc B W (Nat.le_trans hB hW.size) (h.below (hW.mono hB)).node.1);have HLC:=Lib.hid h.node.2;have HEQ:=Lib.hid (qkX t);have HB:=Lib.hid hB;unfold Ya qn at HNM;unfold ZP;clear h hgd hB hD;generalize hnt:Ji t=R at*;clear hnt;generalize hq:t.p=q at*;generalize t.kd=kd at*;generalize t.rl=rl at*;generalize hn:t.ks.length=n at*;have HN:=Lib.hid hn;clear hn hq;obtain⟨hb0,k0,k1,hs⟩:=HX.out;have HW0:=Lib.hid hs;generalize hW:(w.alloc (.cells #[.int .i64 kd,.int .i64 rl,.int .i64 q.lv,.bool q.ng,.slice A q.ds.length c,.slice K q.ks.length kc,.slice L n lc] 44)).alloc (.cells #[.int .i64 0,.int .i64 0,.int .i64 0,.bool false,.slice none 0 0,.slice none 0 0,.slice none 0 0] 44)=W0 at*;clear HX hs;by_cases h1:kd=1
  ·have HR:=Lib.hid (show R= .mk 1 0 qa []by rw[HEQ.out,if_pos h1]);have HFN:=Lib.hid (jZ (w:=w) (M:= .mk 1 0 qa []) (base:=w.heap.size+1+1) (A:=none) (K:=none) (c:=0) (kc:=0) rfl k1 RB.zero (Nat.lt_succ_self _) (Nat.le_succ _) hb0);have a0:=k0.cell 0;have d0:=k1.cell 0;have d1:=k1.cell 1;have d2:=k1.cell 2;have d3:=k1.cell 3;have d4:=k1.cell 4;have d5:=k1.cell 5;have d6:=k1.cell 6;have f0:=k1.frozen 0;have f1:=k1.frozen 1;have f2:=k1.frozen 2;have f3:=k1.frozen 3;have f4:=k1.frozen 4;have f5:=k1.frozen 5;have f6:=k1.frozen 6;have z0:=k1.lt;subst h1;clear k0 k1 HEQ HNM HT hb0 IH HDD HGG;go_enter Tryz.func23,Tryz.ntmps23
   go_wp2_with fail
   refine qg Tryz.results23 rfl rfl HFN.out.1 Tryz.underlying44 rfl Tryz.sizeMat ?_;rw[HR.out];exact HFN.out.2.mv
  by_cases h2:kd=2
  ·have HR:=Lib.hid (show R= .mk 2 (qa2 rl) (qq q) []by rw[HEQ.out,if_neg h1,if_pos h2]);have HNM1:=Lib.hid (HNM.out h2 W0 hb0);have HB0:=Lib.hid hb0;have HK1:=Lib.hid k1;have a0:=k0.cell 0;have a1:=k0.cell 1;have a2:=k0.cell 2;have a3:=k0.cell 3;have a4:=k0.cell 4;have a5:=k0.cell 5;subst h2;clear k0 k1 h1 HEQ HNM HT hb0 IH HDD HGG;by_cases hr:rl<1∨6<rl
   ·have HRR:=Lib.hid (show qa2 rl=3 by unfold qa2;rw[if_pos hr]);have hrr:rl<1∨(1≤rl∧6<rl):=by omega
    rcases hrr with hr1|⟨hr1,hr6⟩
    all_goals
     clear hr;go_enter Tryz.func23,Tryz.ntmps23
     go_wp2_with fail
     refine HNM1.out.mono ?_;rintro e w1 ⟨A2,c2,K2,kc2,rfl,hct,hrb,hb1⟩;have k1:=HK1.out.old hb1;have HFN:=Lib.hid (jZ (w:=w) (M:= .mk 2 3 (qq q) []) rfl k1 hrb (show w.heap.size+1<W0.heap.size from HK1.out.lt) (Nat.le_succ _) (HB0.out.trans (hb1.mono HB0.out.size)));have d0:=k1.cell 0;have d1:=k1.cell 1;have d2:=k1.cell 2;have d3:=k1.cell 3;have d4:=k1.cell 4;have d5:=k1.cell 5;have d6:=k1.cell 6;have f0:=k1.frozen 0;have f1:=k1.frozen 1;have f2:=k1.frozen 2;have f3:=k1.frozen 3;have f4:=k1.frozen 4;have f5:=k1.frozen 5;have f6:=k1.frozen 6;have z0:=k1.lt;clear k1 hrb hb1 HNM1 HB0 HK1;generalize qq q=T at*;go_wp2_with fail
     refine qg Tryz.results23 rfl rfl HFN.out.1 Tryz.underlying44 rfl Tryz.sizeMat ?_;rw[HR.out,HRR.out];exact HFN.out.2.mv
   ·have HRR:=Lib.hid (show qa2 rl=rl by unfold qa2;rw[if_neg hr]);have hr1:¬rl<1:=by omega
    have hr6:¬6<rl:=by omega
    clear hr;go_enter Tryz.func23,Tryz.ntmps23
    go_wp2_with fail
    refine HNM1.out.mono ?_;rintro e w1 ⟨A2,c2,K2,kc2,rfl,hct,hrb,hb1⟩;have k1:=HK1.out.old hb1;have HFN:=Lib.hid (jZ (w:=w) (M:= .mk 2 rl (qq q) []) rfl k1 hrb (show w.heap.size+1<W0.heap.size from HK1.out.lt) (Nat.le_succ _) (HB0.out.trans (hb1.mono HB0.out.size)));have d0:=k1.cell 0;have d1:=k1.cell 1;have d2:=k1.cell 2;have d3:=k1.cell 3;have d4:=k1.cell 4;have d5:=k1.cell 5;have d6:=k1.cell 6;have f0:=k1.frozen 0;have f1:=k1.frozen 1;have f2:=k1.frozen 2;have f3:=k1.frozen 3;have f4:=k1.frozen 4;have f5:=k1.frozen 5;have f6:=k1.frozen 6;have z0:=k1.lt;clear k1 hrb hb1 HNM1 HB0 HK1;generalize qq q=T at*;go_wp2_with fail
    refine qg Tryz.results23 rfl rfl HFN.out.1 Tryz.underlying44 rfl Tryz.sizeMat ?_;rw[HR.out,HRR.out];exact HFN.out.2.mv
  clear HNM;by_cases h34:kd=3∨kd=4
  ·have HR:=Lib.hid (show R= .mk kd 0 qa (t.ks.map Ji)by rw[HEQ.out,if_neg h1,if_neg h2,if_pos h34]);have hal:=hb0.alloc hb0.size (.cells #[.int .i64 kd,.int .i64 0,.int .i64 0,.bool false,.slice none 0 0,.slice none 0 0,.slice none 0 0] 44);have HAI0:=Lib.hid (KmI.start (kd:=kd) (w:=w) (g0:=w.heap.size) (g4:=w.heap.size+1) (g:=W0.heap.size) hal (Nat.le_succ _) k1.lt (Nat.le_refl _) (Nat.lt_succ_self _) (k0.alloc _) (k1.alloc _) (qd.new W0 44 #[.int .i64 kd,.int .i64 0,.int .i64 0,.bool false,.slice none 0 0,.slice none 0 0,.slice none 0 0]));have a0:=k0.cell 0;have a6:=fun o=>(k0.alloc o).cell 6;have e1:(kd==1)=false:=by simpa using h1
   have e2:(kd==2)=false:=by simpa using h2
   clear k0 k1 hal hb0 HEQ h1 h2;have hg9:=HW0.out;rcases h34 with h3|h3
   ·subst h3;clear e1 e2;go_enter Tryz.func23,Tryz.ntmps23
    go_wp2_with fail
    clear a0 a6;generalize W0.alloc (.cells #[.int .i64 3,.int .i64 0,.int .i64 0,.bool false,.slice none 0 0,.slice none 0 0,.slice none 0 0] 44)=W1 at*;rw[hg9]at HAI0;clear hg9;generalize hgg:w.heap.size+2=g at*;have HGG1:=Lib.hid hgg;clear hgg;go_loopg [35] n (fun gn ix wr=>∃(j:Nat)(u:Value),j≤n∧gn=n-j∧ix= .int .i64 j∧KmI 3 w.heap.size #[.int .i64 3,.int .i64 rl,.int .i64 q.lv,.bool q.ng,.slice A q.ds.length c,.slice K q.ks.length kc,.slice L n lc] w wr (w.heap.size+1) g u ((t.ks.take j).map Ji))
    case atStart=>exact⟨0,_,Nat.zero_le _,rfl,rfl,HAI0.out⟩
    case round=>
     clear HAI0;obtain⟨j,u,hj,hgj,rfl,hai⟩:=hrel;have HG:=Lib.hid hgj;have HAI:=Lib.hid hai;have hbw:=hai.bel;have hxl:((t.ks.take j).map Ji).length≤1000:=by rw[List.length_map,List.length_take];omega
     clear hgj;by_cases hlt:j<n
     ·obtain⟨s,hs⟩:∃s,t.ks[j]? =some s:=⟨_,List.getElem?_eq_getElem (by rw[HN.out];exact hlt)⟩;obtain⟨b,o,A3,q3,K3,r3,L3,s3,rfl,hbB,hx,hku⟩:=(HT.out wr hbw).kid (i:=j) (u:=s) hs;have hsm:=List.mem_of_getElem? hs;have hBw:B≤wr.heap.size:=Nat.le_trans HB.out hbw.size;have HAA:=Lib.hid (fun(V:World)(hV:Below wr.heap.size wr V)=>IH.out s (HDD.out s hsm) (HGG.out s hsm) A3 q3 K3 r3 L3 s3 B V (Nat.le_trans hBw hV.size) (hku.below (hV.mono hBw)));have HTK:=Lib.hid (show(t.ks.take (j+1)).map Ji=(t.ks.take j).map Ji++[Ji s]by
       obtain⟨h1,h2⟩:=List.getElem?_eq_some_iff.1 hs;rw[List.take_succ_eq_append_getElem h1,h2,List.map_append];rfl)
      unfold J6 ZP at HAA;have hBl:b<wr.heap.size:=Nat.lt_of_lt_of_le hbB hBw;have x0:=hx 0 _ rfl;have x1:=hx 1 _ rfl;have x2:=hx 2 _ rfl;have x3:=hx 3 _ rfl;have x4:=hx 4 _ rfl;have x5:=hx 5 _ rfl;have x6:=hx 6 _ rfl;simp only[Nat.add_zero,←Nat.add_assoc]at x0 x1 x2 x3 x4 x5 x6;have i3:(0:Int)≤(j:Int):=by omega
      have i4:(j:Int)<(n:Int):=by omega
      have i5:(n:Int)≤(lc:Int):=by have:=HLC.out;omega
      clear hs hsm hBw hku hai hx;generalize Ji s=M at*;generalize s.p.ds.length=td at*;generalize s.p.ks.length=tk at*;generalize s.p.ng=tg at*;generalize s.p.lv=tl at*;generalize s.kd=tkd at*;generalize s.rl=trl at*;generalize s.ks.length=tn at*;go_upto_region 15 with(fail)
      obtain⟨i0,hi0,hz0,hz1,hz2⟩:=qZ Tryz.infoMat;generalize (t.ks.take j).map Ji=ys at*;have h63:ys.length+1≤maxLen:=by unfold maxLen;omega
      have hby:(ys.length+1)*104≤140737488355328:=by omega
      have hac:=HAI.out;obtain⟨rows,hro,hms⟩:=hac.row;have gb5:=hac.box;have ga5:=hac.arg;have lg5:=gb5.lt;have la5:=ga5.lt;have g6:wr.cell? ⟨g,6,none⟩=some u:=gb5.cell 6;have b6:wr.cell? ⟨w.heap.size,6,none⟩=some (.slice (some ⟨b,o,none⟩) n lc):=ga5.cell 6;have hvd:Below wr.heap.size wr wr.drew:=(qm.drew _).below _;have Q4:g<g+1:=Nat.lt_succ_self g;have HPU:=Lib.hid (fun(w3:World)(A5:Option Addr)(c5:Nat)(K5:Option Addr)(kc5:Nat)(L5:Option Addr)(lc5:Nat)(hr5:MV w3 (yQ w3 wr.drew.heap.size none) M (q9 M A5 c5 K5 kc5 L5 lc5))(h5:Below wr.drew.heap.size wr.drew w3)(w4:World)(u':Value)
       (ho:w4.ownsRow (g+1) 44 7 u' (ys.length+1) (rows.flatten++[.int .i64 M.kd,.int .i64 M.rl,.int .i64 M.p.lv,.bool M.p.ng,.slice A5 M.p.ds.length c5,.slice K5 M.p.ks.length kc5,.slice L5 M.ks.length lc5]))(hg:(w3.alloc (.cells #[.int .i64 M.kd,.int .i64 M.rl,.int .i64 M.p.lv,.bool M.p.ng,.slice A5 M.p.ds.length c5,.slice K5 M.p.ks.length kc5,.slice L5 M.ks.length lc5] 44)).grownBy w4 u.ownBlock)(hat:u'.ownBlock=u.ownBlock∨u'.ownBlock=some (w3.alloc (.cells #[.int .i64 M.kd,.int .i64 M.rl,.int .i64 M.p.lv,.bool M.p.ng,.slice A5 M.p.ds.length c5,.slice K5 M.p.ks.length kc5,.slice L5 M.ks.length lc5] 44)).heap.size)=>
       show KmI 3 w.heap.size #[.int .i64 3,.int .i64 rl,.int .i64 q.lv,.bool q.ng,.slice A q.ds.length c,.slice K q.ks.length kc,.slice (some ⟨b,o,none⟩) n lc] w (w4.setCell ⟨g,6,none⟩ u') (w.heap.size+1) g u' ((t.ks.take (j+1)).map Ji)from by
        have h5':Below wr.heap.size wr w3:=hvd.trans h5;have hal:=(Below.refl w3.heap.size w3).alloc (Nat.le_refl _) (.cells #[.int .i64 M.kd,.int .i64 M.rl,.int .i64 M.p.lv,.bool M.p.ng,.slice A5 M.p.ds.length c5,.slice K5 M.p.ks.length kc5,.slice L5 M.ks.length lc5] 44);have hmv:=MV.oldM hr5 hal;rw[HTK.out];exact hac.push hro hms (h5'.trans (hal.mono h5'.size)) (MV.mono (fun k hk=>yQ.re (Nat.lt_of_lt_of_le gb5.lt (Nat.le_refl _)) (fun k' e=>hac.ownlt k' e) hk) _ _ hmv) ho hg hat)
      have l5:=fun(w3:World)(h5:Below wr.drew.heap.size wr.drew w3)=>(And.intro (h5.cell (p:=⟨g,6,none⟩) lg5) (h5.cell (p:=⟨w.heap.size,6,none⟩) la5));clear hac;go_region_law (first
       |(refine jO _ rfl (.tmp 39) (.tmp 46) 42 (by rfl) (g+1) 44 i0 _ 7 104 Tryz.underlying42 hi0 hz0 hz1 hz2 rfl (by decide) u ys.length rows.flatten (by rfl) roX (w3.heap.size+1) (some ⟨w3.heap.size,0,none⟩) 1 1 [.int .i64 M.kd,.int .i64 M.rl,.int .i64 M.p.lv,.bool M.p.ng,.slice A5 M.p.ds.length c5,.slice K5 M.p.ks.length kc5,.slice L5 M.ks.length lc5] (by rfl) hrd hone h63 hby hbX ?_
         intro v' w4 hown4 hg4 hat4;obtain⟨L',lc',rfl⟩:=qJ hown4;have gb4:=gbX.grown hg4 (fun e=>absurd (jb roX e.symm) (Nat.not_le_of_lt Q4));have y1:w4.cell? ⟨g,6,none⟩=some u:=gb4.cell 6;have y2:=gb4.frozen 6;have y3:=gb4.lt)
       |(go_simp
         go_at_call 23
         refine(HAA.out _ hvd).mono ?_;rintro e w3 ⟨A5,c5,K5,kc5,L5,lc5,rfl,hr5,h5⟩;have z1:=(h5.cell (p:=⟨g,6,none⟩) lg5).trans g6;have z2:=(h5.cell (p:=⟨w.heap.size,6,none⟩) la5).trans b6;have z3:=(h5.cell (p:=⟨b,o+j*7,none⟩) hBl).trans x0;have z4:=(h5.cell (p:=⟨b,o+j*7+1,none⟩) hBl).trans x1;have z5:=(h5.cell (p:=⟨b,o+j*7+2,none⟩) hBl).trans x2;have z7:=(h5.cell (p:=⟨b,o+j*7+3,none⟩) hBl).trans x3;have z8:=(h5.cell (p:=⟨b,o+j*7+4,none⟩) hBl).trans x4;have z9:=(h5.cell (p:=⟨b,o+j*7+5,none⟩) hBl).trans x5;have z10:=(h5.cell (p:=⟨b,o+j*7+6,none⟩) hBl).trans x6;have hrd:qi (w3.alloc (.cells #[.int .i64 M.kd,.int .i64 M.rl,.int .i64 M.p.lv,.bool M.p.ng,.slice A5 M.p.ds.length c5,.slice K5 M.p.ks.length kc5,.slice L5 M.ks.length lc5] 44)) (w3.heap.size+1) 7 (some ⟨w3.heap.size,0,none⟩) 1 [.int .i64 M.kd,.int .i64 M.rl,.int .i64 M.p.lv,.bool M.p.ng,.slice A5 M.p.ds.length c5,.slice K5 M.p.ks.length kc5,.slice L5 M.ks.length lc5]:=qi.seven_newJ w3 [.int .i64 M.kd,.int .i64 M.rl,.int .i64 M.p.lv,.bool M.p.ng,.slice A5 M.p.ds.length c5,.slice K5 M.p.ks.length kc5,.slice L5 M.ks.length lc5] rfl 44;have hone:∀u∈([.int .i64 M.kd,.int .i64 M.rl,.int .i64 M.p.lv,.bool M.p.ng,.slice A5 M.p.ds.length c5,.slice K5 M.p.ks.length kc5,.slice L5 M.ks.length lc5]:List Value),u.oneCell'=true:=hr5.one;have gbX:qd (w3.alloc (.cells #[.int .i64 M.kd,.int .i64 M.rl,.int .i64 M.p.lv,.bool M.p.ng,.slice A5 M.p.ds.length c5,.slice K5 M.p.ks.length kc5,.slice L5 M.ks.length lc5] 44)) g 44 #[.int .i64 3,.int .i64 0,.int .i64 0,.bool false,.slice none 0 0,.slice none 0 0,u]:=(qd.old (w:=wr.drew) gb5 h5).alloc _;have roX:(w3.alloc (.cells #[.int .i64 M.kd,.int .i64 M.rl,.int .i64 M.p.lv,.bool M.p.ng,.slice A5 M.p.ds.length c5,.slice K5 M.p.ks.length kc5,.slice L5 M.ks.length lc5] 44)).ownsRow (g+1) 44 7 u ys.length rows.flatten:=qQ (w:=wr.drew) hro (h5.alloc h5.size _);have hbX:g+1≤(w3.alloc (.cells #[.int .i64 M.kd,.int .i64 M.rl,.int .i64 M.p.lv,.bool M.p.ng,.slice A5 M.p.ds.length c5,.slice K5 M.p.ks.length kc5,.slice L5 M.ks.length lc5] 44)).heap.size:=Nat.le_trans lg5 (h5.alloc h5.size _).size;have z6:=gbX.cell 6))
      all_goals
       have HN1:=Lib.hid (HPU.out w3 A5 c5 K5 kc5 L5 lc5 hr5 h5 w4 (.slice L' (ys.length+1) lc') hown4 hg4 hat4);go_wp2_with fail
       go_roundg (n-(j+1))
       case rel=>exact⟨j+1,_,by omega,rfl,by go_num,HN1.out⟩
       case measure=>have:=HG.out;omega
     ·obtain rfl:j=n:=by omega
      rw[List.take_of_length_le (by rw[HN.out];exact Nat.le_refl _)]at hai;generalize hz:t.ks.map Ji=zs at*;clear hz;have k1:=hai.res;obtain⟨s1,s2,s3⟩:=JX k1 (.int .i64 3) (.int .i64 0) (.int .i64 0) (.bool false) (.slice none 0 0) (.slice none 0 0) u;obtain⟨L9,lc9,rfl,hmv⟩:=hai.fin (fun j t cs hj k=>s2 j t cs hj k);have HFN:=Lib.hid (And.intro s1 (And.intro hmv (hai.bel.trans (s3 w.heap.size (Nat.le_succ _)))));have g0:=hai.box.cell 0;have g1:=hai.box.cell 1;have g2:=hai.box.cell 2;have g3:=hai.box.cell 3;have g4:=hai.box.cell 4;have g5:=hai.box.cell 5;have g6:=hai.box.cell 6;have d0:=k1.cell 0;have d1:=k1.cell 1;have d2:=k1.cell 2;have d3:=k1.cell 3;have d4:=k1.cell 4;have d5:=k1.cell 5;have d6:=k1.cell 6;have f0:=k1.frozen 0;have f1:=k1.frozen 1;have f2:=k1.frozen 2;have f3:=k1.frozen 3;have f4:=k1.frozen 4;have f5:=k1.frozen 5;have f6:=k1.frozen 6;have z0:=k1.lt;clear hai hbw hmv k1 hlt s1 s2 s3 IH HT HDD HGG;go_wp2_with fail
      refine qg Tryz.results23 rfl rfl HFN.out.1 Tryz.underlying44 rfl Tryz.sizeMat ?_;rw[HR.out];exact⟨none,0,none,0,L9,lc9,rfl,HFN.out.2⟩
   ·subst h3;clear e1 e2;go_enter Tryz.func23,Tryz.ntmps23
    go_wp2_with fail
    clear a0 a6;generalize W0.alloc (.cells #[.int .i64 4,.int .i64 0,.int .i64 0,.bool false,.slice none 0 0,.slice none 0 0,.slice none 0 0] 44)=W1 at*;rw[hg9]at HAI0;clear hg9;generalize hgg:w.heap.size+2=g at*;have HGG1:=Lib.hid hgg;clear hgg;go_loopg [35] n (fun gn ix wr=>∃(j:Nat)(u:Value),j≤n∧gn=n-j∧ix= .int .i64 j∧KmI 4 w.heap.size #[.int .i64 4,.int .i64 rl,.int .i64 q.lv,.bool q.ng,.slice A q.ds.length c,.slice K q.ks.length kc,.slice L n lc] w wr (w.heap.size+1) g u ((t.ks.take j).map Ji))
    case atStart=>exact⟨0,_,Nat.zero_le _,rfl,rfl,HAI0.out⟩
    case round=>
     clear HAI0;obtain⟨j,u,hj,hgj,rfl,hai⟩:=hrel;have HG:=Lib.hid hgj;have HAI:=Lib.hid hai;have hbw:=hai.bel;have hxl:((t.ks.take j).map Ji).length≤1000:=by rw[List.length_map,List.length_take];omega
     clear hgj;by_cases hlt:j<n
     ·obtain⟨s,hs⟩:∃s,t.ks[j]? =some s:=⟨_,List.getElem?_eq_getElem (by rw[HN.out];exact hlt)⟩;obtain⟨b,o,A3,q3,K3,r3,L3,s3,rfl,hbB,hx,hku⟩:=(HT.out wr hbw).kid (i:=j) (u:=s) hs;have hsm:=List.mem_of_getElem? hs;have hBw:B≤wr.heap.size:=Nat.le_trans HB.out hbw.size;have HAA:=Lib.hid (fun(V:World)(hV:Below wr.heap.size wr V)=>IH.out s (HDD.out s hsm) (HGG.out s hsm) A3 q3 K3 r3 L3 s3 B V (Nat.le_trans hBw hV.size) (hku.below (hV.mono hBw)));have HTK:=Lib.hid (show(t.ks.take (j+1)).map Ji=(t.ks.take j).map Ji++[Ji s]by
       obtain⟨h1,h2⟩:=List.getElem?_eq_some_iff.1 hs;rw[List.take_succ_eq_append_getElem h1,h2,List.map_append];rfl)
      unfold J6 ZP at HAA;have hBl:b<wr.heap.size:=Nat.lt_of_lt_of_le hbB hBw;have x0:=hx 0 _ rfl;have x1:=hx 1 _ rfl;have x2:=hx 2 _ rfl;have x3:=hx 3 _ rfl;have x4:=hx 4 _ rfl;have x5:=hx 5 _ rfl;have x6:=hx 6 _ rfl;simp only[Nat.add_zero,←Nat.add_assoc]at x0 x1 x2 x3 x4 x5 x6;have i3:(0:Int)≤(j:Int):=by omega
      have i4:(j:Int)<(n:Int):=by omega
      have i5:(n:Int)≤(lc:Int):=by have:=HLC.out;omega
      clear hs hsm hBw hku hai hx;generalize Ji s=M at*;generalize s.p.ds.length=td at*;generalize s.p.ks.length=tk at*;generalize s.p.ng=tg at*;generalize s.p.lv=tl at*;generalize s.kd=tkd at*;generalize s.rl=trl at*;generalize s.ks.length=tn at*;go_upto_region 15 with(fail)
      obtain⟨i0,hi0,hz0,hz1,hz2⟩:=qZ Tryz.infoMat;generalize (t.ks.take j).map Ji=ys at*;have h63:ys.length+1≤maxLen:=by unfold maxLen;omega
      have hby:(ys.length+1)*104≤140737488355328:=by omega
      have hac:=HAI.out;obtain⟨rows,hro,hms⟩:=hac.row;have gb5:=hac.box;have ga5:=hac.arg;have lg5:=gb5.lt;have la5:=ga5.lt;have g6:wr.cell? ⟨g,6,none⟩=some u:=gb5.cell 6;have b6:wr.cell? ⟨w.heap.size,6,none⟩=some (.slice (some ⟨b,o,none⟩) n lc):=ga5.cell 6;have hvd:Below wr.heap.size wr wr.drew:=(qm.drew _).below _;have Q4:g<g+1:=Nat.lt_succ_self g;have HPU:=Lib.hid (fun(w3:World)(A5:Option Addr)(c5:Nat)(K5:Option Addr)(kc5:Nat)(L5:Option Addr)(lc5:Nat)(hr5:MV w3 (yQ w3 wr.drew.heap.size none) M (q9 M A5 c5 K5 kc5 L5 lc5))(h5:Below wr.drew.heap.size wr.drew w3)(w4:World)(u':Value)
       (ho:w4.ownsRow (g+1) 44 7 u' (ys.length+1) (rows.flatten++[.int .i64 M.kd,.int .i64 M.rl,.int .i64 M.p.lv,.bool M.p.ng,.slice A5 M.p.ds.length c5,.slice K5 M.p.ks.length kc5,.slice L5 M.ks.length lc5]))(hg:(w3.alloc (.cells #[.int .i64 M.kd,.int .i64 M.rl,.int .i64 M.p.lv,.bool M.p.ng,.slice A5 M.p.ds.length c5,.slice K5 M.p.ks.length kc5,.slice L5 M.ks.length lc5] 44)).grownBy w4 u.ownBlock)(hat:u'.ownBlock=u.ownBlock∨u'.ownBlock=some (w3.alloc (.cells #[.int .i64 M.kd,.int .i64 M.rl,.int .i64 M.p.lv,.bool M.p.ng,.slice A5 M.p.ds.length c5,.slice K5 M.p.ks.length kc5,.slice L5 M.ks.length lc5] 44)).heap.size)=>
       show KmI 4 w.heap.size #[.int .i64 4,.int .i64 rl,.int .i64 q.lv,.bool q.ng,.slice A q.ds.length c,.slice K q.ks.length kc,.slice (some ⟨b,o,none⟩) n lc] w (w4.setCell ⟨g,6,none⟩ u') (w.heap.size+1) g u' ((t.ks.take (j+1)).map Ji)from by
        have h5':Below wr.heap.size wr w3:=hvd.trans h5;have hal:=(Below.refl w3.heap.size w3).alloc (Nat.le_refl _) (.cells #[.int .i64 M.kd,.int .i64 M.rl,.int .i64 M.p.lv,.bool M.p.ng,.slice A5 M.p.ds.length c5,.slice K5 M.p.ks.length kc5,.slice L5 M.ks.length lc5] 44);have hmv:=MV.oldM hr5 hal;rw[HTK.out];exact hac.push hro hms (h5'.trans (hal.mono h5'.size)) (MV.mono (fun k hk=>yQ.re (Nat.lt_of_lt_of_le gb5.lt (Nat.le_refl _)) (fun k' e=>hac.ownlt k' e) hk) _ _ hmv) ho hg hat)
      have l5:=fun(w3:World)(h5:Below wr.drew.heap.size wr.drew w3)=>(And.intro (h5.cell (p:=⟨g,6,none⟩) lg5) (h5.cell (p:=⟨w.heap.size,6,none⟩) la5));clear hac;go_region_law (first
       |(refine jO _ rfl (.tmp 39) (.tmp 46) 42 (by rfl) (g+1) 44 i0 _ 7 104 Tryz.underlying42 hi0 hz0 hz1 hz2 rfl (by decide) u ys.length rows.flatten (by rfl) roX (w3.heap.size+1) (some ⟨w3.heap.size,0,none⟩) 1 1 [.int .i64 M.kd,.int .i64 M.rl,.int .i64 M.p.lv,.bool M.p.ng,.slice A5 M.p.ds.length c5,.slice K5 M.p.ks.length kc5,.slice L5 M.ks.length lc5] (by rfl) hrd hone h63 hby hbX ?_
         intro v' w4 hown4 hg4 hat4;obtain⟨L',lc',rfl⟩:=qJ hown4;have gb4:=gbX.grown hg4 (fun e=>absurd (jb roX e.symm) (Nat.not_le_of_lt Q4));have y1:w4.cell? ⟨g,6,none⟩=some u:=gb4.cell 6;have y2:=gb4.frozen 6;have y3:=gb4.lt)
       |(go_simp
         go_at_call 23
         refine(HAA.out _ hvd).mono ?_;rintro e w3 ⟨A5,c5,K5,kc5,L5,lc5,rfl,hr5,h5⟩;have z1:=(h5.cell (p:=⟨g,6,none⟩) lg5).trans g6;have z2:=(h5.cell (p:=⟨w.heap.size,6,none⟩) la5).trans b6;have z3:=(h5.cell (p:=⟨b,o+j*7,none⟩) hBl).trans x0;have z4:=(h5.cell (p:=⟨b,o+j*7+1,none⟩) hBl).trans x1;have z5:=(h5.cell (p:=⟨b,o+j*7+2,none⟩) hBl).trans x2;have z7:=(h5.cell (p:=⟨b,o+j*7+3,none⟩) hBl).trans x3;have z8:=(h5.cell (p:=⟨b,o+j*7+4,none⟩) hBl).trans x4;have z9:=(h5.cell (p:=⟨b,o+j*7+5,none⟩) hBl).trans x5;have z10:=(h5.cell (p:=⟨b,o+j*7+6,none⟩) hBl).trans x6;have hrd:qi (w3.alloc (.cells #[.int .i64 M.kd,.int .i64 M.rl,.int .i64 M.p.lv,.bool M.p.ng,.slice A5 M.p.ds.length c5,.slice K5 M.p.ks.length kc5,.slice L5 M.ks.length lc5] 44)) (w3.heap.size+1) 7 (some ⟨w3.heap.size,0,none⟩) 1 [.int .i64 M.kd,.int .i64 M.rl,.int .i64 M.p.lv,.bool M.p.ng,.slice A5 M.p.ds.length c5,.slice K5 M.p.ks.length kc5,.slice L5 M.ks.length lc5]:=qi.seven_newJ w3 [.int .i64 M.kd,.int .i64 M.rl,.int .i64 M.p.lv,.bool M.p.ng,.slice A5 M.p.ds.length c5,.slice K5 M.p.ks.length kc5,.slice L5 M.ks.length lc5] rfl 44;have hone:∀u∈([.int .i64 M.kd,.int .i64 M.rl,.int .i64 M.p.lv,.bool M.p.ng,.slice A5 M.p.ds.length c5,.slice K5 M.p.ks.length kc5,.slice L5 M.ks.length lc5]:List Value),u.oneCell'=true:=hr5.one;have gbX:qd (w3.alloc (.cells #[.int .i64 M.kd,.int .i64 M.rl,.int .i64 M.p.lv,.bool M.p.ng,.slice A5 M.p.ds.length c5,.slice K5 M.p.ks.length kc5,.slice L5 M.ks.length lc5] 44)) g 44 #[.int .i64 4,.int .i64 0,.int .i64 0,.bool false,.slice none 0 0,.slice none 0 0,u]:=(qd.old (w:=wr.drew) gb5 h5).alloc _;have roX:(w3.alloc (.cells #[.int .i64 M.kd,.int .i64 M.rl,.int .i64 M.p.lv,.bool M.p.ng,.slice A5 M.p.ds.length c5,.slice K5 M.p.ks.length kc5,.slice L5 M.ks.length lc5] 44)).ownsRow (g+1) 44 7 u ys.length rows.flatten:=qQ (w:=wr.drew) hro (h5.alloc h5.size _);have hbX:g+1≤(w3.alloc (.cells #[.int .i64 M.kd,.int .i64 M.rl,.int .i64 M.p.lv,.bool M.p.ng,.slice A5 M.p.ds.length c5,.slice K5 M.p.ks.length kc5,.slice L5 M.ks.length lc5] 44)).heap.size:=Nat.le_trans lg5 (h5.alloc h5.size _).size;have z6:=gbX.cell 6))
      all_goals
       have HN1:=Lib.hid (HPU.out w3 A5 c5 K5 kc5 L5 lc5 hr5 h5 w4 (.slice L' (ys.length+1) lc') hown4 hg4 hat4);go_wp2_with fail
       go_roundg (n-(j+1))
       case rel=>exact⟨j+1,_,by omega,rfl,by go_num,HN1.out⟩
       case measure=>have:=HG.out;omega
     ·obtain rfl:j=n:=by omega
      rw[List.take_of_length_le (by rw[HN.out];exact Nat.le_refl _)]at hai;generalize hz:t.ks.map Ji=zs at*;clear hz;have k1:=hai.res;obtain⟨s1,s2,s3⟩:=JX k1 (.int .i64 4) (.int .i64 0) (.int .i64 0) (.bool false) (.slice none 0 0) (.slice none 0 0) u;obtain⟨L9,lc9,rfl,hmv⟩:=hai.fin (fun j t cs hj k=>s2 j t cs hj k);have HFN:=Lib.hid (And.intro s1 (And.intro hmv (hai.bel.trans (s3 w.heap.size (Nat.le_succ _)))));have g0:=hai.box.cell 0;have g1:=hai.box.cell 1;have g2:=hai.box.cell 2;have g3:=hai.box.cell 3;have g4:=hai.box.cell 4;have g5:=hai.box.cell 5;have g6:=hai.box.cell 6;have d0:=k1.cell 0;have d1:=k1.cell 1;have d2:=k1.cell 2;have d3:=k1.cell 3;have d4:=k1.cell 4;have d5:=k1.cell 5;have d6:=k1.cell 6;have f0:=k1.frozen 0;have f1:=k1.frozen 1;have f2:=k1.frozen 2;have f3:=k1.frozen 3;have f4:=k1.frozen 4;have f5:=k1.frozen 5;have f6:=k1.frozen 6;have z0:=k1.lt;clear hai hbw hmv k1 hlt s1 s2 s3 IH HT HDD HGG;go_wp2_with fail
      refine qg Tryz.results23 rfl rfl HFN.out.1 Tryz.underlying44 rfl Tryz.sizeMat ?_;rw[HR.out];exact⟨none,0,none,0,L9,lc9,rfl,HFN.out.2⟩
  ·have HR:=Lib.hid (show R=qag by rw[HEQ.out,if_neg h1,if_neg h2,if_neg h34]);have HFN:=Lib.hid (jZ (w:=w) (M:=qag) (base:=w.heap.size+1+1) (A:=none) (K:=none) (c:=0) (kc:=0) rfl k1 RB.zero (Nat.lt_succ_self _) (Nat.le_succ _) hb0);have a0:=k0.cell 0;have e1:(kd==1)=false:=by simpa using h1
   have e2:(kd==2)=false:=by simpa using h2
   have e3:(kd==3)=false:=by simp;intro e;exact h34 (.inl e)
   have e4:(kd==4)=false:=by simp;intro e;exact h34 (.inr e)
   have d0:=k1.cell 0;have d1:=k1.cell 1;have d2:=k1.cell 2;have d3:=k1.cell 3;have d4:=k1.cell 4;have d5:=k1.cell 5;have d6:=k1.cell 6;have f0:=k1.frozen 0;have f1:=k1.frozen 1;have f2:=k1.frozen 2;have f3:=k1.frozen 3;have f4:=k1.frozen 4;have f5:=k1.frozen 5;have f6:=k1.frozen 6;have z0:=k1.lt;clear k0 k1 HEQ HT hb0 IH HDD HGG h1 h2 h34;go_enter Tryz.func23,Tryz.ntmps23
   go_wp2_with fail
   refine qg Tryz.results23 rfl rfl HFN.out.1 Tryz.underlying44 rfl Tryz.sizeMat ?_;rw[HR.out];exact HFN.out.2.mv
mutual
def Zz:MX→List RP
 | .mk k _ p ks=>if k=2 then[p]else QG ks
def QG:List MX→List RP
 |[]=>[]
 |t::ts=>Zz t++QG ts
end
theorem qef(t:MX):Zz t=if t.kd=2 then[t.p]else QG t.ks:=by
 cases t
 simp only[Zz];rfl
theorem JG:∀(a b:List MX),QG (a++b)=QG a++QG b
 |[],b=>rfl
 |t::ts,b=>by
  rw[List.cons_append,QG,QG,JG ts b,List.append_assoc]
theorem qir{ts:List MX}{j:Nat}{u:MX}(h:ts[j]? =some u):QG (ts.take (j+1))=QG (ts.take j)++Zz u:=by
 obtain⟨h1,h2⟩:=List.getElem?_eq_some_iff.1 h;rw[List.take_succ_eq_append_getElem h1,h2,JG];simp[QG]
theorem qlK(ts:List MX)(j:Nat):(QG (ts.take j)).length≤(QG ts).length:=by
 have:=congrArg (fun l=>(QG l).length) (List.take_append_drop j ts);simp only[JG,List.length_append]at this;omega
theorem qlB{ts:List MX}{u:MX}(h:u∈ts):(Zz u).length≤(QG ts).length:=by
 obtain⟨a,b,rfl⟩:=List.append_of_mem h;rw[JG,QG,List.length_append,List.length_append];omega
def qfh(ps:List RP)(B:Nat)(w:World)(e:Ending)(w':World):Prop:=
 ∃A c rows,e= .returned (.slice A ps.length c)∧ps.length≤c∧qi w' w'.heap.size 4 A ps.length rows.flatten∧qH w' (· <B) ps rows∧Below w.heap.size w w'
theorem qH.join{w:World}{S:Nat→Prop}:∀{ts us:List RP} {rows rows':List (List Value)},qH w S ts rows→qH w S us rows'→qH w S (ts++us) (rows++rows')
 |[],us,rows,rows',h,h'=>by
  unfold qH at h;subst h;exact h'
 |t::ts,us,rows,rows',h,h'=>by
  unfold qH at h;obtain⟨vs,r,rfl,h1,h2⟩:=h;rw[List.cons_append,List.cons_append];unfold qH;exact⟨vs,_,rfl,h1,qH.join h2 h'⟩
structure PlI (B base:Nat) (w W:World) (ac:Array Value) (v:Value) (ps:List RP):Prop where
 bel:Below w.heap.size w W
 le:B≤w.heap.size
 lt:w.heap.size<base
 arg:qd W w.heap.size 44 ac
 row:∃rows,W.ownsRow base 28 4 v ps.length rows.flatten∧qH W (· <B) ps rows
theorem PlI.push{B base:Nat}{w W W1 W2:World}{ac:Array Value}{v v':Value}{ps qs:List RP}{rows rows':List (List Value)}(h:PlI B base w W ac v ps)(hr:W.ownsRow base 28 4 v ps.length rows.flatten)(hm:qH W (· <B) ps rows)(h1:Below W.heap.size W W1)(hq:qH W1 (· <B) qs rows')
 (ho:W2.ownsRow base 28 4 v' (ps.length+qs.length) (rows.flatten++rows'.flatten))(hg:W1.grownBy W2 v.ownBlock):PlI B base w W2 ac v' (ps++qs):=by
 have hge:∀b,v.ownBlock=some b→base≤b:=fun b e=>jb hr e;have hlt:=h.lt;have hle:=h.le;have hkp:Below B W1 W2:=⟨hg.os,hg.tape,hg.output,hg.size,fun k hk=>hg.block k (by have:=h.bel.size;have:=h1.size;omega) (fun e=>by have:=hge k e.symm;omega)⟩;refine⟨(h.bel.trans (h1.mono h.bel.size)).trans ⟨hg.os,hg.tape,hg.output,hg.size,fun k hk=>hg.block k (by have:=h.bel.size;have:=h1.size;omega) (fun e=>by have:=hge k e.symm;omega)⟩,hle,hlt,(h.arg.old h1).grown hg (fun e=>by have:=hge _ e.symm;omega),rows++rows',?_,?_⟩
 ·rw[List.flatten_append,List.length_append];exact ho
 ·have k1:=qH.keep (fun b hS o=>h1.cell (p:=⟨b,o,none⟩) (show b<W.heap.size by have:=h.bel.size;have hS':b<B:=hS;omega)) _ _ hm;exact qH.keep (fun b hS o=>hkp.cell (p:=⟨b,o,none⟩) hS) _ _ (qH.join k1 hq)
theorem PlI.fin{B base:Nat}{w W:World}{ac:Array Value}{v:Value}{ps:List RP}(h:PlI B base w W ac v ps):qfh ps B w (.returned v) W:=by
 obtain⟨rows,h1,h2⟩:=h.row;by_cases h0:ps.length=0
 ·obtain⟨A,c,rfl⟩:=qJ h1;exact⟨A,c,rows,rfl,by omega,⟨h1.1,fun hp=>absurd hp (by omega)⟩,h2,h.bel⟩
 ·obtain⟨g',lc,rfl,hb,hlt⟩:=h1.form (by omega);obtain⟨cur,hk,_,hc,hx⟩:=jx h1;exact⟨_,lc,rows,rfl,hc,⟨h1.1,fun _=>⟨g',0,rfl,hk.lt,fun j x hj=>by rw[Nat.zero_add,hk.cell];exact hx j x hj⟩⟩,h2,h.bel⟩
theorem qi.four_newJ(w:World)(cs:List Value)(h:cs.length=4)(t:TypeId):qi (w.alloc (.cells cs.toArray t)) (w.heap.size+1) 4 (some ⟨w.heap.size,0,none⟩) 1 cs:=by
 refine⟨by omega,fun _=>⟨_,_,rfl,by omega,fun j x hj=>?_⟩⟩;have:=(qd.new w t cs.toArray).cell j;rw[Nat.zero_add,this];simpa using hj
theorem qi.four_two(w:World)(o:Obj)(cs:List Value)(h:cs.length=4)(t:TypeId):qi ((w.alloc o).alloc (.cells cs.toArray t)) ((w.alloc o).alloc (.cells cs.toArray t)).heap.size 4 (some ⟨w.heap.size+1,0,none⟩) 1 cs:=by
 have h1:=qi.four_newJ (w.alloc o) cs h t;have e:(w.alloc o).heap.size=w.heap.size+1:=by simp
 rw[e]at h1;refine h1.more ?_;have e2:((w.alloc o).alloc (.cells cs.toArray t)).heap.size=(w.alloc o).heap.size+1:=by simp
 omega
theorem qbz(G:RP→Prop):∀(D:Nat)(t:MX),JY t≤D→Yd G t→(Zz t).length≤100000→∀(A:Option Addr)(c:Nat)(K:Option Addr)(kc:Nat)(L:Option Addr)(lc B:Nat)(w:World),B≤w.heap.size→MV w (· <B) t (q9 t A c K kc L lc)→
 Calls Tryz.prog 49 #[ZP t A c K kc L lc] w (qfh (Zz t) B w)
 |0,t,hD,_,_,_,_,_,_,_,_,_,_,_,_=>by cases t;simp only[JY]at hD;omega
 |D+1,t,hD,hgd,hpl,A,c,K,kc,L,lc,B,w,hB,h=>by
  have IH:=Lib.hid (qbz G D);have HGG:=Lib.hid hgd.parts.2.2;have hkl:=hgd.parts.2.1;have hb0:=(Below.refl w.heap.size w).alloc (Nat.le_refl _) (.cells #[.int .i64 t.kd,.int .i64 t.rl,.int .i64 t.p.lv,.bool t.p.ng,.slice A t.p.ds.length c,.slice K t.p.ks.length kc,.slice L t.ks.length lc] 44);have hk0:=qd.new w 44 #[.int .i64 t.kd,.int .i64 t.rl,.int .i64 t.p.lv,.bool t.p.ng,.slice A t.p.ds.length c,.slice K t.p.ks.length kc,.slice L t.ks.length lc];have HT:=Lib.hid (fun(W:World)(hW:Below w.heap.size w W)=>h.below (hW.mono hB));have HDD:=Lib.hid (fun(u:MX)(hu:u∈t.ks)=>show JY u≤D by have:=QY hu;omega);have HEQ:=Lib.hid (qef t);have HLC:=Lib.hid h.node.2;have HB:=Lib.hid hB;have HPL:=Lib.hid hpl;have HSZ:=Lib.hid hk0.lt;have HNP:=Lib.hid (fun(W:World)(hW:Below w.heap.size w W)=>(h.below (hW.mono hB)).node.1);unfold ZP;generalize hR:Zz t=R at*;clear h hB hD hpl hR hgd;generalize hq:t.p=q at*;generalize t.kd=kd at*;generalize t.rl=rl at*;generalize hn:t.ks.length=n at*;have HN:=Lib.hid hn;clear hn hq;obtain⟨i0,hi0,hz0,hz1,hz2⟩:=qZ Tryz.infoRec;by_cases h2:kd=2
  ·have HR:=Lib.hid (show R=[q]by rw[HEQ.out,if_pos h2]);have a0:=hk0.cell 0;have a2:=hk0.cell 2;have a3:=hk0.cell 3;have a4:=hk0.cell 4;have a5:=hk0.cell 5;have HB0:=Lib.hid hb0;subst h2;clear hk0 HEQ HT IH HDD hb0;have HRB:=Lib.hid (HNP.out _ (HB0.out.alloc HB0.out.size (.cells #[.int .i64 q.lv,.bool q.ng,.slice A q.ds.length c,.slice K q.ks.length kc] 28)));have HRD:=Lib.hid (qi.four_two w (.cells #[.int .i64 2,.int .i64 rl,.int .i64 q.lv,.bool q.ng,.slice A q.ds.length c,.slice K q.ks.length kc,.slice L n lc] 44) [.int .i64 q.lv,.bool q.ng,.slice A q.ds.length c,.slice K q.ks.length kc] rfl 28);have HBF:=Lib.hid (HB0.out.alloc HB0.out.size (.cells #[.int .i64 q.lv,.bool q.ng,.slice A q.ds.length c,.slice K q.ks.length kc] 28));clear HNP HB0;rw[HR.out];go_enter Tryz.func49,Tryz.ntmps49
   go_wp2_with fail
   go_ret
   exact⟨_,_,[[.int .i64 q.lv,.bool q.ng,.slice A q.ds.length c,.slice K q.ks.length kc]],rfl,Nat.le_refl _,HRD.out,by unfold qH;exact⟨_,[],rfl,HRB.out,by unfold qH;rfl⟩,HBF.out⟩
  ·have HR:=Lib.hid (show R=QG t.ks by rw[HEQ.out,if_neg h2]);have e2:(kd==2)=false:=by simpa using h2
   have HST:=Lib.hid (show PlI B (w.heap.size+1) w _ _ (.slice none 0 0) []from⟨hb0,HB.out,Nat.lt_succ_self _,hk0,[],⟨rfl,.inl ⟨rfl,rfl⟩⟩,by unfold qH;rfl⟩);have a0:=hk0.cell 0;have a6:=hk0.cell 6;clear hb0 hk0 HEQ h2;go_enter Tryz.func49,Tryz.ntmps49
   go_wp2_with fail
   clear a0 a6;generalize w.alloc (.cells #[.int .i64 kd,.int .i64 rl,.int .i64 q.lv,.bool q.ng,.slice A q.ds.length c,.slice K q.ks.length kc,.slice L n lc] 44)=W0 at*;rw[HR.out];go_loopg [3,4,14] n (fun gn v _ ix wr=>∃j:Nat,j≤n∧gn=n-j∧ix= .int .i64 j∧PlI B (w.heap.size+1) w wr #[.int .i64 kd,.int .i64 rl,.int .i64 q.lv,.bool q.ng,.slice A q.ds.length c,.slice K q.ks.length kc,.slice L n lc] v (QG (t.ks.take j)))
   case atStart=>exact⟨0,Nat.zero_le _,rfl,rfl,HST.out⟩
   case round=>
    clear HST;obtain⟨j,hj,hgj,rfl,hai⟩:=hrel;have HG:=Lib.hid hgj;have HAI:=Lib.hid hai;have hbw:=hai.bel;have hxl:(QG (t.ks.take j)).length≤100000:=Nat.le_trans (qlK _ _) (by rw[←HR.out];exact HPL.out);clear hgj;by_cases hlt:j<n
    ·obtain⟨s,hs⟩:∃s,t.ks[j]? =some s:=⟨_,List.getElem?_eq_getElem (by rw[HN.out];exact hlt)⟩;obtain⟨b,o,A3,q3,K3,r3,L3,s3,rfl,hbB,hx,hku⟩:=(HT.out wr hbw).kid (i:=j) (u:=s) hs;have hsm:=List.mem_of_getElem? hs;have hBw:B≤wr.heap.size:=Nat.le_trans HB.out hbw.size;have hpl:(Zz s).length≤100000:=Nat.le_trans (qlB hsm) (by rw[←HR.out];exact HPL.out);have HAA:=Lib.hid (IH.out s (HDD.out s hsm) (HGG.out s hsm) hpl A3 q3 K3 r3 L3 s3 B wr hBw hku);have HTK:=Lib.hid (qir hs);have HPP:=Lib.hid hpl;unfold qfh ZP at HAA;have x0:=hx 0 _ rfl;have x1:=hx 1 _ rfl;have x2:=hx 2 _ rfl;have x3:=hx 3 _ rfl;have x4:=hx 4 _ rfl;have x5:=hx 5 _ rfl;have x6:=hx 6 _ rfl;simp only[Nat.add_zero,←Nat.add_assoc]at x0 x1 x2 x3 x4 x5 x6;have i3:(0:Int)≤(j:Int):=by omega
     have i4:(j:Int)<(n:Int):=by omega
     have i5:(n:Int)≤(lc:Int):=by have:=HLC.out;omega
     have a6:=hai.arg.cell 6;clear hs hsm hBw hku hai hx hpl;generalize Zz s=ps at*;generalize QG (t.ks.take j)=us at*;generalize s.p.ds.length=td at*;generalize s.p.ks.length=tk at*;generalize s.p.ng=tg at*;generalize s.p.lv=tl at*;generalize s.kd=tkd at*;generalize s.rl=trl at*;generalize s.ks.length=tn at*;go_wp2_with fail
     refine HAA.out.mono ?_;rintro e w1 ⟨A5,c5,rows',rfl,hc5,hrd,hrv,hb1⟩;obtain⟨rows,hro,hms⟩:=HAI.out.row;have hro1:=qQ hro hb1;have h63:us.length+ps.length≤maxLen:=by unfold maxLen;have:=HPP.out;omega
     have hby:(us.length+ps.length)*64≤140737488355328:=by have:=HPP.out;omega
     have hone:=qH.one _ _ hrv;have hbase:w.heap.size+1≤w1.heap.size:=Nat.le_trans HAI.out.arg.lt hb1.size;have HPU:=Lib.hid (fun(W2:World)(v':Value) ho hg=>HAI.out.push (W2:=W2) (v':=v') hro hms hb1 hrv ho hg);clear hb1 hro hms x0 x1 x2 x3 x4 x5 x6 hrv a6;go_wp2_with (at_builtin;refine jy _ rfl (.tmp 17) (.tmp 23) 26 rfl (w.heap.size+1) 28 i0 _ 4 64 Tryz.underlying26 hi0 hz0 hz1 hz2 rfl (by decide) u3 us.length rows.flatten rfl hro1 w1.heap.size A5 ps.length c5 rows'.flatten rfl hrd hone h63 hby hbase ?_;intro v' w2 hown2 hg2 hat2;refine Hid.out ?_)
     refine Lib.hid ?_;have HN1:=Lib.hid (HPU.out w2 v' hown2 hg2);clear hown2 hg2 hat2 hrd hro1 hbase h63 hby hone HPU;go_wp2_with fail
     go_roundg (n-(j+1))
     case rel=>exact⟨j+1,by omega,rfl,by go_num,by rw[HTK.out];exact HN1.out⟩
     case measure=>have:=HG.out;omega
    ·obtain rfl:j=n:=by omega
     rw[List.take_of_length_le (by rw[HN.out];exact Nat.le_refl _)]at hai;have HF:=Lib.hid hai.fin;clear hai hbw;go_wp2_with fail
     go_ret
     rw[HR.out];exact HF.out
def yF(rel s:Int):Bool:=if rel=1 then decide (s<0)else if rel=2 then decide (s≤0)else if rel=4 then s != 0 else if rel=5 then decide (0≤s)else if rel=6 then decide (0<s)else s==0
set_option maxHeartbeats 1000000
theorem Zq(rel s:Int)(w:World):Calls Tryz.prog 26 #[.int .i64 rel,.int .i64 s] w fun e w'=>e= .returned (.bool (yF rel s))∧w'=w:=by
 unfold yF;by_cases h1:rel=1
 ·subst h1;go_enter Tryz.func26,Tryz.ntmps26
  go_wp2_with fail
  go_ret
  exact⟨rfl,rfl⟩
 rw[if_neg h1];have e1:(rel==1)=false:=by simpa using h1
 by_cases h2:rel=2
 ·subst h2;clear h1 e1;go_enter Tryz.func26,Tryz.ntmps26
  go_wp2_with fail
  go_ret
  exact⟨rfl,rfl⟩
 rw[if_neg h2];have e2:(rel==2)=false:=by simpa using h2
 by_cases h4:rel=4
 ·subst h4;clear h1 e1 h2 e2;go_enter Tryz.func26,Tryz.ntmps26
  go_wp2_with fail
  go_ret
  exact⟨rfl,rfl⟩
 rw[if_neg h4];have e4:(rel==4)=false:=by simpa using h4
 by_cases h5:rel=5
 ·subst h5;clear h1 e1 h2 e2 h4 e4;go_enter Tryz.func26,Tryz.ntmps26
  go_wp2_with fail
  go_ret
  exact⟨rfl,rfl⟩
 rw[if_neg h5];have e5:(rel==5)=false:=by simpa using h5
 by_cases h6:rel=6
 ·subst h6;clear h1 e1 h2 e2 h4 e4 h5 e5;go_enter Tryz.func26,Tryz.ntmps26
  go_wp2_with fail
  go_ret
  exact⟨rfl,rfl⟩
 rw[if_neg h6];have e6:(rel==6)=false:=by simpa using h6
 clear h1 h2 h4 h5 h6;go_enter Tryz.func26,Tryz.ntmps26
 go_wp2_with fail
 go_ret
 exact⟨rfl,rfl⟩
theorem qlN(k:Int)(t:RP):yI k t=(decide (t.lv=k)||t.ks.any (yI k)):=by
 cases t
 rw[yI,qfi];rfl
theorem Yg{α:Type}{f:α→Bool}{l:List α}{j:Nat}{x:α}(h:l[j]? =some x)(hf:f x=true):l.any f=true:=
 List.any_eq_true.2 ⟨x,List.mem_of_getElem? h,hf⟩
theorem Jj{α:Type}{f:α→Bool}{l:List α}{k:Nat}{x:α}(h:l[k]? =some x)(h0:(l.take k).any f=false)(hf:f x=false):(l.take (k+1)).any f=false:=by
 rw[List.take_add_one,h,List.any_append,h0];simp[hf]
set_option maxHeartbeats 4000000
theorem qaq(k:Int)(hk:0<k)(X:Nat)(hX:X≤100000):∀(D:Nat)(t:RP),qv t≤D→yf X t→∀(A:Option Addr)(c:Nat)(K:Option Addr)(kc B:Nat)(w:World),B≤w.heap.size→RV w (· <B) t (qc t A c K kc)→
 Calls Tryz.prog 50 #[qn t A c K kc,.int .i64 k] w fun e w'=>e= .returned (.bool (yI k t))∧Below w.heap.size w w'
 |0,t,hD,_,_,_,_,_,_,_,_,_=>by cases t;simp only[qv]at hD;omega
 |D+1,t,hD,hsm,A,c,K,kc,B,w,hB,h=>by
  have IH:=Lib.hid (qaq k hk X hX D);have hb0:=(Below.refl w.heap.size w).alloc (Nat.le_refl _) (.cells #[.int .i64 t.lv,.bool t.ng,.slice A t.ds.length c,.slice K t.ks.length kc] 28);have hk0:=qd.new w 28 #[.int .i64 t.lv,.bool t.ng,.slice A t.ds.length c,.slice K t.ks.length kc];have HB0:=Lib.hid hb0;have HK0:=Lib.hid hk0;have HR:=Lib.hid (fun(W:World)(hW:Below w.heap.size w W)=>h.below (hW.mono hB));have HB:=Lib.hid hB;have HDD:=Lib.hid (fun(u:RP)(hu:u∈t.ks)=>show qv u≤D by have:=qD hu;omega);have HSS:=Lib.hid (fun(u:RP)(hu:u∈t.ks)=>hsm.at_.2.2 u hu);have hkl:t.ks.length≤X:=hsm.at_.2.1;have HLC:=Lib.hid h.node.2.2.2;have HEQ:=Lib.hid (qlN k t);have a0:=hk0.cell 0;have a2:=hk0.cell 3;unfold qn;generalize hnk:t.ks.length=nk at*;have HNK:=Lib.hid hnk;generalize yI k t=R at*;clear hb0 hk0 h hB hD hsm hnk;generalize t.ds.length=pd at*;generalize t.ng=pg at*;generalize t.lv=pl at*;by_cases h1:pl=k
  ·have HR1:=Lib.hid (show R=true by rw[HEQ.out];simp[h1]);subst h1;clear HEQ a2;rw[HR1.out];go_enter Tryz.func50,Tryz.ntmps50
   go_wp2_with fail
   go_ret
   exact⟨rfl,HB0.out⟩
  ·have HR1:=Lib.hid (show R=t.ks.any (yI k)by rw[HEQ.out];simp[h1]);have e1:(pl==k)=false:=by simpa using h1
   clear HEQ h1;rw[HR1.out];go_enter Tryz.func50,Tryz.ntmps50
   go_wp2_with fail
   clear a0 a2;go_loopg [5,17] nk (fun gn _ ix wr=>∃j:Nat,j≤nk∧gn=nk-j∧ix= .int .i64 j∧(t.ks.take j).any (yI k)=false∧Below w.heap.size w wr∧qd wr w.heap.size 28 #[.int .i64 pl,.bool pg,.slice A pd c,.slice K nk kc])
   case atStart=>exact⟨0,Nat.zero_le _,rfl,rfl,by simp,HB0.out,HK0.out⟩
   case round=>
    clear HB0 HK0;obtain⟨j,hj,hgj,rfl,hok,hbw,hkw⟩:=hrel;have HG:=Lib.hid hgj;have HOK:=Lib.hid hok;have HKW:=Lib.hid hkw;have HBW:=Lib.hid hbw;clear hgj;by_cases hlt:j<nk
    ·obtain⟨u,hu⟩:∃u,t.ks[j]? =some u:=⟨_,List.getElem?_eq_getElem (by rw[HNK.out];exact hlt)⟩;obtain⟨b,o,A1,q1,K1,r1,rfl,hbB,x0,x1,x2,x3,hku⟩:=(HR.out wr hbw).kid hu;have hum:=List.mem_of_getElem? hu;have HC:=Lib.hid (IH.out u (HDD.out u hum) (HSS.out u hum) A1 q1 K1 r1 B wr (Nat.le_trans HB.out hbw.size) hku);have HSTOP:=Lib.hid (fun hz:yI k u=true=>show t.ks.any (yI k)=true from Yg hu hz);have HNX:=Lib.hid (fun hz:yI k u=false=>Jj hu hok hz);unfold qn at HC;have i3:(0:Int)≤(j:Int):=by omega
     have i4:(j:Int)<(nk:Int):=by omega
     have i5:(nk:Int)≤(kc:Int):=by have:=HLC.out;omega
     have c3:=hkw.cell 3;clear hu hum hku hok hbw hkw;generalize yI k u=cu at*;generalize u.ds.length=td at*;generalize u.ks.length=tk at*;generalize u.ng=tg at*;generalize u.lv=tl at*;go_wp2_with fail
     refine HC.out.mono ?_;rintro e w4 ⟨rfl,hb4⟩;have HB4:=Lib.hid (HBW.out.trans (hb4.mono HBW.out.size));have HK4:=Lib.hid (HKW.out.old hb4);clear hb4 x0 x1 x2 x3 c3
     cases hcu:cu with
     |true=>
      have HS1:=Lib.hid (HSTOP.out hcu);clear hcu HNX HSTOP;go_wp2_with fail
      go_ret
      exact⟨by rw[HS1.out];rfl,HB4.out⟩
     |false=>
      have HS1:=Lib.hid (HNX.out hcu);clear hcu HNX HSTOP;go_wp2_with fail
      go_roundg (nk-(j+1))
      case rel=>exact⟨j+1,by omega,rfl,by go_num,HS1.out,HB4.out,HK4.out⟩
      case measure=>have:=HG.out;omega
    ·obtain rfl:j=nk:=by omega
     rw[List.take_of_length_le (by rw[HNK.out];exact Nat.le_refl _)]at hok;have HO:=Lib.hid hok;clear hok hbw hkw;go_wp2_with fail
     go_ret
     exact⟨by rw[HO.out];rfl,HBW.out⟩
theorem qgO(k:Int)(hk:0<k)(X:Nat)(hX:X≤100000)(G:RP→Prop)(t:MX)(hgd:Yd G t)(hpl:(Zz t).length≤100000)(hsm:∀p∈Zz t,yf X p)(A:Option Addr)(c:Nat)(K:Option Addr)(kc:Nat)(L:Option Addr)(lc B:Nat)(w:World)(hB:B≤w.heap.size)(h:MV w (· <B) t (q9 t A c K kc L lc)):
 Calls Tryz.prog 24 #[ZP t A c K kc L lc,.int .i64 k] w fun e w'=>e= .returned (.bool ((Zz t).any (yI k)))∧Below w.heap.size w w':=by
 have hb0:=(Below.refl w.heap.size w).alloc (Nat.le_refl _) (.cells #[.int .i64 t.kd,.int .i64 t.rl,.int .i64 t.p.lv,.bool t.p.ng,.slice A t.p.ds.length c,.slice K t.p.ks.length kc,.slice L t.ks.length lc] 44);have HB0:=Lib.hid hb0;have HBB:=Lib.hid hB;have HP:=Lib.hid (qbz G (JY t) t (Nat.le_refl _) hgd hpl A c K kc L lc B _ (Nat.le_trans hB hb0.size) (h.below (hb0.mono hB)));have HOC:=Lib.hid (fun(u:RP)(hu:u∈Zz t)=>qaq k hk X hX (qv u) u (Nat.le_refl _) (hsm u hu));unfold ZP;unfold qfh ZP at HP;generalize hn:(Zz t).length=n at*;generalize hps:Zz t=ps at*;have HN:=Lib.hid hn;clear hb0 hB h hgd hsm hn hps;generalize t.p.ds.length=td at*;generalize t.p.ks.length=tk at*;generalize t.p.ng=tg at*;generalize t.p.lv=tl at*;generalize t.kd=tkd at*;generalize t.rl=trl at*;generalize t.ks.length=tn at*;go_enter Tryz.func24,Tryz.ntmps24
 go_wp2_with fail
 generalize w.alloc (.cells #[.int .i64 tkd,.int .i64 trl,.int .i64 tl,.bool tg,.slice A td c,.slice K tk kc,.slice L tn lc] 44)=W0 at*;refine HP.out.mono ?_;rintro e w1 ⟨A5,c5,rows,rfl,hc5,hrd,hrv,hb1⟩;have HB1:=Lib.hid (HB0.out.trans (hb1.mono HB0.out.size));have HTR:=Lib.hid (show zn w1 w1.heap.size A5 ps from⟨rows,by rw[HN.out];exact hrd,qH.mono (fun b (hb:b<B)=>Nat.lt_of_lt_of_le hb (Nat.le_trans HBB.out HB1.out.size)) _ _ hrv⟩);have HC5:=Lib.hid hc5;clear hrd hrv hb1 HP hc5 HB0;go_wp2_with fail
 go_loopg [6,11] n (fun gn _ ix wr=>∃j:Nat,j≤n∧gn=n-j∧ix= .int .i64 j∧(ps.take j).any (yI k)=false∧Below w1.heap.size w1 wr)
 case atStart=>exact⟨0,Nat.zero_le _,rfl,rfl,by simp,Below.refl _ _⟩
 case round=>
  obtain⟨j,hj,hgj,rfl,hok,hbw⟩:=hrel;have HG:=Lib.hid hgj;have HOK:=Lib.hid hok;have HBW:=Lib.hid hbw;clear hgj;by_cases hlt:j<n
  ·obtain⟨u,hu⟩:∃u,ps[j]? =some u:=⟨_,List.getElem?_eq_getElem (by rw[HN.out];exact hlt)⟩;obtain⟨b,o,A1,q1,K1,r1,rfl,hbB,x0,x1,x2,x3,hku⟩:=(HTR.out.below hbw).kid hu;have hum:=List.mem_of_getElem? hu;have HC:=Lib.hid (HOC.out u hum A1 q1 K1 r1 w1.heap.size wr hbw.size hku);have HSTOP:=Lib.hid (fun hz:yI k u=true=>show ps.any (yI k)=true from Yg hu hz);have HNX:=Lib.hid (fun hz:yI k u=false=>Jj hu hok hz);unfold qn at HC;have i3:(0:Int)≤(j:Int):=by omega
   have i4:(j:Int)<(n:Int):=by omega
   have i5:(n:Int)≤(c5:Int):=by have:=HC5.out;omega
   clear hu hum hku hok hbw;generalize yI k u=cu at*;generalize u.ds.length=td at*;generalize u.ks.length=tk at*;generalize u.ng=tg at*;generalize u.lv=tl at*;go_wp2_with fail
   refine HC.out.mono ?_;rintro e w4 ⟨rfl,hb4⟩;have HB4:=Lib.hid (HBW.out.trans (hb4.mono HBW.out.size));clear hb4 x0 x1 x2 x3
   cases hcu:cu with
   |true=>
    have HS1:=Lib.hid (HSTOP.out hcu);clear hcu HNX HSTOP;go_wp2_with fail
    go_ret
    exact⟨by rw[HS1.out];rfl,HB1.out.trans (HB4.out.mono HB1.out.size)⟩
   |false=>
    have HS1:=Lib.hid (HNX.out hcu);clear hcu HNX HSTOP;go_wp2_with fail
    go_roundg (n-(j+1))
    case rel=>exact⟨j+1,by omega,rfl,by go_num,HS1.out,HB4.out⟩
    case measure=>have:=HG.out;omega
  ·obtain rfl:j=n:=by omega
   rw[List.take_of_length_le (by rw[HN.out];exact Nat.le_refl _)]at hok;have HO:=Lib.hid hok;clear hok hbw;go_wp2_with fail
   go_ret
   exact⟨by rw[HO.out];rfl,HB1.out.trans (HBW.out.mono HB1.out.size)⟩
structure QT where
 ng:Bool
 ds:List Nat
 A:Option Addr
 c:Nat
 es:List Nat
 D:Option Addr
 cd:Nat
def QT.q(x:QT):Rat:=mkRat (qb x.ng x.ds) (val x.es)
def QT.cells(x:QT):List Value:=[.bool x.ng,.slice x.A x.ds.length x.c,.slice x.D x.es.length x.cd]
abbrev QT.v(x:QT):Value:= .agg #[.bool x.ng,.slice x.A x.ds.length x.c,.slice x.D x.es.length x.cd]
theorem qdp(ps:List QT)(i j:Nat)(p:QT)(hi:ps[i]? =some p)(hj:j<3):(ps.flatMap QT.cells)[i*3+j]? =p.cells[j]?:=by
 induction ps generalizing i with
 |nil=>simp at hi
 |cons q ps ih=>
  rw[List.flatMap_cons]
  match i,hi with
  |0,hi=>
   simp at hi;subst hi;rw[List.getElem?_append_left (by simp[QT.cells];omega)];simp
  |i+1,hi=>
   rw[List.getElem?_append_right (by simp[QT.cells];omega)];have:=ih i (by simpa using hi);rw[←this]
   congr 1
   simp[QT.cells];omega
structure jM (w:World) (B:Nat) (A:Option Addr) (vs:List QT):Prop where
 rd:qi w B 3 A vs.length (vs.flatMap QT.cells)
 nn:∀x∈vs,qh w B x.A x.c x.ds
 nd:∀x∈vs,qh w B x.D x.cd x.es
theorem jM.below{w w':World}{B:Nat}{A:Option Addr}{vs:List QT}(h:jM w B A vs)(hb:Below B w w'):jM w' B A vs:=⟨h.rd.below hb,fun p hp=>(h.nn p hp).below hb,fun p hp=>(h.nd p hp).below hb⟩
theorem jM.more{w:World}{B B':Nat}{A:Option Addr}{vs:List QT}(h:jM w B A vs)(hB:B≤B'):jM w B' A vs:=⟨h.rd.more hB,fun p hp=>(h.nn p hp).more hB,fun p hp=>(h.nd p hp).more hB⟩
theorem jM.old{w w':World}{A:Option Addr}{vs:List QT}(h:jM w w.heap.size A vs)(hb:Below w.heap.size w w'):jM w' w'.heap.size A vs:=(h.below hb).more hb.size
theorem jM.at_{w:World}{B:Nat}{A:Option Addr}{vs:List QT}(h:jM w B A vs){k:Nat}{p:QT}(hk:vs[k]? =some p):
 ∃b o,A=some ⟨b,o,none⟩∧b<B∧w.cell? ⟨b,o+k*3,none⟩=some (.bool p.ng)∧w.cell? ⟨b,o+k*3+1,none⟩=some (.slice p.A p.ds.length p.c)∧w.cell? ⟨b,o+k*3+2,none⟩=some (.slice p.D p.es.length p.cd):=by
 have hl:k<vs.length:=(List.getElem?_eq_some_iff.1 hk).1;obtain⟨b,o,e,hb,hc⟩:=h.rd.2 (by omega);have f:=fun j hj u (hu:p.cells[j]? =some u)=>hc (k*3+j) u ((qdp vs k j p hk hj).trans hu);exact⟨b,o,e,hb,f 0 (by omega) _ rfl,f 1 (by omega) _ rfl,f 2 (by omega) _ rfl⟩
def yy(vs:List QT)(i:Nat):Rat:=match vs[i]? with|some x=>x.q|none=>0
theorem qd2{vs:List QT}{i:Nat}{x:QT}(h:vs[i]? =some x):yy vs i=x.q:=by unfold yy;rw[h]
theorem qeO{vs:List QT}{P:Nat}(h0:0<P)(h:∀x∈vs,x.ds.length≤P∧x.es.length≤P∧qP x.ds∧qP x.es)(i:Nat):RL (yy vs i) P:=by
 unfold yy
 split
 ·rename_i x hx;obtain⟨h1,h2,h3,h4⟩:=h x (List.mem_of_getElem? hx);exact qdl h0 h3 h4 h1 h2
 ·exact RL.zero h0
