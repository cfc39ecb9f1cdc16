import Derived.Sort.Grow
import Derived.Maps.Own
import Derived.Maps.OwnOps
import Derived.Maps.OwnSet
import Derived.DeepKeys4
import Derived.StillTailTactics
import Derived.RangeFuncOwn
import Derived.Test.YtflikmojaidhhaaGreatPq03
namespace Go.Proofs.YtflikmojaidhhaaGreat
open Go.RowKit
theorem qgI{t:RP}(h:t.lv=0):zu t= .mk 0 (decide (qb t.ng t.ds<0)) (dig (val t.ds)) []:=by rw[qeD,if_pos h]
theorem qhR{t:RP}(h:t.lv≠0):zu t= .mk t.lv false [] (t.ks.map zu):=by rw[qeD,if_neg h]
set_option maxHeartbeats 4000000
set_option maxRecDepth 100000
theorem QZ(X:Nat)(hX:X≤100000):∀(D:Nat)(t:RP),qv t≤D→yf X t→∀(A:Option Addr)(c:Nat)(K:Option Addr)(kc B:Nat)(w:World),B≤w.heap.size→RV w (· <B) t (qc t A c K kc)→
 Calls Tryz.prog 39 #[qn t A c K kc] w (ZA t w)
 |0,t,hD,_,_,_,_,_,_,_,_,_=>by cases t;simp only[qv]at hD;omega
 |D+1,t,hD,hf,A,c,K,kc,B,w,hB,h=>by
  have IH:=Lib.hid (QZ X hX D);have HR:=Lib.hid (fun(W:World)(hW:Below w.heap.size w W)=>h.below (hW.mono hB));have HD:=Lib.hid (fun(u:RP)(hu:u∈t.ks)=>show qv u≤D by have:=qD hu;omega);have HF:=Lib.hid hf.at_.2.2;have HB:=Lib.hid hB;have HX:=Lib.hid (fun(cs ds:Array Value)=>qK w 28 28 cs ds);have hdl:=hf.at_.1;have hkl:=hf.at_.2.1;show Calls Tryz.prog 39 #[.agg #[.int .i64 t.lv,.bool t.ng,.slice A t.ds.length c,.slice K t.ks.length kc]] w _;clear hD hB hf;have HNI:=Lib.hid (fun(W:World)(hW:Below w.heap.size w W)=>jH t.ng A c B t.ds W (Nat.le_trans HB.out hW.size) (h.below (hW.mono HB.out)).natIn (by omega));unfold qy at HNI;rw[qz]at HNI;clear h;generalize hnd:t.ds.length=nd at*;generalize hnk:t.ks.length=nk at*;have HND:=Lib.hid hnd;have HNK:=Lib.hid hnk;clear hnd hnk;by_cases h0:t.lv=0
  ·have e0:(t.lv==0)=true:=by simp[h0]
   have HC:=Lib.hid (qgI h0);clear h0;go_enter Tryz.func39,Tryz.ntmps39
   go_wp2_with fail
   obtain⟨hb0,k0,k1,hs⟩:=HX.out #[.int .i64 t.lv,.bool t.ng,.slice A nd c,.slice K nk kc] #[.int .i64 0,.bool false,.slice none 0 0,.slice none 0 0];generalize (w.alloc (.cells #[.int .i64 t.lv,.bool t.ng,.slice A nd c,.slice K nk kc] 28)).alloc (.cells #[.int .i64 0,.bool false,.slice none 0 0,.slice none 0 0] 28)=W at*;have HN1:=Lib.hid (HNI.out W hb0);have HB0:=Lib.hid hb0;have HK1:=Lib.hid k1;clear HX HNI hb0 k1 k0 hs;refine HN1.out.mono ?_;rintro e w2 ⟨A2,c2,rfl,h1,h2,h3⟩;have kk:=HK1.out.old h3;have hbw:=HB0.out.trans (h3.mono HB0.out.size);have d0:w2.cell? ⟨w.heap.size+1,0,none⟩=some (.int .i64 0):=kk.cell 0;have d1:w2.cell? ⟨w.heap.size+1,1,none⟩=some (.bool false):=kk.cell 1;have d2:w2.cell? ⟨w.heap.size+1,2,none⟩=some (.slice none 0 0):=kk.cell 2;have d3:w2.cell? ⟨w.heap.size+1,3,none⟩=some (.slice none 0 0):=kk.cell 3;have f0:=kk.frozen 0;have f1:=kk.frozen 1;have f2:=kk.frozen 2;have f3:=kk.frozen 3;have z0:=kk.lt;have HKK:=Lib.hid (jt (k:=0) kk (.int .i64 0) (.bool (decide (qb t.ng t.ds<0))) (.slice A2 (dig (val t.ds)).length c2) (.slice none 0 0));have HN2:=Lib.hid h2;have HC2:=Lib.hid h1;have HBW:=Lib.hid hbw;clear kk hbw h1 h2 h3 HN1 HB0 HK1;go_wp2_with fail
   obtain⟨s1,s2,s3⟩:=HKK.out;refine qg Tryz.results39 rfl rfl s1 Tryz.underlying28 rfl Tryz.sizeRec ?_;refine⟨A2,c2,none,0,by rw[HC.out];rfl,?_,?_⟩
   ·rw[HC.out];exact RB.const (HN2.out.keep s2) (qu _) HC2.out
   ·exact(((HBW.out.setCell (Nat.le_add_right _ 1) _).setCell (Nat.le_add_right _ 1) _).setCell (Nat.le_add_right _ 1) _).setCell (Nat.le_add_right _ 1) _
  ·have e0:(t.lv==0)=false:=by simp[h0]
   have H0:=Lib.hid h0;have hmk:=fun(W:World)=>Tryz.make_rec nk (by omega) W;clear h0;go_enter Tryz.func39,Tryz.ntmps39
   go_wp2_with fail
   have HX3:=Lib.hid (jF w 28 28 28 #[.int .i64 t.lv,.bool t.ng,.slice A nd c,.slice K nk kc] #[.int .i64 0,.bool false,.slice none 0 0,.slice none 0 0] (madeCells #[.int .i64 0,.bool false,.slice none 0 0,.slice none 0 0] (nk*4)));generalize ((w.alloc (.cells #[.int .i64 t.lv,.bool t.ng,.slice A nd c,.slice K nk kc] 28)).alloc (.cells #[.int .i64 0,.bool false,.slice none 0 0,.slice none 0 0] 28)).alloc (.cells (madeCells #[.int .i64 0,.bool false,.slice none 0 0,.slice none 0 0] (nk*4)) 28)=W at*;obtain⟨hb0,k0,k1,k2,hs⟩:=HX3.out;have HI0:=Lib.hid (show qel w t (w.heap.size+1+1) nk 0 #[.int .i64 t.lv,.bool t.ng,.slice A nd c,.slice K nk kc] W (madeCells #[.int .i64 0,.bool false,.slice none 0 0,.slice none 0 0] (nk*4)) []from
    ⟨k2,size_madeCells _ _,rfl,by simp,by simp,by simp[qH],hb0,k0,k1⟩)
   have hg:w.heap.size+1<w.heap.size+1+1:=Nat.lt_succ_self _;clear HX HX3 hb0 k0 k1 k2 hs hmk HNI;generalize w.heap.size+1+1=g at*;go_loopg [4,5,20] nk (fun gn _ _ ix wr=>∃(k:Nat)(cur:Array Value)(rows:List (List Value)),k≤nk∧gn=nk-k∧ix= .int .i64 k∧qel w t g nk k #[.int .i64 t.lv,.bool t.ng,.slice A nd c,.slice K nk kc] wr cur rows)
   case atStart=>exact⟨0,_,[],Nat.zero_le _,rfl,rfl,HI0.out⟩
   case round=>
    clear HI0;obtain⟨k,cur,rows,hk,hgk,rfl,hi⟩:=hrel;have HG:=Lib.hid hgk;have HI:=Lib.hid hi;clear hgk;have hrv:=HR.out wr hi.bel;have hkc:=hrv.node.2.2.2;rw[HNK.out]at hkc;have i5:(nk:Int)≤(kc:Int):=by omega
    have c0:wr.cell? ⟨w.heap.size,0,none⟩=some (.int .i64 t.lv):=hi.par.cell 0;have c3:wr.cell? ⟨w.heap.size,3,none⟩=some (.slice K nk kc):=hi.par.cell 3;by_cases hlt:k<nk
    ·obtain⟨u,hu⟩:∃u,t.ks[k]? =some u:=⟨_,List.getElem?_eq_getElem (by rw[HNK.out];exact hlt)⟩;obtain⟨b,o,A',c',K',kc',rfl,hbB,e0',e1,e2,e3,hku⟩:=hrv.kid hu;have hum:=List.mem_of_getElem? hu;have HIH:=Lib.hid (fun(W:World)(hW:Below wr.heap.size wr W)=>IH.out u (HD.out u hum) (HF.out u hum) A' c' K' kc' wr.heap.size W hW.size ((hku.more (Nat.le_trans HB.out hi.bel.size)).below hW));unfold ZA at HIH;have HNX:=Lib.hid (fun(W1 W2:World)(A K:Option Addr)(c kc:Nat) h1 h2 h3=>hi.next (u:=u) (W1:=W1) (W2:=W2) (A:=A) (K:=K) (c:=c) (kc:=kc) hlt hg hu h1 h2 h3);have HROW:=Lib.hid hi.row;have HSZ:=Lib.hid hi.siz;have i3:(0:Int)≤(k:Int):=by omega
     have i4:(k:Int)<(nk:Int):=by omega
     have HBY:=Lib.hid (fun(cs:Array Value)=>(Below.refl wr.heap.size wr).alloc (Nat.le_refl _) (.cells cs 28));clear hu hrv hku hkc hum hi HI;unfold qn at HIH;generalize u.ds.length=ud at*;generalize u.ks.length=uk at*;generalize u.ng=ug at*;generalize u.lv=ul at*;have HI1:=Lib.hid (HIH.out _ (HBY.out #[.int .i64 ul,.bool ug,.slice A' ud c',.slice K' uk kc']));go_wp2_with fail
     refine HI1.out.mono ?_;rintro e w2 ⟨A2,c2,K2,kc2,rfl,h2,h3⟩;have hb:=(HBY.out #[.int .i64 ul,.bool ug,.slice A' ud c',.slice K' uk kc']).trans (h3.mono (HBY.out _).size);have kk:=HROW.out.old hb;have hz:=HSZ.out;have ex:∀i,i<4→∃v,cur[k*4+i]? =some v:=fun i hi=>⟨_,Array.getElem?_eq_getElem (by omega)⟩;obtain⟨v0,q0⟩:=ex 0 (by omega);obtain⟨v1,q1⟩:=ex 1 (by omega);obtain⟨v2,q2⟩:=ex 2 (by omega);obtain⟨v3,q3⟩:=ex 3 (by omega);have d0:w2.cell? ⟨g,k*4,none⟩=some v0:=(kk.cell _).trans q0;have d1:w2.cell? ⟨g,k*4+1,none⟩=some v1:=(kk.cell _).trans q1;have d2:w2.cell? ⟨g,k*4+2,none⟩=some v2:=(kk.cell _).trans q2;have d3:w2.cell? ⟨g,k*4+3,none⟩=some v3:=(kk.cell _).trans q3;have f0:=kk.frozen (k*4);have f1:=kk.frozen (k*4+1);have f2:=kk.frozen (k*4+2);have f3:=kk.frozen (k*4+3);have z0:=kk.lt;have HN2:=Lib.hid (HNX.out _ w2 A2 K2 c2 kc2 (HBY.out #[.int .i64 ul,.bool ug,.slice A' ud c',.slice K' uk kc']) h2 h3);clear hb kk hz ex q0 q1 q2 q3 h2 h3 HI1 HIH HNX HROW HSZ HBY;generalize (zu u).lv=xl at*;generalize (zu u).ng=xg at*;generalize (zu u).ds.length=xd at*;generalize (zu u).ks.length=xk at*;go_wp2_with fail
     obtain⟨cur',hn⟩:=HN2.out;go_roundg (nk-(k+1))
     case rel=>exact⟨k+1,cur',_,by omega,rfl,by go_num,hn⟩
     case measure=>have:=HG.out;omega
    ·obtain rfl:k=nk:=by omega
     have d0:wr.cell? ⟨w.heap.size+1,0,none⟩=some (.int .i64 0):=hi.res.cell 0;have d1:wr.cell? ⟨w.heap.size+1,1,none⟩=some (.bool false):=hi.res.cell 1;have d2:wr.cell? ⟨w.heap.size+1,2,none⟩=some (.slice none 0 0):=hi.res.cell 2;have d3:wr.cell? ⟨w.heap.size+1,3,none⟩=some (.slice none 0 0):=hi.res.cell 3;have f0:=hi.res.frozen 0;have f1:=hi.res.frozen 1;have f2:=hi.res.frozen 2;have f3:=hi.res.frozen 3;have z0:=hi.res.lt;have HFN:=Lib.hid (hi.fin hg HNK.out H0.out);have HS:=Lib.hid (jt (k:=0) hi.res (.int .i64 t.lv) (.bool false) (.slice none 0 0) (.slice (some ⟨g,0,none⟩) k k)).1;have HBW:=Lib.hid hi.bel;have HC:=Lib.hid (qhR H0.out);clear hi HI hrv hkc;go_wp2_with fail
     refine qg Tryz.results39 rfl rfl HS.out Tryz.underlying28 rfl Tryz.sizeRec ?_;refine⟨none,0,some ⟨g,0,none⟩,k,?_,HFN.out,?_⟩
     ·rw[HC.out];unfold qn;show _=Ending.returned (.agg #[.int .i64 t.lv,.bool false,.slice none 0 0,.slice (some ⟨g,0,none⟩) (t.ks.map zu).length k]);rw[List.length_map,HNK.out];rfl
     ·exact(((HBW.out.setCell (Nat.le_add_right _ 1) _).setCell (Nat.le_add_right _ 1) _).setCell (Nat.le_add_right _ 1) _).setCell (Nat.le_add_right _ 1) _
end Go.Proofs.YtflikmojaidhhaaGreat
namespace Go.Proofs.YtflikmojaidhhaaGreat
open Go.RowKit Go.Sort
def zx(w w':World):Prop:=∃q os,w'=grow (w.drewN q) os
theorem zx.refl(w:World):zx w w:=⟨0,#[],(grow_empty w).symm⟩
theorem zx.drewN{w w':World}(h:zx w w')(n:Nat):zx w (w'.drewN n):=by
 obtain⟨q,os,rfl⟩:=h;exact⟨q+n,os,by rw[←World.drewN_drewN];rfl⟩
theorem zx.alloc{w w':World}(h:zx w w')(o:Obj):zx w (w'.alloc o):=by
 obtain⟨q,os,rfl⟩:=h;exact⟨q,os++#[o],by rw[alloc_eq_grow,grow_grow]⟩
theorem zx.trans{a b c:World}(h:zx a b)(k:zx b c):zx a c:=by
 obtain⟨q,os,rfl⟩:=k;have:=h.drewN q;obtain⟨q',os',e⟩:=this;exact⟨q',os'++os,by rw[e,grow_grow]⟩
theorem zx.drawn{a b c:World}(h:zx a b)(k:qm b c):zx a c:=by obtain⟨n,rfl⟩:=k;exact h.drewN n
theorem zx.below{w w':World}(h:zx w w'):Below w.heap.size w w':=by
 obtain⟨q,os,rfl⟩:=h;exact⟨rfl,rfl,rfl,by rw[size_grow];exact Nat.le_add_right _ _,fun k hk=>heap_grow_old _ _ hk⟩
theorem Zd(a:Int)(w:World):Calls Tryz.prog 167 #[.int .i64 a] w fun e w'=>e= .returned (.bool false)∧w=w':=by
 go_enter Tryz.func167,Tryz.ntmps167
 go_wp2
 go_ret
 exact⟨by simp,rfl⟩
theorem qak(a b:Int)(w:World):Calls Tryz.prog 145 #[.int .i64 a,.int .i64 b] w fun e w'=>e= .returned (.int .i64 (zS a b))∧w=w':=by
 rcases Int.lt_trichotomy a b with h|h|h
 ·have e:zS a b=-1:=by simp[zS,h]
  rw[e];clear e;go_enter Tryz.func145,Tryz.ntmps145
  go_wp2_with (first|(go_at_call 167;refine(Zd _ _).mono ?_;rintro e w' ⟨rfl,rfl⟩))
  go_ret
  exact⟨rfl,rfl⟩
 ·subst h;have e:zS a a=0:=by simp[zS]
  rw[e];clear e;go_enter Tryz.func145,Tryz.ntmps145
  go_wp2_with (first|(go_at_call 167;refine(Zd _ _).mono ?_;rintro e w' ⟨rfl,rfl⟩))
  go_ret
  exact⟨rfl,rfl⟩
 ·have e:zS a b=1:=by
   have:¬a<b:=by omega
   simp[zS,h,this]
  have h':¬a<b:=by omega
  rw[e];clear e;go_enter Tryz.func145,Tryz.ntmps145
  go_wp2_with (first|(go_at_call 167;refine(Zd _ _).mono ?_;rintro e w' ⟨rfl,rfl⟩))
  go_ret
  exact⟨rfl,rfl⟩
def gt(m:Mo):Nat→Int
 |0=>m.1
 |1=>m.2.1
 |2=>m.2.2.1
 |_=>m.2.2.2
def Jo(m:Mo):Array Value:=#[.int .i64 m.1,.int .i64 m.2.1,.int .i64 m.2.2.1,.int .i64 m.2.2.2]
theorem qet(m:Mo){j:Nat}(h:j<4):(Jo m)[j]? =some (.int .i64 (gt m j)):=by
 match j,h with
 |0,_=>rfl
 |1,_=>rfl
 |2,_=>rfl
 |3,_=>rfl
def Yf(a b:Mo):Nat→Int
 |0=>0
 |k+1=>if zS (gt a k) (gt b k)≠0 then zS (gt a k) (gt b k)else Yf a b k
theorem qeP(a b:Mo):Yf a b 4=qcq a b:=by
 simp only[Yf,qcq,gt];by_cases h:zS a.1 b.1=0<;>simp[h]
theorem qhm{a b:Mo}{k:Nat}(h:zS (gt a k) (gt b k)≠0):Yf a b (k+1)=zS (gt a k) (gt b k):=by simp[Yf,h]
theorem qiS{a b:Mo}{k:Nat}(h:zS (gt a k) (gt b k)=0):Yf a b (k+1)=Yf a b k:=by simp[Yf,h]
set_option maxHeartbeats 1000000
theorem qf2(a b:Mo)(w:World):Calls Tryz.prog 132 #[.agg (Jo a),.agg (Jo b)] w fun e w'=>e= .returned (.int .i64 (qcq a b))∧zx w w':=by
 obtain⟨hb0,k0,k1,hs⟩:=qK w 113 113 (Jo a) (Jo b);have hl:zx w ((w.alloc (.cells (Jo a) 113)).alloc (.cells (Jo b) 113)):=((zx.refl w).alloc _).alloc _;have HS:=Lib.hid hs;clear hs;have HC:=Lib.hid (qeP a b);generalize qcq a b=r at*;go_enter Tryz.func132,Tryz.ntmps132
 go_wp2
 generalize (w.alloc (.cells (Jo a) 113)).alloc (.cells (Jo b) 113)=W at*;go_loopg [5] 4 (fun gn i wr=>∃(k:Nat),k≤4∧gn=k∧i= .int .i64 ((k:Int)-1)∧Yf a b k=r∧qm W wr)
 case atStart=>exact⟨4,Nat.le_refl _,rfl,rfl,HC.out,qm.refl _⟩
 case round=>
  obtain⟨k,hk,hgk,rfl,hr,hd⟩:=hrel;have HG:=Lib.hid hgk;clear hgk;have HR:=Lib.hid hr;clear hr;by_cases h0:0<k
  ·obtain⟨j,rfl⟩:∃j,k=j+1:=⟨k-1,by omega⟩;have c0:wr.cell? ⟨w.heap.size,j,none⟩=some (.int .i64 (gt a j)):=((k0.drawn hd).cell j).trans (qet a (by omega));have c1:wr.cell? ⟨w.heap.size+1,j,none⟩=some (.int .i64 (gt b j)):=((k1.drawn hd).cell j).trans (qet b (by omega));have hkk:((j+1:Nat):Int)-1=(j:Int):=by omega
   rw[hkk];have i0:(0:Int)≤(j:Int):=by omega
   have i1:(j:Int)<4:=by omega
   by_cases hz:zS (gt a j) (gt b j)=0
   ·have HR':=Lib.hid ((qiS hz).symm.trans HR.out);have HQ:Hid (∀W',Calls Tryz.prog 145 #[.int .i64 (gt a j),.int .i64 (gt b j)] W' fun e w'=>e= .returned (.int .i64 0)∧W'=w'):=Lib.hid (fun W'=>by have:=qak (gt a j) (gt b j) W';rwa[hz]at this);clear hz HR hkk;generalize gt a j=x at*;generalize gt b j=y at*;go_wp2
    go_quiet ((go_at_call 145;exact qm.quiet ((HQ.out _).mono fun _ _ ⟨he,hw⟩=>⟨he,hw▸qm.refl _⟩)))
    go_wp2
    go_roundg j
    case rel=>exact⟨j,by omega,rfl,rfl,HR'.out,hd.trans (.drewN _ _)⟩
    case measure=>have:=HG.out;omega
   ·have HR':=Lib.hid ((qhm hz).symm.trans HR.out);have HQ:=Lib.hid (fun W'=>qak (gt a j) (gt b j) W');generalize zS (gt a j) (gt b j)=z at*;have hzb:(z != 0)=true:=by simpa using hz
    clear hkk HR hz;generalize gt a j=x at*;generalize gt b j=y at*;go_wp2
    go_quiet ((go_at_call 145;exact qm.quiet ((HQ.out _).mono fun _ _ ⟨he,hw⟩=>⟨he,hw▸qm.refl _⟩)))
    go_wp2
    go_ret
    exact⟨by rw[HR'.out];rfl,(hl.drawn hd).drewN _⟩
  ·obtain rfl:k=0:=by omega
   go_wp2
   go_ret
   exact⟨by rw[←HR.out];rfl,hl.drawn hd⟩
def qaJ(m:Mo):Nat→Bool
 |0=>true
 |k+1=>qaJ m k&&decide (0≤gt m k)
theorem qej(m:Mo):qaJ m 4=yH m:=by simp only[qaJ,yH,gt,Bool.true_and,Bool.and_assoc]
theorem qh3{m:Mo}{k:Nat}(h:qaJ m k=true)(hx:0≤gt m k):qaJ m (k+1)=true:=by simp[qaJ,h,hx]
theorem qjF{m:Mo}{k:Nat}(h:k<4)(hx:gt m k<0):yH m=false:=by
 rcases(by omega:k=0∨k=1∨k=2∨k=3)with rfl|rfl|rfl|rfl<;>simp only[gt]at hx<;>simp[yH]<;>omega
theorem Tryz.index_mono(m:Mo)(j:Nat)(hj:j<4)(w:World):(Instr.index 113 (.agg (Jo m)) (.int .i64 (j:Int))).run Tryz.prog w= .ok (.int .i64 (gt m j)) w:=by
 have h3:=qet m hj;simp[Instr.index,run_underlying Tryz.underlying113,asIntOf,go_sem,hj,h3,Tryz.sizeOf3,Tryz.isAgg3]
set_option maxHeartbeats 2000000
set_option maxRecDepth 100000
theorem qb4(m:Mo)(w:World):Calls Tryz.prog 129 #[.agg (Jo m)] w fun e w'=>e= .returned (.bool (!yH m))∧zx w w':=by
 have hl:zx w (w.alloc (.cells (Jo m) 113)):=(zx.refl w).alloc _;have HB:=Lib.hid (fun(k:Nat)=>@qjF m k);have HO:=Lib.hid (fun(k:Nat)=>@qh3 m k);have HF:=Lib.hid (qej m);have HGT:=Lib.hid (show gt m 0=m.1∧gt m 1=m.2.1∧gt m 2=m.2.2.1∧gt m 3=m.2.2.2 from⟨rfl,rfl,rfl,rfl⟩);have x0:∀W,(Instr.index 113 (.agg #[.int .i64 m.1,.int .i64 m.2.1,.int .i64 m.2.2.1,.int .i64 m.2.2.2]) (.int .i64 0)).run Tryz.prog W= .ok (.int .i64 m.1) W:=fun W=>Tryz.index_mono m 0 (by decide) W;have x1:∀W,(Instr.index 113 (.agg #[.int .i64 m.1,.int .i64 m.2.1,.int .i64 m.2.2.1,.int .i64 m.2.2.2]) (.int .i64 1)).run Tryz.prog W= .ok (.int .i64 m.2.1) W:=fun W=>Tryz.index_mono m 1 (by decide) W;have x2:∀W,(Instr.index 113 (.agg #[.int .i64 m.1,.int .i64 m.2.1,.int .i64 m.2.2.1,.int .i64 m.2.2.2]) (.int .i64 2)).run Tryz.prog W= .ok (.int .i64 m.2.2.1) W:=fun W=>Tryz.index_mono m 2 (by decide) W;have x3:∀W,(Instr.index 113 (.agg #[.int .i64 m.1,.int .i64 m.2.1,.int .i64 m.2.2.1,.int .i64 m.2.2.2]) (.int .i64 3)).run Tryz.prog W= .ok (.int .i64 m.2.2.2) W:=fun W=>Tryz.index_mono m 3 (by decide) W;unfold Jo at*;generalize yH m=v at*;generalize m.1=m0 at*;generalize m.2.1=m1 at*;generalize m.2.2.1=m2 at*;generalize m.2.2.2=m3 at*;go_enter Tryz.func129,Tryz.ntmps129
 go_wp2
 generalize w.alloc (.cells #[.int .i64 m0,.int .i64 m1,.int .i64 m2,.int .i64 m3] 113)=W at*;go_loopg [4,6] 4 (fun gn _ i wr=>∃(k:Nat)(z:Int),k≤4∧z=k∧gn=4-k∧i= .int .i64 z∧qaJ m k=true∧W=wr)
 case atStart=>exact⟨0,0,by omega,rfl,rfl,rfl,rfl,rfl⟩
 case round=>
  obtain⟨k,z,hk,hz,hgk,rfl,hv,rfl⟩:=hrel;have HG:=Lib.hid hgk;clear hgk;have HV:=Lib.hid hv;clear hv;by_cases hlt:k<4
  ·by_cases hx:gt m k<0
   ·have HE:=Lib.hid (HB.out k hlt hx);have HX:=Lib.hid hx;clear hx;rcases(by omega:k=0∨k=1∨k=2∨k=3)with rfl|rfl|rfl|rfl
    ·have hx:=HX.out;rw[HGT.out.1]at hx;obtain rfl:z=0:=hz;clear HB HO;go_wp2
     go_ret
     exact⟨by rw[HE.out];rfl,hl⟩
    ·have hx:=HX.out;rw[HGT.out.2.1]at hx;obtain rfl:z=1:=hz;clear HB HO;go_wp2
     go_ret
     exact⟨by rw[HE.out];rfl,hl⟩
    ·have hx:=HX.out;rw[HGT.out.2.2.1]at hx;obtain rfl:z=2:=hz;clear HB HO;go_wp2
     go_ret
     exact⟨by rw[HE.out];rfl,hl⟩
    ·have hx:=HX.out;rw[HGT.out.2.2.2]at hx;obtain rfl:z=3:=hz;clear HB HO;go_wp2
     go_ret
     exact⟨by rw[HE.out];rfl,hl⟩
   ·have HE:=Lib.hid (HO.out k HV.out (by omega));have HX:=Lib.hid hx;clear hx;rcases(by omega:k=0∨k=1∨k=2∨k=3)with rfl|rfl|rfl|rfl
    ·have hx:=HX.out;rw[HGT.out.1]at hx;obtain rfl:z=0:=hz;clear HB HO;go_wp2
     go_roundg 3
     case rel=>exact⟨1,1,by omega,rfl,rfl,rfl,HE.out,rfl⟩
     case measure=>have:=HG.out;omega
    ·have hx:=HX.out;rw[HGT.out.2.1]at hx;obtain rfl:z=1:=hz;clear HB HO;go_wp2
     go_roundg 2
     case rel=>exact⟨2,2,by omega,rfl,rfl,rfl,HE.out,rfl⟩
     case measure=>have:=HG.out;omega
    ·have hx:=HX.out;rw[HGT.out.2.2.1]at hx;obtain rfl:z=2:=hz;clear HB HO;go_wp2
     go_roundg 1
     case rel=>exact⟨3,3,by omega,rfl,rfl,rfl,HE.out,rfl⟩
     case measure=>have:=HG.out;omega
    ·have hx:=HX.out;rw[HGT.out.2.2.2]at hx;obtain rfl:z=3:=hz;clear HB HO;go_wp2
     go_roundg 0
     case rel=>exact⟨4,4,by omega,rfl,rfl,rfl,HE.out,rfl⟩
     case measure=>have:=HG.out;omega
  ·obtain rfl:k=4:=by omega
   obtain rfl:z=4:=hz;go_wp2
   go_ret
   exact⟨by rw[←HF.out,HV.out];rfl,hl⟩
end Go.Proofs.YtflikmojaidhhaaGreat
namespace Go.Proofs.YtflikmojaidhhaaGreat
open Go.RowKit Go.Maps
def WfI(x:Int):Prop:=-9223372036854775808≤x∧x≤9223372036854775807
def WfM(m:Mo):Prop:=WfI m.1∧WfI m.2.1∧WfI m.2.2.1∧WfI m.2.2.2
theorem qba{x:Int}(h:WfI x):(Lit.int .i64 x).wf=true:=by
 obtain⟨h1,h2⟩:=h;simp[Lit.wf,IntKind.min,IntKind.max,IntKind.signed,IntKind.bits];omega
theorem Tryz.laidOut:laidOutB Tryz.prog=true:=by kernel_rfl
theorem Tryz.rowMono:(113:TypeId)<Tryz.prog.types.size:=of_decide_eq_true (by kernel_rfl)
theorem Tryz.wideMono:(match Tryz.prog.underlying 113 with|some (.array _ _)|some (.struct _)=>true|_=>false)=true:=by rw[Tryz.underlying113]
set_option maxRecDepth 100000
theorem Tryz.keyAt2:Tryz.prog.keyTypeAt 2 113=true:=by kernel_rfl
theorem Tryz.lawMono:Keyed Tryz.prog 113:=Keyed.of_law (deep_law_laid Tryz.laidOut (m:=2) (by decide) Tryz.rowMono Tryz.keyAt2 Tryz.wideMono)
theorem Tryz.cellsMono:Tryz.prog.cellsOf 113=4:=by kernel_rfl
theorem Tryz.cellsI:Tryz.prog.cellsOf 3=1:=by kernel_rfl
theorem Tryz.keyTMono:Tryz.prog.keyType 113=true:=by kernel_rfl
theorem Tryz.zeroI(w:World):(zeroValue 3).run Tryz.prog w= .ok (.int .i64 0) w:=by kernel_rfl
theorem qlC{a n:Nat}(h:a<n):∃k,n=k+1:=⟨n-1,by omega⟩
theorem Tryz.typesPos:∃n,Tryz.prog.types.size=n+1:=qlC Tryz.rowMono
theorem qlG(m:Mo)(h:WfM m):∃l,keyOf Tryz.prog 113 (.agg (Jo m))=some l:=by
 obtain⟨h0,h1,h2,h3⟩:=h;have w0:=qba h0;have w1:=qba h1;have w2:=qba h2;have w3:=qba h3;obtain⟨n,hn⟩:=Tryz.typesPos;have hf:(Value.agg (Jo m)).formed Tryz.prog 113=true:=by simp[Value.formed,Tryz.underlying113,Tryz.cellsMono,Jo]
 have hr:List.range 4=[0,1,2,3]:=by decide
 refine⟨.string (keyBytes [.int .i64 m.1,.int .i64 m.2.1,.int .i64 m.2.2.1,.int .i64 m.2.2.2]),?_⟩;unfold keyOf;rw[Tryz.underlying113];simp only[Tryz.keyTMono,hf,Bool.and_self,if_true,Value.cells];unfold Jo;rw[hn];unfold Program.keyLits;rw[Tryz.underlying113];simp only[List.length_cons,List.length_nil,Tryz.cellsMono,Tryz.cellsI,hr];simp[Program.keyLits,Tryz.underlying3,w0,w1,w2,w3]
noncomputable def qcp(m:Mo):Lit:=(keyOf Tryz.prog 113 (.agg (Jo m))).getD .nil
theorem Yo{m:Mo}(h:WfM m):keyOf Tryz.prog 113 (.agg (Jo m))=some (qcp m):=by
 obtain⟨l,hl⟩:=qlG m h;rw[hl];simp[qcp,hl]
theorem qhN{m m':Mo}(h:WfM m)(h':WfM m')(e:qcp m=qcp m'):m=m':=by
 have h1:=Yo h;have h2:=Yo h';rw[e]at h1;have:=Tryz.lawMono.inj h1 h2;simp[Jo]at this;obtain⟨a,b,c,d⟩:=this;exact Prod.ext a (Prod.ext b (Prod.ext c d))
def yh(w:World)(b n:Nat)(f:Mo→Option Nat):Prop:=
 ∃D:DataW Unit,w.ownsMap Tryz.prog 113 (plainElem Tryz.prog 3) b n D∧IsMap D∧∀m,WfM m→Maps.has D (qcp m)=(f m).isSome∧D.atKey (qcp m) (.lit (.int .i64 0))= .lit (.int .i64 (((f m).getD 0:Nat):Int))
section
variable {w w':World} {b n:Nat} {f:Mo→Option Nat}
theorem qf8(w:World):yh (w.alloc (.map #[] 0)) w.heap.size 0 (fun _=>none):=
 ⟨.map [],World.ownsMap_made w Tryz.prog 113 _,isMap_empty,fun _ _=>⟨rfl,rfl⟩⟩
theorem yh.kept{row:Option Nat}(h:yh w b n f)(hg:w.grownBy w' row)(hne:some b≠row):yh w' b n f:=by
 obtain⟨D,h1,h2,h3⟩:=h;exact⟨D,h1.kept hg hne,h2,h3⟩
theorem yh.old(h:yh w b n f)(hb:Below w.heap.size w w'):yh w' b n f:=
 h.kept (row:=none) ⟨hb.os,hb.tape,hb.output,hb.size,fun k hk _=>hb.block k hk⟩ (by simp)
theorem yh.set_(h:yh w b n f){a:Addr}(ha:b≠a.block)(u:Value):yh (w.setCell a u) b n f:=by
 obtain⟨D,h1,h2,h3⟩:=h;exact⟨D,h1.setCell ha u,h2,h3⟩
theorem yh.drewN(h:yh w b n f)(k:Nat):yh (w.drewN k) b n f:=h.old ((qm.drewN w k).below _)
theorem yh.mono{n':Nat}(h:yh w b n f)(hn:n≤n'):yh w b n' f:=by obtain⟨D,h1,h2,h3⟩:=h;exact⟨D,h1.mono hn,h2,h3⟩
theorem yh.lt(h:yh w b n f):b<w.heap.size:=by obtain⟨D,h1,_⟩:=h;exact h1.lt
theorem yh.ne_blk(h:yh w b n f){g:Nat}{t:TypeId}{cs:Array Value}(hg:qd w g t cs):b≠g:=by
 rintro rfl;obtain⟨D,⟨es,cl,hb,_⟩,_⟩:=h;unfold qd at hg;rw[hb]at hg
 cases hg
theorem Q5{H:Type}{P:Program}{e:TypeId}(he:P.underlying e=some (.int .i64)){v:Value}{z:DataW H×List MemPlace}(h:plainElem P e v=some z):∃x,v= .int .i64 x∧z=(.lit (.int .i64 x),[]):=by
 unfold plainElem at h;rw[he]at h
 cases v<;>simp at h
 obtain⟨⟨rfl,_⟩,h⟩:=h;exact⟨_,rfl,h.symm⟩
theorem yh.look(h:yh w b n f){m:Mo}(hm:WfM m):(Instr.lookup 157 (.map (some b)) (.agg (Jo m)) true).run Tryz.prog w= .ok (.tuple #[.int .i64 (((f m).getD 0:Nat):Int),.bool (f m).isSome]) w:=by
 obtain⟨D,h1,h2,h3⟩:=h;have hz:plainElem (H:=Unit) Tryz.prog 3 (.int .i64 0)=some (.lit (.int .i64 0),[]):=plainElem_int Tryz.underlying3 (qba ⟨by omega,by omega⟩);obtain⟨v,ps,hrun,hv⟩:=h1.look_ok Tryz.lawMono Tryz.underlying157 (Tryz.zeroI w) hz (Yo hm);obtain⟨x,rfl,hx⟩:=Q5 Tryz.underlying3 hv;obtain⟨e1,e2⟩:=h3 m hm;rw[e2]at hx
 injection hx with hx _
 injection hx with hx
 injection hx with _ hx
 rw[hrun,e1,hx]
theorem yh.store(h:yh w b n f){m:Mo}(hm:WfM m)(hn:n<maxLen)(i:Nat)(hi:i<1000000):∃w',(Instr.mapUpdate 157 (.map (some b)) (.agg (Jo m)) (.int .i64 (i:Int))).run Tryz.prog w= .ok () w'∧yh w' b (n+1) (fun x=>if x=m then some i else f x)∧w.grownBy w' (some b):=by
 obtain⟨D,h1,h2,h3⟩:=h;have hz:plainElem (H:=Unit) Tryz.prog 3 (.int .i64 (i:Int))=some (.lit (.int .i64 (i:Int)),[]):=plainElem_int Tryz.underlying3 (qba ⟨by omega,by omega⟩);obtain⟨w',hrun,hown,ht⟩:=h1.store Tryz.lawMono Tryz.underlying157 hn (Yo hm) hz;refine⟨w',hrun,⟨_,hown,h2.put _ _,fun x hx=>?_⟩,ht.grown⟩;by_cases e:x=m
 ·subst e;have hkl:WideAt.IsKeyLit (qcp x):=Tryz.lawMono.key (Yo hm);rw[has_put_same h2 hkl,atKey_put_same h2 hkl];simp
 ·have hne:qcp x≠qcp m:=fun k=>e (qhN hx hm k);rw[has_put_other hne,atKey_put_other hne];simp only[if_neg e];exact h3 x hx
end
end Go.Proofs.YtflikmojaidhhaaGreat
namespace Go.Proofs.YtflikmojaidhhaaGreat
open Go.RowKit
structure PT where
 ng:Bool
 ds:List Nat
 A:Option Addr
 c:Nat
 m:Mo
instance:Inhabited PT:=⟨⟨false,[],none,0,(0,0,0,0)⟩⟩
def PT.tm(p:PT):Tm:=(qb p.ng p.ds,p.m)
def PT.cells(p:PT):List Value:=[.bool p.ng,.slice p.A p.ds.length p.c,.int .i64 p.m.1,.int .i64 p.m.2.1,.int .i64 p.m.2.2.1,.int .i64 p.m.2.2.2]
def ZR(z:Int)(A:Option Addr)(c:Nat)(m:Mo):PT:=⟨decide (z<0),dig z.natAbs,A,c,m⟩
def Cn(p:PT):Prop:=∃z,p=ZR z p.A p.c p.m
theorem q7(z:Int):qb (decide (z<0)) (dig z.natAbs)=z:=by
 unfold qb;rw[qp];by_cases h:z<0<;>simp[h]<;>omega
theorem yT(z:Int)(A:Option Addr)(c:Nat)(m:Mo):(ZR z A c m).tm=(z,m):=by simp[ZR,PT.tm,q7]
theorem Cn.eq{p:PT}(h:Cn p):p=ZR p.tm.1 p.A p.c p.m:=by
 obtain⟨z,hz⟩:=h;have:p.tm.1=z:=by rw[hz,yT]
 rw[this];exact hz
theorem Cn.ng{p:PT}(h:Cn p):p.ng=decide (p.tm.1<0):=by
 have e:=congrArg PT.ng h.eq;exact e
theorem Cn.ds{p:PT}(h:Cn p):p.ds=dig p.tm.1.natAbs:=by
 have e:=congrArg PT.ds h.eq;exact e
theorem qaA(z:Int)(A:Option Addr)(c:Nat)(m:Mo):Cn (ZR z A c m):=⟨z,rfl⟩
theorem qdB(ps:List PT):(ps.flatMap PT.cells).length=ps.length*6:=by
 induction ps with
 |nil=>rfl
 |cons p ps ih=>rw[List.flatMap_cons,List.length_append,ih];simp[PT.cells];omega
theorem yk(ps:List PT)(i j:Nat)(p:PT)(hi:ps[i]? =some p)(hj:j<6):(ps.flatMap PT.cells)[i*6+j]? =p.cells[j]?:=by
 induction ps generalizing i with
 |nil=>simp at hi
 |cons q ps ih=>
  rw[List.flatMap_cons]
  match i,hi with
  |0,hi=>
   simp at hi;subst hi;rw[List.getElem?_append_left (by simp[PT.cells];omega)];simp
  |i+1,hi=>
   rw[List.getElem?_append_right (by simp[PT.cells];omega)];have:=ih i (by simpa using hi);rw[←this]
   congr 1
   simp[PT.cells];omega
theorem qgD(ps:List PT):∀u∈ps.flatMap PT.cells,u.oneCell'=true:=by
 intro u hu;obtain⟨p,_,hp⟩:=List.mem_flatMap.1 hu;simp[PT.cells]at hp;rcases hp with rfl|rfl|rfl|rfl|rfl|rfl<;>rfl
structure jE (w:World) (B:Nat) (A:Option Addr) (ps:List PT):Prop where
 rd:qi w B 6 A ps.length (ps.flatMap PT.cells)
 nt:∀p∈ps,qh w B p.A p.c p.ds
theorem jE.below{w w':World}{B:Nat}{A:Option Addr}{ps:List PT}(h:jE w B A ps)(hb:Below B w w'):jE w' B A ps:=⟨h.rd.below hb,fun p hp=>(h.nt p hp).below hb⟩
theorem jE.more{w:World}{B B':Nat}{A:Option Addr}{ps:List PT}(h:jE w B A ps)(hB:B≤B'):jE w B' A ps:=⟨h.rd.more hB,fun p hp=>(h.nt p hp).more hB⟩
theorem jE.old{w w':World}{A:Option Addr}{ps:List PT}(h:jE w w.heap.size A ps)(hb:Below w.heap.size w w'):jE w' w'.heap.size A ps:=(h.below hb).more hb.size
theorem jE.at_{w:World}{B:Nat}{A:Option Addr}{ps:List PT}(h:jE w B A ps){k:Nat}{p:PT}(hk:ps[k]? =some p):
 ∃b o,A=some ⟨b,o,none⟩∧b<B∧w.cell? ⟨b,o+k*6,none⟩=some (.bool p.ng)∧w.cell? ⟨b,o+k*6+1,none⟩=some (.slice p.A p.ds.length p.c)∧
  w.cell? ⟨b,o+k*6+2,none⟩=some (.int .i64 p.m.1)∧w.cell? ⟨b,o+k*6+3,none⟩=some (.int .i64 p.m.2.1)∧w.cell? ⟨b,o+k*6+4,none⟩=some (.int .i64 p.m.2.2.1)∧w.cell? ⟨b,o+k*6+5,none⟩=some (.int .i64 p.m.2.2.2):=by
 have hl:k<ps.length:=(List.getElem?_eq_some_iff.1 hk).1;obtain⟨b,o,e,hb,hc⟩:=h.rd.2 (by omega);have f:=fun j hj u (hu:p.cells[j]? =some u)=>hc (k*6+j) u ((yk ps k j p hk hj).trans hu);exact⟨b,o,e,hb,f 0 (by omega) _ rfl,f 1 (by omega) _ rfl,f 2 (by omega) _ rfl,f 3 (by omega) _ rfl,f 4 (by omega) _ rfl,f 5 (by omega) _ rfl⟩
def pw(k:Nat):Nat:=4294967296^k
def Big:Nat:=pw 600
theorem zK{v k:Nat}(h:v<pw k):(dig v).length≤k:=qC (n:=k) h
theorem zX{v:Nat}(h:v<Big):(dig v).length≤600:=zK h
def Q3(ps:List PT)(f:Mo→Option Nat):Prop:=(∀m i,f m=some i→∃p,ps[i]? =some p∧p.m=m)∧∀m,f m=none→∀p∈ps,p.m≠m
structure GAt (w:World) (base g mb:Nat) (v:Value) (ps:List PT):Prop where
 gb:qd w g 159 #[.map (some mb),v]
 mp:∃f,yh w mb ps.length f∧Q3 ps f
 row:w.ownsRow base 137 6 v ps.length (ps.flatMap PT.cells)
 dg:∀p∈ps,qk w p.A p.ds∧p.ds.length≤p.c
 cn:∀p∈ps,Cn p
 lg:base≤g
 lm:base≤mb
structure ja (base:Nat) (w w':World):Prop where
 below:Below base w w'
 far:∀k t cs,qd w k t cs→t≠159→t≠137→qd w' k t cs
theorem ja.refl(base:Nat)(w:World):ja base w w:=⟨Below.refl _ _,fun _ _ _ h _ _=>h⟩
theorem ja.trans{base:Nat}{a b c:World}(h:ja base a b)(k:ja base b c):ja base a c:=⟨h.below.trans k.below,fun x t cs hx h1 h2=>k.far x t cs (h.far x t cs hx h1 h2) h1 h2⟩
theorem ja.of_below{base:Nat}{w w':World}(hb:base≤w.heap.size)(h:Below w.heap.size w w'):ja base w w':=⟨h.mono hb,fun _ _ _ k _ _=>k.old h⟩
theorem ja.natB{base:Nat}{w w':World}(h:ja base w w'){A:Option Addr}{ds:List Nat}(k:qk w A ds):qk w' A ds:=k.keep fun g cs hb=>h.far g _ cs hb (by decide) (by decide)
theorem ja.set_g{base:Nat}{w:World}{g o:Nat}{cs:Array Value}(hb:base≤g)(hg:qd w g 159 cs)(u:Value):ja base w (w.setCell ⟨g,o,none⟩ u):=
 ⟨(Below.refl base w).setCell hb u,fun k t cs' h h1 _=>h.far (by
   rintro rfl;unfold qd at h hg;rw[h]at hg
   injection hg with hg
   injection hg with _ e
   exact h1 e) u⟩
theorem ja.set_t{base:Nat}{w:World}{g o:Nat}{cs:Array Value}(hb:base≤g)(hg:qd w g 137 cs)(u:Value):ja base w (w.setCell ⟨g,o,none⟩ u):=
 ⟨(Below.refl base w).setCell hb u,fun k t cs' h _ h2=>h.far (by
   rintro rfl;unfold qd at h hg;rw[h]at hg
   injection hg with hg
   injection hg with _ e
   exact h2 e) u⟩
theorem zZ{w:World}{base n size:Nat}{e t:TypeId}{v:Value}{xs:List Value}(h:w.ownsRow base e size v n xs){k:Nat}{cs:Array Value}(hk:qd w k t cs)(hne:t≠e):some k≠v.ownBlock:=qF h hk (Ne.symm hne)
theorem ja.grown{base:Nat}{w w':World}{v:Value}{n:Nat}{xs:List Value}(hb:base≤w.heap.size)(hown:w.ownsRow base 137 6 v n xs)(hg:w.grownBy w' v.ownBlock):ja base w w':=by
 refine⟨(Below.refl base w).grown hg hb ?_,fun k t cs h _ h2=>h.grown hg (zZ hown h h2)⟩;intro k hk;rcases hown.2 with⟨rfl,_⟩|⟨g',cap,cur,rfl,h1,_⟩
 ·simp[Value.ownBlock]at hk
 ·simp[Value.ownBlock]at hk;omega
theorem ja.map_{base:Nat}{w w':World}{b n:Nat}{f:Mo→Option Nat}(hb:base≤w.heap.size)(hm:yh w b n f)(hlb:base≤b)(hg:w.grownBy w' (some b)):ja base w w':=by
 refine⟨(Below.refl base w).grown hg hb (fun k hk=>by injection hk with hk;omega),fun k t cs h _ _=>h.grown hg (fun e=>?_)⟩
 injection e with e
 exact hm.ne_blk h e.symm
open Go.RowKit
attribute [local go_sem ↓] Go.wp_at_zero Go.wp_at_succ
theorem GAt.new(w:World):GAt ((w.alloc (.map #[] 0)).alloc (.cells #[.map (some w.heap.size),.slice none 0 0] 159)) w.heap.size (w.heap.size+1) w.heap.size (.slice none 0 0) [] where
 gb:=by have:=qd.new (w.alloc (.map #[] 0)) 159 #[.map (some w.heap.size),.slice none 0 0];simpa using this
 mp:=⟨_,(qf8 w).old ((Below.refl _ _).alloc (Nat.le_refl _) _),fun m i h=>by simp at h,fun m _ p hp=>by simp at hp⟩
 row:=⟨by simp,.inl ⟨rfl,rfl⟩⟩
 dg p hp:=by simp at hp
 cn p hp:=by simp at hp
 lg:=by omega
 lm:=Nat.le_refl _
def qlr(w:World)(e:Ending)(w':World):Prop:=∃g mb,e= .returned (.pointer (some ⟨g,0,none⟩))∧GAt w' w.heap.size g mb (.slice none 0 0) []∧Below w.heap.size w w'
theorem qhw(w:World):Calls Tryz.prog 108 #[] w (qlr w):=by
 have hmm:=@run_makeMap Tryz.prog;have hg:=Lib.hid (GAt.new w);have hb:=Lib.hid (((Below.refl w.heap.size w).alloc (Nat.le_refl _) (.map #[] 0)).alloc (by simp) (.cells #[.map (some w.heap.size),.slice none 0 0] 159));go_enter Tryz.func108,Tryz.ntmps108
 go_wp2
 go_ret
 exact⟨_,_,rfl,hg.out,hb.out⟩
def qk0(g:Nat)(v v':Value)(w w':World):Prop:=∀k t cs,qd w k t cs→k≠g→v.ownBlock≠some k→qd w' k t cs∧v'.ownBlock≠some k
def Jk(mb:Nat)(w w':World):Prop:=∀(k:Nat)(o:Obj),w.heap[k]? =some o→o.isCells=false→k≠mb→w'.heap[k]? =some o
section
variable {mb:Nat} {w V V':World}
theorem Jk.of_below(h:Below w.heap.size w V):Jk mb w V:=fun k _ hk _ _=>(h.block k (Array.getElem?_eq_some_iff.1 hk).1).trans hk
theorem Jk.below(h:Jk mb w V)(hb:Below V.heap.size V V'):Jk mb w V':=fun k o hk ho hm=>(hb.block k (Array.getElem?_eq_some_iff.1 (h k o hk ho hm)).1).trans (h k o hk ho hm)
theorem Jk.alloc(h:Jk mb w V)(o:Obj):Jk mb w (V.alloc o):=h.below ((Below.refl _ _).alloc (Nat.le_refl _) _)
theorem Jk.set(h:Jk mb w V){g:Nat}{t:TypeId}{cs:Array Value}(hb:qd V g t cs)(i:Nat)(u:Value):Jk mb w (V.setCell ⟨g,i,none⟩ u):=fun k o hk ho hm=>by
 have h1:=h k o hk ho hm;have hne:k≠g:=by
  rintro rfl;unfold qd at hb;rw[hb]at h1
  cases h1
  cases ho
 exact(Below.heap_setCell V ⟨g,i,none⟩ u k hne).trans h1
theorem Jk.map_(h:Jk mb w V)(hg:V.grownBy V' (some mb)):Jk mb w V':=fun k o hk ho hm=>
 (hg.block k (Array.getElem?_eq_some_iff.1 (h k o hk ho hm)).1 (fun e=>hm (by injection e))).trans (h k o hk ho hm)
theorem Jk.own(h:Jk mb w V){base n size:Nat}{e:TypeId}{v:Value}{xs:List Value}(hg:V.grownBy V' v.ownBlock)(hr:V.ownsRow base e size v n xs):Jk mb w V':=fun k o hk ho hm=>by
 have h1:=h k o hk ho hm;refine(hg.block k (Array.getElem?_eq_some_iff.1 h1).1 (fun e'=>?_)).trans h1;rcases hr.2 with⟨rfl,_⟩|⟨g',cap,cur,rfl,_,hh,_⟩
 ·simp[Value.ownBlock]at e'
 ·have:k=g':=by simpa[Value.ownBlock]using e'
  subst this;rw[hh]at h1
  cases h1
  cases ho
end
def YL(base g mb:Nat)(v0:Value)(ts:List Tm)(w:World)(e:Ending)(w':World):Prop:=
 e= .returned (.tuple #[])∧∃v ps,GAt w' base g mb v ps∧zB ts (ps.map PT.tm)∧ja base w w'∧qk0 g v0 v w w'∧Jk mb w w'
theorem GAt.old{w w':World}{base g mb:Nat}{v:Value}{ps:List PT}(h:GAt w base g mb v ps)(hb:Below w.heap.size w w'):GAt w' base g mb v ps where
 gb:=h.gb.old hb
 mp:=by obtain⟨f,h1,h2⟩:=h.mp;exact⟨f,h1.old hb,h2⟩
 row:=h.row.kept ⟨hb.os,hb.tape,hb.output,hb.size,fun k hk _=>hb.block k hk⟩ (row:=none) (by cases v.ownBlock<;>simp)
 dg p hp:=⟨(h.dg p hp).1.old hb,(h.dg p hp).2⟩
 cn:=h.cn
 lg:=h.lg
 lm:=h.lm
set_option maxHeartbeats 1000000
theorem qix(base g mb:Nat)(v:Value)(ts:List Tm)(ps:List PT)(m:Mo)(ng:Bool)(A:Option Addr)(c:Nat)(ds:List Nat)(w:World)(hG:GAt w base g mb v ps)(hI:zB ts (ps.map PT.tm))(hb:base≤w.heap.size)(hv:yH m=false):
 Calls Tryz.prog 109 #[.pointer (some ⟨g,0,none⟩),.agg (Jo m),.agg #[.bool ng,.slice A ds.length c]] w (YL base g mb v (ts++[(qb ng ds,m)]) w):=by
 have HI:=Lib.hid (hI.skip hv (qb ng ds));have hn:=fun W=>qb4 m W;rw[hv]at hn;generalize ts++[(qb ng ds,m)]=ts' at*;have HN:=Lib.hid hn;clear hv hI;have HX:=Lib.hid (qK w 113 25 (Jo m) #[.bool ng,.slice A ds.length c]);clear hn;unfold Jo at*;generalize m.1=m0 at*;generalize m.2.1=m1 at*;generalize m.2.2.1=m2 at*;generalize m.2.2.2=m3 at*;go_enter Tryz.func109,Tryz.ntmps109
 go_wp2_with fail
 generalize (w.alloc (.cells #[.int .i64 m0,.int .i64 m1,.int .i64 m2,.int .i64 m3] 113)).alloc (.cells #[.bool ng,.slice A ds.length c] 25)=W at*;obtain⟨hb0,k0,k1,hs⟩:=HX.out;clear hs HX;refine(HN.out _).mono ?_;rintro e W1 ⟨rfl,hl⟩;have hlb:=hb0.trans (hl.below.mono hb0.size);go_wp2_with fail
 go_end0
 exact⟨rfl,v,ps,hG.old hlb,HI.out,.of_below hb hlb,fun k t cs h1 _ h3=>⟨h1.old hlb,h3⟩,.of_below hlb⟩
open Go.RowKit
theorem qdX(ps:List PT)(i:Nat)(p q:PT)(hi:ps[i]? =some p)(hm:q.m=p.m):(ps.set i q).flatMap PT.cells=((ps.flatMap PT.cells).set (i*6) (.bool q.ng)).set (i*6+1) (.slice q.A q.ds.length q.c):=by
 induction ps generalizing i with
 |nil=>simp at hi
 |cons r ps ih=>
  match i,hi with
  |0,hi=>
   simp at hi;subst hi;simp[PT.cells,hm]
  |i+1,hi=>
   have h:=ih i (by simpa using hi);have e1:(i+1)*6=i*6+6:=by omega
   simp only[List.set_cons_succ,List.flatMap_cons,h,e1];have e2:i*6+6+1=i*6+1+6:=by omega
   rw[e2];simp[PT.cells]
theorem ZG{w:World}{base n size cap rb:Nat}{e:TypeId}{xs:List Value}(h:w.ownsRow base e size (.slice (some ⟨rb,0,none⟩) n cap) n xs)(k:Nat)(u:Value):
 (w.setCell ⟨rb,k,none⟩ u).ownsRow base e size (.slice (some ⟨rb,0,none⟩) n cap) n (xs.set k u):=by
 obtain⟨hl,h⟩:=h;refine⟨by simpa using hl,.inr ?_⟩;rcases h with⟨h,_⟩|⟨g,cap',cur,hv,hb,hh,h1,h2,h3,h4⟩
 ·cases h
 ·injection hv with hv _ hc
  injection hv with hv
  injection hv with hv
  subst hv;subst hc;have hblk:qd w rb e cur:=hh;refine⟨rb,cap,cur.setIfInBounds k u,rfl,hb,hblk.set_ k u,h1,h2,by simpa using h3,?_⟩;rw[←h4];simp[List.take_set]
theorem jx{w:World}{base n size cap rb:Nat}{e:TypeId}{xs:List Value}(h:w.ownsRow base e size (.slice (some ⟨rb,0,none⟩) n cap) n xs):∃cur,qd w rb e cur∧base≤rb∧n≤cap∧∀(j:Nat)(u:Value),xs[j]? =some u→cur[j]? =some u:=by
 obtain⟨hl,h⟩:=h;rcases h with⟨h,_⟩|⟨g,cap',cur,hv,hb,hh,h1,h2,h3,h4⟩
 ·cases h
 ·injection hv with hv _ hc
  injection hv with hv
  injection hv with hv
  subst hv;subst hc;refine⟨cur,hh,hb,h1,fun j u hu=>?_⟩;rw[←h4,List.getElem?_take]at hu
  split at hu
  ·simpa using hu
  ·cases hu
theorem Q3.set{ps:List PT}{f:Mo→Option Nat}(h:Q3 ps f){i:Nat}{p q:PT}(hi:ps[i]? =some p)(hm:q.m=p.m):Q3 (ps.set i q) f:=by
 refine⟨fun m j hj=>?_,fun m hm' r hr=>?_⟩
 ·obtain⟨r,hr,e⟩:=h.1 m j hj;by_cases hij:i=j
  ·subst hij;have hlt:i<ps.length:=(List.getElem?_eq_some_iff.1 hi).1;rw[hi]at hr
   injection hr with hr
   subst hr;exact⟨q,by simp[hlt],hm.trans e⟩
  ·exact⟨r,by simp[hij,hr],e⟩
 ·rcases List.mem_or_eq_of_mem_set hr with k|k
  ·exact h.2 m hm' r k
  ·subst k;rw[hm];exact h.2 m hm' p (List.mem_of_getElem? hi)
theorem GAt.upd_len{ps:List PT}{i:Nat}{p:PT}(hi:ps[i]? =some p):i<ps.length:=(List.getElem?_eq_some_iff.1 hi).1
theorem GAt.upd{w:World}{base g mb rb cap:Nat}{v:Value}{ps:List PT}(h:GAt w base g mb v ps)(hv:v= .slice (some ⟨rb,0,none⟩) ps.length cap){i:Nat}{p:PT}(hi:ps[i]? =some p)(z:Int)(A:Option Addr)(c:Nat)(hn:qk w A (dig z.natAbs))(hc:(dig z.natAbs).length≤c):
 GAt ((w.setCell ⟨rb,i*6,none⟩ (.bool (decide (z<0)))).setCell ⟨rb,i*6+1,none⟩ (.slice A (dig z.natAbs).length c)) base g mb v (ps.set i (ZR z A c p.m))∧
  ja base w ((w.setCell ⟨rb,i*6,none⟩ (.bool (decide (z<0)))).setCell ⟨rb,i*6+1,none⟩ (.slice A (dig z.natAbs).length c)):=by
 subst hv;obtain⟨cur,hk,hbr,_,_⟩:=jx h.row;have hk':=hk.set_ (i*6) (.bool (decide (z<0)));have ht:ja base w ((w.setCell ⟨rb,i*6,none⟩ (.bool (decide (z<0)))).setCell ⟨rb,i*6+1,none⟩ (.slice A (dig z.natAbs).length c)):=(ja.set_t hbr hk _).trans (ja.set_t hbr hk' _);have hgr:g≠rb:=by
  rintro rfl;have:=h.gb;unfold qd at this hk;rw[hk]at this
  injection this with this
  injection this with _ e
  exact absurd e (by decide)
 refine⟨⟨?_,?_,?_,?_,?_,h.lg,h.lm⟩,ht⟩
 ·exact(h.gb.far hgr _).far hgr _
 ·obtain⟨f,h1,h2⟩:=h.mp;have hne:=h1.ne_blk hk;exact⟨f,by rw[List.length_set];exact(h1.set_ hne _).set_ hne _,h2.set hi rfl⟩
 ·rw[qdX ps i p (ZR z A c p.m) hi rfl,List.length_set];exact ZG (ZG h.row _ _) _ _
 ·intro q hq;rcases List.mem_or_eq_of_mem_set hq with k|k
  ·exact⟨ht.natB (h.dg q k).1,(h.dg q k).2⟩
  ·subst k;exact⟨ht.natB hn,hc⟩
 ·intro q hq;rcases List.mem_or_eq_of_mem_set hq with k|k
  ·exact h.cn q k
  ·subst k;exact qaA _ _ _ _
theorem qV{w:World}{A:Option Addr}{c:Nat}{v:Nat}(h:qk w A (dig v))(hc:(dig v).length≤c):qh w w.heap.size A c (dig v):=⟨h.reads,qu v,hc⟩
theorem GAt.nin{w:World}{base g mb:Nat}{v:Value}{ps:List PT}(h:GAt w base g mb v ps){p:PT}(hp:p∈ps):qh w w.heap.size p.A p.c p.ds:=by
 obtain⟨h1,h2⟩:=h.dg p hp;have e:=(h.cn p hp).ds;exact⟨h1.reads,by rw[e];exact qu _,h2⟩
end Go.Proofs.YtflikmojaidhhaaGreat
namespace Go.Proofs.YtflikmojaidhhaaGreat
open Go.RowKit
theorem qf6(m:Mo)(x y:Int):∀i:Nat,js (js m i x) i y=js m i y
 |0=>rfl
 |1=>rfl
 |2=>rfl
 |_+3=>rfl
def PT.key(p:PT):(Bool×List Nat)×Mo:=((p.ng,p.ds),p.m)
theorem qci(t:RP)(m:Mo):ji t m=if t.lv≤0 then[((t.ng,t.ds),m)]else if 4<t.lv then[]else qX (t.lv.toNat-1) t.ks m (Za m (t.lv.toNat-1)):=by
 cases t
 rw[ji];rfl
theorem Zn(i:Nat):∀(ts us:List RP)(m:Mo)(e:Int),qX i (ts++us) m e=qX i ts m e++qX i us m (e+ts.length)
 |[],us,m,e=>by simp[qX]
 |t::ts,us,m,e=>by
  simp only[List.cons_append,qX,Zn i ts us,List.append_assoc,List.length_cons];rw[show e+1+(ts.length:Int)=e+((ts.length+1:Nat):Int)by omega]
theorem qgc{i:Nat}{ts:List RP}{k:Nat}{u:RP}(h:ts[k]? =some u)(m:Mo)(e:Int):qX i (ts.take (k+1)) m e=qX i (ts.take k) m e++ji u (js m i (e+k)):=by
 have hl:k<ts.length:=(List.getElem?_eq_some_iff.1 h).1;have e1:ts[k]=u:=(List.getElem?_eq_some_iff.1 h).2;rw[List.take_succ_eq_append_getElem hl,Zn,e1,List.length_take,Nat.min_eq_left (by omega)];simp[qX]
mutual
theorem Qa:∀(t:RP)(m:Mo),(ji t m).length≤yj t
 | .mk l g ds ks,m=>by
   simp only[ji,yj]
   split
   ·simp
   ·split
    ·simp
    ·have:=qad (l.toNat-1) ks m (Za m (l.toNat-1));omega
theorem qad(i:Nat):∀(ts:List RP)(m:Mo)(e:Int),(qX i ts m e).length≤zC ts
 |[],m,e=>by simp[qX]
 |t::ts,m,e=>by
  have h1:=Qa t (js m i e);have h2:=qad i ts m (e+1);simp only[qX,zC,List.length_append];omega
end
theorem qga{ts:List RP}{k:Nat}{u:RP}(h:ts[k]? =some u):zC (ts.take k)+yj u≤zC ts:=by
 induction ts generalizing k with
 |nil=>simp at h
 |cons t ts ih=>
  cases k with
  |zero=>
   simp at h;subst h;simp[zC]
  |succ k=>
   have:=ih (k:=k) (by simpa using h);simp only[List.take_succ_cons,zC];omega
theorem qb5(t:RP):yj t=zC t.ks+1:=by
 cases t
 rw[yj];rfl
def zm(m:Mo)(X:Int):Prop:=(0≤m.1∧m.1≤X)∧(0≤m.2.1∧m.2.1≤X)∧(0≤m.2.2.1∧m.2.2.1≤X)∧(0≤m.2.2.2∧m.2.2.2≤X)
theorem zm.at_{m:Mo}{X:Int}(h:zm m X)(i:Nat):0≤Za m i∧Za m i≤X:=by
 obtain⟨h0,h1,h2,h3⟩:=h;unfold Za
 split<;>assumption
theorem zm.set{m:Mo}{X Y:Int}(h:zm m X)(i:Nat){x:Int}(h0:0≤x)(h1:x≤Y)(hXY:X≤Y):zm (js m i x) Y:=by
 obtain⟨⟨a0,b0⟩,⟨a1,b1⟩,⟨a2,b2⟩,⟨a3,b3⟩⟩:=h;unfold js zm
 split<;>(simp only[];omega)
theorem qkm(m:Mo)(i:Nat)(hi:i<4)(x:Int):(Jo m).setIfInBounds i (.int .i64 x)=Jo (js m i x):=by
 rcases(by omega:i=0∨i=1∨i=2∨i=3)with rfl|rfl|rfl|rfl<;>rfl
theorem qe1(m:Mo)(i:Nat)(hi:i<4):(Jo m)[i]? =some (.int .i64 (Za m i)):=by
 rcases(by omega:i=0∨i=1∨i=2∨i=3)with rfl|rfl|rfl|rfl<;>rfl
theorem qkn{w:World}{base n size g o:Nat}{e:TypeId}{v:Value}{xs:List Value}(h:w.ownsRow base e size v n xs)(hne:v.ownBlock≠some g)(u:Value):(w.setCell ⟨g,o,none⟩ u).ownsRow base e size v n xs:=by
 obtain⟨hl,h⟩:=h;refine⟨hl,?_⟩;rcases h with h|⟨r,cap,cur,rfl,hb,hh,h1,h2,h3,h4⟩
 ·exact .inl h
 ·refine .inr ⟨r,cap,cur,rfl,hb,?_,h1,h2,h3,h4⟩;have:r≠g:=fun e=>hne (by simp[Value.ownBlock,e]);exact(Below.heap_setCell w ⟨g,o,none⟩ u r this).trans hh
theorem qJ{w:World}{base n size:Nat}{e:TypeId}{v:Value}{xs:List Value}(h:w.ownsRow base e size v n xs):∃A cap,v= .slice A n cap:=by
 rcases h.2 with⟨rfl,rfl⟩|⟨g,cap,cur,rfl,_⟩
 ·exact⟨_,_,rfl⟩
 ·exact⟨_,_,rfl⟩
theorem qQ{w w':World}{base n size:Nat}{e:TypeId}{v:Value}{xs:List Value}(h:w.ownsRow base e size v n xs)(hb:Below w.heap.size w w'):w'.ownsRow base e size v n xs:=
 h.kept ⟨hb.os,hb.tape,hb.output,hb.size,fun k hk _=>hb.block k hk⟩ (row:=none) (by cases v.ownBlock<;>simp)
theorem Q3.snoc{ps:List PT}{f:Mo→Option Nat}(h:Q3 ps f)(q:PT):Q3 (ps++[q]) (fun x=>if x=q.m then some ps.length else f x):=by
 refine⟨fun m i hi=>?_,fun m hm p hp=>?_⟩
 ·simp only at hi;by_cases e:m=q.m
  ·rw[if_pos e]at hi
   injection hi with hi
   subst hi;exact⟨q,by simp,e.symm⟩
  ·rw[if_neg e]at hi;obtain⟨p,hp,k⟩:=h.1 m i hi;exact⟨p,by rw[List.getElem?_append_left (List.getElem?_eq_some_iff.1 hp).1];exact hp,k⟩
 ·simp only at hm;by_cases e:m=q.m
  ·rw[if_pos e]at hm;cases hm
  ·rw[if_neg e]at hm;rcases List.mem_append.1 hp with k|k
   ·exact h.2 m hm p k
   ·simp at k;subst k;exact fun x=>e x.symm
theorem qao{w:World}{b n:Nat}{f:Mo→Option Nat}(h:yh w b n f){base k size:Nat}{e:TypeId}{v:Value}{xs:List Value}(ho:w.ownsRow base e size v k xs):some b≠v.ownBlock:=by
 rcases ho.2 with⟨rfl,_⟩|⟨g,cap,cur,rfl,_,hh,_⟩
 ·simp[Value.ownBlock]
 ·intro he;have e1:b=g:=by simpa[Value.ownBlock]using he
  exact h.ne_blk (show qd w g e cur from hh) e1
theorem Q4:(159:TypeId)≠137:=by decide
theorem qdH{w:World}{b n:Nat}{f:Mo→Option Nat}(h:yh w b n f)(o:Nat):w.cell? ⟨b,o,none⟩=none:=by
 obtain⟨D,⟨es,cl,hb,_⟩,_⟩:=h;simp[World.cell?,hb]
theorem qh.map_{w w':World}{B c b n:Nat}{A:Option Addr}{ds:List Nat}{f:Mo→Option Nat}(h:qh w B A c ds)(hB:B≤w.heap.size)(hm:yh w b n f)(hg:w.grownBy w' (some b)):qh w' B A c ds:=by
 refine⟨⟨h.rd.1,fun hp=>?_⟩,h.dg,h.cap⟩;obtain⟨b',o,e,hb,hc⟩:=h.rd.2 hp;refine⟨b',o,e,hb,fun j u hu=>?_⟩;have h1:=hc j u hu;have hne:b'≠b:=by
  rintro rfl;rw[qdH hm]at h1
  cases h1
 exact(World.cell?_of_block (hg.block b' (by omega) (fun e=>hne (by injection e)))).trans h1
theorem YD(ps:List PT)(q:PT):(ps++[q]).flatMap PT.cells=ps.flatMap PT.cells++q.cells:=by simp
theorem qhz{X w4:World}{base g mb:Nat}{v v':Value}{ps:List PT}{q:PT}{f:Mo→Option Nat}(hbs:base≤X.heap.size)(hlg:base≤g)(hlm:base≤mb)(gb:qd X g 159 #[.map (some mb),v])(mp:yh X mb (ps.length+1) f)(hix:Q3 (ps++[q]) f)
 (row:X.ownsRow base 137 6 v ps.length (ps.flatMap PT.cells))(dg:∀p∈ps,qk X p.A p.ds∧p.ds.length≤p.c)(cn:∀p∈ps,Cn p)(hq:qk X q.A q.ds)(hqc:q.ds.length≤q.c)(hqn:Cn q)(o:Obj)
 (hown:w4.ownsRow base 137 6 v' (ps.length+1) (ps.flatMap PT.cells++q.cells))(hg:(X.alloc o).grownBy w4 v.ownBlock):
 GAt (w4.setCell ⟨g,1,none⟩ v') base g mb v' (ps++[q])∧ja base X (w4.setCell ⟨g,1,none⟩ v'):=by
 have hba:Below X.heap.size X (X.alloc o):=(Below.refl _ X).alloc (Nat.le_refl _) o;have row1:=qQ row hba;have gb1:=gb.old hba;have gb4:=gb1.grown hg (zZ row1 gb1 (by decide));have mp1:=mp.old hba;have mp4:=mp1.kept hg (qao mp1 row1);have t1:ja base X (X.alloc o):= .of_below hbs hba;have t2:ja base (X.alloc o) w4:= .grown (Nat.le_trans hbs hba.size) row1 hg;have t3:ja base w4 (w4.setCell ⟨g,1,none⟩ v'):= .set_g hlg gb4 v';have t:=(t1.trans t2).trans t3;have hne:v'.ownBlock≠some g:=fun e=>zZ hown gb4 (by decide) e.symm;refine⟨⟨gb4.set_ 1 v',?_,?_,?_,?_,hlg,hlm⟩,t⟩
 ·exact⟨f,by rw[List.length_append];exact mp4.set_ (mp4.ne_blk gb4) v',hix⟩
 ·rw[YD,List.length_append];exact qkn hown hne v'
 ·intro p hp;rcases List.mem_append.1 hp with k|k
  ·exact⟨t.natB (dg p k).1,(dg p k).2⟩
  ·simp at k;subst k;exact⟨t.natB hq,hqc⟩
 ·intro p hp;rcases List.mem_append.1 hp with k|k
  ·exact cn p k
  ·simp at k;subst k;exact hqn
section
variable {P:Program} (w:World)
theorem jO{ops:Array Oper}{o:Oper}{a:Act}{K:Act→World→Prop}{Q:Exit→Act→World→Prop}{E:Prop}(hgd:o.guard=none)(s x:Operand)(t:TypeId)
 (ho:o.op= .call {callee:= .builtin .append,args:=#[s,x],argTypes:=#[t,t]})
 (base:Nat)(e:TypeId)(i:TypeInfo)(z:Value)(size bytes:Nat)(ht:P.underlying t=some (.slice e))(hi:P.info? e=some i)(hz:i.zero=some z)
 (hsize:i.size=size)(hby:i.bytes=bytes)(hzs:z.cells.size=size)(hsz:0<size)
 (v:Value)(n:Nat)(xs:List Value)(hs:a.eval s=v)(hown:w.ownsRow base e size v n xs)
 (B:Nat)(A:Option Addr)(m c:Nat)(news:List Value)(hx:a.eval x= .slice A m c)(hr:qi w B size A m news)(h1:∀u∈news,u.oneCell'=true)
 (h63:n+m≤maxLen)(hbytes:(n+m)*bytes≤140737488355328)(hbase:base≤w.heap.size)
 (h:∀v' w',w'.ownsRow base e size v' (n+m) (xs++news)→w.grownBy w' v.ownBlock→(v'.ownBlock=v.ownBlock∨v'.ownBlock=some w.heap.size)→K (a.put o.dst v') w'):
 if Region.wanted o (yielded ops a.tmps)=true then Oper.wp P o a w K Q else E:=by
 have hw:Region.wanted o (yielded ops a.tmps)=true:=by simp[Region.wanted,hgd]
 rw[if_pos hw];exact QF w s x t ho base e i z size bytes ht hi hz hsize hby hzs hsz v n xs hs hown B A m c news hx hr h1 h63 hbytes hbase h
end
theorem qi.six_new(w:World)(cs:List Value)(h:cs.length=6)(t:TypeId):qi (w.alloc (.cells cs.toArray t)) (w.heap.size+1) 6 (some ⟨w.heap.size,0,none⟩) 1 cs:=by
 refine⟨by omega,fun _=>⟨_,_,rfl,by omega,fun j x hj=>?_⟩⟩;have:=(qd.new w t cs.toArray).cell j;rw[Nat.zero_add,this];simpa using hj
theorem jb{w:World}{base size n g:Nat}{e:TypeId}{v:Value}{xs:List Value}(h:w.ownsRow base e size v n xs)(hv:v.ownBlock=some g):base≤g:=by
 rcases h.2 with⟨rfl,_⟩|⟨g',cap,cur,rfl,hb,_⟩
 ·simp[Value.ownBlock]at hv
 ·have:g'=g:=by simpa[Value.ownBlock]using hv
  omega
structure yR (w:World) (v:Value) (ps:List PT) (base B:Nat) (W:World) (v':Value) (qs:List PT):Prop where
 own:W.ownsRow base 137 6 v' (ps++qs).length ((ps++qs).flatMap PT.cells)
 dg:∀q∈qs,qh W B q.A q.c q.ds
 gro:w.grownBy W v.ownBlock
 row:v'.ownBlock=v.ownBlock∨∃k,v'.ownBlock=some k∧w.heap.size≤k
theorem qeG(w:World)(r:Option Nat):w.grownBy w r:=⟨rfl,rfl,rfl,Nat.le_refl _,fun _ _ _=>rfl⟩
theorem qge{w W W':World}{r:Option Nat}(h:w.grownBy W r)(hb:Below W.heap.size W W'):w.grownBy W' r:=
 ⟨hb.os.trans h.os,hb.tape.trans h.tape,hb.output.trans h.output,Nat.le_trans h.size hb.size,fun i hi hn=>(hb.block i (Nat.lt_of_lt_of_le hi h.size)).trans (h.block i hi hn)⟩
theorem qgm{w W:World}{r:Option Nat}(h:w.grownBy W r){g:Nat}(hg:w.heap.size≤g)(o:Nat)(u:Value):w.grownBy (W.setCell ⟨g,o,none⟩ u) r:=
 ⟨h.os,h.tape,h.output,Nat.le_trans h.size (by simp),fun i hi hn=>(Below.heap_setCell W ⟨g,o,none⟩ u i (fun e=>by have e:i=g:=e;omega)).trans (h.block i hi hn)⟩
theorem yR.start{w:World}{v:Value}{ps:List PT}{base B:Nat}(h:w.ownsRow base 137 6 v ps.length (ps.flatMap PT.cells)):yR w v ps base B w v []:=
 ⟨by rw[List.append_nil];exact h,by simp,qeG _ _,.inl rfl⟩
section
variable {w W:World} {v v':Value} {ps qs:List PT} {base B:Nat}
theorem yR.old(h:yR w v ps base B W v' qs){W':World}(hb:Below W.heap.size W W')(hB:B≤W.heap.size):yR w v ps base B W' v' qs:=
 ⟨qQ h.own hb,fun q hq=>(h.dg q hq).below (hb.mono hB),qge h.gro hb,h.row⟩
theorem yR.set(h:yR w v ps base B W v' qs){g:Nat}{t:TypeId}{cs:Array Value}(hg:qd W g t cs)(ht:137≠t)(hw:w.heap.size≤g)(hB:B≤g)(o:Nat)(u:Value):yR w v ps base B (W.setCell ⟨g,o,none⟩ u) v' qs:=by
 have hne:v'.ownBlock≠some g:=fun e=>qF h.own hg ht e.symm;refine⟨h.own.kept (row:=some g) ⟨rfl,rfl,rfl,by simp,fun j _ hj=>Below.heap_setCell W ⟨g,o,none⟩ u j (fun e=>hj (by have e:j=g:=e;rw[e]))⟩ (.inr hne),fun q hq=>(h.dg q hq).below ((Below.refl B W).setCell (p:=⟨g,o,none⟩) hB u),qgm h.gro hw o u,h.row⟩
theorem yR.below(h:yR w v ps base B W v' qs)(hv:w.ownsRow base 137 6 v ps.length (ps.flatMap PT.cells))(hB:B≤base)(hb:base≤w.heap.size):Below B w W:=
 ⟨h.gro.os,h.gro.tape,h.gro.output,h.gro.size,fun k hk=>h.gro.block k (by omega) (fun e=>by have:=jb hv e.symm;omega)⟩
theorem yR.trans{W2:World}{v2:Value}{rs:List PT}(h:yR w v ps base B W v' qs)(h2:yR W v' (ps++qs) base B W2 v2 rs)(hB:B≤base)(hb:base≤w.heap.size):yR w v ps base B W2 v2 (qs++rs):=by
 have hbw:=h2.below h.own hB (Nat.le_trans hb h.gro.size);refine⟨by rw[←List.append_assoc];exact h2.own,fun q hq=>?_,⟨h2.gro.os.trans h.gro.os,h2.gro.tape.trans h.gro.tape,h2.gro.output.trans h.gro.output,Nat.le_trans h.gro.size h2.gro.size,fun i hi hn=>?_⟩,?_⟩
 ·rcases List.mem_append.1 hq with hq|hq
  ·exact(h.dg q hq).below hbw
  ·exact h2.dg q hq
 ·refine(h2.gro.block i (Nat.lt_of_lt_of_le hi h.gro.size) (fun e=>?_)).trans (h.gro.block i hi hn);rcases h.row with r|⟨k,r,hk⟩
  ·exact hn (e.trans r)
  ·rw[r]at e
   injection e with e
   omega
 ·rcases h2.row with r|⟨k,r,hk⟩
  ·rcases h.row with r'|⟨k,r',hk⟩
   ·exact .inl (r.trans r')
   ·exact .inr ⟨k,r.trans r',hk⟩
  ·exact .inr ⟨k,r,Nat.le_trans h.gro.size hk⟩
theorem yR.snoc(h:yR w v ps base B W v' qs){W2:World}{v2:Value}{q:PT}(ho:W2.ownsRow base 137 6 v2 ((ps++qs).length+1) ((ps++qs).flatMap PT.cells++q.cells))(hg:W.grownBy W2 v'.ownBlock)(hr:v2.ownBlock=v'.ownBlock∨v2.ownBlock=some W.heap.size)(hq:qh W B q.A q.c q.ds)(hB:B≤base)(hb:base≤w.heap.size):
 yR w v ps base B W2 v2 (qs++[q]):=by
 have h2:yR W v' (ps++qs) base B W2 v2 [q]:=by
  refine⟨?_,fun x hx=>?_,hg,hr.imp id fun e=>⟨_,e,Nat.le_refl _⟩⟩
  ·rw[List.length_append,List.flatMap_append];simpa using ho
  ·rw[List.mem_singleton]at hx;subst hx;exact hq.below ⟨hg.os,hg.tape,hg.output,hg.size,fun k hk=>hg.block k (by have:=h.gro.size;omega) (fun e=>by have:=jb h.own e.symm;omega)⟩
 exact h.trans h2 hB hb
end
def Z0(t:RP)(m:Mo)(v:Value)(ps:List PT)(base B:Nat)(w:World)(e:Ending)(w':World):Prop:=∃v' qs,e= .returned v'∧yR w v ps base B w' v' qs∧qs.map PT.key=ji t m
attribute [local go_sem ↓] Go.wp_at_zero Go.wp_at_succ
theorem QJ(ps:List PT)(i:Nat)(q:PT):(ps.set i q).map PT.tm=(ps.map PT.tm).set i q.tm:=by rw[List.map_set]
set_option maxHeartbeats 2000000
set_option maxRecDepth 100000
theorem qiF(base g mb:Nat)(v:Value)(ts:List Tm)(ps:List PT)(m:Mo)(ng:Bool)(A:Option Addr)(c:Nat)(ds:List Nat)(w:World)(hG:GAt w base g mb v ps)(hI:zB ts (ps.map PT.tm))(hb:base≤w.heap.size)(hv:yH m=true)(hm:WfM m)
 (hin:qh w w.heap.size A c ds)(hl0:ds.length≤1000)(hlen:ps.length≤100000)(hbig:nrm ts<Big)(f:Mo→Option Nat)(hf:yh w mb ps.length f)(i:Nat)(p:PT)(hfi:f m=some i)(hp:ps[i]? =some p)(hpm:p.m=m):
 Calls Tryz.prog 109 #[.pointer (some ⟨g,0,none⟩),.agg (Jo m),.agg #[.bool ng,.slice A ds.length c]] w (YL base g mb v (ts++[(qb ng ds,m)]) w):=by
 have hpi:p∈ps:=List.mem_of_getElem? hp;have hlt:i<ps.length:=GAt.upd_len hp;have hit:(ps.map PT.tm)[i]? =some (p.tm.1,m):=by simp[hp,PT.tm,hpm]
 have HI:=Lib.hid (hI.upd hit (qb ng ds));have hpl:p.ds.length≤600:=by
  rw[(hG.cn p hpi).ds];exact zX (Nat.lt_of_le_of_lt (hI.mem_nrm (List.mem_map.2 ⟨p,hpi,rfl⟩)) hbig)
 have hn:=fun W=>qb4 m W;rw[hv]at hn;have hlk:=fun(W:World)(hW:Below w.heap.size w W)=>(hf.old hW).look hm;rw[hfi]at hlk;simp only[Option.getD_some,Option.isSome_some]at hlk;have ha:=fun(W:World)(hW:Below w.heap.size w W)=>ZU p.ng ng p.A A p.c c w.heap.size p.ds ds W hW.size ((hG.nin hpi).below hW) (hin.below hW) (by omega) (by omega);obtain⟨rb,cap,hve⟩:∃rb cap,v= .slice (some ⟨rb,0,none⟩) ps.length cap:=by
  obtain⟨g',cap,hv',_⟩:=hG.row.form (by omega);exact⟨g',cap,hv'⟩
 have HU:=Lib.hid (fun(W:World)(hW:Below w.heap.size w W)(A3:Option Addr)(c3:Nat)=>(hG.old hW).upd hve hp (p.tm.1+qb ng ds) A3 c3);have HMS:=Lib.hid (QJ ps i);have HPM:=Lib.hid hpm;obtain⟨cur,hkr,_,hcap,hcur⟩:=jx (hve▸hG.row);have r0:cur[i*6]? =some (.bool p.ng):=hcur _ _ (yk ps i 0 p hp (by omega));have r1:cur[i*6+1]? =some (.slice p.A p.ds.length p.c):=hcur _ _ (yk ps i 1 p hp (by omega));have hgb:=hG.gb;rw[hve]at hgb;have HVE:=Lib.hid hve;unfold YL;unfold qy at ha;have hze:qb p.ng p.ds+qb ng ds=p.tm.1+qb ng ds:=rfl;rw[hze]at ha;clear hze hcur hve hfi hpm hit hv hI hm hpi hf hp;generalize ts++[(qb ng ds,m)]=ts' at*;generalize p.tm.1+qb ng ds=zz at*;generalize hpn:p.ng=png at*;generalize hpd:p.ds=pds at*;generalize hpA:p.A=pA at*;generalize hpc:p.c=pc at*;generalize ps.length=pn at*;clear hpn hpd hpA hpc;have HA:=Lib.hid ha;have HLK:=Lib.hid hlk;have HN:=Lib.hid hn;have HKR:=Lib.hid hkr;have HGB:=Lib.hid hgb;have R0:=Lib.hid r0;have R1:=Lib.hid r1;have HGA:=Lib.hid hG;clear hkr hgb r0 r1 hin hG;have HX:=Lib.hid (qK w 113 25 (Jo m) #[.bool ng,.slice A ds.length c]);clear hn hlk ha;unfold Jo at*;generalize m.1=m0 at*;generalize m.2.1=m1 at*;generalize m.2.2.1=m2 at*;generalize m.2.2.2=m3 at*;go_enter Tryz.func109,Tryz.ntmps109
 go_wp2_with fail
 generalize (w.alloc (.cells #[.int .i64 m0,.int .i64 m1,.int .i64 m2,.int .i64 m3] 113)).alloc (.cells #[.bool ng,.slice A ds.length c] 25)=W at*;obtain⟨hb0,k0,k1,hs⟩:=HX.out;clear hs HX;refine(HN.out _).mono ?_;rintro e W1 ⟨rfl,hl⟩;have hlb:=hb0.trans (hl.below.mono hb0.size);have q0:=k0.old hl.below;have q1:=k1.old hl.below;clear k0 k1 hb0 hl;have gb1:=HGB.out.old hlb;have kr1:=HKR.out.old hlb;have g0:W1.cell? ⟨g,0,none⟩=some (.map (some mb)):=gb1.cell 0;have g1:W1.cell? ⟨g,1,none⟩=some (.slice (some ⟨rb,0,none⟩) pn cap):=gb1.cell 1;have b0:W1.cell? ⟨w.heap.size,0,none⟩=some (.int .i64 m0):=q0.cell 0;have b1:W1.cell? ⟨w.heap.size,1,none⟩=some (.int .i64 m1):=q0.cell 1;have b2:W1.cell? ⟨w.heap.size,2,none⟩=some (.int .i64 m2):=q0.cell 2;have b3:W1.cell? ⟨w.heap.size,3,none⟩=some (.int .i64 m3):=q0.cell 3;have hlk1:=fun(n:Nat)=>HLK.out (W1.drewN n) (hlb.trans ((qm.drewN _ _).below _));have i0:(0:Int)≤(i:Int):=by omega
 have i1:(i:Int)<(pn:Int):=by omega
 have i2:(pn:Int)≤(cap:Int):=by omega
 go_wp2_with fail
 go_quiet (fail)
 clear hlk1 b0 b1 b2 b3 g0 g1;have hlb2:Below w.heap.size w (W1.drewN nq):=hlb.trans ((qm.drewN _ _).below _)
 replace gb1:=gb1.drewN nq
 replace kr1:=kr1.drewN nq
 replace q1:=q1.drewN nq
 clear hlb q0;generalize W1.drewN nq=W2 at*;have g1:W2.cell? ⟨g,1,none⟩=some (.slice (some ⟨rb,0,none⟩) pn cap):=gb1.cell 1;have c0:W2.cell? ⟨w.heap.size+1,0,none⟩=some (.bool ng):=q1.cell 0;have c1:W2.cell? ⟨w.heap.size+1,1,none⟩=some (.slice A ds.length c):=q1.cell 1;have e0:W2.cell? ⟨rb,i*6,none⟩=some (.bool png):=(kr1.cell _).trans R0.out;have e1:W2.cell? ⟨rb,i*6+1,none⟩=some (.slice pA pds.length pc):=(kr1.cell _).trans R1.out;have lg:=gb1.lt;have lr:=kr1.lt;have lq:=q1.lt;have hlb3:Below w.heap.size w W2.drew:=hlb2.trans ((qm.drew _).below _);go_wp2_with fail
 go_region_with ((go_at_call 120;refine(HA.out _ hlb3).mono ?_;rintro e w3 ⟨A3,c3,rfl,h3,h4,h5⟩;have kk:=qd.old (w:=W2.drew) kr1 h5;have d0:=(kk.cell (i*6)).trans R0.out;have d1:=(kk.cell (i*6+1)).trans R1.out;have f0:=kk.frozen (i*6);have f1:=kk.frozen (i*6+1);have z1:=(h5.cell lg).trans g1))
 all_goals
  go_wp2_with fail
  refine bodyPost_ret (v:= .tuple #[]) (results_none rfl _ _ _) rfl ?_;have hlb4:=hlb3.trans (h5.mono hlb3.size);obtain⟨u1,u2⟩:=HU.out w3 hlb4 A3 c3 h4 h3;have hfar:qk0 g v v w ((w3.setCell ⟨rb,i*6,none⟩ (.bool (decide (zz<0)))).setCell ⟨rb,i*6+1,none⟩ (.slice A3 (dig zz.natAbs).length c3)):=fun k t cs h1 _ h3=>by
   have hne:k≠rb:=fun e=>h3 (by rw[HVE.out,e];rfl);exact⟨((h1.old hlb4).far hne _).far hne _,h3⟩
  refine⟨rfl,v,_,u1,?_,(ja.of_below hb hlb4).trans u2,hfar,((Jk.of_below hlb4).set kk _ _).set (kk.set_ _ _) _ _⟩;rw[HMS.out,yT,HPM.out];exact HI.out
end Go.Proofs.YtflikmojaidhhaaGreat
