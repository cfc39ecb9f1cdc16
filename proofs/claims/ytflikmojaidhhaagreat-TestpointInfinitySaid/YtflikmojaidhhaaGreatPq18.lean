import Derived.Test.YtflikmojaidhhaaGreatPq17
namespace Go.Proofs.YtflikmojaidhhaaGreat
open Go.RowKit
theorem qi.four_newA(w:World)(cs:List Value)(h:cs.length=4)(t:TypeId):qi (w.alloc (.cells cs.toArray t)) (w.heap.size+1) 4 (some ⟨w.heap.size,0,none⟩) 1 cs:=by
 refine⟨by omega,fun _=>⟨_,_,rfl,by omega,fun j x hj=>?_⟩⟩;have:=(qd.new w t cs.toArray).cell j;rw[Nat.zero_add,this];simpa using hj
set_option maxHeartbeats 4000000
set_option maxRecDepth 100000
theorem qgn(S:Nat→Prop)(B X:Nat)(hSB:∀b,S b→b<B)(hX:X≤10000)(E:Nat)(IH0:∀(ts:List RP),Jc (E+1) ts→ts.length≤10000→(∀t∈ts,yf X t)→∀(P:Option Addr)(c:Nat)(w:World),B≤w.heap.size→yY w (· <w.heap.size) S P ts→ts.length≤c→
 Calls Tryz.prog 101 #[.slice P ts.length c] w (Ym S (yo (E+1) ts) w))(ts:List RP)(hL:(jP ts).1≠0)(hok:Jc (E+1+1) ts)(hn:ts.length≤10000)(hsm:∀t∈ts,yf X t)(P:Option Addr)(c:Nat)(w:World)(hB:B≤w.heap.size)(h:yY w (· <w.heap.size) S P ts)(hc:ts.length≤c):
 Calls Tryz.prog 101 #[.slice P ts.length c] w (Ym S (yo (E+1+1) ts) w):=by
 have IH:=Lib.hid IH0;have HR:=Lib.hid (fun(W:World)(hW:Below w.heap.size w W)=>h.old hW (fun b hb=>hb) (fun b hb=>Nat.lt_of_lt_of_le (hSB b hb) hB));have hb0:=(Below.refl w.heap.size w).alloc (Nat.le_refl _) (.cells #[.int .i64 0,.bool false,.slice none 0 0,.slice none 0 0] 28);have hk0:=qd.new w 28 #[.int .i64 0,.bool false,.slice none 0 0,.slice none 0 0];have HB0:=Lib.hid hb0;have HK0:=Lib.hid hk0;have HC:=Lib.hid hc;have HSL:=Lib.hid (fun(b:Nat)(hb:S b)=>show b<w.heap.size from Nat.lt_of_lt_of_le (hSB b hb) hB);have HSB:=Lib.hid hSB;have HSM:=Lib.hid hsm;have HNL:=Lib.hid hn;have HBB:=Lib.hid hB;have HPART:=Lib.hid (fun(i:Nat)=>hok.part i);have HPS:=Lib.hid (fun(i:Nat)(u:RP)(hu:u∈jm (jP ts).1 i ts)=>show yf X u from by
  obtain⟨p,hp,hq⟩:=Jq hu;rcases hq with⟨_,b⟩|⟨_,rfl⟩
  ·exact(hsm p hp).at_.2.2 u b
  ·exact hsm _ hp)
 have HPN:=Lib.hid (fun(i:Nat)=>Nat.le_trans (YX (jP ts).1 i ts) hn);have hsz:(jP ts).2≤X:=qhM fun p hp=>(hsm p hp).at_.2.1;have HLL:=Lib.hid (show∀p∈ts,p.lv≤(jP ts).1 from fun p hp=>qeJ hp);have HTR:=Lib.hid (fun(S':Nat→Prop)(l:Int)(us:List RP)(hl:us.length≤X)(A:Option Addr)(W:World)(hS:∀b,S' b→b<W.heap.size)(h:yY W S' S' A us)=>qa6 S' l us (by omega) A us.length W hS h (Nat.le_refl _));obtain⟨i0,hi0,hz0,hz1,hz2⟩:=qZ Tryz.infoRec;have HI0:=Lib.hid (And.intro hi0 (And.intro hz0 (And.intro hz1 hz2)));have hmkr:=fun(W:World)=>Tryz.make_rec (jP ts).2 (by omega) W;have HMR:=Lib.hid hmkr;have HEQ:=Lib.hid (show yo (E+1+1) ts=jD (jP ts).1 ((List.range (jP ts).2).map fun i=>yo (E+1) (jm (jP ts).1 i ts))from by rw[yo,if_neg hL]);have HLA:=Lib.hid (show jP ts=jP (ts.take ts.length)by rw[List.take_length]);unfold Ym qn at IH ⊢;unfold qn at HTR;clear h hok hsm hB hc hb0 hk0 hSB hi0 hz0 hz1 hz2 hmkr IH0;generalize yo (E+1+1) ts=R at*;generalize hnn:ts.length=n at*;have HN:=Lib.hid hnn;clear hnn;go_enter Tryz.func101,Tryz.ntmps101
 go_wp2_with fail
 generalize w.alloc (.cells #[.int .i64 0,.bool false,.slice none 0 0,.slice none 0 0] 28)=W0 at*;go_loopg [3,4,17] n (fun gn lv sz ix wr=>∃j:Nat,j≤n∧gn=n-j∧ix= .int .i64 j∧lv= .int .i64 (jP (ts.take j)).1∧sz= .int .i64 ((jP (ts.take j)).2:Nat)∧Below W0.heap.size W0 wr)
 case atStart=>exact⟨0,Nat.zero_le _,rfl,rfl,rfl,rfl,Below.refl _ _⟩
 case round=>
  obtain⟨j,hj,hgj,rfl,rfl,rfl,hbw⟩:=hrel;have HG:=Lib.hid hgj;clear hgj;have HBW:=Lib.hid (HB0.out.trans (hbw.mono HB0.out.size));have HBX:=Lib.hid hbw;by_cases hlt:j<n
  ·obtain⟨u,hu⟩:∃u,ts[j]? =some u:=⟨_,List.getElem?_eq_getElem (by rw[HN.out];exact hlt)⟩;obtain⟨b,o,A1,q1,K1,r1,rfl,hbS,x0,x1,x2,x3,hku⟩:=(HR.out wr HBW.out).kid hu;have HST:=Lib.hid (qdA hu);have i3:(0:Int)≤(j:Int):=by omega
   have i4:(j:Int)<(n:Int):=by omega
   have i5:(n:Int)≤(c:Int):=by have:=HC.out;omega
   have HAL:=Lib.hid (hbw.trans (((Below.refl wr.heap.size wr).alloc (Nat.le_refl _) (.cells #[.int .i64 u.lv,.bool u.ng,.slice A1 u.ds.length q1,.slice K1 u.ks.length r1] 28)).mono hbw.size));have hS1:yL (jP (ts.take j)) u=if(jP (ts.take j)).1<u.lv then(u.lv,max 0 u.ks.length)else if u.lv=(jP (ts.take j)).1 then((jP (ts.take j)).1,max (jP (ts.take j)).2 u.ks.length)else jP (ts.take j):=rfl
   have HS1:=Lib.hid (HST.out.trans hS1);clear hu hku hbw HST hS1;generalize hpj:jP (ts.take j)=pj at*;clear hpj;obtain⟨lj,sj⟩:=pj;dsimp only at*;generalize u.ds.length=ud at*;generalize u.ks.length=uk at*;generalize u.ng=ug at*;generalize u.lv=ul at*;by_cases h1:lj<ul
   ·have HS2:=Lib.hid (show jP (ts.take (j+1))=(ul,max 0 uk)by rw[HS1.out,if_pos h1]);have e1:decide (lj<ul)=true:=decide_eq_true h1;clear HS1;go_wp2_with fail
    go_roundg (n-(j+1))
    case rel=>exact⟨j+1,by omega,rfl,by go_num,by rw[HS2.out],by rw[HS2.out];congr 1,HAL.out⟩
    case measure=>have:=HG.out;omega
   ·by_cases h2:ul=lj
    ·have HS2:=Lib.hid (show jP (ts.take (j+1))=(lj,max sj uk)by rw[HS1.out,if_neg h1,if_pos h2]);have e1:decide (lj<ul)=false:=decide_eq_false h1;subst h2;clear HS1 h1;go_wp2_with fail
     go_roundg (n-(j+1))
     case rel=>exact⟨j+1,by omega,rfl,by go_num,by rw[HS2.out],by rw[HS2.out];congr 1;simp only[];omega,HAL.out⟩
     case measure=>have:=HG.out;omega
    ·have HS2:=Lib.hid (show jP (ts.take (j+1))=(lj,sj)by rw[HS1.out,if_neg h1,if_neg h2]);have e1:decide (lj<ul)=false:=decide_eq_false h1;have e2:(ul==lj)=false:=by simpa using h2
     clear HS1 h1 h2;go_wp2_with fail
     go_roundg (n-(j+1))
     case rel=>exact⟨j+1,by omega,rfl,by go_num,by rw[HS2.out],by rw[HS2.out],HAL.out⟩
     case measure=>have:=HG.out;omega
  ·obtain rfl:j=n:=by omega
   rw[←HLA.out];have HK0W:=Lib.hid (HK0.out.old hbw);clear hbw HLA HG hlt hj;have HR0:=Lib.hid (show R=jD (jP ts).1 ((List.range (jP ts).2).map fun i=>yo (E+1) (jm (jP ts).1 i ts))from HEQ.out);have IH1:=Lib.hid (fun(i:Nat)=>IH.out (jm (jP ts).1 i ts) (HPART.out i) (HPN.out i) (HPS.out i));have eL:((jP ts).1==0)=false:=by simpa using hL
   have hmk:=HMR.out wr;have hgg0:w.heap.size<wr.heap.size:=Nat.lt_of_lt_of_le (HK0.out.lt) HBX.out.size;have HCO:=Lib.hid (qcN.start (S:=S) (n:=(jP ts).2) (f:=fun i=>yo (E+1) (jm (jP ts).1 i ts)) HBW.out);have hZ:=hsz;have HLV2:=Lib.hid HLL.out;obtain⟨hi0,hz0,hz1,hz2⟩:=HI0.out;clear hL HEQ IH HPART HPS HMR hsz HLL HPN;generalize hLLe:(jP ts).1=L at*;generalize (jP ts).2=Z at*;have HRF:=Lib.hid (show∃F:Nat→RP,F=fun i=>yo (E+1) (jm L i ts)from⟨_,rfl⟩);obtain⟨F,hF⟩:=HRF.out;rw[←hF]at HCO HR0;have HF:=Lib.hid hF;clear hF HRF hLLe;generalize hgg:wr.heap.size=g at*;have HK1:=Lib.hid (HK0W.out.alloc (.cells (madeCells #[.int .i64 0,.bool false,.slice none 0 0,.slice none 0 0] (Z*4)) 28));go_wp2_with fail
   generalize wr.alloc (.cells (madeCells #[.int .i64 0,.bool false,.slice none 0 0,.slice none 0 0] (Z*4)) 28)=W3 at*;go_loopg [11,12,62] Z (fun gn _ _ ix wr=>∃i:Nat,i≤Z∧gn=Z-i∧ix= .int .i64 i∧qcN S w wr g Z F i∧qd wr w.heap.size 28 #[.int .i64 0,.bool false,.slice none 0 0,.slice none 0 0])
   case atStart=>exact⟨0,Nat.zero_le _,rfl,rfl,HCO.out,HK1.out⟩
   case round=>
    clear HCO HK1;obtain⟨i,hi,hgi,rfl,hco,hkw⟩:=hrel;have HG:=Lib.hid hgi;have HCO:=Lib.hid hco;have HKW:=Lib.hid hkw;have HBO:=Lib.hid hco.bel;clear hgi hco hkw;by_cases hlt:i<Z
    ·have HST:=Lib.hid (Y6.start (S:=S) wr);go_wp2_with fail
     rename World=>wo
     have HSLW:=Lib.hid (fun(b:Nat)(hb:S b)=>show b<wo.heap.size from Nat.lt_of_lt_of_le (HSL.out b hb) HBO.out.size);go_loopg [12,67] j (fun gn v ix wr=>∃k:Nat,k≤j∧gn=j-k∧ix= .int .i64 k∧Y6 S wo wr v (jm L i (ts.take k)))
     case atStart=>exact⟨0,Nat.zero_le _,rfl,rfl,HST.out⟩
     case round=>
      obtain⟨k,hk,hgk,rfl,hprt⟩:=hrel;have HGK:=Lib.hid hgk;have HPRT0:=Lib.hid hprt;clear hgk hprt HST;have hbw3:Below w.heap.size w wr:=HBO.out.trans (HPRT0.out.bel.mono HBO.out.size);by_cases hlk:k<j
      ·obtain⟨u,hu⟩:∃u,ts[k]? =some u:=⟨_,List.getElem?_eq_getElem (by rw[HN.out];exact hlk)⟩;obtain⟨b,o,A1,q1,K1,r1,rfl,hbS,x0,x1,x2,x3,hku⟩:=(HR.out wr hbw3).kid hu;have HPN1:=Lib.hid (qez (l:=L) (i:=i) hu);have hul:u.lv≤L:=HLV2.out u (List.mem_of_getElem? hu);have hal:=(Below.refl wr.heap.size wr).alloc (Nat.le_refl _) (.cells #[.int .i64 u.lv,.bool u.ng,.slice A1 u.ds.length q1,.slice K1 u.ks.length r1] 28);have hbx:=qd.new wr 28 #[.int .i64 u.lv,.bool u.ng,.slice A1 u.ds.length q1,.slice K1 u.ks.length r1];have hsw:=HPRT0.out.bel.size;have i3:(0:Int)≤(k:Int):=by omega
       have i4:(k:Int)<(j:Int):=by omega
       have i5:(j:Int)≤(c:Int):=by have:=HC.out;omega
       have hpl:(jm L i (ts.take k)).length≤10000:=Nat.le_trans (YX L i (ts.take k)) (by rw[List.length_take];omega);have hKV0:=RV.keep (w':=wr.alloc (.cells #[.int .i64 u.lv,.bool u.ng,.slice A1 u.ds.length q1,.slice K1 u.ks.length r1] 28)) (fun b hb o=>hal.cell (p:=⟨b,o,none⟩) (Nat.lt_of_lt_of_le (HSLW.out b hb) hsw)) _ _ hku;obtain⟨rows,hro,hms⟩:=HPRT0.out.row;have HRO:=Lib.hid hro;have HMS:=Lib.hid hms;clear hro hms hu hku;go_upto_region 26 with(fail)
       generalize hV:wr.alloc (.cells #[.int .i64 u.lv,.bool u.ng,.slice A1 u.ds.length q1,.slice K1 u.ks.length r1] 28)=V at*;have HVB:=Lib.hid hal;have HKV:=Lib.hid hKV0;have HWV:=Lib.hid (Nat.le_trans hsw hal.size);have z0:=hbx.cell 0;have z1:=hbx.cell 1;have z2:=hbx.cell 2;have z3:=hbx.cell 3;clear x0 x1 x2 x3 hal hbx hV hKV0 hsw hbw3;by_cases h1:u.lv=L
       ·by_cases h2:i<u.ks.length
        ·obtain⟨x,hx⟩:∃x,u.ks[i]? =some x:=⟨_,List.getElem?_eq_getElem h2⟩;have hkc:=HKV.out.node.2.2.2;obtain⟨b5,o5,A5,q5,K5,r5,rfl,hbS5,y0,y1,y2,y3,hkx⟩:=HKV.out.kid hx;have HKX:Hid (RV V S x [.int .i64 x.lv,.bool x.ng,.slice A5 x.ds.length q5,.slice K5 x.ks.length r5]):=Lib.hid hkx;have HPO:=Lib.hid (show jm L i (ts.take (k+1))=jm L i (ts.take k)++[x]by
          rw[HPN1.out];have:yM L i u=some x:=by unfold yM;rw[if_pos ⟨h1,h2⟩];exact hx
          rw[this])
         have j2:(i:Int)<(u.ks.length:Int):=by omega
         have j3:(u.ks.length:Int)≤(r1:Int):=by omega
         have j4:(0:Int)≤(i:Int):=by omega
         clear hx hkx HPN1 HKV h2 hkc hul;generalize u.ks.length=uk at*;generalize u.ds.length=ud at*;generalize u.ng=ug at*;generalize u.lv=ul at*;have e1:(ul==L)=true:=by simpa using h1
         clear h1;generalize x.lv=xl at*;generalize x.ng=xg at*;generalize x.ds.length=xd at*;generalize x.ks.length=xk at*;have hrd:=qi.four_newA V [.int .i64 xl,.bool xg,.slice A5 xd q5,.slice K5 xk r5] rfl 28;have hro1:=qQ (qQ HRO.out HVB.out) ((Below.refl V.heap.size V).alloc (Nat.le_refl _) (.cells #[.int .i64 xl,.bool xg,.slice A5 xd q5,.slice K5 xk r5] 28));have hbase:wo.heap.size≤(V.alloc (.cells #[.int .i64 xl,.bool xg,.slice A5 xd q5,.slice K5 xk r5] 28)).heap.size:=Nat.le_trans HWV.out (by simp);have HPU:=Lib.hid (fun(W2:World)(v':Value) ho hg=>HPRT0.out.push (W2:=W2) (v':=v') (cs:=[.int .i64 xl,.bool xg,.slice A5 xd q5,.slice K5 xk r5]) HSLW.out HRO.out HMS.out HVB.out HKX.out ho hg);rw[←HPO.out]at HPU;generalize hpm:(jm L i (ts.take k)).length=pm at*;have h63:pm+1≤maxLen:=by unfold maxLen;omega
         have hby:(pm+1)*64≤140737488355328:=by omega
         go_wp2_with (at_builtin;refine jy _ rfl (.tmp 83) (.tmp 89) 26 rfl wo.heap.size 28 i0 _ 4 64 Tryz.underlying26 hi0 hz0 hz1 hz2 rfl (by decide) u12 pm rows.flatten rfl hro1 (V.heap.size+1) (some ⟨V.heap.size,0,none⟩) 1 1 [.int .i64 xl,.bool xg,.slice A5 xd q5,.slice K5 xk r5] rfl hrd (by intro u hu;simp at hu;rcases hu with rfl|rfl|rfl|rfl<;>rfl) h63 hby hbase ?_;intro v' w2 hown2 hg2 hat2;refine Hid.out ?_)
         refine Lib.hid ?_;have HN:=Lib.hid (HPU.out w2 v' hown2 hg2);clear hown2 hg2 hat2 hrd hro1 hbase h63 hby;go_wp2_with fail
         go_roundg (j-(k+1))
         case rel=>exact⟨k+1,by omega,rfl,by go_num,HN.out⟩
         case measure=>have:=HGK.out;omega
        ·have HPO:=Lib.hid (show jm L i (ts.take (k+1))=jm L i (ts.take k)by
          rw[HPN1.out];have:yM L i u=none:=by unfold yM;rw[if_neg (fun h=>h2 h.2),if_neg (fun h=>by have:=h.1;omega)]
          rw[this,List.append_nil])
         have e2:decide ((i:Int)<(u.ks.length:Int))=false:=decide_eq_false (by omega);have e2n:decide (i<u.ks.length)=false:=decide_eq_false h2;have h2n:¬((i:Int)<(u.ks.length:Int)):=by omega
         have e3:decide (u.lv<L)=false:=decide_eq_false (by omega);have e1:(u.lv==L)=true:=by simpa using h1
         clear HPN1 HKV h2 h1 hul HRO HMS;generalize u.ks.length=uk at*;generalize u.ds.length=ud at*;generalize u.ng=ug at*;generalize u.lv=ul at*;have HN:=Lib.hid (HPRT0.out.old HSLW.out HVB.out);rw[←HPO.out]at HN;go_wp2_with fail
         go_roundg (j-(k+1))
         case rel=>exact⟨k+1,by omega,rfl,by go_num,HN.out⟩
         case measure=>have:=HGK.out;omega
       ·have e1:(u.lv==L)=false:=by simpa using h1
        have e3:decide (u.lv<L)=true:=decide_eq_true (by omega);by_cases h2:i=0
        ·have HPO:=Lib.hid (show jm L i (ts.take (k+1))=jm L i (ts.take k)++[u]by
          rw[HPN1.out];have:yM L i u=some u:=by unfold yM;rw[if_neg (fun h=>h1 h.1),if_pos ⟨by omega,h2⟩]
          rw[this])
         have e2:((i:Int)==0)=true:=by simp[h2]
         have HKU:Hid (RV V S u [.int .i64 u.lv,.bool u.ng,.slice A1 u.ds.length q1,.slice K1 u.ks.length r1]):=Lib.hid HKV.out;clear HPN1 HKV h2 h1 hul;generalize u.ks.length=uk at*;generalize u.ds.length=ud at*;generalize u.ng=ug at*;generalize u.lv=ul at*;have hrd:=qi.four_newA V [.int .i64 ul,.bool ug,.slice A1 ud q1,.slice K1 uk r1] rfl 28;have hro1:=qQ (qQ HRO.out HVB.out) ((Below.refl V.heap.size V).alloc (Nat.le_refl _) (.cells #[.int .i64 ul,.bool ug,.slice A1 ud q1,.slice K1 uk r1] 28));have hbase:wo.heap.size≤(V.alloc (.cells #[.int .i64 ul,.bool ug,.slice A1 ud q1,.slice K1 uk r1] 28)).heap.size:=Nat.le_trans HWV.out (by simp);have HPU:=Lib.hid (fun(W2:World)(v':Value) ho hg=>HPRT0.out.push (W2:=W2) (v':=v') (cs:=[.int .i64 ul,.bool ug,.slice A1 ud q1,.slice K1 uk r1]) HSLW.out HRO.out HMS.out HVB.out HKU.out ho hg);rw[←HPO.out]at HPU;generalize hpm:(jm L i (ts.take k)).length=pm at*;have h63:pm+1≤maxLen:=by unfold maxLen;omega
         have hby:(pm+1)*64≤140737488355328:=by omega
         go_wp2_with (at_builtin;refine jy _ rfl (.tmp 100) (.tmp 102) 26 rfl wo.heap.size 28 i0 _ 4 64 Tryz.underlying26 hi0 hz0 hz1 hz2 rfl (by decide) u12 pm rows.flatten rfl hro1 (V.heap.size+1) (some ⟨V.heap.size,0,none⟩) 1 1 [.int .i64 ul,.bool ug,.slice A1 ud q1,.slice K1 uk r1] rfl hrd (by intro u hu;simp at hu;rcases hu with rfl|rfl|rfl|rfl<;>rfl) h63 hby hbase ?_;intro v' w2 hown2 hg2 hat2;refine Hid.out ?_)
         refine Lib.hid ?_;have HN:=Lib.hid (HPU.out w2 v' hown2 hg2);clear hown2 hg2 hat2 hrd hro1 hbase h63 hby;go_wp2_with fail
         go_roundg (j-(k+1))
         case rel=>exact⟨k+1,by omega,rfl,by go_num,HN.out⟩
         case measure=>have:=HGK.out;omega
        ·have HPO:=Lib.hid (show jm L i (ts.take (k+1))=jm L i (ts.take k)by
          rw[HPN1.out];have:yM L i u=none:=by unfold yM;rw[if_neg (fun h=>h1 h.1),if_neg (fun h=>h2 h.2)]
          rw[this,List.append_nil])
         have e2:((i:Int)==0)=false:=by simp[h2]
         clear HPN1 HKV h2 h1 hul HRO HMS;generalize u.ks.length=uk at*;generalize u.ds.length=ud at*;generalize u.ng=ug at*;generalize u.lv=ul at*;have HN:=Lib.hid (HPRT0.out.old HSLW.out HVB.out);rw[←HPO.out]at HN;go_wp2_with fail
         go_roundg (j-(k+1))
         case rel=>exact⟨k+1,by omega,rfl,by go_num,HN.out⟩
         case measure=>have:=HGK.out;omega
      ·obtain rfl:k=j:=by omega
       have HP1:=Lib.hid (show Y6 S wo wr u12 (jm L i ts)by
        have:=HPRT0.out;rw[List.take_of_length_le (by rw[HN.out];exact Nat.le_refl _)]at this;exact this)
       obtain⟨A7,c7,hv7,hc7,htr7⟩:=HP1.out.arg;have HCALL:=Lib.hid (IH1.out i A7 c7 wr (Nat.le_trans HBB.out hbw3.size) htr7 hc7);rw[show yo (E+1) (jm L i ts)=F i by rw[HF.out]]at HCALL;have hgw:g+1≤wr.heap.size:=by
        have h1:=HP1.out.bel.size;obtain⟨cur,rows,hr⟩:=HCO.out.row;have h2:=hr.row.lt;omega
       have HPB:=Lib.hid HP1.out.bel;have HGW:=Lib.hid hgw;subst hv7;clear hc7 htr7 HP1 HPRT0 hlk hbw3 hgw;generalize (jm L i ts).length=pm at*;go_wp2_with fail
       refine HCALL.out.mono ?_;rintro e w4 ⟨A4,c4,K4,kc4,rfl,hr4,hb4⟩;have hb5:=HPB.out.trans (hb4.mono HPB.out.size);have HNX:=Lib.hid (HCO.out.put HSL.out (by omega) hlt hb5 hr4 HGW.out);have HKX:=Lib.hid ((HKW.out.old hb5).set4_far (k:=w.heap.size) (g:=g) (by omega) (i*4) (.int .i64 (F i).lv) (.bool (F i).ng) (.slice A4 (F i).ds.length c4) (.slice K4 (F i).ks.length kc4));obtain⟨v0,v1,v2,v3,d0,d1,d2,d3,f0,f1,f2,f3,zl⟩:=HCO.out.cell hb5 hlt;have i3:(0:Int)≤(i:Int):=by omega
       have i4:(i:Int)<(Z:Int):=by omega
       clear hb4 hr4 hb5 HCALL HCO HKW HPB;generalize (F i).lv=fl at*;generalize (F i).ng=fg at*;generalize (F i).ds.length=fd at*;generalize (F i).ks.length=fk at*;go_wp2_with fail
       go_roundg (Z-(i+1))
       case rel=>exact⟨i+1,by omega,rfl,by go_num,HNX.out,HKX.out⟩
       case measure=>have:=HG.out;omega
    ·obtain rfl:i=Z:=by omega
     obtain⟨cur,rows,hr⟩:=HCO.out.row;have hcl:(cfA F i i).length=i:=by simp[cfA]
     have hSW:∀b,S b→b<wr.heap.size:=fun b hb=>Nat.lt_of_lt_of_le (HSL.out b hb) HBO.out.size;have HT:=Lib.hid (HTR.out (Zt S wr (w.heap.size+1)) L (cfA F i i) (by omega) (some ⟨g,0,none⟩) wr (fun b hb=>hb.lt hSW) (hr.trsSh (by omega)));rw[hcl]at HT;rw[←qjx F i]at HR0;rw[←HR0.out]at HT;clear hr hcl hlt;go_wp2_with fail
     refine HT.out.mono ?_;rintro e w5 ⟨A5,c5,K5,kc5,rfl,hr5,hb5⟩;have hk5:=HKW.out.old hb5;have HFN:=Lib.hid (qfa (S:=S) (w:=w) (g:=w.heap.size) hk5 rfl (RV.mono (fun b hb=>hb.old hb5) _ _ hr5) (fun b hb=>Nat.ne_of_lt (HSL.out b hb)) (Nat.le_refl _) (HBO.out.trans (hb5.mono HBO.out.size)));have d0:=hk5.cell 0;have d1:=hk5.cell 1;have d2:=hk5.cell 2;have d3:=hk5.cell 3;have f0:=hk5.frozen 0;have f1:=hk5.frozen 1;have f2:=hk5.frozen 2;have f3:=hk5.frozen 3;have zl:=hk5.lt;clear hk5 hr5 hb5 HT hSW;go_wp2_with fail
     exact qg Tryz.results101 rfl rfl HFN.out.1 Tryz.underlying28 rfl Tryz.sizeRec HFN.out.2
theorem qdk(S:Nat→Prop)(B X:Nat)(hSB:∀b,S b→b<B)(hX:X≤10000):∀(E:Nat)(ts:List RP),Jc (E+1) ts→ts.length≤10000→(∀t∈ts,yf X t)→∀(P:Option Addr)(c:Nat)(w:World),B≤w.heap.size→yY w (· <w.heap.size) S P ts→ts.length≤c→
 Calls Tryz.prog 101 #[.slice P ts.length c] w (Ym S (yo (E+1) ts) w)
 |0,ts,hok,hn,hsm,P,c,w,hB,h,hc=>by
  have hL:(jP ts).1=0:=by
   rcases QI ts with e|⟨q,hq,e⟩
   ·exact e
   ·have h1:=(hok q hq).2;have h2:=(jK (hok q hq).1).1;omega
  rw[yo,if_pos hL];exact qaZ S B X hSB hX ts hL hn hsm P c w hB h hc
 |E+1,ts,hok,hn,hsm,P,c,w,hB,h,hc=>by
  by_cases hL:(jP ts).1=0
  ·rw[yo,if_pos hL];exact qaZ S B X hSB hX ts hL hn hsm P c w hB h hc
  ·exact qgn S B X hSB hX E (qdk S B X hSB hX E) ts hL hok hn hsm P c w hB h hc
theorem qc9(X:Nat)(hX:X≤100000)(k:Int):∀(D:Nat)(t:RP),qv t≤D→qj t=true→yf X t→∀(A:Option Addr)(c:Nat)(K:Option Addr)(kc B:Nat)(w:World),B≤w.heap.size→RV w (· <B) t (qc t A c K kc)→0<k→k≤4→
 Calls Tryz.prog 80 #[qn t A c K kc,.int .i64 k] w fun e w'=>e= .returned (.int .i64 (zo k t:Nat))∧Below w.heap.size w w'
 |0,t,hD,_,_,_,_,_,_,_,_,_,_,_,_=>by cases t;simp only[qv]at hD;omega
 |D+1,t,hD,hc,hf,A,c,K,kc,B,w,hB,h,hk0,hk4=>by
  have IH:=Lib.hid (qc9 X hX k D);have HR:=Lib.hid (fun(W:World)(hW:Below w.heap.size w W)=>h.below (hW.mono hB));have HD:=Lib.hid (fun(u:RP)(hu:u∈t.ks)=>show qv u≤D by have:=qD hu;omega);have HF:=Lib.hid hf.at_.2.2;have HB:=Lib.hid hB;have hkl:=hf.at_.2.1;have HKC:=Lib.hid h.node.2.2.2;have hpt:=qr hc;have hb0:=(Below.refl w.heap.size w).alloc (Nat.le_refl _) (.cells #[.int .i64 t.lv,.bool t.ng,.slice A t.ds.length c,.slice K t.ks.length kc] 28);have hk0':=qd.new w 28 #[.int .i64 t.lv,.bool t.ng,.slice A t.ds.length c,.slice K t.ks.length kc];have HB0:=Lib.hid hb0;have HK0:=Lib.hid hk0';have HK:=Lib.hid (And.intro hk0 hk4);rw[JM];unfold qn at IH ⊢;clear h hD hf hB hb0 hk0' hc;by_cases h1:t.lv<k
  ·have HC:=Lib.hid (show((if t.lv<k then 0 else if t.lv=k then t.ks.length-1 else Jm k t.ks:Nat):Int)=0 by rw[if_pos h1];rfl);clear hpt;generalize (if t.lv<k then 0 else if t.lv=k then t.ks.length-1 else Jm k t.ks:Nat)=r at*;generalize t.ds.length=nd at*;generalize t.ks.length=nk at*;generalize t.lv=lv at*;go_enter Tryz.func80,Tryz.ntmps80
   go_wp2_with fail
   go_ret
   exact⟨by rw[HC.out];rfl,HB0.out⟩
  ·by_cases h2:t.lv=k
   ·have HC:=Lib.hid (show((if t.lv<k then 0 else if t.lv=k then t.ks.length-1 else Jm k t.ks:Nat):Int)=(t.ks.length:Int)-1 by
     rw[if_neg h1,if_pos h2];rcases hpt with⟨a,_⟩|⟨_,_,_,_,a,_⟩<;>omega)
    clear hpt;generalize (if t.lv<k then 0 else if t.lv=k then t.ks.length-1 else Jm k t.ks:Nat)=r at*;generalize t.ds.length=nd at*;generalize t.ks.length=nk at*;generalize t.lv=lv at*;subst h2;have e1:decide (lv<lv)=false:=by simp
    have e2:IntKind.i64.wrap ((nk:Int)-1)=(nk:Int)-1:=IntWalk.i64_in _ (by omega);clear h1;go_enter Tryz.func80,Tryz.ntmps80
    go_wp2_with fail
    go_ret
    exact⟨by rw[HC.out];rfl,HB0.out⟩
   ·have HC:=Lib.hid (show(if t.lv<k then 0 else if t.lv=k then t.ks.length-1 else Jm k t.ks:Nat)=Jm k t.ks by rw[if_neg h1,if_neg h2]);have HCK:=Lib.hid (show∀u∈t.ks,qj u=true by
     rcases hpt with⟨a,b,_⟩|⟨_,_,_,_,_,a,_⟩
     ·intro u hu;rw[b]at hu;cases hu
     ·exact fun u hu=>(a u hu).2)
    have HDL:=Lib.hid (show∀j,Jm k (t.ks.take j)≤X from fun j=>qbQ (d:=X) (n:=X) k _ (Jd.mem.2 fun u hu=>by
     have:=HF.out u (List.mem_of_mem_take hu);clear IH;exact qfv X u this))
    clear hpt;generalize (if t.lv<k then 0 else if t.lv=k then t.ks.length-1 else Jm k t.ks:Nat)=r at*;generalize hnk:t.ks.length=nk at*;have HNK:=Lib.hid hnk;clear hnk;generalize t.ds.length=nd at*;generalize t.lv=lv at*;have e1:decide (lv<k)=false:=by simp;omega
    have e2:(lv==k)=false:=by simpa using h2
    clear h1 h2;go_enter Tryz.func80,Tryz.ntmps80
    go_wp2_with fail
    generalize w.alloc (.cells #[.int .i64 lv,.bool t.ng,.slice A nd c,.slice K nk kc] 28)=W at*;go_loopg [5,25] nk (fun gn hi ix wr=>∃j:Nat,j≤nk∧gn=nk-j∧ix= .int .i64 j∧hi= .int .i64 (Jm k (t.ks.take j):Nat)∧Below w.heap.size w wr)
    case atStart=>exact⟨0,Nat.zero_le _,rfl,rfl,by simp[Jm],HB0.out⟩
    case round=>
     clear HB0 HK0;obtain⟨j,hj,hgj,rfl,rfl,hbw⟩:=hrel;have HG:=Lib.hid hgj;clear hgj;by_cases hlt:j<nk
     ·obtain⟨u,hu⟩:∃u,t.ks[j]? =some u:=⟨_,List.getElem?_eq_getElem (by rw[HNK.out];exact hlt)⟩;obtain⟨b,o,A1,q1,K1,r1,rfl,hbB,x0,x1,x2,x3,hku⟩:=(HR.out wr hbw).kid hu;have hum:=List.mem_of_getElem? hu;have hal:=(Below.refl wr.heap.size wr).alloc (Nat.le_refl _) (.cells #[.int .i64 u.lv,.bool u.ng,.slice A1 u.ds.length q1,.slice K1 u.ks.length r1] 28);have HBA:=Lib.hid (hbw.trans (hal.mono hbw.size));have HCC:=Lib.hid (IH.out u (HD.out u hum) (HCK.out u hum) (HF.out u hum) A1 q1 K1 r1 wr.heap.size _ hal.size ((hku.more (Nat.le_trans HB.out hbw.size)).below hal) HK.out.1 HK.out.2);have HTK:=Lib.hid (qdu (k:=k) hu);have i3:(0:Int)≤(j:Int):=by omega
      have i4:(j:Int)<(nk:Int):=by omega
      have i5:(nk:Int)≤(kc:Int):=by have:=HKC.out;omega
      clear hu hum hku hbw hal;generalize zo k u=du at*;generalize Jm k (t.ks.take j)=dj at*;generalize u.ds.length=ud at*;generalize u.ks.length=uk at*;generalize u.ng=ug at*;generalize u.lv=ul at*;go_wp2_with fail
      refine HCC.out.mono ?_;rintro e w2 ⟨rfl,hb2⟩;have HB2:=Lib.hid (HBA.out.trans (hb2.mono HBA.out.size));clear hb2 HCC x0 x1 x2 x3;go_wp2_with fail
      go_roundg (nk-(j+1))
      case rel=>exact⟨j+1,by omega,rfl,by go_num,by rw[HTK.out];congr 1;omega,HB2.out⟩
      case measure=>have:=HG.out;omega
     ·obtain rfl:nk=j:=by omega
      have HF':=Lib.hid (show Jm k (t.ks.take nk)=Jm k t.ks by rw[List.take_of_length_le (by rw[HNK.out];exact Nat.le_refl _)]);have HBF:=Lib.hid hbw;clear hbw;go_wp2_with fail
      go_ret
      exact⟨by rw[HF'.out,HC.out];rfl,HBF.out⟩
theorem qdU(q:Rat)(m:Nat):∀n,q^(m+n)=q^m*q^n
 |0=>by rw[Nat.add_zero,Rat.pow_zero,Rat.mul_one]
 |n+1=>by rw[←Nat.add_assoc,Rat.pow_succ,Rat.pow_succ,qdU q m n,Rat.mul_assoc]
def Zi(num:Int)(pw:Nat→Int)(ks:List RP)(m:Nat):Nat→RP
 |0=>ks.getD m qa
 |j+1=>yo 5 [yc num (Zi num pw ks m j),yc (pw (j+1)) (ks.getD (m-(j+1)) qa)]
mutual
def atT(i num:Int)(pw:Nat→Int)(n:Nat):RP→RP
 | .mk l g ds ks=>if l<i then yc (pw n) (.mk l g ds ks)else if i<l then jD l (atL i num pw n ks)else yc (pw (n-(ks.length-1))) (Zi num pw ks (ks.length-1) (ks.length-1))
def atL(i num:Int)(pw:Nat→Int)(n:Nat):List RP→List RP
 |[]=>[]
 |t::ts=>atT i num pw n t::atL i num pw n ts
end
theorem qjP(i num:Int)(pw:Nat→Int)(n:Nat)(ts:List RP):atL i num pw n ts=ts.map (atT i num pw n):=by
 induction ts with
 |nil=>simp[atL]
 |cons t ts ih=>simp[atL,ih]
theorem Qd(i num:Int)(pw:Nat→Int)(n:Nat)(t:RP):atT i num pw n t=if t.lv<i then yc (pw n) t else if i<t.lv then jD t.lv (t.ks.map (atT i num pw n))else yc (pw (n-(t.ks.length-1))) (Zi num pw t.ks (t.ks.length-1) (t.ks.length-1)):=by
 cases t
 rw[atT,qjP];rfl
def YP(l:Int)(ks:List RP):Prop:=∀u∈ks,u.lv<l∧qj u=true
theorem YP.get{l:Int}{ks:List RP}(h:YP l ks)(h0:1≤l)(i:Nat):(ks.getD i qa).lv<l∧qj (ks.getD i qa)=true:=
 jX (Q:=fun u:RP=>u.lv<l∧qj u=true) h ⟨by show(0:Int)<l;omega,by decide⟩
theorem Qq{num:Int}{pw:Nat→Int}{l:Int}{ks:List RP}(h:YP l ks)(h1:1≤l)(h4:l≤4)(m:Nat):∀j,(Zi num pw ks m j).lv<l∧qj (Zi num pw ks m j)=true
 |0=>h.get h1 m
 |j+1=>by
  obtain⟨a,b⟩:=Qq h h1 h4 m j;obtain⟨c,d⟩:=h.get h1 (m-(j+1));obtain⟨a1,a2⟩:=Jg num _ b;obtain⟨c1,c2⟩:=Jg (pw (j+1)) _ d;rw[Zi];have hok:Jc 5 [yc num (Zi num pw ks m j),yc (pw (j+1)) (ks.getD (m-(j+1)) qa)]:=by
   intro t ht;simp only[List.mem_cons,List.not_mem_nil,or_false]at ht;rcases ht with rfl|rfl
   ·exact⟨a1,by omega⟩
   ·exact⟨c1,by omega⟩
  obtain⟨k1,k2⟩:=Z3 5 _ hok;refine⟨?_,k1⟩;have:=k2 (l-1) (by omega) (by
   intro t ht;simp only[List.mem_cons,List.not_mem_nil,or_false]at ht;rcases ht with rfl|rfl<;>omega)
  omega
theorem qiy{num:Int}{pw:Nat→Int}{l:Int}{ks:List RP}(h:YP l ks)(h1:1≤l)(h4:l≤4)(m j:Nat):Jc 5 [yc num (Zi num pw ks m j),yc (pw (j+1)) (ks.getD (m-(j+1)) qa)]:=by
 obtain⟨a,b⟩:=Qq (num:=num) (pw:=pw) h h1 h4 m j;obtain⟨c,d⟩:=h.get h1 (m-(j+1));obtain⟨a1,a2⟩:=Jg num _ b;obtain⟨c1,c2⟩:=Jg (pw (j+1)) _ d;intro t ht;simp only[List.mem_cons,List.not_mem_nil,or_false]at ht;rcases ht with rfl|rfl
 ·exact⟨a1,by omega⟩
 ·exact⟨c1,by omega⟩
theorem Yn{t:RP}(h:qj t=true)(h0:1≤t.lv):YP t.lv t.ks∧t.lv≤4∧2≤t.ks.length:=by
 rcases qr h with⟨a,_⟩|⟨_,a4,_,_,c2,c,_⟩
 ·omega
 ·exact⟨c,a4,c2⟩
theorem qcB{i num:Int}{pw:Nat→Int}{n:Nat}(hi:1≤i):∀(t:RP),qj t=true→qj (atT i num pw n t)=true∧(atT i num pw n t).lv≤t.lv
 |t,hc=>by
  rw[Qd]
  split
  ·exact Jg _ t hc
  ·obtain⟨k,a4,c2⟩:=Yn hc (by omega)
   split
   ·refine qbD (by omega) a4 fun u hu=>?_;obtain⟨x,hx,rfl⟩:=List.mem_map.1 hu;obtain⟨b1,b2⟩:=qcB hi x (k x hx).2;exact⟨by have:=(k x hx).1;omega,b1⟩
   ·obtain⟨b1,b2⟩:=Qq (num:=num) (pw:=pw) k (by omega) a4 (t.ks.length-1) (t.ks.length-1);obtain⟨d1,d2⟩:=Jg (pw (n-(t.ks.length-1))) _ b2;exact⟨d1,by omega⟩
termination_by t=>qv t
decreasing_by exact qD hx
theorem qii(pt:Nat→Rat)(x:Rat):∀(ks:List RP)(j:Nat),j<ks.length→vL pt x (ks.drop j)=vT pt (ks.getD j qa)+x*vL pt x (ks.drop (j+1))
 |[],_,h=>by simp at h
 |t::ts,0,_=>by simp only[List.drop_zero,List.drop_succ_cons,vL];rfl
 |t::ts,j+1,h=>by
  rw[List.drop_succ_cons,List.drop_succ_cons];exact qii pt x ts j (by simpa using h)
theorem qfJ{num d:Int}(hd:d≠0){l:Int}{ks:List RP}(h:YP l ks)(h1:1≤l)(h4:l≤4)(pt:Nat→Rat){m:Nat}(hm:m+1=ks.length):∀j,j≤m→
 vT pt (Zi num (fun i=>d^i) ks m j)=(d:Rat)^j*vL pt ((num:Rat)/(d:Rat)) (ks.drop (m-j))
 |0,_=>by
  rw[Zi,Nat.sub_zero,qii pt _ ks m (by omega),List.drop_eq_nil_of_le (by omega),vL,Rat.pow_zero]
  grind
 |j+1,hj=>by
  have ih:=qfJ hd h h1 h4 pt hm (num:=num) j (by omega);rw[Zi,qee pt 5 _ (qiy h h1 h4 m j),Zy,Zy,Zy,YZ pt num _ (Qq h h1 h4 m j).2,YZ pt _ _ (h.get h1 _).2,ih,qii pt _ ks (m-(j+1)) (by omega),show m-(j+1)+1=m-j by omega];have hq:(d:Rat)≠0:=by intro e;exact hd (by exact_mod_cast e)
  rw[Rat.intCast_pow,Rat.pow_succ];generalize vL pt ((num:Rat)/(d:Rat)) (ks.drop (m-j))=v;generalize vT pt (ks.getD (m-(j+1)) qa)=c;generalize (d:Rat)^j=p;generalize (num:Rat)=x at*;generalize (d:Rat)=y at*;have e:x=x/y*y:=by rw[Rat.div_mul_cancel hq]
  generalize x/y=z at*;subst e
  grind
theorem qis{num d:Int}(hd:d≠0){k:Nat}(hk:k<4)(n:Nat)(pt:Nat→Rat):∀(t:RP),qj t=true→zo ((k:Int)+1) t≤n→
 vT pt (atT ((k:Int)+1) num (fun i=>d^i) n t)=(d:Rat)^n*vT (ptS pt k ((num:Rat)/(d:Rat))) t
 |t,hc,hn=>by
  rw[Qd];rw[JM]at hn;by_cases h1:t.lv<(k:Int)+1
  ·rw[if_pos h1,YZ pt _ t hc,qiH _ pt t (QM t hc h1),Rat.intCast_pow]
  ·rw[if_neg h1]at hn ⊢;obtain⟨hks,a4,c2⟩:=Yn hc (by omega);by_cases h2:(k:Int)+1<t.lv
   ·rw[if_pos h2];rw[if_neg (by omega)]at hn;rw[qa7 (by omega) a4 (fun u hu=>by
     obtain⟨x,hx,rfl⟩:=List.mem_map.1 hu;exact(qcB (by omega) x (hks x hx).2).1) pt,zI,if_neg (by omega),if_neg (by omega),show ptS pt k ((num:Rat)/(d:Rat)) (t.lv.toNat-1)=pt (t.lv.toNat-1)from if_neg (by omega)]
    have hl:∀ks:List RP,(∀u∈ks,u∈t.ks)→∀x,vL pt x (ks.map (atT ((k:Int)+1) num (fun i=>d^i) n))=(d:Rat)^n*vL (ptS pt k ((num:Rat)/(d:Rat))) x ks:=by
     intro ks
     induction ks with
     |nil=>intro _ x;simp only[List.map_nil,vL];grind
     |cons u ks ih=>
      intro hm x;have hu:=hm u List.mem_cons_self;simp only[List.map_cons,vL];rw[ih (fun y hy=>hm y (List.mem_cons_of_mem _ hy)) x,qis hd hk n pt u (hks u hu).2 (Nat.le_trans (Yv hu) hn)]
      grind
    exact hl t.ks (fun _ h=>h) _
   ·rw[if_neg h2];have e:t.lv=(k:Int)+1:=by omega
    rw[if_pos e]at hn;rw[YZ pt _ _ (Qq hks (by omega) a4 _ _).2,qfJ hd hks (by omega) a4 pt (by omega) _ (Nat.le_refl _),Nat.sub_self,List.drop_zero,zI,if_neg (by omega),if_neg (by omega),e,show((k:Int)+1).toNat-1=k by omega,show ptS pt k ((num:Rat)/(d:Rat)) k=(num:Rat)/(d:Rat)from if_pos rfl,qje _ pt _ _ fun u hu=>QM u (hks u hu).2 (by have:=(hks u hu).1;omega),Rat.intCast_pow];obtain⟨r,rfl⟩:∃r,n=(t.ks.length-1)+r:=⟨n-(t.ks.length-1),by omega⟩;rw[show(t.ks.length-1)+r-(t.ks.length-1)=r by omega,qdU]
    grind
termination_by t=>qv t
decreasing_by exact qD hu
theorem qev{d e N:Nat}{num:Int}{pw:Nat→Int}(hn:num.natAbs<4294967296^e)(hp:∀j,(pw j).natAbs<4294967296^(e*j+1)){ks:List RP}(h:∀u∈ks,qM d N u∧qG u)(m:Nat):∀j,qM (d+(e+2)*j) N (Zi num pw ks m j)∧qG (Zi num pw ks m j)
 |0=>jX (Q:=fun u:RP=>qM (d+(e+2)*0) N u∧qG u) h ⟨qM.zero _ _,qG.zero⟩
 |j+1=>by
  obtain⟨a,b⟩:=qev hn hp h m j;obtain⟨c,g⟩:=jX (i:=m-(j+1)) (d:=qa) (Q:=fun u:RP=>qM d N u∧qG u) h ⟨qM.zero _ _,qG.zero⟩;rw[Zi];refine⟨?_,qed 5 _⟩;have h1:=QD hn _ a b;have h2:=QD (hp (j+1)) _ c g;have e1:(e+2)*(j+1)=(e+2)*j+e+2:=by rw[Nat.mul_succ];omega
  have e2:e*(j+1)≤(e+2)*j+e:=by
   have:=Nat.mul_le_mul_right j (show e≤e+2 by omega);rw[Nat.mul_succ];omega
  have:=qe4 (d:=d+(e+2)*j+e+1) (n:=N) 5 [yc num (Zi num pw ks m j),yc (pw (j+1)) (ks.getD (m-(j+1)) qa)] (by simp) (by
   intro t ht;simp only[List.mem_cons,List.not_mem_nil,or_false]at ht;rcases ht with rfl|rfl
   ·exact⟨qM.mono (by omega) (Nat.le_refl _) _ h1,YA _ _⟩
   ·exact⟨qM.mono (by omega) (Nat.le_refl _) _ h2,YA _ _⟩)
  exact qM.mono (by omega) (Nat.le_refl _) _ this
theorem qik{i num:Int}{pw:Nat→Int}{n:Nat}:∀(t:RP),qG (atT i num pw n t)
 |t=>by
  rw[Qd]
  split
  ·exact YA _ _
  ·split
   ·refine qbC fun u hu=>?_;obtain⟨x,hx,rfl⟩:=List.mem_map.1 hu;exact qik x
   ·exact YA _ _
termination_by t=>qv t
decreasing_by exact qD hx
theorem qjg{d e N n:Nat}{i num:Int}{pw:Nat→Int}(hn:num.natAbs<4294967296^e)(hp:∀j,(pw j).natAbs<4294967296^(e*j+1)):∀(t:RP),zo i t≤n→qM d N t→qG t→qM (d+(e+2)*n+1) N (atT i num pw n t)
 |t,hg,h,hd=>by
  rw[Qd];rw[JM]at hg;have e2:e*n≤(e+2)*n:=Nat.mul_le_mul_right _ (by omega);by_cases h1:t.lv<i
  ·rw[if_pos h1];exact qM.mono (by omega) (Nat.le_refl _) _ (QD (hp n) _ h hd)
  ·rw[if_neg h1]at hg ⊢;by_cases h2:i<t.lv
   ·rw[if_pos h2];rw[if_neg (by omega)]at hg;refine qd1 (by rw[List.length_map];exact h.at_.2.1) fun u hu=>?_;obtain⟨x,hx,rfl⟩:=List.mem_map.1 hu;exact qjg hn hp x (Nat.le_trans (Yv hx) hg) (h.at_.2.2 x hx) (hd.at_.2 x hx)
   ·rw[if_neg h2];rw[if_pos (by omega)]at hg;obtain⟨a,b⟩:=qev hn hp (fun u hu=>⟨h.at_.2.2 u hu,hd.at_.2 u hu⟩) (t.ks.length-1) (t.ks.length-1);refine qM.mono ?_ (Nat.le_refl _) _ (QD (hp (n-(t.ks.length-1))) _ a b);obtain⟨r,rfl⟩:∃r,n=(t.ks.length-1)+r:=⟨n-(t.ks.length-1),by omega⟩;rw[show(t.ks.length-1)+r-(t.ks.length-1)=r by omega,Nat.mul_add];have:=Nat.mul_le_mul_right r (show e≤e+2 by omega);omega
termination_by t=>qv t
decreasing_by exact qD hx
theorem qhq{k:Int}(hk:0<k){num:Int}{pw:Nat→Int}{ks:List RP}(h:∀u∈ks,yI k u=false)(m:Nat):∀j,yI k (Zi num pw ks m j)=false
 |0=>jX (Q:=fun u:RP=>yI k u=false) h (yW hk)
 |j+1=>by
  rw[Zi];refine qfT hk 5 _ fun t ht=>?_;simp only[List.mem_cons,List.not_mem_nil,or_false]at ht;rcases ht with rfl|rfl
  ·exact qbe hk _ _ (qhq hk h m j)
  ·exact qbe hk _ _ (jX (Q:=fun u:RP=>yI k u=false) h (yW hk))
theorem qkR{k i:Int}(hk:0<k){num:Int}{pw:Nat→Int}{n:Nat}:∀(t:RP),qj t=true→1≤i→(yI k t=false∨k=i)→yI k (atT i num pw n t)=false
 |t,hc,hi,h=>by
  rw[Qd]
  split
  ·rename_i h1;refine qbe hk _ _ ?_;rcases h with h|rfl
   ·exact h
   ·exact QM t hc h1
  ·obtain⟨hks,a4,c2⟩:=Yn hc (by omega)
   split
   ·rename_i h1 h2;refine qc0 hk ?_ fun u hu=>?_
    ·rcases h with h|rfl
     ·exact(qS.1 h).1
     ·omega
    ·obtain⟨x,hx,rfl⟩:=List.mem_map.1 hu;refine qkR hk x (hks x hx).2 hi ?_;rcases h with h|h
     ·exact .inl ((qS.1 h).2 x hx)
     ·exact .inr h
   ·refine qbe hk _ _ (qhq hk (fun u hu=>?_) _ _);rcases h with h|rfl
    ·exact(qS.1 h).2 u hu
    ·exact QM u (hks u hu).2 (by have:=(hks u hu).1;omega)
termination_by t=>qv t
decreasing_by exact qD hx
theorem RV.negS{S:Nat→Prop}{w:World}{base g:Nat}{t:RP}{vs:List Value}{cs:Array Value}(h:RV w (Zt S w base) t vs)(hS:∀b,S b→b<w.heap.size∧b≠g)(hk:qd w g 28 cs)(hg:g<base):RV w (NeG g w) t vs:=by
 refine RV.mono (fun _ hb=>?_) _ _ h;rcases hb with hb|hb
 ·exact hS _ hb
 ·exact⟨hb.lt,yK.ne (W:=w) (g:=g) (hb.mono hg) hk⟩
theorem RV.negOld{w w':World}{g:Nat}{t:RP}{vs:List Value}(h:RV w (NeG g w) t vs)(hb:Below w.heap.size w w'):RV w' (NeG g w') t vs:=
 RV.mono (fun _ hb'=>⟨Nat.lt_of_lt_of_le hb'.1 hb.size,hb'.2⟩) _ _ (RV.keep (fun b hb' o=>hb.cell (p:=⟨b,o,none⟩) hb'.1) _ _ h)
structure qd6 (W0 W:World) (g:Nat) (T:RP) (A:Option Addr) (c:Nat) (K:Option Addr) (kc:Nat):Prop where
 bel:Below W0.heap.size W0 W
 ge:W0.heap.size≤g
 box:qd W g 28 #[.int .i64 T.lv,.bool T.ng,.slice A T.ds.length c,.slice K T.ks.length kc]
 tree:RV W (NeG g W) T (qc T A c K kc)
theorem qd6.old{W0 W W1:World}{g:Nat}{T:RP}{A K:Option Addr}{c kc:Nat}(h:qd6 W0 W g T A c K kc)(hb:Below W.heap.size W W1):qd6 W0 W1 g T A c K kc:=
 ⟨h.bel.trans (hb.mono h.bel.size),h.ge,h.box.old hb,h.tree.negOld hb⟩
theorem qd6.put{W0 W W1:World}{g:Nat}{T T':RP}{A K A' K':Option Addr}{c kc c' kc':Nat}(h:qd6 W0 W g T A c K kc)(hb:Below W.heap.size W W1)(ht:RV W1 (NeG g W1) T' (qc T' A' c' K' kc')):
 qd6 W0 (jl W1 g 0 (.int .i64 T'.lv) (.bool T'.ng) (.slice A' T'.ds.length c') (.slice K' T'.ks.length kc')) g T' A' c' K' kc':=by
 have hk:=h.box.old hb;obtain⟨s1,_,_⟩:=jt (k:=0) hk (.int .i64 T'.lv) (.bool T'.ng) (.slice A' T'.ds.length c') (.slice K' T'.ks.length kc');refine⟨qe (h.bel.trans (hb.mono h.bel.size)) h.ge _ _ _ _,h.ge,s1,RV.mono (fun _ hb'=>⟨by rw[jQ];exact hb'.1,hb'.2⟩) _ _ (RV.keep (fun b hb' o=>set4_far W1 (Ne.symm hb'.2) 0 o _ _ _ _) _ _ ht)⟩
theorem yY.two{w:World}{S:Nat→Prop}{k:Nat}{X Y:RP}{xs ys:List Value}(hk:qd w k 28 (xs++ys).toArray)(hx:RV w S X xs)(hy:RV w S Y ys):yY w (· <w.heap.size) S (some ⟨k,0,none⟩) [X,Y]:=by
 refine⟨[xs,ys],⟨?_,fun _=>⟨k,0,rfl,hk.lt,fun j u hu=>?_⟩⟩,?_⟩
 ·simp[hx.four,hy.four]
 ·rw[Nat.zero_add,hk.cell];simpa using hu
 ·simp only[qH];exact⟨xs,[ys],rfl,hx,ys,[],rfl,hy,rfl⟩
theorem qjV(X d e N n:Nat)(hX:X≤10000)(hdX:d+(e+2)*n+1≤X)(hNX:N≤X)(hnX:n≤1000)(i:Int)(pw:Nat→Int)(gN:Bool)(dN:List Nat)(zs:List ZT)(hzl:zs.length=n+1)(hz:∀j x,zs[j]? =some x→x.z=pw j∧x.ds.length≤X)(t:RP)(hc:qj t=true)(hlw:qM d N t)(h1:t.lv<i)(A:Option Addr)(c:Nat)(K:Option Addr)(kc:Nat)(Na:Option Addr)(nc:Nat)(P:Option Addr)(cP B:Nat)(w:World)(hB:B≤w.heap.size)(h:RV w (· <B) t (qc t A c K kc))(hnu:qh w B Na nc dN)(hpi:qR w B P zs)(hcP:zs.length≤cP):
 Calls Tryz.prog 82 #[qn t A c K kc,.int .i64 i,.agg #[.bool gN,.slice Na dN.length nc],.slice P zs.length cP] w (q8 (atT i (qb gN dN) pw n t) w):=by
 have HR:=Lib.hid (fun(W:World)(hW:Below w.heap.size w W)=>h.below (hW.mono hB));have HNU:=Lib.hid (fun(W:World)(hW:Below w.heap.size w W)=>hnu.below (hW.mono hB));have HPI:=Lib.hid (fun(W:World)(hW:Below w.heap.size w W)=>hpi.below (hW.mono hB));have HX:=Lib.hid (jF w 28 25 28 #[.int .i64 t.lv,.bool t.ng,.slice A t.ds.length c,.slice K t.ks.length kc] #[.bool gN,.slice Na dN.length nc] #[.int .i64 0,.bool false,.slice none 0 0,.slice none 0 0]);have hdt:qG t:=RV.digT _ _ h;have HSC:=Lib.hid (fun(T:RP)(hc:qj T=true)(hs:yf X T)(A:Option Addr)(c:Nat)(K:Option Addr)(kc:Nat)(g:Bool)(ds:List Nat)(D:Option Addr)(cd:Nat)(W:World)(h:RV W (· <W.heap.size) T (qc T A c K kc))(hn:qh W W.heap.size D cd ds)(hm:ds.length≤X)=>Qp X (by omega) T hc hs A c K kc g ds D cd W.heap.size W (Nat.le_refl _) h hn hm);have hsm:yf X t:=hlw.sm (by omega) hNX;have HKC:=Lib.hid h.node.2.2.2;have HB:=Lib.hid hB;obtain⟨m,hm⟩:∃m,m=zs.length:=⟨_,rfl⟩;rw[←hm]at hcP ⊢;have hmn:m=n+1:=hm.trans hzl;have hnn:(m:Int)-1=(n:Int):=by omega
 rw[Qd];unfold q8 qn at HSC ⊢;obtain⟨x,hx⟩:∃x,zs[n]? =some x:=⟨_,List.getElem?_eq_getElem (by omega)⟩;obtain⟨b,o,rfl,hbB,px0,px1,hxn⟩:=hpi.at_ hx;obtain⟨hxz,hxl⟩:=hz n x hx;have HXN:=Lib.hid (fun(W:World)(hW:Below w.heap.size w W)=>(hxn.below (hW.mono hB)).more (Nat.le_trans hB hW.size));have HXL:=Lib.hid hxl;rw[if_pos h1,←hxz,show x.z=qb x.ng x.ds from rfl];have HSC1:=Lib.hid (fun(W:World)(hW:Below w.heap.size w W)=>HSC.out t hc hsm A c K kc x.ng x.ds x.A x.c W ((HR.out W hW).more (Nat.le_trans hB hW.size)) (HXN.out W hW) hxl);have i3:(0:Int)≤(n:Int):=by omega
 have i4:(n:Int)<(m:Int):=by omega
 have i5:(m:Int)≤(cP:Int):=by omega
 clear hx hxn hxz hpi hnu h hlw hdt hsm hm hmn HR HNU HPI HSC hc hz hzl HB HXN;generalize yc (qb x.ng x.ds) t=T at*;obtain⟨hb0,k0,k1,k2,hs⟩:=HX.out;clear HX;generalize t.ds.length=nd at*;generalize t.ks.length=nk at*;generalize t.lv=lv at*;generalize t.ng=ng at*;generalize hdn:dN.length=dl at*;go_enter Tryz.func82,Tryz.ntmps82
 go_wp2_with fail
 generalize ((w.alloc (.cells #[.int .i64 lv,.bool ng,.slice A nd c,.slice K nk kc] 28)).alloc (.cells #[.bool gN,.slice Na dl nc] 25)).alloc (.cells #[.int .i64 0,.bool false,.slice none 0 0,.slice none 0 0] 28)=W at*;have hbW:b<W.heap.size:=by omega
 have HB0:=Lib.hid hb0;have HK2:=Lib.hid k2;have px0:W.cell? ⟨b,o+n*2,none⟩=some (.bool x.ng):=(hb0.cell (p:=⟨b,o+n*2,none⟩) (Nat.lt_of_lt_of_le hbB hB)).trans px0;have px1:W.cell? ⟨b,o+n*2+1,none⟩=some (.slice x.A x.ds.length x.c):=(hb0.cell (p:=⟨b,o+n*2+1,none⟩) (Nat.lt_of_lt_of_le hbB hB)).trans px1;have KF:=Lib.hid (fun(V:World)(hV:Below W.heap.size W V)=>(⟨(k0.old hV).cell 0,(k0.old hV).cell 1,(k0.old hV).cell 2,(k0.old hV).cell 3,(hV.cell (p:=⟨b,o+n*2,none⟩) hbW).trans px0,(hV.cell (p:=⟨b,o+n*2+1,none⟩) hbW).trans px1⟩:
  V.cell? ⟨w.heap.size,0,none⟩=some (.int .i64 lv)∧V.cell? ⟨w.heap.size,1,none⟩=some (.bool ng)∧V.cell? ⟨w.heap.size,2,none⟩=some (.slice A nd c)∧V.cell? ⟨w.heap.size,3,none⟩=some (.slice K nk kc)∧V.cell? ⟨b,o+n*2,none⟩=some (.bool x.ng)∧V.cell? ⟨b,o+n*2+1,none⟩=some (.slice x.A x.ds.length x.c)))
 have KS:=Lib.hid (fun(V:World)(hV:Below W.heap.size W V)(x0 x1 x2 x3:Value)=>(⟨((k0.old hV).set4_far (Nat.ne_of_lt (by omega)) 0 x0 x1 x2 x3).cell 0,((k0.old hV).set4_far (Nat.ne_of_lt (by omega)) 0 x0 x1 x2 x3).cell 1,((k0.old hV).set4_far (Nat.ne_of_lt (by omega)) 0 x0 x1 x2 x3).cell 2,((k0.old hV).set4_far (Nat.ne_of_lt (by omega)) 0 x0 x1 x2 x3).cell 3,(set4_far V (Nat.ne_of_gt (by omega)) 0 _ x0 x1 x2 x3).trans ((hV.cell (p:=⟨b,o+n*2,none⟩) hbW).trans px0),(set4_far V (Nat.ne_of_gt (by omega)) 0 _ x0 x1 x2 x3).trans ((hV.cell (p:=⟨b,o+n*2+1,none⟩) hbW).trans px1)⟩:
  ((((V.setCell ⟨w.heap.size+1+1,0,none⟩ x0).setCell ⟨w.heap.size+1+1,1,none⟩ x1).setCell ⟨w.heap.size+1+1,2,none⟩ x2).setCell ⟨w.heap.size+1+1,3,none⟩ x3).cell? ⟨w.heap.size,0,none⟩=some (.int .i64 lv)∧((((V.setCell ⟨w.heap.size+1+1,0,none⟩ x0).setCell ⟨w.heap.size+1+1,1,none⟩ x1).setCell ⟨w.heap.size+1+1,2,none⟩ x2).setCell ⟨w.heap.size+1+1,3,none⟩ x3).cell? ⟨w.heap.size,1,none⟩=some (.bool ng)∧((((V.setCell ⟨w.heap.size+1+1,0,none⟩ x0).setCell ⟨w.heap.size+1+1,1,none⟩ x1).setCell ⟨w.heap.size+1+1,2,none⟩ x2).setCell ⟨w.heap.size+1+1,3,none⟩ x3).cell? ⟨w.heap.size,2,none⟩=some (.slice A nd c)∧((((V.setCell ⟨w.heap.size+1+1,0,none⟩ x0).setCell ⟨w.heap.size+1+1,1,none⟩ x1).setCell ⟨w.heap.size+1+1,2,none⟩ x2).setCell ⟨w.heap.size+1+1,3,none⟩ x3).cell? ⟨w.heap.size,3,none⟩=some (.slice K nk kc)∧((((V.setCell ⟨w.heap.size+1+1,0,none⟩ x0).setCell ⟨w.heap.size+1+1,1,none⟩ x1).setCell ⟨w.heap.size+1+1,2,none⟩ x2).setCell ⟨w.heap.size+1+1,3,none⟩ x3).cell? ⟨b,o+n*2,none⟩=some (.bool x.ng)∧((((V.setCell ⟨w.heap.size+1+1,0,none⟩ x0).setCell ⟨w.heap.size+1+1,1,none⟩ x1).setCell ⟨w.heap.size+1+1,2,none⟩ x2).setCell ⟨w.heap.size+1+1,3,none⟩ x3).cell? ⟨b,o+n*2+1,none⟩=some (.slice x.A x.ds.length x.c)))
 have KR:=Lib.hid (fun(V:World)(hV:Below W.heap.size W V)=>(⟨(k2.old hV).cell 0,(k2.old hV).cell 1,(k2.old hV).cell 2,(k2.old hV).cell 3,(k2.old hV).frozen 0,(k2.old hV).frozen 1,(k2.old hV).frozen 2,(k2.old hV).frozen 3,(k2.old hV).lt⟩:
  V.cell? ⟨w.heap.size+1+1,0,none⟩=some (.int .i64 0)∧V.cell? ⟨w.heap.size+1+1,1,none⟩=some (.bool false)∧V.cell? ⟨w.heap.size+1+1,2,none⟩=some (.slice none 0 0)∧V.cell? ⟨w.heap.size+1+1,3,none⟩=some (.slice none 0 0)∧V.frozen? ⟨w.heap.size+1+1,0,none⟩=false∧V.frozen? ⟨w.heap.size+1+1,1,none⟩=false∧V.frozen? ⟨w.heap.size+1+1,2,none⟩=false∧V.frozen? ⟨w.heap.size+1+1,3,none⟩=false∧w.heap.size+1+1<V.heap.size))
 have hb:Below W.heap.size W W.drew:=(qm.drew _).below _;have hbz:Below W.heap.size W W:=Below.refl _ _;have HSC2:=Lib.hid (fun(V:World)(hV:Below W.heap.size W V)=>HSC1.out V (HB0.out.trans (hV.mono HB0.out.size)));clear HSC1 hb0 k0 k1 k2 hs px0 px1;generalize x.ds.length=xl at*;generalize x.ng=xg at*;go_region_held3 (fun w'=>w'.cell? ⟨w.heap.size,0,none⟩=some (.int .i64 lv)∧w'.cell? ⟨w.heap.size,1,none⟩=some (.bool ng)∧w'.cell? ⟨w.heap.size,2,none⟩=some (.slice A nd c)∧w'.cell? ⟨w.heap.size,3,none⟩=some (.slice K nk kc)∧w'.cell? ⟨b,o+n*2,none⟩=some (.bool xg)∧w'.cell? ⟨b,o+n*2+1,none⟩=some (.slice x.A xl x.c))
  (first|(with_reducible exact KF.out _ hb)|(with_reducible exact KF.out _ hbz)|(with_reducible exact KS.out _ hb _ _ _ _))
  (first
    |(go_at_call 102;(with_reducible refine(HSC2.out _ hb).mono ?_);rintro e w5 ⟨A5,c5,K5,kc5,rfl,hr5,hk⟩;replace hb:=hb.trans (hk.mono hb.size);obtain⟨d0,d1,d2,d3,f0,f1,f2,f3,z0⟩:=KR.out _ hb))
 have k2:=HK2.out.old hb;have hl2:=HK2.out.lt;have hdr:W.drew.heap.size=W.heap.size:=rfl;have HFN:=Lib.hid (jL (w:=w) k2 rfl hr5 (by omega) (by omega) (HB0.out.trans (hb.mono HB0.out.size)));clear hr5 hb hbz KF KS KR HSC2 k2;go_wp2_with fail
 exact qg Tryz.results82 rfl rfl HFN.out.1 Tryz.underlying28 rfl Tryz.sizeRec HFN.out.2
def cfM(f:RP→RP)(ks:List RP)(n j:Nat):List RP:=(ks.take j).map f++List.replicate (n-j) qa
theorem qiB(f:RP→RP){ks:List RP}{n j:Nat}(hj:j<n){u:RP}(hu:ks[j]? =some u):(cfM f ks n j).set j (f u)=cfM f ks n (j+1):=by
 unfold cfM;obtain⟨hj',e⟩:=List.getElem?_eq_some_iff.1 hu;obtain⟨r,hr⟩:∃r,n-j=r+1:=⟨n-j-1,by omega⟩;have hl:((ks.take j).map f).length=j:=by rw[List.length_map,List.length_take];omega
 rw[List.set_append_right _ _ (by omega),hl,Nat.sub_self,hr,List.replicate_succ,List.set_cons_zero,List.take_succ_eq_append_getElem hj',List.map_append,List.append_assoc,e,show n-(j+1)=r by omega];rfl
theorem qjS(f:RP→RP){ks:List RP}{n:Nat}(h:ks.length=n):cfM f ks n n=ks.map f:=by
 unfold cfM;rw[List.take_of_length_le (by omega),Nat.sub_self,List.replicate_zero,List.append_nil]
structure qaU (w W:World) (g n:Nat) (f:RP→RP) (ks:List RP) (j:Nat):Prop where
 bel:Below w.heap.size w W
 row:∃cur rows,qY W g n (Zt (fun _=>False) W (g+1)) (cfM f ks n j) cur rows
theorem qaU.start{w W:World}{n:Nat}{f:RP→RP}{ks:List RP}(hb:Below w.heap.size w W):qaU w (W.alloc (.cells (madeCells #[.int .i64 0,.bool false,.slice none 0 0,.slice none 0 0] (n*4)) 28)) W.heap.size n f ks 0:=by
 have:=qY.zeros (S:=Zt (fun _=>False) (W.alloc (.cells (madeCells #[.int .i64 0,.bool false,.slice none 0 0,.slice none 0 0] (n*4)) 28)) (W.heap.size+1)) n (qd.new W 28 (madeCells #[.int .i64 0,.bool false,.slice none 0 0,.slice none 0 0] (n*4)));exact⟨hb.alloc hb.size _,_,_,by simpa[cfM]using this⟩
theorem qaU.put{w W W1:World}{g n:Nat}{f:RP→RP}{ks:List RP}{j:Nat}(h:qaU w W g n f ks j)(hg:w.heap.size≤g)(hj:j<n){u:RP}(hu:ks[j]? =some u)(h1:Below W.heap.size W W1){A K:Option Addr}{c kc base:Nat}(ht:RV W1 (yK W1 base) (f u) (qc (f u) A c K kc))(hb:g+1≤base):
 qaU w (jl W1 g (j*4) (.int .i64 (f u).lv) (.bool (f u).ng) (.slice A (f u).ds.length c) (.slice K (f u).ks.length kc)) g n f ks (j+1):=by
 obtain⟨cur,rows,hr⟩:=h.row;have hs:=h.bel.size;obtain⟨cur',rows',hp⟩:=(hr.oldSh h1 fun _ hb=>hb.elim).putSh (fun _ hb=>hb.elim) hj (RV.mono (fun _ k=> .inr (k.mono hb)) _ _ ht);exact⟨qe (h.bel.trans (h1.mono hs)) hg _ _ _ _,cur',rows',by rw[←qiB f hj hu];exact hp⟩
theorem qaU.lt{w W:World}{g n:Nat}{f:RP→RP}{ks:List RP}{j:Nat}(h:qaU w W g n f ks j):g<W.heap.size:=by
 obtain⟨cur,rows,hr⟩:=h.row;exact hr.row.lt
theorem qaU.cell{w W W1:World}{g n:Nat}{f:RP→RP}{ks:List RP}{i:Nat}(h:qaU w W g n f ks i)(h1:Below W.heap.size W W1){j:Nat}(hj:j<n):∃v0 v1 v2 v3,W1.cell? ⟨g,j*4,none⟩=some v0∧W1.cell? ⟨g,j*4+1,none⟩=some v1∧W1.cell? ⟨g,j*4+2,none⟩=some v2∧W1.cell? ⟨g,j*4+3,none⟩=some v3∧
 W1.frozen? ⟨g,j*4,none⟩=false∧W1.frozen? ⟨g,j*4+1,none⟩=false∧W1.frozen? ⟨g,j*4+2,none⟩=false∧W1.frozen? ⟨g,j*4+3,none⟩=false∧g<W1.heap.size:=by
 obtain⟨cur,rows,hr⟩:=h.row;have hk:=hr.row.old h1;have hz:=hr.siz;have ex:∀i,i<4→∃v,cur[j*4+i]? =some v:=fun i hi=>⟨_,Array.getElem?_eq_getElem (by omega)⟩;obtain⟨v0,q0⟩:=ex 0 (by omega);obtain⟨v1,q1⟩:=ex 1 (by omega);obtain⟨v2,q2⟩:=ex 2 (by omega);obtain⟨v3,q3⟩:=ex 3 (by omega);exact⟨v0,v1,v2,v3,(hk.cell _).trans q0,(hk.cell _).trans q1,(hk.cell _).trans q2,(hk.cell _).trans q3,hk.frozen _,hk.frozen _,hk.frozen _,hk.frozen _,hk.lt⟩
theorem qlM(X d e N n:Nat)(hX:X≤10000)(hdX:d+(e+2)*n+1≤X)(hNX:N≤X)(i:Int)(h1i:1≤i)(pw:Nat→Int)(gN:Bool)(dN:List Nat)(zs:List ZT)(hzl:zs.length=n+1)(t:RP)(hc:qj t=true)(hlw:qM d N t)(hdg:zo i t≤n)(h2:i<t.lv)(IHx:∀u:RP,u∈t.ks→qj u=true→qM d N u→zo i u≤n→∀(A:Option Addr)(c:Nat)(K:Option Addr)(kc:Nat)(Na:Option Addr)(nc:Nat)(P:Option Addr)(cP B:Nat)(w:World),B≤w.heap.size→RV w (· <B) u (qc u A c K kc)→qh w B Na nc dN→qR w B P zs→zs.length≤cP→
 Calls Tryz.prog 82 #[qn u A c K kc,.int .i64 i,.agg #[.bool gN,.slice Na dN.length nc],.slice P zs.length cP] w (q8 (atT i (qb gN dN) pw n u) w))(A:Option Addr)(c:Nat)(K:Option Addr)(kc:Nat)(Na:Option Addr)(nc:Nat)(P:Option Addr)(cP B:Nat)(w:World)(hB:B≤w.heap.size)(h:RV w (· <B) t (qc t A c K kc))(hnu:qh w B Na nc dN)(hpi:qR w B P zs)(hcP:zs.length≤cP):
 Calls Tryz.prog 82 #[qn t A c K kc,.int .i64 i,.agg #[.bool gN,.slice Na dN.length nc],.slice P zs.length cP] w (q8 (atT i (qb gN dN) pw n t) w):=by
 have HR:=Lib.hid (fun(W:World)(hW:Below w.heap.size w W)=>h.below (hW.mono hB));have HNU:=Lib.hid (fun(W:World)(hW:Below w.heap.size w W)=>hnu.below (hW.mono hB));have HPI:=Lib.hid (fun(W:World)(hW:Below w.heap.size w W)=>hpi.below (hW.mono hB));have HX:=Lib.hid (jF w 28 25 28 #[.int .i64 t.lv,.bool t.ng,.slice A t.ds.length c,.slice K t.ks.length kc] #[.bool gN,.slice Na dN.length nc] #[.int .i64 0,.bool false,.slice none 0 0,.slice none 0 0]);have hdt:qG t:=RV.digT _ _ h;have HSC:=Lib.hid (fun(T:RP)(hc:qj T=true)(hs:yf X T)(A:Option Addr)(c:Nat)(K:Option Addr)(kc:Nat)(g:Bool)(ds:List Nat)(D:Option Addr)(cd:Nat)(W:World)(h:RV W (· <W.heap.size) T (qc T A c K kc))(hn:qh W W.heap.size D cd ds)(hm:ds.length≤X)=>Qp X (by omega) T hc hs A c K kc g ds D cd W.heap.size W (Nat.le_refl _) h hn hm);have hsm:yf X t:=hlw.sm (by omega) hNX;have HKC:=Lib.hid h.node.2.2.2;have HBB:=Lib.hid hB;obtain⟨m,hm⟩:∃m,m=zs.length:=⟨_,rfl⟩;rw[←hm]at hcP ⊢;have hmn:m=n+1:=hm.trans hzl;have hnn:(m:Int)-1=(n:Int):=by omega
 rw[←hm]at IHx;rw[Qd];unfold q8 qn at IHx ⊢;obtain⟨hks,hl4,hk2⟩:=Yn hc (by omega);have hkl:=hlw.at_.2.1;have h1:¬t.lv<i:=by omega
 rw[JM,if_neg h1,if_neg (by omega)]at hdg;rw[if_neg h1,if_pos h2];have IH:=Lib.hid (fun(u:RP)(hu:u∈t.ks)=>IHx u hu (hks u hu).2 (hlw.at_.2.2 u hu) (Nat.le_trans (Yv hu) hdg));have HTR:=Lib.hid (fun(S:Nat→Prop)(ts:List RP)(hl:ts.length=t.ks.length)(A:Option Addr)(W:World)(hS:∀b,S b→b<W.heap.size)(h:yY W S S A ts)=>qa6 S t.lv ts (by omega) A ts.length W hS h (Nat.le_refl _));have hmk:=fun(W:World)=>Tryz.make_rec t.ks.length (by omega) W;have HMK:=Lib.hid hmk;have e1:decide (t.lv<i)=false:=decide_eq_false h1;have e2:decide (i<t.lv)=true:=decide_eq_true h2;have HN1:=Lib.hid (show atT i (qb gN dN) pw n=atT i (qb gN dN) pw n from rfl);unfold qn at HTR;have HPC:=Lib.hid hcP;clear hdg hks hlw hdt hsm h hnu hpi hc HSC hzl h1 hl4 hk2 IHx hnn hmk hm hmn;generalize hF:atT i (qb gN dN) pw n=F at*;clear hF HN1;generalize hdn:dN.length=dl at*;generalize hnk:t.ks.length=nk at*;have HNK:=Lib.hid hnk;clear hnk;generalize t.ds.length=nd at*;generalize t.ng=ng at*;generalize hlv:t.lv=lv at*;have hkc:=HKC.out;go_enter Tryz.func82,Tryz.ntmps82
 go_upto_region 2 with(fail)
 obtain⟨hb0,k0,k1,k2,hs⟩:=HX.out;clear HX;generalize ((w.alloc (.cells #[.int .i64 lv,.bool ng,.slice A nd c,.slice K nk kc] 28)).alloc (.cells #[.bool gN,.slice Na dl nc] 25)).alloc (.cells #[.int .i64 0,.bool false,.slice none 0 0,.slice none 0 0] 28)=W at*;have HB0:=Lib.hid hb0;have KF:=Lib.hid (fun(V:World)(hV:Below W.heap.size W V)=>And.intro (k0.old hV) (And.intro (k1.old hV) (k2.old hV)));have HSW:=Lib.hid (show w.heap.size+1+1<W.heap.size from k2.lt);have c0:=k0.cell 0;have c3:=k0.cell 3;have hmk3:=HMK.out W;generalize hgg:W.heap.size=g at*;have HGG:=Lib.hid hgg;have HCO:=Lib.hid (qaU.start (w:=w) (W:=W) (n:=nk) (f:=F) (ks:=t.ks) hb0);rw[hgg]at HCO;have c3a:=fun o=>(k0.alloc o).cell 3;have hbal:=(Below.refl W.heap.size W).alloc (Nat.le_refl _) (.cells (madeCells #[.int .i64 0,.bool false,.slice none 0 0,.slice none 0 0] (nk*4)) 28);have HBL:=Lib.hid hbal;clear k0 k1 k2 hs hb0 hbal;go_wp2_with fail
 clear c3a c0 c3 hmk3;generalize W.alloc (.cells (madeCells #[.int .i64 0,.bool false,.slice none 0 0,.slice none 0 0] (nk*4)) 28)=W3 at*;go_loopg [11,42] nk (fun gn _ ix wr=>∃j:Nat,j≤nk∧gn=nk-j∧ix= .int .i64 j∧Below W.heap.size W wr∧qaU w wr g nk F t.ks j)
 case atStart=>exact⟨0,Nat.zero_le _,rfl,rfl,HBL.out,HCO.out⟩
 case round=>
  clear HBL HCO;obtain⟨j,hj,hgj,rfl,hbw,hco⟩:=hrel;have HG:=Lib.hid hgj;have HCO:=Lib.hid hco;have HBX:=Lib.hid hbw;have HBW:=Lib.hid (HB0.out.trans (hbw.mono HB0.out.size));obtain⟨k0,k1,k2⟩:=KF.out wr (by rw[←HGG.out];exact hbw);clear hgj hco;by_cases hlt:j<nk
  ·obtain⟨u,hu⟩:∃u,t.ks[j]? =some u:=⟨_,List.getElem?_eq_getElem (by rw[HNK.out];exact hlt)⟩;obtain⟨b,o,A1,q1,K1,r1,rfl,hbB,x0,x1,x2,x3,hku⟩:=(HR.out wr HBW.out).kid hu;have hum:=List.mem_of_getElem? hu;have hal:=(Below.refl wr.heap.size wr).alloc (Nat.le_refl _) (.cells #[.int .i64 u.lv,.bool u.ng,.slice A1 u.ds.length q1,.slice K1 u.ks.length r1] 28);have hbx:=qd.new wr 28 #[.int .i64 u.lv,.bool u.ng,.slice A1 u.ds.length q1,.slice K1 u.ks.length r1];have hbV:Below w.heap.size w (wr.alloc (.cells #[.int .i64 u.lv,.bool u.ng,.slice A1 u.ds.length q1,.slice K1 u.ks.length r1] 28)):=HBW.out.trans (hal.mono HBW.out.size);have HBV:=Lib.hid hbV;have HCC:=Lib.hid (IH.out u hum A1 q1 K1 r1 Na nc P cP B (wr.alloc (.cells #[.int .i64 u.lv,.bool u.ng,.slice A1 u.ds.length q1,.slice K1 u.ks.length r1] 28)) (Nat.le_trans HBB.out hbV.size) (hku.below (hal.mono (Nat.le_trans HBB.out HBW.out.size))) (HNU.out _ hbV) (HPI.out _ hbV) HPC.out);have i3:(0:Int)≤(j:Int):=by omega
   have i4:(j:Int)<(nk:Int):=by omega
   have i5:(nk:Int)≤(kc:Int):=by omega
   have HFX:=Lib.hid (fun(V:World)(hV:Below wr.heap.size wr V){A' K':Option Addr} {c' kc' base:Nat} (ht:RV V (yK V base) (F u) (qc (F u) A' c' K' kc'))(hb:g+1≤base)=>HCO.out.put (by have:=HSW.out;have:=HGG.out;omega) hlt hu hV ht hb);have HAL:=Lib.hid hal;have hgw:g+1≤wr.heap.size:=HCO.out.lt;have HCL:=Lib.hid (fun(V:World)(hV:Below wr.heap.size wr V)=>HCO.out.cell hV hlt);clear hum hku hbV hu hbw HCO;generalize F u=fu at*;generalize u.ds.length=ud at*;generalize u.ks.length=uk at*;generalize u.ng=ug at*;generalize u.lv=ul at*;go_upto_region 9 with(fail)
   generalize wr.alloc (.cells #[.int .i64 ul,.bool ug,.slice A1 ud q1,.slice K1 uk r1] 28)=V at*;have q0:=(k1.old hal).cell 0;have q1':=(k1.old hal).cell 1;have y0:=hbx.cell 0;have y1:=hbx.cell 1;have y2:=hbx.cell 2;have y3:=hbx.cell 3;clear x0 x1 x2 x3 k0 k1 k2 hbx hal;go_wp2_with fail
   refine HCC.out.mono ?_;rintro e w4 ⟨A4,c4,K4,kc4,rfl,hr4,hb4⟩;have hb5:=HAL.out.trans (hb4.mono HAL.out.size);have HN:=Lib.hid (HFX.out w4 hb5 hr4 (Nat.le_trans hgw HAL.out.size));obtain⟨v0,v1,v2,v3,d0,d1,d2,d3,f0,f1,f2,f3,zl⟩:=HCL.out w4 hb5;have HB5:=Lib.hid (qe (o:=j*4) (HBX.out.trans (hb5.mono HBX.out.size)) (show W.heap.size≤g by rw[HGG.out];exact Nat.le_refl _) (.int .i64 fu.lv) (.bool fu.ng) (.slice A4 fu.ds.length c4) (.slice K4 fu.ks.length kc4));clear hr4 hb4 hb5 HCC HFX HCL HAL q0 q1' y0 y1 y2 y3;generalize fu.ds.length=vd at*;generalize fu.ks.length=vk at*;generalize fu.ng=vg at*;generalize fu.lv=vl at*;go_wp2_with fail
   go_roundg (nk-(j+1))
   case rel=>exact⟨j+1,by omega,rfl,by go_num,HB5.out,HN.out⟩
   case measure=>have:=HG.out;omega
  ·obtain rfl:j=nk:=by omega
   obtain⟨cur,rows,hr⟩:=HCO.out.row;have hcl:(cfM F t.ks j j).length=j:=by simp[cfM,HNK.out]
   have hT:=HTR.out (Zt (fun _=>False) wr (w.heap.size+1+1+1)) (cfM F t.ks j j) hcl (some ⟨g,0,none⟩) wr (fun b hb=>hb.lt (fun _ h=>h.elim)) (hr.trsSh (by have:=HSW.out;have:=HGG.out;omega));rw[hcl,show cfM F t.ks j j=t.ks.map F from qjS F HNK.out]at hT;have HT:=Lib.hid hT;have c0:=k0.cell 0;generalize hTT:jD lv (t.ks.map F)=T at*;have HTT:=Lib.hid hTT;clear hr hcl hT hbw k1 k0 hTT;go_wp2_with fail
   refine HT.out.mono ?_;rintro e w5 ⟨A5,c5,K5,kc5,rfl,hr5,hb5⟩;have hk5:=k2.old hb5;have HFN:=Lib.hid (jL (w:=w) hk5 rfl (RV.mono (fun b hb=>(hb.old hb5).elim False.elim id) _ _ hr5:RB w5 (w.heap.size+1+1+1) T (qc T A5 c5 K5 kc5)) (Nat.lt_succ_self _) (by omega) (HBW.out.trans (hb5.mono HBW.out.size)));have d0:=hk5.cell 0;have d1:=hk5.cell 1;have d2:=hk5.cell 2;have d3:=hk5.cell 3;have f0:=hk5.frozen 0;have f1:=hk5.frozen 1;have f2:=hk5.frozen 2;have f3:=hk5.frozen 3;have zl:=hk5.lt;clear hk5 hr5 hb5 HT k2;go_wp2_with fail
   refine qg Tryz.results82 rfl rfl HFN.out.1 Tryz.underlying28 rfl Tryz.sizeRec ?_;rw[HTT.out];exact HFN.out.2
