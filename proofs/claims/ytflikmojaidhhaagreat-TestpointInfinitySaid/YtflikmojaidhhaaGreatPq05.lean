import Derived.Test.YtflikmojaidhhaaGreatPq04
namespace Go.Proofs.YtflikmojaidhhaaGreat
open Go.RowKit
attribute [local go_sem ↓] Go.wp_at_zero Go.wp_at_succ
theorem Tryz.infoTerm:(Tryz.prog.info? 137).map (fun i=>(i.zero,i.size,i.bytes))=some (some (.agg #[.bool false,.slice none 0 0,.int .i64 0,.int .i64 0,.int .i64 0,.int .i64 0]),6,64):=by kernel_rfl
set_option maxHeartbeats 4000000
set_option maxRecDepth 100000
theorem qhu(base g mb:Nat)(As:Option Addr)(cs:Nat)(ts:List Tm)(ps:List PT)(m0 m1 m2 m3:Int)(ng:Bool)(A:Option Addr)(c:Nat)(ds:List Nat)(w:World)(hG:GAt w base g mb (.slice As ps.length cs) ps)(hI:zB ts (ps.map PT.tm))(hb:base≤w.heap.size)(hv:yH (m0,m1,m2,m3)=true)(hm:WfM (m0,m1,m2,m3))
 (hin:qh w w.heap.size A c ds)(hl0:ds.length≤1000)(hlen:ps.length≤100000)(f:Mo→Option Nat)(hf:yh w mb ps.length f)(hix:Q3 ps f)(hfi:f (m0,m1,m2,m3)=none):
 Calls Tryz.prog 109 #[.pointer (some ⟨g,0,none⟩),.agg (Jo (m0,m1,m2,m3)),.agg #[.bool ng,.slice A ds.length c]] w (YL base g mb (.slice As ps.length cs) (ts++[(qb ng ds,(m0,m1,m2,m3))]) w):=by
 obtain⟨i0,hi0,hz0,hz1,hz2⟩:=qZ Tryz.infoTerm;have HF:=Lib.hid hf;have ha0:∀t∈ps.map PT.tm,t.2≠(m0,m1,m2,m3):=fun t ht=>by
  obtain⟨p,hp,rfl⟩:=List.mem_map.1 ht;exact hix.2 _ hfi p hp
 have HI:=Lib.hid (hI.new hv ha0 (qb ng ds));have hn:=fun W=>qb4 (m0,m1,m2,m3) W;rw[hv]at hn;have hlk:=fun(W:World)(hW:Below w.heap.size w W)=>(hf.old hW).look hm;rw[hfi]at hlk;simp only[Option.getD_none,Option.isSome_none]at hlk;have hst:=fun(W:World)(hW:Below w.heap.size w W)=>(hf.old hW).store hm (by unfold maxLen;omega) ps.length (by omega);have ha:=fun(W:World)(B:Nat)(hW:qh W B A c ds)(hB:B≤W.heap.size)=>jH ng A c B ds W hB hW (by omega);have HSN:=Lib.hid (fun(X w4:World)(v':Value)(A3:Option Addr)(c3:Nat)=>@qhz X w4 base g mb (.slice As ps.length cs) v' ps (ZR (qb ng ds) A3 c3 (m0,m1,m2,m3)) (fun x=>if x=(m0,m1,m2,m3)then some ps.length else f x));have HIX:=Lib.hid (fun(A3:Option Addr)(c3:Nat)=>hix.snoc (ZR (qb ng ds) A3 c3 (m0,m1,m2,m3)));have hgb:=hG.gb;have HGA:=Lib.hid hG;have HGB:=Lib.hid hgb;have HIN:=Lib.hid hin;have HA:=Lib.hid ha;have HLK:=Lib.hid hlk;have HST:=Lib.hid hst;have HN:=Lib.hid hn;have HX:=Lib.hid (qK w 113 25 (Jo (m0,m1,m2,m3)) #[.bool ng,.slice A ds.length c]);clear ha0 hn hlk hst ha hgb hG hI hv hm hin hf hix hfi;unfold YL;unfold qy at HA;generalize ts++[(qb ng ds,(m0,m1,m2,m3))]=ts' at*;simp only[Jo]at*;go_enter Tryz.func109,Tryz.ntmps109
 go_wp2_with fail
 generalize (w.alloc (.cells #[.int .i64 m0,.int .i64 m1,.int .i64 m2,.int .i64 m3] 113)).alloc (.cells #[.bool ng,.slice A ds.length c] 25)=W at*;obtain⟨hb0,k0,k1,hs⟩:=HX.out;clear hs HX;refine(HN.out _).mono ?_;rintro e W1 ⟨rfl,hl⟩;have hlb:=hb0.trans (hl.below.mono hb0.size);have q0:=k0.old hl.below;have q1:=k1.old hl.below;clear k0 k1 hb0 hl;have gb1:=HGB.out.old hlb;have g0:W1.cell? ⟨g,0,none⟩=some (.map (some mb)):=gb1.cell 0;have b0:W1.cell? ⟨w.heap.size,0,none⟩=some (.int .i64 m0):=q0.cell 0;have b1:W1.cell? ⟨w.heap.size,1,none⟩=some (.int .i64 m1):=q0.cell 1;have b2:W1.cell? ⟨w.heap.size,2,none⟩=some (.int .i64 m2):=q0.cell 2;have b3:W1.cell? ⟨w.heap.size,3,none⟩=some (.int .i64 m3):=q0.cell 3;have hlk1:=fun(n:Nat)=>HLK.out (W1.drewN n) (hlb.trans ((qm.drewN _ _).below _));go_wp2_with fail
 go_quiet (fail)
 clear hlk1 b0 b1 b2 b3 g0;have hlb2:Below w.heap.size w (W1.drewN nq):=hlb.trans ((qm.drewN _ _).below _)
 replace gb1:=gb1.drewN nq
 replace q0:=q0.drewN nq
 replace q1:=q1.drewN nq
 clear hlb;generalize W1.drewN nq=W2 at*;have g0:W2.cell? ⟨g,0,none⟩=some (.map (some mb)):=gb1.cell 0;have g1:W2.cell? ⟨g,1,none⟩=some (.slice As ps.length cs):=gb1.cell 1;have b0:W2.cell? ⟨w.heap.size,0,none⟩=some (.int .i64 m0):=q0.cell 0;have b1:W2.cell? ⟨w.heap.size,1,none⟩=some (.int .i64 m1):=q0.cell 1;have b2:W2.cell? ⟨w.heap.size,2,none⟩=some (.int .i64 m2):=q0.cell 2;have b3:W2.cell? ⟨w.heap.size,3,none⟩=some (.int .i64 m3):=q0.cell 3;go_wp2_with fail
 obtain⟨W5,hrun,hmp,hgr⟩:=HST.out W2.drew (hlb2.trans ((qm.drew _).below _));refine wp_region_still_tail 10 (by kernel_rfl) (by kernel_rfl) ?_;simp only[List.take_succ_cons,List.take_zero,List.drop_succ_cons,List.drop_zero];repeat still_step
 refine wpStill_nil ?_;change wpList _ _ _ _ _ W2.drew;clear g0 g1 b0 b1 b2 b3;have hlb3:Below w.heap.size w W2.drew:=hlb2.trans ((qm.drew _).below _);have hgm:=(HF.out.old hlb3);have G2:=HGA.out.old hlb3;have gb5:=G2.gb.grown hgr (fun e=>hgm.ne_blk G2.gb (by injection e with e;exact e.symm));have q05:qd W5 w.heap.size 113 #[.int .i64 m0,.int .i64 m1,.int .i64 m2,.int .i64 m3]:=qd.grown (w:=W2.drew) q0 hgr (fun e=>hgm.ne_blk (show qd W2.drew _ _ _ from q0) (by injection e with e;exact e.symm));have q15:qd W5 (w.heap.size+1) 25 #[.bool ng,.slice A ds.length c]:=qd.grown (w:=W2.drew) q1 hgr (fun e=>hgm.ne_blk (show qd W2.drew _ _ _ from q1) (by injection e with e;exact e.symm));have ro5:=G2.row.kept hgr (.inr (fun e=>qao hgm G2.row e.symm));have hb5:base≤W5.heap.size:=Nat.le_trans hb (Nat.le_trans hlb3.size hgr.size);have t5:ja base w W5:=(ja.of_below hb hlb3).trans (ja.map_ (Nat.le_trans hb hlb3.size) hgm G2.lm hgr);have dg5:∀p∈ps,qk W5 p.A p.ds∧p.ds.length≤p.c:=fun p hp=>⟨t5.natB (HGA.out.dg p hp).1,(HGA.out.dg p hp).2⟩;have in5:qh W5 w.heap.size A c ds:=(HIN.out.below hlb3).map_ hlb3.size hgm hgr;have in5':qh W5.drew w.heap.size A c ds:=⟨in5.rd,in5.dg,in5.cap⟩;have hwb5':w.heap.size≤W5.drew.heap.size:=Nat.le_trans hlb3.size hgr.size;clear in5;have hwb5:w.heap.size≤W5.heap.size:=Nat.le_trans hlb3.size hgr.size;have DG5:=Lib.hid dg5;have LG:=Lib.hid G2.lg;have LM:=Lib.hid G2.lm;have lg5:=gb5.lt;have l05:=q05.lt;have l15:=q15.lt;have g1:W5.cell? ⟨g,1,none⟩=some (.slice As ps.length cs):=gb5.cell 1;have b0:W5.cell? ⟨w.heap.size,0,none⟩=some (.int .i64 m0):=q05.cell 0;have b1:W5.cell? ⟨w.heap.size,1,none⟩=some (.int .i64 m1):=q05.cell 1;have b2:W5.cell? ⟨w.heap.size,2,none⟩=some (.int .i64 m2):=q05.cell 2;have b3:W5.cell? ⟨w.heap.size,3,none⟩=some (.int .i64 m3):=q05.cell 3;have e0:W5.cell? ⟨w.heap.size+1,0,none⟩=some (.bool ng):=q15.cell 0;have e1:W5.cell? ⟨w.heap.size+1,1,none⟩=some (.slice A ds.length c):=q15.cell 1;have h63:ps.length+1≤maxLen:=by unfold maxLen;omega
 have hby:(ps.length+1)*64≤140737488355328:=by omega
 have HFM:=Lib.hid (fun(k:Nat)(t:TypeId)(cs':Array Value)(h1:qd w k t cs')=>show qd W5 k t cs' from(h1.old hlb3).grown hgr (fun e=>hgm.ne_blk (h1.old hlb3) (by injection e with e;exact e.symm)));have HO5:=Lib.hid (show Jk mb w W5 from(Jk.of_below hlb3).map_ hgr);clear dg5 hgm G2 q0 q1 hlb2 hlb3 gb1 HF;go_wp2_with fail
 go_region_law (first
  |(refine jO _ rfl (.tmp 51) (.tmp 56) 109 (by rfl) base 137 i0 _ 6 64 Tryz.underlying109 hi0 hz0 hz1 hz2 rfl (by decide) (.slice As ps.length cs) ps.length (ps.flatMap PT.cells) (by rfl) roX (w3.heap.size+1) (some ⟨w3.heap.size,0,none⟩) 1 1 (ZR (qb ng ds) A3 c3 (m0,m1,m2,m3)).cells (by rfl) hrd hone h63 hby hbX ?_
    intro v' w4 hown4 hg4 hat4;obtain⟨As',cs',rfl⟩:=qJ hown4;have gb4:=gbX.grown hg4 (zZ roX gbX Q4);have y1:w4.cell? ⟨g,1,none⟩=some (.slice As ps.length cs):=gb4.cell 1;have y2:=gb4.frozen 1)
  |(go_simp
    go_at_call 43
    refine(HA.out _ _ in5' hwb5').mono ?_;rintro e w3 ⟨A3,c3,rfl,h3,h4,h5⟩;have z1:=(h5.cell lg5).trans g1;have z2:=(h5.cell l05).trans b0;have z3:=(h5.cell l05).trans b1;have z4:=(h5.cell l05).trans b2;have z5:=(h5.cell l05).trans b3;have hrd:qi (w3.alloc (.cells #[.bool (decide (qb ng ds<0)),.slice A3 (dig (qb ng ds).natAbs).length c3,.int .i64 m0,.int .i64 m1,.int .i64 m2,.int .i64 m3] 137)) (w3.heap.size+1) 6 (some ⟨w3.heap.size,0,none⟩) 1 (ZR (qb ng ds) A3 c3 (m0,m1,m2,m3)).cells:=qi.six_new w3 (ZR (qb ng ds) A3 c3 (m0,m1,m2,m3)).cells rfl 137;have hone:=qgD [ZR (qb ng ds) A3 c3 (m0,m1,m2,m3)];have gbX:qd (w3.alloc (.cells #[.bool (decide (qb ng ds<0)),.slice A3 (dig (qb ng ds).natAbs).length c3,.int .i64 m0,.int .i64 m1,.int .i64 m2,.int .i64 m3] 137)) g 159 #[.map (some mb),.slice As ps.length cs]:=(qd.old (w:=W5.drew) gb5 h5).alloc _;have roX:(w3.alloc (.cells #[.bool (decide (qb ng ds<0)),.slice A3 (dig (qb ng ds).natAbs).length c3,.int .i64 m0,.int .i64 m1,.int .i64 m2,.int .i64 m3] 137)).ownsRow base 137 6 (.slice As ps.length cs) ps.length (ps.flatMap PT.cells):=qQ (w:=W5.drew) ro5 (h5.alloc h5.size _);have hbX:base≤(w3.alloc (.cells #[.bool (decide (qb ng ds<0)),.slice A3 (dig (qb ng ds).natAbs).length c3,.int .i64 m0,.int .i64 m1,.int .i64 m2,.int .i64 m3] 137)).heap.size:=Nat.le_trans hb5 (h5.alloc h5.size _).size;have z6:=gbX.cell 1))
 all_goals
  go_wp2_with fail
  go_end0
  have h5':Below W5.heap.size W5 w3:=((qm.drew W5).below _).trans h5;obtain⟨u1,u2⟩:=HSN.out w3 w4 _ A3 c3 (Nat.le_trans hb5 h5'.size) LG.out LM.out (gb5.old h5') (hmp.old h5') (HIX.out A3 c3) (qQ ro5 h5') (fun p hp=>⟨(DG5.out p hp).1.old h5',(DG5.out p hp).2⟩) HGA.out.cn h4 h3 (qaA _ _ _ _) _ hown4 hg4;have hfar:qk0 g (.slice As ps.length cs) (.slice As' (ps.length+1) cs') w (w4.setCell ⟨g,1,none⟩ (.slice As' (ps.length+1) cs')):=fun k t cs1 x1 x2 x3=>by
   have y1':=(HFM.out k t cs1 x1).old h5';have y3':=(y1'.alloc (.cells #[.bool (decide (qb ng ds<0)),.slice A3 (dig (qb ng ds).natAbs).length c3,.int .i64 m0,.int .i64 m1,.int .i64 m2,.int .i64 m3] 137)).grown hg4 (fun e=>x3 e.symm);refine⟨y3'.far x2 _,fun e=>?_⟩;rcases hat4 with z|z
   ·exact x3 (z.symm.trans e)
   ·have:=x1.lt;have h6:=h5'.size;rw[e]at z
    injection z with z
    simp at z;omega
  refine⟨rfl,_,_,u1,?_,(t5.trans (.of_below hb5 h5')).trans u2,hfar,(((HO5.out.below h5').alloc _).own hg4 roX).set gb4 _ _⟩;rw[List.map_append,List.map_cons,List.map_nil,yT];exact HI.out
theorem qhA(base g mb:Nat)(v:Value)(ts:List Tm)(ps:List PT)(m:Mo)(ng:Bool)(A:Option Addr)(c:Nat)(ds:List Nat)(w:World)(hG:GAt w base g mb v ps)(hI:zB ts (ps.map PT.tm))(hb:base≤w.heap.size)(hm:WfM m)
 (hin:qh w w.heap.size A c ds)(hl0:ds.length≤1000)(hlen:ts.length≤100000)(hbig:nrm ts<Big):
 Calls Tryz.prog 109 #[.pointer (some ⟨g,0,none⟩),.agg (Jo m),.agg #[.bool ng,.slice A ds.length c]] w (YL base g mb v (ts++[(qb ng ds,m)]) w):=by
 have hpl:ps.length≤100000:=by have:=hI.len;simp at this;omega
 cases hv:yH m with
 |false=>exact qix base g mb v ts ps m ng A c ds w hG hI hb hv
 |true=>
  obtain⟨f,hf,hix⟩:=hG.mp
  cases hfi:f m with
  |none=>
   obtain⟨As,cs,rfl⟩:=qJ hG.row;exact qhu base g mb As cs ts ps m.1 m.2.1 m.2.2.1 m.2.2.2 ng A c ds w hG hI hb hv hm hin hl0 hpl f hf hix hfi
  |some i=>
   obtain⟨p,hp,hpm⟩:=hix.1 m i hfi;exact qiF base g mb v ts ps m ng A c ds w hG hI hb hv hm hin hl0 hpl hbig f hf i p hfi hp hpm
end Go.Proofs.YtflikmojaidhhaaGreat
namespace Go.Proofs.YtflikmojaidhhaaGreat
open Go.RowKit
set_option maxHeartbeats 4000000
set_option maxRecDepth 100000
theorem Qh(dg:Nat)(hdg:dg≤1000):∀(D:Nat)(t:RP),qv t≤D→yz dg t→∀(A:Option Addr)(c:Nat)(K:Option Addr)(kc B base:Nat)(ps:List PT)(v:Value)(m:Mo)(X:Int)(w:World),B≤base→base≤w.heap.size→RV w (· <B) t (qc t A c K kc)→
 w.ownsRow base 137 6 v ps.length (ps.flatMap PT.cells)→ps.length+yj t≤1000→zm m X→X+12*D≤1000000→
 Calls Tryz.prog 76 #[v,qn t A c K kc,.agg (Jo m)] w (Z0 t m v ps base B w)
 |0,t,hD,_,_,_,_,_,_,_,_,_,_,_,_,_,_,_,_,_,_,_=>by cases t;simp only[qv]at hD;omega
 |D+1,t,hD,hf,A,c,K,kc,B,base,ps,v,m,X,w,hB,hbase,h,hown,hcnt,hm,hX=>by
  have IH:=Lib.hid (Qh dg hdg D);have HD:=Lib.hid (fun(u:RP)(hu:u∈t.ks)=>show qv u≤D by have:=qD hu;omega);have HF:=Lib.hid hf.at_.2.2;have HR:=Lib.hid (fun(W:World)(hW:Below B w W)=>h.below hW);have HOW:=Lib.hid hown;have HX:=Lib.hid (fun(cs ds:Array Value)=>qK w 28 113 cs ds);have hdl:=hf.at_.1;have hkl:=hf.at_.2.1;have HM:=Lib.hid hm;have HCQ:=Lib.hid (qci t m);have HCN:=Lib.hid (qb5 t▸hcnt);show Calls Tryz.prog 76 #[v,.agg #[.int .i64 t.lv,.bool t.ng,.slice A t.ds.length c,.slice K t.ks.length kc],.agg #[.int .i64 m.1,.int .i64 m.2.1,.int .i64 m.2.2.1,.int .i64 m.2.2.2]] w _;have HNI:=Lib.hid (h.natIn);clear hD hf h hown hcnt hm;generalize hnd:t.ds.length=nd at*;generalize hnk:t.ks.length=nk at*;have HND:=Lib.hid hnd;have HNK:=Lib.hid hnk;clear hnd hnk;obtain⟨i0,hi0,hz0,hz1,hz2⟩:=qZ Tryz.infoTerm;by_cases h0:t.lv≤0
  ·have HC0:=Lib.hid (show ji t m=[((t.ng,t.ds),m)]by rw[HCQ.out,if_pos h0]);obtain⟨hb0,_,_,hs⟩:=HX.out #[.int .i64 t.lv,.bool t.ng,.slice A nd c,.slice K nk kc] #[.int .i64 m.1,.int .i64 m.2.1,.int .i64 m.2.2.1,.int .i64 m.2.2.2];have HSZ:=Lib.hid hs;have hb1:=hb0.alloc hb0.size (.cells #[.bool t.ng,.slice A nd c,.int .i64 m.1,.int .i64 m.2.1,.int .i64 m.2.2.1,.int .i64 m.2.2.2] 137);have hst:=yR.start (B:=B) HOW.out;have hcl:=hst.old hb1 (Nat.le_trans hB hbase);have hro:=hcl.own;rw[List.append_nil]at hro;have hrd:=qi.six_new ((w.alloc (.cells #[.int .i64 t.lv,.bool t.ng,.slice A nd c,.slice K nk kc] 28)).alloc (.cells #[.int .i64 m.1,.int .i64 m.2.1,.int .i64 m.2.2.1,.int .i64 m.2.2.2] 113)) [.bool t.ng,.slice A nd c,.int .i64 m.1,.int .i64 m.2.1,.int .i64 m.2.2.1,.int .i64 m.2.2.2] rfl 137;rw[hs]at hrd;have HONE:=Lib.hid (show∀u∈([.bool t.ng,.slice A nd c,.int .i64 m.1,.int .i64 m.2.1,.int .i64 m.2.2.1,.int .i64 m.2.2.2]:List Value),u.oneCell'=true by
    intro u hu;simp at hu;rcases hu with rfl|rfl|rfl|rfl|rfl|rfl<;>rfl)
   have HLN:=Lib.hid (show ps.length≤1000 by have:=HCN.out;omega);have HRO:=Lib.hid hro;have HRD:=Lib.hid hrd;have HCL:=Lib.hid hcl;have HB1:=Lib.hid hb1;clear hro hrd hcl hst hb1 hb0 hs HCQ;go_enter Tryz.func76,Tryz.ntmps76
   go_wp2_with (first|(at_builtin;refine jy _ rfl (.tmp 14) (.tmp 19) 109 rfl base 137 i0 _ 6 64 Tryz.underlying109 hi0 hz0 hz1 hz2 rfl (by decide) v ps.length _ rfl HRO.out (w.heap.size+2+1) (some ⟨w.heap.size+2,0,none⟩) 1 1 [.bool t.ng,.slice A nd c,.int .i64 m.1,.int .i64 m.2.1,.int .i64 m.2.2.1,.int .i64 m.2.2.2] rfl HRD.out HONE.out (by have:=HLN.out;unfold maxLen;omega) (by have:=HLN.out;omega) (Nat.le_trans hbase HB1.out.size) ?_;intro v' w15 hown4 hg4 hat4))
   go_ret
   obtain rfl:=HND.out;refine⟨v',[⟨t.ng,t.ds,A,c,m⟩],rfl,HCL.out.snoc (q:=⟨t.ng,t.ds,A,c,m⟩) ?_ hg4 hat4 (HNI.out.below (HB1.out.mono (Nat.le_trans hB hbase))) hB hbase,by rw[HC0.out];rfl⟩;rw[List.append_nil];exact hown4
  ·by_cases h4:4<t.lv
   ·have HC0:=Lib.hid (show ji t m=[]by rw[HCQ.out,if_neg h0,if_pos h4]);have h0:0<t.lv:=by omega
    go_enter Tryz.func76,Tryz.ntmps76
    go_wp2_with fail
    go_ret
    obtain⟨hb0,_,_,_⟩:=HX.out #[.int .i64 t.lv,.bool t.ng,.slice A nd c,.slice K nk kc] #[.int .i64 m.1,.int .i64 m.2.1,.int .i64 m.2.2.1,.int .i64 m.2.2.2];exact⟨v,[],rfl,(yR.start HOW.out).old hb0 (Nat.le_trans hB hbase),by rw[HC0.out];rfl⟩
   ·obtain⟨i,hi4,hi⟩:∃i:Nat,i<4∧t.lv=(i:Int)+1:=⟨t.lv.toNat-1,by omega,by omega⟩;have hli:t.lv-1=(i:Int):=by omega
    have HC0:=Lib.hid (show ji t m=qX i t.ks m (Za m i)by
     rw[HCQ.out,if_neg h0,if_neg h4,show t.lv.toNat-1=i by omega])
    have heb:=HM.out.at_ i;have HX12:=Lib.hid (show X+12+12*(D:Int)≤1000000 by omega);have hX0:0≤X:=by omega
    have hX1:X≤1000000:=by omega
    obtain⟨hb0,k0,k1,hs⟩:=HX.out #[.int .i64 t.lv,.bool t.ng,.slice A nd c,.slice K nk kc] #[.int .i64 m.1,.int .i64 m.2.1,.int .i64 m.2.2.1,.int .i64 m.2.2.2];have c5:=(k1.cell i).trans (qe1 m i hi4);generalize he0:Za m i=e0 at*;have HE0:=Lib.hid he0;clear he0;have g0:0<t.lv:=by omega
    have g4:t.lv≤4:=by omega
    have j0:(0:Int)≤(i:Int):=by omega
    have j4:(i:Int)<4:=by omega
    have HST:=Lib.hid ((yR.start (B:=B) HOW.out).old hb0 (Nat.le_trans hB hbase));have HK0:=Lib.hid k0;have HK1:=Lib.hid k1;have HSZ:=Lib.hid hs;clear h0 h4 hi HCQ hb0 k0 k1 hs HNI hX;go_enter Tryz.func76,Tryz.ntmps76
    go_wp2_with fail
    generalize (w.alloc (.cells #[.int .i64 t.lv,.bool t.ng,.slice A nd c,.slice K nk kc] 28)).alloc (.cells #[.int .i64 m.1,.int .i64 m.2.1,.int .i64 m.2.2.1,.int .i64 m.2.2.2] 113)=W at*;clear HX c5;go_loopg [0,8,9,34] nk (fun gn tv _ _ ix wr=>∃(k:Nat)(qs:List PT)(mk:Mo),k≤nk∧gn=nk-k∧ix= .int .i64 k∧yR w v ps base B wr tv qs∧qs.map PT.key=qX i (t.ks.take k) m e0∧qd wr w.heap.size 28 #[.int .i64 t.lv,.bool t.ng,.slice A nd c,.slice K nk kc]∧qd wr (w.heap.size+1) 113 (Jo mk)∧∀y,js mk i y=js m i y)
    case atStart=>exact⟨0,[],m,Nat.zero_le _,rfl,rfl,HST.out,by simp[qX],HK0.out,HK1.out,fun _=>rfl⟩
    case round=>
     clear HST HK0 HK1;obtain⟨k,qs,mk,hk,hgk,rfl,hcl,hkey,hpar,hmon,hmk⟩:=hrel;have HG:=Lib.hid hgk;clear hgk;have hbw:=hcl.below HOW.out hB hbase;have hrv:=HR.out wr hbw;have hkc:=hrv.node.2.2.2;rw[HNK.out]at hkc;have i5:(nk:Int)≤(kc:Int):=by omega
     have c0:wr.cell? ⟨w.heap.size,0,none⟩=some (.int .i64 t.lv):=hpar.cell 0;have c3:wr.cell? ⟨w.heap.size,3,none⟩=some (.slice K nk kc):=hpar.cell 3;by_cases hlt:k<nk
     ·obtain⟨u,hu⟩:∃u,t.ks[k]? =some u:=⟨_,List.getElem?_eq_getElem (by rw[HNK.out];exact hlt)⟩;obtain⟨b,o,A',c',K',kc',rfl,hbB,e0',e1,e2,e3,hku⟩:=hrv.kid hu;have hum:=List.mem_of_getElem? hu;have hkcl:=qgc (i:=i) hu m e0;have hke:IntKind.i64.wrap (e0+(k:Int))=e0+(k:Int):=IntWalk.i64_in _ (by omega);have hm2:=HM.out.set i (x:=e0+(k:Int)) (Y:=X+12) (by omega) (by omega) (by omega);have hqn:qs.length≤zC (t.ks.take k):=by
       have:=congrArg List.length hkey;rw[List.length_map]at this;rw[this];exact qad _ _ _ _
      have hcn:(ps++qs).length+yj u≤1000:=by
       have h1:=qga hu;have h2:=HCN.out;rw[List.length_append];omega
      have lw:=hmon.lt;have lw0:=hpar.lt;have c5:=(hmon.cell i).trans (qe1 mk i hi4);have f5:=hmon.frozen i;generalize Za mk i=ek at*;have hBw:B≤w.heap.size:=Nat.le_trans hB hbase;have hcl1:=hcl.set hmon (by decide) (by omega) (by omega) i (.int .i64 (e0+(k:Int)));have hmon1:=hmon.set_ i (.int .i64 (e0+(k:Int)));rw[qkm mk i hi4,hmk]at hmon1;have hpar1:=hpar.far (p:=⟨w.heap.size+1,i,none⟩) (show w.heap.size≠w.heap.size+1 by omega) (.int .i64 (e0+(k:Int)));have hsz:(wr.setCell ⟨w.heap.size+1,i,none⟩ (.int .i64 (e0+(k:Int)))).heap.size=wr.heap.size:=by simp
      have hba:=(Below.refl (wr.setCell ⟨w.heap.size+1,i,none⟩ (.int .i64 (e0+(k:Int)))).heap.size (wr.setCell ⟨w.heap.size+1,i,none⟩ (.int .i64 (e0+(k:Int))))).alloc (Nat.le_refl _) (.cells #[.int .i64 u.lv,.bool u.ng,.slice A' u.ds.length c',.slice K' u.ks.length kc'] 28);have hbB2:Below B wr ((wr.setCell ⟨w.heap.size+1,i,none⟩ (.int .i64 (e0+(k:Int)))).alloc (.cells #[.int .i64 u.lv,.bool u.ng,.slice A' u.ds.length c',.slice K' u.ks.length kc'] 28)):=
       ((Below.refl B wr).setCell (p:=⟨w.heap.size+1,i,none⟩) (show B≤w.heap.size+1 by omega) (.int .i64 (e0+(k:Int)))).trans (hba.mono (by rw[hsz];exact Nat.le_trans hBw hcl.gro.size))
      have kx2:=qd.new (wr.setCell ⟨w.heap.size+1,i,none⟩ (.int .i64 (e0+(k:Int)))) 28 #[.int .i64 u.lv,.bool u.ng,.slice A' u.ds.length c',.slice K' u.ks.length kc'];rw[hsz]at kx2;have hcl2:=hcl1.old hba (by rw[hsz];exact Nat.le_trans hBw hcl.gro.size);have hmon2:=hmon1.old hba;have hpar2:=hpar1.old hba;have HIH:=Lib.hid (IH.out u (HD.out u hum) (HF.out u hum) A' c' K' kc' B base (ps++qs) u0 (js m i (e0+(k:Int))) (X+12) _ hB (Nat.le_trans hbase hcl2.gro.size) (hku.below hbB2) hcl2.own hcn hm2 HX12.out);unfold Z0 qn at HIH;have HKX:=Lib.hid kx2;have HCL2:=Lib.hid hcl2;have HMON2:=Lib.hid hmon2;have HPAR2:=Lib.hid hpar2;have HKEY:=Lib.hid hkey;have HKCL:=Lib.hid hkcl;have HMK:=Lib.hid (qf6 m (e0+(k:Int)));have i3:(0:Int)≤(k:Int):=by omega
      have i4:(k:Int)<(nk:Int):=by omega
      have y0:((wr.setCell ⟨w.heap.size+1,i,none⟩ (.int .i64 (e0+(k:Int)))).alloc (.cells #[.int .i64 u.lv,.bool u.ng,.slice A' u.ds.length c',.slice K' u.ks.length kc'] 28)).cell? ⟨wr.heap.size,0,none⟩=some (.int .i64 u.lv):=kx2.cell 0;have y1:((wr.setCell ⟨w.heap.size+1,i,none⟩ (.int .i64 (e0+(k:Int)))).alloc (.cells #[.int .i64 u.lv,.bool u.ng,.slice A' u.ds.length c',.slice K' u.ks.length kc'] 28)).cell? ⟨wr.heap.size,1,none⟩=some (.bool u.ng):=kx2.cell 1;have y2:((wr.setCell ⟨w.heap.size+1,i,none⟩ (.int .i64 (e0+(k:Int)))).alloc (.cells #[.int .i64 u.lv,.bool u.ng,.slice A' u.ds.length c',.slice K' u.ks.length kc'] 28)).cell? ⟨wr.heap.size,2,none⟩=some (.slice A' u.ds.length c'):=kx2.cell 2;have y3:((wr.setCell ⟨w.heap.size+1,i,none⟩ (.int .i64 (e0+(k:Int)))).alloc (.cells #[.int .i64 u.lv,.bool u.ng,.slice A' u.ds.length c',.slice K' u.ks.length kc'] 28)).cell? ⟨wr.heap.size,3,none⟩=some (.slice K' u.ks.length kc'):=kx2.cell 3;have z0:((wr.setCell ⟨w.heap.size+1,i,none⟩ (.int .i64 (e0+(k:Int)))).alloc (.cells #[.int .i64 u.lv,.bool u.ng,.slice A' u.ds.length c',.slice K' u.ks.length kc'] 28)).cell? ⟨w.heap.size+1,0,none⟩=some (.int .i64 (js m i (e0+(k:Int))).1):=hmon2.cell 0;have z1:((wr.setCell ⟨w.heap.size+1,i,none⟩ (.int .i64 (e0+(k:Int)))).alloc (.cells #[.int .i64 u.lv,.bool u.ng,.slice A' u.ds.length c',.slice K' u.ks.length kc'] 28)).cell? ⟨w.heap.size+1,1,none⟩=some (.int .i64 (js m i (e0+(k:Int))).2.1):=hmon2.cell 1;have z2:((wr.setCell ⟨w.heap.size+1,i,none⟩ (.int .i64 (e0+(k:Int)))).alloc (.cells #[.int .i64 u.lv,.bool u.ng,.slice A' u.ds.length c',.slice K' u.ks.length kc'] 28)).cell? ⟨w.heap.size+1,2,none⟩=some (.int .i64 (js m i (e0+(k:Int))).2.2.1):=hmon2.cell 2;have z3:((wr.setCell ⟨w.heap.size+1,i,none⟩ (.int .i64 (e0+(k:Int)))).alloc (.cells #[.int .i64 u.lv,.bool u.ng,.slice A' u.ds.length c',.slice K' u.ks.length kc'] 28)).cell? ⟨w.heap.size+1,3,none⟩=some (.int .i64 (js m i (e0+(k:Int))).2.2.2):=hmon2.cell 3;clear hu hrv hku hkc hum hkcl hm2 hqn hcn hba hmon1 hpar1 hsz hbB2 hcl1 hcl2 hmon2 hpar2 kx2 hcl hkey hpar hmon hmk hbw;generalize u.ds.length=ud at*;generalize u.ks.length=uk at*;go_upto_region 10 with(fail)
      generalize (wr.setCell ⟨w.heap.size+1,i,none⟩ (.int .i64 (e0+(k:Int)))).alloc (.cells #[.int .i64 u.lv,.bool u.ng,.slice A' ud c',.slice K' uk kc'] 28)=W2 at*;go_wp2_with fail
      refine HIH.out.mono ?_;rintro e w3 ⟨v2,rs,rfl,h2,hk2⟩;have hcl2:=HCL2.out;have HC3:=Lib.hid (hcl2.trans h2 hB hbase);have HP3:=Lib.hid (HPAR2.out.grown h2.gro (qF hcl2.own HPAR2.out (by decide)));have HM3:=Lib.hid (HMON2.out.grown h2.gro (qF hcl2.own HMON2.out (by decide)));have HK3:=Lib.hid (show(qs++rs).map PT.key=qX i (t.ks.take (k+1)) m e0 by rw[List.map_append,HKEY.out,hk2,HKCL.out]);clear h2 hk2 hcl2 y0 y1 y2 y3 z0 z1 z2 z3 HIH;go_wp2_with fail
      go_roundg (nk-(k+1))
      case rel=>exact⟨k+1,qs++rs,_,by omega,rfl,by go_num,HC3.out,HK3.out,HP3.out,HM3.out,fun y=>HMK.out y i⟩
      case measure=>have:=HG.out;omega
     ·obtain rfl:k=nk:=by omega
      have HFIN:=Lib.hid (show Z0 t m v ps base B w (.returned u0) wr from⟨u0,qs,rfl,hcl,by rw[hkey,HC0.out,List.take_of_length_le (by rw[HNK.out];exact Nat.le_refl _)]⟩);clear hcl hkey hpar hmon hmk hrv hkc hbw;go_wp2_with fail
      go_ret
      exact HFIN.out
def ju(z:Int):RP:= .mk 0 (decide (z<0)) (dig z.natAbs) []
def qa:RP:= .mk 0 false [] []
def jA(f:List Tm→RP)(i:Nat):Nat→List Tm→List RP→List RP
 |0,_,ks=>ks
 |_+1,[],ks=>ks
 |n+1,t::r,ks=>jA f i n ((t::r).dropWhile fun s=>decide (gt s.2 i=gt t.2 i)) (ks.set (gt t.2 i).toNat (f ((t::r).takeWhile fun s=>decide (gt s.2 i=gt t.2 i))))
def qO:Nat→List Tm→RP
 |0,[]=>qa
 |0,t::_=>ju t.1
 |_+1,[]=>qa
 |L+1,t::r=>if gt t.2 L=0 then qO L (t::r)else .mk ((L:Int)+1) false [] (jA (qO L) L (t::r).length (t::r) (List.replicate ((gt t.2 L).toNat+1) qa))
theorem yC(L:Nat):qO L []=qa:=by cases L<;>rfl
def geL:Nat→Mo→Mo→Prop
 |0,_,_=>True
 |L+1,a,b=>gt b L<gt a L∨(gt b L=gt a L∧geL L a b)
theorem qls{L:Nat}{a b:Mo}(h:geL (L+1) a b):gt b L≤gt a L:=by
 rcases h with h|⟨h,_⟩<;>omega
theorem qk6{L:Nat}{a b:Mo}(h:geL (L+1) a b)(e:gt b L=gt a L):geL L a b:=by
 rcases h with h|⟨_,h⟩
 ·omega
 ·exact h
theorem qk8{a b:Mo}(h:Ze b a):geL 4 a b:=by
 simp only[geL,gt];unfold Ze at h;omega
def J8(L:Nat)(l:List Tm):Prop:=l.Pairwise fun s t=>geL L s.2 t.2
theorem qI.desc{l:List Tm}(h:qI l):J8 4 l:=h.so.imp fun h=>qk8 h
theorem J8.sub{L:Nat}{l m:List Tm}(h:J8 L l)(hs:m.Sublist l):J8 L m:=List.Pairwise.sublist hs h
theorem J8.down{L:Nat}{l:List Tm}(h:J8 (L+1) l){e:Int}(he:∀t∈l,gt t.2 L=e):J8 L l:=
 List.Pairwise.imp_of_mem (fun hs ht h=>qk6 h ((he _ ht).trans (he _ hs).symm)) h
theorem J8.head{L:Nat}{t s:Tm}{r:List Tm}(h:J8 (L+1) (t::r))(hs:s∈t::r):gt s.2 L≤gt t.2 L:=by
 rcases List.mem_cons.1 hs with rfl|hs
 ·exact Int.le_refl _
 ·exact qls ((List.pairwise_cons.1 h).1 s hs)
theorem qhU{α:Type}(p:α→Bool):∀(l:List α)(j:Nat),(∀x∈l.take j,p x=true)→j≤l.length→(∀y,l[j]? =some y→p y=false)→l.takeWhile p=l.take j∧l.dropWhile p=l.drop j
 |[],j,_,hj,_=>by simp
 |x::l,0,_,_,h=>by
  have:=h x rfl;simp[this]
 |x::l,j+1,h1,hj,h2=>by
  have hx:=h1 x (by simp);obtain⟨a,b⟩:=qhU p l j (fun y hy=>h1 y (by simp[hy])) (by simpa using hj) (fun y hy=>h2 y (by simpa using hy));simp[hx,a,b]
theorem qfx{rows:List (List Value)}(h4:∀r∈rows,r.length=4){cur:Array Value}{e:Nat}(he:e<rows.length)(hs:rows.length*4≤cur.size)(hc:∀(j:Nat)(v:Value),rows.flatten[j]? =some v→cur[j]? =some v)(a b c d:Value):
 ∀(j:Nat)(v:Value),(rows.set e [a,b,c,d]).flatten[j]? =some v→((((cur.setIfInBounds (e*4) a).setIfInBounds (e*4+1) b).setIfInBounds (e*4+2) c).setIfInBounds (e*4+3) d)[j]? =some v:=by
 intro j v hv;have h4':∀r∈rows.set e [a,b,c,d],r.length=4:=fun r hr=>by
  rcases List.mem_or_eq_of_mem_set hr with h|h
  ·exact h4 r h
  ·rw[h];rfl
 have hl:=jq h4';rw[List.length_set]at hl;have hj:j<rows.length*4:=by have:=(List.getElem?_eq_some_iff.1 hv).1;omega
 obtain⟨k,i,hi,rfl⟩:∃k i,i<4∧j=k*4+i:=⟨j/4,j%4,Nat.mod_lt _ (by omega),by omega⟩;have hk:k<rows.length:=by omega
 by_cases hke:k=e
 ·subst hke;rw[Je _ h4' k [a,b,c,d] (by rw[List.getElem?_set_self hk]) i hi]at hv;rcases(by omega:i=0∨i=1∨i=2∨i=3)with rfl|rfl|rfl|rfl
  ·rw[Array.getElem?_setIfInBounds_ne (by omega),Array.getElem?_setIfInBounds_ne (by omega),Array.getElem?_setIfInBounds_ne (by omega),Nat.add_zero,Array.getElem?_setIfInBounds_self_of_lt (by omega)];simpa using hv
  ·rw[Array.getElem?_setIfInBounds_ne (by omega),Array.getElem?_setIfInBounds_ne (by omega),Array.getElem?_setIfInBounds_self_of_lt (by simp;omega)];simpa using hv
  ·rw[Array.getElem?_setIfInBounds_ne (by omega),Array.getElem?_setIfInBounds_self_of_lt (by simp;omega)];simpa using hv
  ·rw[Array.getElem?_setIfInBounds_self_of_lt (by simp;omega)];simpa using hv
 ·obtain⟨r,hr⟩:∃r,rows[k]? =some r:=⟨_,List.getElem?_eq_getElem hk⟩;rw[Je _ h4' k r (by rw[List.getElem?_set_ne (Ne.symm hke)];exact hr) i hi]at hv;rw[Array.getElem?_setIfInBounds_ne (by omega),Array.getElem?_setIfInBounds_ne (by omega),Array.getElem?_setIfInBounds_ne (by omega),Array.getElem?_setIfInBounds_ne (by omega)];exact hc _ v ((Je rows h4 k r hr i hi).trans hv)
theorem qH.put{w:World}{S:Nat→Prop}:∀{ts:List RP} {rows:List (List Value)} (e:Nat){t:RP} {r:List Value},qH w S ts rows→RV w S t r→qH w S (ts.set e t) (rows.set e r)
 |[],rows,e,t,r,h,_=>by
  unfold qH at h;subst h;simp[qH]
 |s::ts,rows,e,t,r,h,hr=>by
  unfold qH at h;obtain⟨x,xs,rfl,h2,h3⟩:=h
  cases e with
  |zero=>simp only[List.set_cons_zero,qH];exact⟨r,xs,rfl,hr,h3⟩
  |succ e=>simp only[List.set_cons_succ,qH];exact⟨x,xs.set e r,rfl,h2,qH.put e h3 hr⟩
theorem RT.zero{w:World}{S:Nat→Prop}:RV w S qa (qc qa none 0 none 0):=by
 unfold qa RV;exact⟨none,0,none,0,rfl,⟨rfl,fun hp=>absurd hp (Nat.lt_irrefl 0)⟩,by simp[qP],Nat.zero_le _,Nat.zero_le _,[],⟨rfl,fun hp=>absurd hp (Nat.lt_irrefl 0)⟩,by unfold qH;rfl⟩
theorem qH.zeros{w:World}{S:Nat→Prop}:∀n:Nat,qH w S (List.replicate n qa) (List.replicate n (qc qa none 0 none 0))
 |0=>by simp[qH]
 |n+1=>by
  simp only[List.replicate_succ,qH];exact⟨_,_,rfl,RT.zero,qH.zeros n⟩
theorem ZC(z:Array Value)(n j:Nat)(h:j<n):(madeCells z n)[j]? =some (z[j%z.size]!):=by
 unfold madeCells;rw[Array.getElem?_map,Array.getElem?_range,if_pos h];rfl
structure qcC (w:World) (g n:Nat) (W:World) (ks:List RP) (cur:Array Value) (rows:List (List Value)):Prop where
 row:qd W g 28 cur
 siz:cur.size=n*4
 kl:ks.length=n
 len:rows.length=n
 four:∀r∈rows,r.length=4
 at_:∀(j:Nat)(v:Value),rows.flatten[j]? =some v→cur[j]? =some v
 kids:qH W (yK W (g+1)) ks rows
 bel:Below w.heap.size w W
 res:qd W w.heap.size 28 #[.int .i64 0,.bool false,.slice none 0 0,.slice none 0 0]
theorem qcC.start{w W:World}{g n:Nat}(hk:qd W g 28 (madeCells #[.int .i64 0,.bool false,.slice none 0 0,.slice none 0 0] (n*4)))(hb:Below w.heap.size w W)(hr:qd W w.heap.size 28 #[.int .i64 0,.bool false,.slice none 0 0,.slice none 0 0]):
 qcC w g n W (List.replicate n qa) (madeCells #[.int .i64 0,.bool false,.slice none 0 0,.slice none 0 0] (n*4)) (List.replicate n (qc qa none 0 none 0)):=by
 have h4:∀r∈List.replicate n (qc qa none 0 none 0),r.length=4:=fun r hr=>by rw[(List.mem_replicate.1 hr).2];rfl
 refine⟨hk,size_madeCells _ _,by simp,by simp,h4,fun j v hv=>?_,qH.zeros n,hb,hr⟩;have hl:=jq h4;rw[List.length_replicate]at hl;have hj:j<n*4:=by have:=(List.getElem?_eq_some_iff.1 hv).1;omega
 rw[ZC _ _ _ hj];obtain⟨k,i,hi,rfl⟩:∃k i,i<4∧j=k*4+i:=⟨j/4,j%4,Nat.mod_lt _ (by omega),by omega⟩;rw[Je _ h4 k (qc qa none 0 none 0) (by rw[List.getElem?_replicate,if_pos (by omega)]) i hi]at hv;rcases(by omega:i=0∨i=1∨i=2∨i=3)with rfl|rfl|rfl|rfl
 all_goals
  rw[←hv];simp[qc,qa,RP.lv,RP.ng,RP.ds,RP.ks,Nat.mul_add_mod_self_right]
theorem qcC.put{w:World}{g n:Nat}{W W2:World}{ks:List RP}{cur:Array Value}{rows:List (List Value)}(h:qcC w g n W ks cur rows){e:Nat}(he:e<n)(hg:w.heap.size<g){t:RP}{A K:Option Addr}{c kc:Nat}
 (h2:RB W2 W.heap.size t (qc t A c K kc))(h3:Below W.heap.size W W2):
 ∃cur',qcC w g n ((((W2.setCell ⟨g,e*4,none⟩ (.int .i64 t.lv)).setCell ⟨g,e*4+1,none⟩ (.bool t.ng)).setCell ⟨g,e*4+2,none⟩ (.slice A t.ds.length c)).setCell ⟨g,e*4+3,none⟩ (.slice K t.ks.length kc)) (ks.set e t) cur' (rows.set e (qc t A c K kc)):=by
 have hrow:=h.row.old h3;have hgl:g+1≤W.heap.size:=h.row.lt;obtain⟨s1,s2,s3⟩:=jt (k:=e*4) hrow (.int .i64 t.lv) (.bool t.ng) (.slice A t.ds.length c) (.slice K t.ks.length kc);refine⟨_,s1,by simp[h.siz],by rw[List.length_set];exact h.kl,by rw[List.length_set];exact h.len,fun r hr=>?_,qfx h.four (by rw[h.len];exact he) (by rw[h.siz,h.len];exact Nat.le_refl _) h.at_ _ _ _ _,?_,?_,?_⟩
 ·rcases List.mem_or_eq_of_mem_set hr with k|k
  ·exact h.four r k
  ·rw[k];rfl
 ·exact qH.put e (RBs.keep h.kids (fun j ds hj=>s2 _ _ (hj.old h3)) (fun j ds hg' hj=>s3 _ _ hg' (hj.old h3)) (Nat.le_refl _)) (RB.keep (RB.mono h2 hgl) s2 s3 (Nat.le_refl _))
 ·exact((((h.bel.trans (h3.mono h.bel.size)).setCell (show w.heap.size≤g by omega) _).setCell (show w.heap.size≤g by omega) _).setCell (show w.heap.size≤g by omega) _).setCell (show w.heap.size≤g by omega) _
 ·exact((((h.res.old h3).far (show w.heap.size≠g by omega) _).far (show w.heap.size≠g by omega) _).far (show w.heap.size≠g by omega) _).far (show w.heap.size≠g by omega) _
theorem qcC.fin{w:World}{g n:Nat}{W:World}{ks:List RP}{cur:Array Value}{rows:List (List Value)}(h:qcC w g n W ks cur rows)(hg:w.heap.size<g)(l:Int):
 RB ((((W.setCell ⟨w.heap.size,0,none⟩ (.int .i64 l)).setCell ⟨w.heap.size,1,none⟩ (.bool false)).setCell ⟨w.heap.size,2,none⟩ (.slice none 0 0)).setCell ⟨w.heap.size,3,none⟩ (.slice (some ⟨g,0,none⟩) n n)) w.heap.size (.mk l false [] ks) (qc (.mk l false [] ks) none 0 (some ⟨g,0,none⟩) n):=by
 obtain⟨s1,s2,s3⟩:=jt (k:=0) h.res (.int .i64 l) (.bool false) (.slice none 0 0) (.slice (some ⟨g,0,none⟩) n n);have hr:=RBs.keep (base':=w.heap.size+1) h.kids s2 (fun j ds hg' hj=>s3 j ds (by omega) hj) (by omega);have hrow:qd ((((W.setCell ⟨w.heap.size,0,none⟩ (.int .i64 l)).setCell ⟨w.heap.size,1,none⟩ (.bool false)).setCell ⟨w.heap.size,2,none⟩ (.slice none 0 0)).setCell ⟨w.heap.size,3,none⟩ (.slice (some ⟨g,0,none⟩) n n)) g 28 cur:=s3 g cur (by omega) h.row;exact RB.mono (RB.node (l:=l) (kc:=n) (base:=w.heap.size+1) (by rw[h.len,h.kl]) h.four (by omega) hrow h.at_ (by rw[h.kl];exact Nat.le_refl _) hr) (by omega)
theorem jE.open{w:World}{B:Nat}{A:Option Addr}{ps:List PT}(h:jE w B A ps)(hn:0<ps.length):∃b o,A=some ⟨b,o,none⟩∧b<B∧∀(k:Nat)(p:PT)(j:Nat)(v:Value),ps[k]? =some p→j<6→p.cells[j]? =some v→w.cell? ⟨b,o+(k*6+j),none⟩=some v:=by
 obtain⟨b,o,e,hb,hc⟩:=h.rd.2 hn;exact⟨b,o,e,hb,fun k p j v hk hj hv=>hc (k*6+j) v ((yk ps k j p hk hj).trans hv)⟩
theorem qgK(p:PT)(i:Nat)(hi:i<4):p.cells[2+i]? =some (.int .i64 (gt p.m i)):=by
 rcases(by omega:i=0∨i=1∨i=2∨i=3)with rfl|rfl|rfl|rfl<;>rfl
theorem qbd(ps:List PT):(ps.flatMap PT.cells).length=ps.length*6:=by
 induction ps with
 |nil=>rfl
 |cons p ps ih=>
  rw[List.flatMap_cons,List.length_append,ih,List.length_cons,show p.cells.length=6 from rfl];omega
theorem jE.sub{w:World}{B b o:Nat}{ps:List PT}(h:jE w B (some ⟨b,o,none⟩) ps)(s j:Nat)(hj:s+j≤ps.length)(hj0:0<j):jE w B (some ⟨b,o+s*6,none⟩) ((ps.drop s).take j):=by
 obtain⟨b',o',e,hb,hc⟩:=h.open (by omega)
 injection e with e
 injection e with e1 e2
 subst e1;subst e2;have hl:((ps.drop s).take j).length=j:=by rw[List.length_take,List.length_drop];omega
 refine⟨⟨by rw[qbd],fun _=>⟨b,o+s*6,rfl,hb,fun x v hv=>?_⟩⟩,fun p hp=>h.nt p (List.mem_of_mem_drop (List.mem_of_mem_take hp))⟩;obtain⟨k,i,hi,rfl⟩:∃k i,i<6∧x=k*6+i:=⟨x/6,x%6,Nat.mod_lt _ (by omega),by omega⟩;have hx:k*6+i<j*6:=by
  have:=(List.getElem?_eq_some_iff.1 hv).1;rw[qbd,hl]at this;exact this
 have hk:k<j:=by omega
 obtain⟨p,hp⟩:∃p,((ps.drop s).take j)[k]? =some p:=⟨_,List.getElem?_eq_getElem (by omega)⟩;have hp':ps[s+k]? =some p:=by
  rw[List.getElem?_take,if_pos hk,List.getElem?_drop]at hp;exact hp
 rw[yk _ k i p hp hi]at hv;have:=hc (s+k) p i v hp' hi hv;rw[show o+s*6+(k*6+i)=o+((s+k)*6+i)by omega];exact this
theorem qgM{i:Nat}{ts:List Tm}{t:Tm}(h:ts[0]? =some t)(h0:gt t.2 i=0):qO i ts=qO (i+1) ts:=by
 cases ts with
 |nil=>simp at h
 |cons s r=>
  simp at h;subst h;rw[qO,if_pos h0]
theorem qgt{i:Nat}{ts:List Tm}{t:Tm}(h:ts[0]? =some t)(h0:gt t.2 i≠0):qO (i+1) ts= .mk ((i:Int)+1) false [] (jA (qO i) i ts.length ts (List.replicate ((gt t.2 i).toNat+1) qa)):=by
 cases ts with
 |nil=>simp at h
 |cons s r=>
  simp at h;subst h;rw[qO,if_neg h0]
theorem qg8{ts:List Tm}{t:Tm}(h:ts[0]? =some t):qO 0 ts=ju t.1:=by
 cases ts with
 |nil=>simp at h
 |cons s r=>
  simp at h;subst h;rw[qO]
theorem J8.zero{i:Nat}{ts:List Tm}{t:Tm}(h:J8 (i+1) ts)(ht:ts[0]? =some t)(h0:gt t.2 i=0)(hp:∀s∈ts,0≤gt s.2 i):J8 i ts:=by
 cases ts with
 |nil=>simp at ht
 |cons s r=>
  simp at ht;subst ht;refine h.down (e:=0) fun x hx=>?_;have h1:=h.head hx;have h2:=hp x hx;omega
theorem J8.first{i:Nat}{ts:List Tm}{t s:Tm}(h:J8 (i+1) ts)(ht:ts[0]? =some t)(hs:s∈ts):gt s.2 i≤gt t.2 i:=by
 cases ts with
 |nil=>simp at ht
 |cons x r=>
  simp at ht;subst ht;exact h.head hs
theorem qbJ{f:List Tm→RP}{i n s j:Nat}{ts:List Tm}{ks:List RP}{t:Tm}(ht:ts[s]? =some t)(hn:(ts.drop s).length≤n)(hj:s+j≤ts.length)(h1:∀x∈(ts.drop s).take j,gt x.2 i=gt t.2 i)(h2:∀y,ts[s+j]? =some y→gt y.2 i≠gt t.2 i):
 0<j∧∃m,(ts.drop (s+j)).length≤m∧jA f i n (ts.drop s) ks=jA f i m (ts.drop (s+j)) (ks.set (gt t.2 i).toNat (f ((ts.drop s).take j))):=by
 have hl:s<ts.length:=(List.getElem?_eq_some_iff.1 ht).1;have e:ts[s]=t:=(List.getElem?_eq_some_iff.1 ht).2;have hj0:0<j:=Nat.pos_of_ne_zero fun e0=>h2 t (by rw[e0,Nat.add_zero];exact ht) rfl;refine⟨hj0,?_⟩;have hd:ts.drop s=t::ts.drop (s+1):=by rw[List.drop_eq_getElem_cons hl,e]
 obtain⟨a,b⟩:=qhU (fun x:Tm=>decide (gt x.2 i=gt t.2 i)) (ts.drop s) j (fun x hx=>decide_eq_true (h1 x hx)) (by rw[List.length_drop];omega) (fun y hy=>decide_eq_false (h2 y (by rwa[List.getElem?_drop]at hy)));rw[List.length_drop]at hn;obtain⟨m,rfl⟩:∃m,n=m+1:=⟨n-1,by omega⟩;refine⟨m,by rw[List.length_drop];omega,?_⟩;rw[←a,show ts.drop (s+j)=(ts.drop s).drop j by rw[List.drop_drop],←b,hd];rw[jA]
def qaB(t:RP)(w:World)(e:Ending)(w':World):Prop:=∃A c K kc,e= .returned (qn t A c K kc)∧RB w' w.heap.size t (qc t A c K kc)∧Below w.heap.size w w'
set_option maxHeartbeats 8000000
theorem YE:∀(M L:Nat),L<M→L≤4→∀(ps:List PT)(A:Option Addr)(c B:Nat)(w:World),B≤w.heap.size→jE w B A ps→J8 L (ps.map PT.tm)→(∀p∈ps,Cn p)→(∀p∈ps,∀i,i<4→0≤gt p.m i∧gt p.m i≤1000)→ps.length≤c→ps.length≤1000→(∀p∈ps,qk w p.A p.ds∧p.ds.length≤p.c)→
 Calls Tryz.prog 74 #[.slice A ps.length c,.int .i64 (L:Int)] w (qaB (qO L (ps.map PT.tm)) w)
 |0,L,hM,_,_,_,_,_,_,_,_,_,_,_,_,_,_=>by omega
 |M+1,L,hM,hL,ps,A,c,B,w,hB,hp,hds,hcn,hex,hcap,hlen,hnb=>by
  have HNB:=Lib.hid hnb;clear hnb;have IH:=Lib.hid (YE M);have HP:=Lib.hid (fun(W:World)(hW:Below B w W)=>hp.below hW);have hbx:=(Below.refl w.heap.size w).alloc (Nat.le_refl _) (.cells #[.int .i64 0,.bool false,.slice none 0 0,.slice none 0 0] 28);have kbx:=qd.new w 28 #[.int .i64 0,.bool false,.slice none 0 0,.slice none 0 0];by_cases hn:ps.length=0
  ·obtain rfl:ps=[]:=List.length_eq_zero_iff.1 hn;have HS:=Lib.hid kbx;have HBX:=Lib.hid hbx;have HZ:=Lib.hid (yC L);clear hp hds hcn hex hcap hlen hn hbx kbx HP IH hM hL;go_enter Tryz.func74,Tryz.ntmps74
   go_wp2_with fail
   refine qg Tryz.results74 rfl rfl HS.out Tryz.underlying28 rfl Tryz.sizeRec ?_;refine⟨none,0,none,0,by rw[List.map_nil,HZ.out];rfl,by rw[List.map_nil,HZ.out];exact RT.zero,?_⟩;exact HBX.out
  ·obtain⟨p0,hp0⟩:∃p0,ps[0]? =some p0:=⟨_,List.getElem?_eq_getElem (by omega)⟩;obtain⟨b,o,rfl,hbB,hc⟩:=hp.open (by omega);have HC:=Lib.hid (fun(W:World)(hW:Below B w W)(k:Nat)(p:PT)(j:Nat)(v:Value)(h1:ps[k]? =some p)(h2:j<6)(h3:p.cells[j]? =some v)=>show W.cell? ⟨b,o+(k*6+j),none⟩=some v from(hW.cell (p:=⟨b,o+(k*6+j),none⟩) hbB).trans (hc k p j v h1 h2 h3));have HT0:=Lib.hid (show(ps.map PT.tm)[0]? =some p0.tm by rw[List.getElem?_map,hp0];rfl);have HE0:=Lib.hid (hex p0 (List.mem_of_getElem? hp0));have HEX:=Lib.hid hex;have HCN:=Lib.hid hcn;have HPI:=Lib.hid hp;have HDS:=Lib.hid hds;have HP0:=Lib.hid hp0;have HTL:=Lib.hid (show(ps.map PT.tm).length=ps.length by simp);have HKB:=Lib.hid kbx;have HBX:=Lib.hid hbx;have HB:=Lib.hid hB;have hBw:Below B w (w.alloc (.cells #[.int .i64 0,.bool false,.slice none 0 0,.slice none 0 0] 28)):=hbx.mono hB;have HBw:=Lib.hid hBw;have hwl:=kbx.lt;have hz:((ps.length:Int)==0)=false:=qah _ hn;have g1:(0:Int)<(ps.length:Int):=by omega
   have g2:(ps.length:Int)≤(c:Int):=by omega
   clear hp hds hcn hex hn hc hp0 hbx kbx hBw;generalize hnn:ps.length=n at*;have HNN:=Lib.hid hnn;clear hnn;go_enter Tryz.func74,Tryz.ntmps74
   go_wp2_with fail
   generalize hW1:w.alloc (.cells #[.int .i64 0,.bool false,.slice none 0 0,.slice none 0 0] 28)=W1 at*;have hsz1:W1.heap.size=w.heap.size+1:=by rw[←hW1];simp
   have HSZ1:=Lib.hid hsz1;clear hW1 hsz1;go_loopg [1] L (fun gn lv wr=>∃l:Nat,gn=l∧l≤L∧lv= .int .i64 (l:Int)∧qO l (ps.map PT.tm)=qO L (ps.map PT.tm)∧J8 l (ps.map PT.tm)∧W1=wr)
   case atStart=>exact⟨L,rfl,Nat.le_refl _,rfl,rfl,HDS.out,rfl⟩
   case round=>
    obtain⟨l,hgl,hlL,rfl,hbl,hdl,rfl⟩:=hrel;have HG:=Lib.hid hgl;have HBL:=Lib.hid hbl;have HDL:=Lib.hid hdl;clear hgl hbl hdl;by_cases hl0:l=0
    ·subst hl0;have d0:=HC.out _ HBw.out 0 p0 0 _ HP0.out (by omega) rfl;have d1:=HC.out _ HBw.out 0 p0 1 _ HP0.out (by omega) rfl;simp only[Nat.zero_mul,Nat.zero_add,Nat.add_zero]at d0 d1;have HCS:=Lib.hid (show qO L (ps.map PT.tm)=ju p0.tm.1 by rw[←HBL.out];exact qg8 HT0.out);obtain⟨z,hz0⟩:=HCN.out p0 (List.mem_of_getElem? HP0.out);have HPC:=Lib.hid (show ju p0.tm.1= .mk 0 p0.ng p0.ds []by
      rw[hz0,yT];rfl)
     have hni:=(HPI.out.nt p0 (List.mem_of_getElem? HP0.out));have HNI:=Lib.hid hni.dg;have HS:=Lib.hid (jt (k:=0) HKB.out (.int .i64 0) (.bool p0.ng) (.slice p0.A p0.ds.length p0.c) (.slice none 0 0)).1;have HS2:=Lib.hid (jt (k:=0) HKB.out (.int .i64 0) (.bool p0.ng) (.slice p0.A p0.ds.length p0.c) (.slice none 0 0)).2.1;have f0:=HKB.out.frozen 0;have f1:=HKB.out.frozen 1;have f2:=HKB.out.frozen 2;have f3:=HKB.out.frozen 3;have q0:W1.cell? ⟨w.heap.size,0,none⟩=some (.int .i64 0):=HKB.out.cell 0;have q1:W1.cell? ⟨w.heap.size,1,none⟩=some (.bool false):=HKB.out.cell 1;have q2:W1.cell? ⟨w.heap.size,2,none⟩=some (.slice none 0 0):=HKB.out.cell 2;have q3:W1.cell? ⟨w.heap.size,3,none⟩=some (.slice none 0 0):=HKB.out.cell 3;clear hz0 hni;go_wp2_with fail
     refine qg Tryz.results74 rfl rfl HS.out Tryz.underlying28 rfl Tryz.sizeRec ?_;have hb4:=(((HBX.out.setCell (p:=⟨w.heap.size,0,none⟩) (Nat.le_refl _) (.int .i64 0)).setCell (p:=⟨w.heap.size,1,none⟩) (Nat.le_refl _) (.bool p0.ng)).setCell (p:=⟨w.heap.size,2,none⟩) (Nat.le_refl _) (.slice p0.A p0.ds.length p0.c)).setCell (p:=⟨w.heap.size,3,none⟩) (Nat.le_refl _) (.slice none 0 0);refine⟨p0.A,p0.c,none,0,by rw[HCS.out,HPC.out];rfl,?_,hb4⟩;rw[HCS.out,HPC.out];have hnb:=HNB.out p0 (List.mem_of_getElem? HP0.out);exact RB.const ((hnb.1.old HBX.out).keep HS2.out) HNI.out hnb.2
    ·obtain⟨i,rfl⟩:∃i,l=i+1:=⟨l-1,by omega⟩;have hi4:i<4:=by omega
     have hli:((i+1:Nat):Int)-1=(i:Int):=by omega
     have g3:(0:Int)<((i+1:Nat):Int):=by omega
     have j0:(0:Int)≤(i:Int):=by omega
     have j4:(i:Int)<4:=by omega
     have HCE:=Lib.hid (fun(W:World)(hW:Below B w W)(k:Nat)(p:PT)(h:ps[k]? =some p)=>show W.cell? ⟨b,o+k*6+2+i,none⟩=some (.int .i64 (gt p.m i))by
      have:=HC.out W hW k p (2+i) _ h (by omega) (qgK p i hi4);rwa[show o+(k*6+(2+i))=o+k*6+2+i by omega]at this)
     have ce:=HCE.out _ HBw.out 0 p0 HP0.out;simp only[Nat.zero_mul,Nat.add_zero]at ce;have he0:=HE0.out i hi4;by_cases hz0:gt p0.m i=0
     ·have HDN:=Lib.hid (show qO i (ps.map PT.tm)=qO L (ps.map PT.tm)from(qgM HT0.out hz0).trans HBL.out);have HDZ:=Lib.hid (show J8 i (ps.map PT.tm)from HDL.out.zero HT0.out hz0 (fun s hs=>by
       obtain⟨p,hp,rfl⟩:=List.mem_map.1 hs;exact(HEX.out p hp i hi4).1))
      rw[hz0]at ce;clear hz0 hl0 he0;go_wp2_with fail
      go_roundg i
      case rel=>exact⟨i,rfl,by omega,rfl,HDN.out,HDZ.out,rfl⟩
      case measure=>have:=HG.out;omega
     ·obtain⟨e0,he⟩:∃e0:Nat,gt p0.m i=(e0:Int):=⟨(gt p0.m i).toNat,by omega⟩;have HND:=Lib.hid (show qO L (ps.map PT.tm)= .mk ((i:Int)+1) false [] (jA (qO i) i (ps.map PT.tm).length (ps.map PT.tm) (List.replicate (e0+1) qa))by
       rw[←HBL.out,qgt HT0.out hz0,show(gt p0.tm.2 i).toNat=e0 by show(gt p0.m i).toNat=e0;omega])
      have HHD:=Lib.hid (fun(s:Tm)(hs:s∈ps.map PT.tm)=>show gt s.2 i≤(e0:Int)by rw[←he];exact HDL.out.first HT0.out hs);rw[he]at ce hz0 he0;have hze:((e0:Int)==0)=false:=qah _ (by omega);have hle:(e0:Int)≤1073741824:=by omega
      have hle2:e0≤1000:=by omega
      have hmk:=fun(W:World)=>Tryz.make_rec (e0+1) (by omega) W;have hce:(e0:Int)+1=((e0+1:Nat):Int):=by omega
      have HZ0:=Lib.hid hz0;clear hz0 he hl0 he0;generalize hNN:e0+1=N at*;have HNE:=Lib.hid hNN;clear hNN;go_wp2_with fail
      have HBI:=Lib.hid (qcC.start (w:=w) (n:=N) (qd.new W1 28 (madeCells #[.int .i64 0,.bool false,.slice none 0 0,.slice none 0 0] (N*4))) (HBX.out.alloc HBX.out.size _) (HKB.out.alloc _));have hg:w.heap.size<W1.heap.size:=by have:=HSZ1.out;omega
      generalize W1.alloc (.cells (madeCells #[.int .i64 0,.bool false,.slice none 0 0,.slice none 0 0] (N*4)) 28)=W2 at*;generalize W1.heap.size=g at*;generalize hTOT:jA (qO i) i (ps.map PT.tm).length (ps.map PT.tm) (List.replicate N qa)=TOT at*;have HTOT:=Lib.hid hTOT;clear hTOT hmk hze hle hce ce;go_loopg [6,7,8] n (fun gn sv _ _ wr=>∃(s:Nat)(ks:List RP)(cur:Array Value)(rows:List (List Value))(m:Nat),s≤n∧gn=n-s∧sv= .int .i64 (s:Int)∧qcC w g N wr ks cur rows∧((ps.map PT.tm).drop s).length≤m∧jA (qO i) i m ((ps.map PT.tm).drop s) ks=TOT)
      case atStart=>exact⟨0,_,_,_,(ps.map PT.tm).length,Nat.zero_le _,rfl,rfl,HBI.out,by simp,by rw[List.drop_zero];exact HTOT.out⟩
      case round=>
       clear HBI;obtain⟨s,ks,cur,rows,m,hs,hgs,rfl,hbi,hml,hfl⟩:=hrel;have HGS:=Lib.hid hgs;have HBI:=Lib.hid hbi;have HML:=Lib.hid hml;have HFL:=Lib.hid hfl;have hbw:Below B w wr:=hbi.bel.mono HB.out;have HBWR:=Lib.hid hbw;clear hgs hml hfl;by_cases hsn:s<n
       ·obtain⟨p,hp⟩:∃p,ps[s]? =some p:=⟨_,List.getElem?_eq_getElem (by rw[HNN.out];exact hsn)⟩;have hpm:=List.mem_of_getElem? hp;have cp:=HCE.out wr hbw s p hp;have hep:=HEX.out p hpm i hi4;obtain⟨e,he⟩:∃e:Nat,gt p.m i=(e:Int):=⟨(gt p.m i).toNat,by omega⟩;have hee:=HHD.out p.tm (List.mem_map.2 ⟨p,hpm,rfl⟩);have hee':gt p.m i≤(e0:Int):=hee;have HTS:=Lib.hid (show(ps.map PT.tm)[s]? =some p.tm by rw[List.getElem?_map,hp];rfl);have HPE:=Lib.hid (show gt p.tm.2 i=(e:Int)from he);have hen:e<N:=by have:=HNE.out;omega
        rw[he]at cp;have k0:(0:Int)≤(s:Int):=by omega
        have k1:(s:Int)<(n:Int):=by omega
        clear hee hee' hep he hp hpm hbi hbw;go_wp2_with fail
        go_loopg [8] (n-s) (fun gn ev wq=>∃j:Nat,s+j≤n∧gn=n-s-j∧ev= .int .i64 ((s+j:Nat):Int)∧(∀x∈((ps.map PT.tm).drop s).take j,gt x.2 i=(e:Int))∧wr=wq)
        case atStart=>exact⟨0,by omega,rfl,rfl,by simp,rfl⟩
        case round=>
         obtain⟨j,hj,hgj,rfl,hrun,rfl⟩:=hrel;have HGJ:=Lib.hid hgj;have HRUN:=Lib.hid hrun;clear hgj hrun;by_cases hjn:s+j<n
         ·obtain⟨q,hq⟩:∃q,ps[s+j]? =some q:=⟨_,List.getElem?_eq_getElem (by rw[HNN.out];exact hjn)⟩;have hqm:=List.mem_of_getElem? hq;have cq:=HCE.out wr HBWR.out (s+j) q hq;have heq:=HEX.out q hqm i hi4;obtain⟨f,hf⟩:∃f:Nat,gt q.m i=(f:Int):=⟨(gt q.m i).toNat,by omega⟩;have HTQ:=Lib.hid (show(ps.map PT.tm)[s+j]? =some q.tm by rw[List.getElem?_map,hq];rfl);have HQF:=Lib.hid (show gt q.tm.2 i=(f:Int)from hf);rw[hf]at cq;have k2:(0:Int)≤((s+j:Nat):Int):=by omega
          have k3:((s+j:Nat):Int)<(n:Int):=by omega
          clear heq hf hq hqm;by_cases hfe:f=e
          ·subst hfe;have HR1:=Lib.hid (show∀x∈((ps.map PT.tm).drop s).take (j+1),gt x.2 i=(f:Int)by
            intro x hx;have hl:j<((ps.map PT.tm).drop s).length:=by rw[List.length_drop,HTL.out];omega
            rw[List.take_succ_eq_append_getElem hl]at hx;rcases List.mem_append.1 hx with hx|hx
            ·exact HRUN.out x hx
            ·rw[List.mem_singleton]at hx;have h2:=HTQ.out;rw[←List.getElem?_drop,List.getElem?_eq_getElem hl]at h2
             injection h2 with h2
             rw[hx,h2];exact HQF.out)
           go_wp2_with fail
           go_roundg (n-s-(j+1))
           case rel=>exact⟨j+1,by omega,rfl,by rw[show((s+(j+1):Nat):Int)=(s:Int)+(j:Int)+1 by omega],HR1.out,rfl⟩
           case measure=>have:=HGJ.out;omega
          ·have hfe':((f:Int)==(e:Int))=false:=by
            have:¬(f:Int)=(e:Int):=by omega
            simpa using this
           have HSTOP:=Lib.hid (show∀y,(ps.map PT.tm)[s+j]? =some y→gt y.2 i≠(e:Int)by
            intro y hy;rw[HTQ.out]at hy
            injection hy with hy
            rw[←hy,HQF.out];omega)
           clear hfe;obtain⟨hj0,m',hm1,hm2⟩:=qbJ (f:=qO i) (ks:=ks) HTS.out HML.out (by rw[HTL.out];exact hj) (fun x hx=>(HRUN.out x hx).trans HPE.out.symm) (fun y hy=>by rw[HPE.out];exact HSTOP.out y hy);rw[HFL.out,HPE.out,Int.toNat_natCast]at hm2;have hsl:((ps.drop s).take j).length=j:=by rw[List.length_take,List.length_drop,HNN.out];omega
           have hseg:((ps.drop s).take j).map PT.tm=((ps.map PT.tm).drop s).take j:=by rw[List.map_take,List.map_drop]
           have hsubm:∀x∈(ps.drop s).take j,x∈ps:=fun x hx=>List.mem_of_mem_drop (List.mem_of_mem_take hx);have hbld:=IH.out i (by omega) (by omega) ((ps.drop s).take j) (some ⟨b,o+s*6,none⟩) (c-s) B wr (Nat.le_trans HB.out HBI.out.bel.size) ((HPI.out.below HBWR.out).sub s j (by rw[HNN.out];exact hj) hj0)
            (by rw[hseg];exact(HDL.out.sub ((List.take_sublist _ _).trans (List.drop_sublist _ _))).down HRUN.out)
            (fun x hx=>HCN.out x (hsubm x hx)) (fun x hx=>HEX.out x (hsubm x hx)) (by rw[hsl];omega) (by rw[hsl];omega) (fun x hx=>⟨(HNB.out x (hsubm x hx)).1.old HBI.out.bel,(HNB.out x (hsubm x hx)).2⟩)
           rw[hsl,hseg]at hbld;unfold qaB qn at hbld;generalize hT:qO i (((ps.map PT.tm).drop s).take j)=T at*;clear hT;have HIH:=Lib.hid hbld;have HM1:=Lib.hid hm1;have HM2:=Lib.hid hm2.symm;have HPUT:=Lib.hid (fun(W2:World)(A K:Option Addr)(c kc:Nat)(h2:RB W2 wr.heap.size T (qc T A c K kc))(h3:Below wr.heap.size wr W2)=>HBI.out.put hen hg h2 h3);clear hbld hm1 hm2 hsl hseg hsubm;go_wp2_with fail
           refine HIH.out.mono ?_;rintro e' w3 ⟨A2,c2,K2,kc2,rfl,h2,h3⟩;have kk:=HBI.out.row.old h3;have hz:=HBI.out.siz;have ex:∀x,x<4→∃v,cur[e*4+x]? =some v:=fun x hx=>⟨_,Array.getElem?_eq_getElem (by omega)⟩;obtain⟨v0,q0⟩:=ex 0 (by omega);obtain⟨v1,q1⟩:=ex 1 (by omega);obtain⟨v2,q2⟩:=ex 2 (by omega);obtain⟨v3,q3⟩:=ex 3 (by omega);have d0:w3.cell? ⟨g,e*4,none⟩=some v0:=(kk.cell _).trans q0;have d1:w3.cell? ⟨g,e*4+1,none⟩=some v1:=(kk.cell _).trans q1;have d2:w3.cell? ⟨g,e*4+2,none⟩=some v2:=(kk.cell _).trans q2;have d3:w3.cell? ⟨g,e*4+3,none⟩=some v3:=(kk.cell _).trans q3;have f0:=kk.frozen (e*4);have f1:=kk.frozen (e*4+1);have f2:=kk.frozen (e*4+2);have f3:=kk.frozen (e*4+3);have z0:=kk.lt;have k4:(0:Int)≤(e:Int):=by omega
           have k5:(e:Int)<(N:Int):=by omega
           have HN2:=Lib.hid (HPUT.out w3 A2 K2 c2 kc2 h2 h3);clear kk hz ex q0 q1 q2 q3 h2 h3 HIH HPUT;generalize T.lv=xl at*;generalize T.ng=xg at*;generalize T.ds.length=xd at*;generalize T.ks.length=xk at*;go_wp2_with fail
           obtain⟨cur',hn⟩:=HN2.out;go_roundg (n-(s+j))
           case rel=>exact⟨s+j,ks.set e T,cur',_,m',hj,rfl,by rw[show((s+j:Nat):Int)=(s:Int)+(j:Int)by omega],hn,HM1.out,HM2.out⟩
           case measure=>have:=HGS.out;omega
         ·have hjn':s+j=n:=by omega
          have HSTOP:=Lib.hid (show∀y,(ps.map PT.tm)[s+j]? =some y→gt y.2 i≠(e:Int)by
           intro y hy;rw[List.getElem?_eq_none (by rw[HTL.out];omega)]at hy
           cases hy)
          have k3:(n:Int)≤((s+j:Nat):Int):=by omega
          clear hjn';obtain⟨hj0,m',hm1,hm2⟩:=qbJ (f:=qO i) (ks:=ks) HTS.out HML.out (by rw[HTL.out];exact hj) (fun x hx=>(HRUN.out x hx).trans HPE.out.symm) (fun y hy=>by rw[HPE.out];exact HSTOP.out y hy);rw[HFL.out,HPE.out,Int.toNat_natCast]at hm2;have hsl:((ps.drop s).take j).length=j:=by rw[List.length_take,List.length_drop,HNN.out];omega
          have hseg:((ps.drop s).take j).map PT.tm=((ps.map PT.tm).drop s).take j:=by rw[List.map_take,List.map_drop]
          have hsubm:∀x∈(ps.drop s).take j,x∈ps:=fun x hx=>List.mem_of_mem_drop (List.mem_of_mem_take hx);have hbld:=IH.out i (by omega) (by omega) ((ps.drop s).take j) (some ⟨b,o+s*6,none⟩) (c-s) B wr (Nat.le_trans HB.out HBI.out.bel.size) ((HPI.out.below HBWR.out).sub s j (by rw[HNN.out];exact hj) hj0)
           (by rw[hseg];exact(HDL.out.sub ((List.take_sublist _ _).trans (List.drop_sublist _ _))).down HRUN.out)
           (fun x hx=>HCN.out x (hsubm x hx)) (fun x hx=>HEX.out x (hsubm x hx)) (by rw[hsl];omega) (by rw[hsl];omega) (fun x hx=>⟨(HNB.out x (hsubm x hx)).1.old HBI.out.bel,(HNB.out x (hsubm x hx)).2⟩)
          rw[hsl,hseg]at hbld;unfold qaB qn at hbld;generalize hT:qO i (((ps.map PT.tm).drop s).take j)=T at*;clear hT;have HIH:=Lib.hid hbld;have HM1:=Lib.hid hm1;have HM2:=Lib.hid hm2.symm;have HPUT:=Lib.hid (fun(W2:World)(A K:Option Addr)(c kc:Nat)(h2:RB W2 wr.heap.size T (qc T A c K kc))(h3:Below wr.heap.size wr W2)=>HBI.out.put hen hg h2 h3);clear hbld hm1 hm2 hsl hseg hsubm;go_wp2_with fail
          refine HIH.out.mono ?_;rintro e' w3 ⟨A2,c2,K2,kc2,rfl,h2,h3⟩;have kk:=HBI.out.row.old h3;have hz:=HBI.out.siz;have ex:∀x,x<4→∃v,cur[e*4+x]? =some v:=fun x hx=>⟨_,Array.getElem?_eq_getElem (by omega)⟩;obtain⟨v0,q0⟩:=ex 0 (by omega);obtain⟨v1,q1⟩:=ex 1 (by omega);obtain⟨v2,q2⟩:=ex 2 (by omega);obtain⟨v3,q3⟩:=ex 3 (by omega);have d0:w3.cell? ⟨g,e*4,none⟩=some v0:=(kk.cell _).trans q0;have d1:w3.cell? ⟨g,e*4+1,none⟩=some v1:=(kk.cell _).trans q1;have d2:w3.cell? ⟨g,e*4+2,none⟩=some v2:=(kk.cell _).trans q2;have d3:w3.cell? ⟨g,e*4+3,none⟩=some v3:=(kk.cell _).trans q3;have f0:=kk.frozen (e*4);have f1:=kk.frozen (e*4+1);have f2:=kk.frozen (e*4+2);have f3:=kk.frozen (e*4+3);have z0:=kk.lt;have k4:(0:Int)≤(e:Int):=by omega
          have k5:(e:Int)<(N:Int):=by omega
          have HN2:=Lib.hid (HPUT.out w3 A2 K2 c2 kc2 h2 h3);clear kk hz ex q0 q1 q2 q3 h2 h3 HIH HPUT;generalize T.lv=xl at*;generalize T.ng=xg at*;generalize T.ds.length=xd at*;generalize T.ks.length=xk at*;go_wp2_with fail
          obtain⟨cur',hn⟩:=HN2.out;go_roundg (n-(s+j))
          case rel=>exact⟨s+j,ks.set e T,cur',_,m',hj,rfl,by rw[show((s+j:Nat):Int)=(s:Int)+(j:Int)by omega],hn,HM1.out,HM2.out⟩
          case measure=>have:=HGS.out;omega
       ·obtain rfl:s=n:=by omega
        have hks:ks=TOT:=by
         have h:=HFL.out;rw[List.drop_of_length_le (by rw[HTL.out];exact Nat.le_refl _)]at h;rw[←h]
         cases m<;>rfl
        subst hks;have q0:wr.cell? ⟨w.heap.size,0,none⟩=some (.int .i64 0):=hbi.res.cell 0;have q1:wr.cell? ⟨w.heap.size,1,none⟩=some (.bool false):=hbi.res.cell 1;have q2:wr.cell? ⟨w.heap.size,2,none⟩=some (.slice none 0 0):=hbi.res.cell 2;have q3:wr.cell? ⟨w.heap.size,3,none⟩=some (.slice none 0 0):=hbi.res.cell 3;have f0:=hbi.res.frozen 0;have f1:=hbi.res.frozen 1;have f2:=hbi.res.frozen 2;have f3:=hbi.res.frozen 3;have z0:=hbi.res.lt;have hi1:((i+1:Nat):Int)=(i:Int)+1:=by omega
        have HFN:=Lib.hid (hbi.fin hg ((i:Int)+1));have HS:=Lib.hid (jt (k:=0) hbi.res (.int .i64 ((i:Int)+1)) (.bool false) (.slice none 0 0) (.slice (some ⟨g,0,none⟩) N N)).1;have HKL:=Lib.hid hbi.kl;clear hbi hbw;go_wp2_with fail
        refine qg Tryz.results74 rfl rfl HS.out Tryz.underlying28 rfl Tryz.sizeRec ?_;refine⟨none,0,some ⟨g,0,none⟩,N,?_,by rw[HND.out];exact HFN.out,?_⟩
        ·rw[HND.out];unfold qn;show _=Ending.returned (.agg #[.int .i64 ((i:Int)+1),.bool false,.slice none 0 0,.slice (some ⟨g,0,none⟩) ks.length N]);rw[HKL.out];rfl
        ·exact(((HBI.out.bel.setCell (Nat.le_refl _) _).setCell (Nat.le_refl _) _).setCell (Nat.le_refl _) _).setCell (Nat.le_refl _) _
