import Derived.Deep.RegionLaw
import Derived.Test.YtflikmojaidhhaaGreatPq16
namespace Go.Proofs.YtflikmojaidhhaaGreat
open Go.RowKit
set_option maxHeartbeats 1000000
set_option maxRecDepth 100000
theorem qaT(L:Option Addr)(n lc:Nat)(w:World):Calls Tryz.prog 56 #[.slice L n lc] w fun e w'=>e= .returned (.agg #[.int .i64 3,.int .i64 0,.int .i64 0,.bool false,.slice none 0 0,.slice none 0 0,.slice L n lc])∧Below w.heap.size w w':=by
 go_enter Tryz.func56,Tryz.ntmps56
 go_wp2_with fail
 exact qg Tryz.results56 rfl rfl (qd.new w _ _) Tryz.underlying44 rfl Tryz.sizeMat ⟨rfl,(Below.refl w.heap.size w).alloc (Nat.le_refl _) _⟩
theorem qkc(L:Option Addr)(n lc:Nat)(w:World):Calls Tryz.prog 86 #[.slice L n lc] w fun e w'=>e= .returned (.agg #[.int .i64 4,.int .i64 0,.int .i64 0,.bool false,.slice none 0 0,.slice none 0 0,.slice L n lc])∧Below w.heap.size w w':=by
 go_enter Tryz.func86,Tryz.ntmps86
 go_wp2_with fail
 exact qg Tryz.results86 rfl rfl (qd.new w _ _) Tryz.underlying44 rfl Tryz.sizeMat ⟨rfl,(Below.refl w.heap.size w).alloc (Nat.le_refl _) _⟩
def qd0(r:Int):Int:=if r=2 then 1 else if r=5 then 6 else r
theorem qeH(r:Int)(w:World):Calls Tryz.prog 87 #[.int .i64 r] w fun e w'=>e= .returned (.int .i64 (qd0 r))∧w'=w:=by
 unfold qd0;by_cases h1:r=2
 ·subst h1;go_enter Tryz.func87,Tryz.ntmps87
  go_wp2_with fail
  go_ret
  exact⟨rfl,rfl⟩
 rw[if_neg h1];have e1:(r==2)=false:=by simpa using h1
 by_cases h2:r=5
 ·subst h2;clear h1 e1;go_enter Tryz.func87,Tryz.ntmps87
  go_wp2_with fail
  go_ret
  exact⟨rfl,rfl⟩
 rw[if_neg h2];have e2:(r==5)=false:=by simpa using h2
 clear h1 h2;go_enter Tryz.func87,Tryz.ntmps87
 go_wp2_with fail
 go_ret
 exact⟨rfl,rfl⟩
def zn(w:World)(B:Nat)(A:Option Addr)(ts:List RP):Prop:=∃rows,jd w (· <B) 4 A ts.length rows.flatten∧qH w (· <B) ts rows
section
variable {w w':World} {B B':Nat} {A:Option Addr} {ts:List RP}
theorem zn.below(h:zn w B A ts)(hb:Below B w w'):zn w' B A ts:=by
 obtain⟨rows,h1,h2⟩:=h;exact⟨rows,h1.keep (fun b hS o=>hb.cell (p:=⟨b,o,none⟩) hS),qH.keep (fun b hS o=>hb.cell (p:=⟨b,o,none⟩) hS) _ _ h2⟩
theorem zn.more(h:zn w B A ts)(hB:B≤B'):zn w B' A ts:=by
 obtain⟨rows,h1,h2⟩:=h;exact⟨rows,h1.mono (fun b hS=>Nat.lt_of_lt_of_le hS hB),qH.mono (fun b hS=>Nat.lt_of_lt_of_le hS hB) _ _ h2⟩
theorem zn.kid(h:zn w B A ts){i:Nat}{u:RP}(hi:ts[i]? =some u):
 ∃b o A' c' K' kc',A=some ⟨b,o,none⟩∧b<B∧w.cell? ⟨b,o+i*4,none⟩=some (.int .i64 u.lv)∧w.cell? ⟨b,o+i*4+1,none⟩=some (.bool u.ng)∧
  w.cell? ⟨b,o+i*4+2,none⟩=some (.slice A' u.ds.length c')∧w.cell? ⟨b,o+i*4+3,none⟩=some (.slice K' u.ks.length kc')∧RV w (· <B) u (qc u A' c' K' kc'):=by
 obtain⟨rows,h6,h7⟩:=h;have hl:i<ts.length:=(List.getElem?_eq_some_iff.1 hi).1;obtain⟨a1,a2,a3⟩:=qH.at_ ts rows h7;obtain⟨r,hr,hv⟩:=a3 i u hi;obtain⟨A',c',K',kc',rfl⟩:=hv.cells;obtain⟨b,o,hA,hb,hc⟩:=h6.2 (by omega);have f:=fun j hj v (hv:(qc u A' c' K' kc')[j]? =some v)=>hc (i*4+j) v ((Je rows a1 i _ hr j hj).trans hv);exact⟨b,o,A',c',K',kc',hA,hb,f 0 (by omega) _ rfl,f 1 (by omega) _ rfl,f 2 (by omega) _ rfl,f 3 (by omega) _ rfl,hv⟩
theorem zn.of_row{g m:Nat}{cur:Array Value}{rows:List (List Value)}(h:qY w g m (· <B) ts cur rows)(hg:g<B):zn w B (some ⟨g,0,none⟩) ts:=
 ⟨rows,⟨by rw[jq h.four,h.len,h.kl],fun _=>⟨g,0,rfl,hg,fun j u hu=>by rw[Nat.zero_add];exact(h.row.cell j).trans (h.at_ j u hu)⟩⟩,h.kids⟩
theorem zn.nil:zn w B none []:=⟨[],⟨rfl,fun h=>absurd h (Nat.lt_irrefl 0)⟩,by unfold qH;rfl⟩
end
def yE(r:Int):List RP→List MX→Prop
 |[],xs=>xs=[]
 |t::ts,xs=>∃x ys,xs=x::ys∧(QR r t x∧x.ks=[])∧yE r ts ys
theorem yE.snoc{r:Int}:∀{ts:List RP} {xs:List MX} {t:RP} {x:MX},yE r ts xs→QR r t x→x.ks=[]→yE r (ts++[t]) (xs++[x])
 |[],xs,t,x,h,hx,hk=>by
  unfold yE at h;subst h;exact⟨x,[],rfl,⟨hx,hk⟩,rfl⟩
 |s::ts,xs,t,x,h,hx,hk=>by
  obtain⟨y,ys,rfl,h2,h3⟩:=h;exact⟨y,ys++[x],rfl,h2,yE.snoc h3 hx hk⟩
theorem yE.len{r:Int}:∀{ts:List RP} {xs:List MX},yE r ts xs→xs.length=ts.length
 |[],xs,h=>by unfold yE at h;subst h;rfl
 |s::ts,xs,h=>by
  obtain⟨y,ys,rfl,_,h3⟩:=h;simp[yE.len h3]
theorem MV.leafM{w:World}{S:Nat→Prop}{M:MX}{A:Option Addr}{c:Nat}{K:Option Addr}{kc:Nat}(hM:M.ks=[])(h:RV w S M.p (qc M.p A c K kc)):MV w S M (q9 M A c K kc none 0):=by
 cases M with
 |mk k r p ks=>
  have hk:ks=[]:=hM;subst hk;exact MV.leaf h
theorem qi.seven_newJ(w:World)(cs:List Value)(h:cs.length=7)(t:TypeId):qi (w.alloc (.cells cs.toArray t)) (w.heap.size+1) 7 (some ⟨w.heap.size,0,none⟩) 1 cs:=by
 refine⟨by omega,fun _=>⟨_,_,rfl,by omega,fun j x hj=>?_⟩⟩;have:=(qd.new w t cs.toArray).cell j;rw[Nat.zero_add,this];simpa using hj
set_option maxHeartbeats 4000000
theorem Yi(dg:Nat)(hdg:dg≤500)(ts:List RP)(hts:ts.length≤1000)(hf:∀t∈ts,zU dg t∧yf 1000 (qq t))(A:Option Addr)(c B:Nat)(w:World)(hB:B≤w.heap.size)(h:zn w B A ts)(hc:ts.length≤c):
 Calls Tryz.prog 85 #[.slice A ts.length c] w fun e w'=>∃xs,yE 3 ts xs∧J6 (.mk 3 0 qa xs) w e w':=by
 have HT:=Lib.hid (fun(W:World)(hW:Below w.heap.size w W)=>h.below (hW.mono hB));have HF:=Lib.hid hf;have HB:=Lib.hid hB;have HAT:=Lib.hid (fun(u:RP)(hu:u∈ts)(A:Option Addr)(c:Nat)(K:Option Addr)(kc:Nat)(W:World)(hW:B≤W.heap.size)(h:RV W (· <B) u (qc u A c K kc))=>ZV dg hdg 3 u (hf u hu).1 (hf u hu).2 A c K kc B W hW h);unfold QC qn lfv at HAT;have HAN:=Lib.hid (fun(W:World)=>qaT none 0 0 W);have hb0:=(Below.refl w.heap.size w).alloc (Nat.le_refl _) (.cells #[.int .i64 0,.int .i64 0,.int .i64 0,.bool false,.slice none 0 0,.slice none 0 0,.slice none 0 0] 44);have hk0:=qd.new w 44 #[.int .i64 0,.int .i64 0,.int .i64 0,.bool false,.slice none 0 0,.slice none 0 0,.slice none 0 0];have HB0:=Lib.hid hb0;have HK0:=Lib.hid hk0;clear h hf hB hdg hb0 hk0;generalize hn:ts.length=n at*;have HN:=Lib.hid hn;clear hn;go_enter Tryz.func85,Tryz.ntmps85
 go_wp2_with fail
 generalize w.alloc (.cells #[.int .i64 0,.int .i64 0,.int .i64 0,.bool false,.slice none 0 0,.slice none 0 0,.slice none 0 0] 44)=W0 at*;refine(HAN.out W0).mono ?_;rintro e w1 ⟨rfl,hb1⟩;have hbx:=qd.new w1 44 #[.int .i64 3,.int .i64 0,.int .i64 0,.bool false,.slice none 0 0,.slice none 0 0,.slice none 0 0];have hbb:=(Below.refl w1.heap.size w1).alloc (Nat.le_refl _) (.cells #[.int .i64 3,.int .i64 0,.int .i64 0,.bool false,.slice none 0 0,.slice none 0 0,.slice none 0 0] 44);have HB1:=Lib.hid (HB0.out.trans (hb1.mono HB0.out.size));have HK1:=Lib.hid (HK0.out.old hb1);have HAI:=Lib.hid (Y7.start (b0:=w.heap.size+1) hbb (Nat.le_refl _) (HK0.out.old hb1).lt hbx);clear hb1 hbx hbb HB0 HK0 HAN;go_wp2_with fail
 generalize w1.alloc (.cells #[.int .i64 3,.int .i64 0,.int .i64 0,.bool false,.slice none 0 0,.slice none 0 0,.slice none 0 0] 44)=W1 at*;generalize hg1:w1.heap.size=g at*;have HG1:=Lib.hid hg1;clear hg1;go_loopg [9] n (fun gn ix wr=>∃(j:Nat)(u:Value)(xs:List MX),j≤n∧gn=n-j∧ix= .int .i64 j∧yE 3 (ts.take j) xs∧Y7 w1 wr (w.heap.size+1) g u xs)
 case atStart=>exact⟨0,_,[],Nat.zero_le _,rfl,rfl,rfl,HAI.out⟩
 case round=>
  clear HAI;obtain⟨j,u,xs,hj,hgj,rfl,hvl,hai⟩:=hrel;have HG:=Lib.hid hgj;have HVL:=Lib.hid hvl;have HAI:=Lib.hid hai;have hbw:=HB1.out.trans (hai.bel.mono HB1.out.size);have HBW:=Lib.hid hbw;have hxl:xs.length≤1000:=by have:=hvl.len;rw[List.length_take]at this;omega
  clear hgj hvl;by_cases hlt:j<n
  ·obtain⟨t,ht⟩:∃t,ts[j]? =some t:=⟨_,List.getElem?_eq_getElem (by rw[HN.out];exact hlt)⟩;obtain⟨b,o,A3,q3,K3,r3,rfl,hbB,x0,x1,x2,x3,hku⟩:=(HT.out wr hbw).kid ht;have htm:=List.mem_of_getElem? ht;have hal:=(Below.refl wr.heap.size wr).alloc (Nat.le_refl _) (.cells #[.int .i64 t.lv,.bool t.ng,.slice A3 t.ds.length q3,.slice K3 t.ks.length r3] 28);have hnb:=qd.new wr 28 #[.int .i64 t.lv,.bool t.ng,.slice A3 t.ds.length q3,.slice K3 t.ks.length r3];have hBw:B≤wr.heap.size:=Nat.le_trans HB.out hbw.size;have HAA:=Lib.hid (fun(V:World)(hV:Below wr.heap.size wr V)=>HAT.out t htm A3 q3 K3 r3 V (Nat.le_trans hBw hV.size) (hku.below (hV.mono hBw)));have HTK:=Lib.hid (show ts.take (j+1)=ts.take j++[t]by
    obtain⟨h1,h2⟩:=List.getElem?_eq_some_iff.1 ht;rw[List.take_succ_eq_append_getElem h1,h2])
   have i3:(0:Int)≤(j:Int):=by omega
   have i4:(j:Int)<(n:Int):=by omega
   have HNB:=Lib.hid hnb;have HAL:=Lib.hid hal;clear ht htm hal hnb hBw hku hai hbw;generalize t.ds.length=td at*;generalize t.ks.length=tk at*;generalize t.ng=tg at*;generalize t.lv=tl at*;go_upto_region 5 with(fail)
   generalize wr.alloc (.cells #[.int .i64 tl,.bool tg,.slice A3 td q3,.slice K3 tk r3] 28)=V at*;obtain⟨i0,hi0,hz0,hz1,hz2⟩:=qZ Tryz.infoMat;have h63:xs.length+1≤maxLen:=by unfold maxLen;omega
   have hby:(xs.length+1)*104≤140737488355328:=by omega
   have hac:=HAI.out.old HAL.out;obtain⟨rows,hro,hms⟩:=hac.row;have gb5:=hac.box;have lg5:=gb5.lt;have l05:=HNB.out.lt;have g6:V.cell? ⟨g,6,none⟩=some u:=gb5.cell 6;have b0:=HNB.out.cell 0;have b1:=HNB.out.cell 1;have b2:=HNB.out.cell 2;have b3:=HNB.out.cell 3;have hvd:Below V.heap.size V V.drew:=(qm.drew _).below _;have Q4:g<g+1:=Nat.lt_succ_self g;clear x0 x1 x2 x3;have HPU:=Lib.hid (fun(w3:World)(M:MX)(hM:QR 3 t M)(hks:M.ks=[])(A5:Option Addr)(c5:Nat)(K5:Option Addr)(kc5:Nat)(hr5:RB w3 V.drew.heap.size M.p (qc M.p A5 c5 K5 kc5))(h5:Below V.drew.heap.size V.drew w3)(w4:World)(u':Value)
    (ho:w4.ownsRow (g+1) 44 7 u' (xs.length+1) (rows.flatten++[.int .i64 M.kd,.int .i64 M.rl,.int .i64 M.p.lv,.bool M.p.ng,.slice A5 M.p.ds.length c5,.slice K5 M.p.ks.length kc5,.slice none 0 0]))(hg:(w3.alloc (.cells #[.int .i64 M.kd,.int .i64 M.rl,.int .i64 M.p.lv,.bool M.p.ng,.slice A5 M.p.ds.length c5,.slice K5 M.p.ks.length kc5,.slice none 0 0] 44)).grownBy w4 u.ownBlock)=>
    show Y7 w1 (w4.setCell ⟨g,6,none⟩ u') (w.heap.size+1) g u' (xs++[M])∧yE 3 (ts.take (j+1)) (xs++[M])from by
     have h5':Below V.heap.size V w3:=hvd.trans h5;have hal:=(Below.refl w3.heap.size w3).alloc (Nat.le_refl _) (.cells #[.int .i64 M.kd,.int .i64 M.rl,.int .i64 M.p.lv,.bool M.p.ng,.slice A5 M.p.ds.length c5,.slice K5 M.p.ks.length kc5,.slice none 0 0] 44);have hle:w.heap.size+1≤V.drew.heap.size:=Nat.le_trans hac.b0le hac.bel.size;have hmv:=MV.leafM hks ((hr5.old hal).mono hle);unfold q9 at hmv;rw[hks]at hmv;refine⟨hac.push hro hms (h5'.trans (hal.mono h5'.size)) hmv ho hg,?_⟩;rw[HTK.out];exact HVL.out.snoc hM hks)
   have HBWX:=Lib.hid (fun(w3:World)(h5:Below V.drew.heap.size V.drew w3)=>show Below wr.heap.size wr w3 from HAL.out.trans ((hvd.trans h5).mono HAL.out.size));clear hac;go_region_law (first
    |(refine jO _ rfl (.tmp 14) (.tmp 17) 42 (by rfl) (g+1) 44 i0 _ 7 104 Tryz.underlying42 hi0 hz0 hz1 hz2 rfl (by decide) u xs.length rows.flatten (by rfl) roX (w3.heap.size+1) (some ⟨w3.heap.size,0,none⟩) 1 1 [.int .i64 M.kd,.int .i64 M.rl,.int .i64 M.p.lv,.bool M.p.ng,.slice A5 M.p.ds.length c5,.slice K5 M.p.ks.length kc5,.slice none 0 0] (by rfl) hrd hone h63 hby hbX ?_
      intro v' w4 hown4 hg4 hat4;obtain⟨L',lc',rfl⟩:=qJ hown4;have gb4:=gbX.grown hg4 (fun e=>absurd (jb roX e.symm) (Nat.not_le_of_lt Q4));have y1:w4.cell? ⟨g,6,none⟩=some u:=gb4.cell 6;have y2:=gb4.frozen 6;have y3:=gb4.lt)
    |(go_simp
      go_at_call 33
      refine(HAA.out _ (HAL.out.trans (hvd.mono HAL.out.size))).mono ?_;rintro e w3 ⟨hct,M,hM,hks0,A5,c5,K5,kc5,rfl,hr5,h5⟩;have hks:=Lib.hid hks0;clear hks0;have z1:=(h5.cell lg5).trans g6;have z2:=(h5.cell l05).trans b0;have z3:=(h5.cell l05).trans b1;have z4:=(h5.cell l05).trans b2;have z5:=(h5.cell l05).trans b3;have hrd:qi (w3.alloc (.cells #[.int .i64 M.kd,.int .i64 M.rl,.int .i64 M.p.lv,.bool M.p.ng,.slice A5 M.p.ds.length c5,.slice K5 M.p.ks.length kc5,.slice none 0 0] 44)) (w3.heap.size+1) 7 (some ⟨w3.heap.size,0,none⟩) 1 [.int .i64 M.kd,.int .i64 M.rl,.int .i64 M.p.lv,.bool M.p.ng,.slice A5 M.p.ds.length c5,.slice K5 M.p.ks.length kc5,.slice none 0 0]:=qi.seven_newJ w3 [.int .i64 M.kd,.int .i64 M.rl,.int .i64 M.p.lv,.bool M.p.ng,.slice A5 M.p.ds.length c5,.slice K5 M.p.ks.length kc5,.slice none 0 0] rfl 44;have hone:∀u∈([.int .i64 M.kd,.int .i64 M.rl,.int .i64 M.p.lv,.bool M.p.ng,.slice A5 M.p.ds.length c5,.slice K5 M.p.ks.length kc5,.slice none 0 0]:List Value),u.oneCell'=true:=by
       have h1:=(MV.leafM (w:=w3) (S:=yK w3 V.drew.heap.size) hks.out hr5).one;unfold q9 at h1;rw[hks.out]at h1;exact h1
      have gbX:qd (w3.alloc (.cells #[.int .i64 M.kd,.int .i64 M.rl,.int .i64 M.p.lv,.bool M.p.ng,.slice A5 M.p.ds.length c5,.slice K5 M.p.ks.length kc5,.slice none 0 0] 44)) g 44 #[.int .i64 3,.int .i64 0,.int .i64 0,.bool false,.slice none 0 0,.slice none 0 0,u]:=(qd.old (w:=V.drew) gb5 h5).alloc _;have roX:(w3.alloc (.cells #[.int .i64 M.kd,.int .i64 M.rl,.int .i64 M.p.lv,.bool M.p.ng,.slice A5 M.p.ds.length c5,.slice K5 M.p.ks.length kc5,.slice none 0 0] 44)).ownsRow (g+1) 44 7 u xs.length rows.flatten:=qQ (w:=V.drew) hro (h5.alloc h5.size _);have hbX:g+1≤(w3.alloc (.cells #[.int .i64 M.kd,.int .i64 M.rl,.int .i64 M.p.lv,.bool M.p.ng,.slice A5 M.p.ds.length c5,.slice K5 M.p.ks.length kc5,.slice none 0 0] 44)).heap.size:=Nat.le_trans lg5 (h5.alloc h5.size _).size;have z6:=gbX.cell 6))
   all_goals
    obtain⟨hn1,hn2⟩:=HPU.out w3 M hM hks.out A5 c5 K5 kc5 hr5 h5 w4 (.slice L' (xs.length+1) lc') hown4 hg4;have HN1:=Lib.hid hn1;have HN2:=Lib.hid hn2;clear hn1 hn2;go_wp2_with fail
    go_roundg (n-(j+1))
    case rel=>exact⟨j+1,_,xs++[M],by omega,rfl,by go_num,HN2.out,HN1.out⟩
    case measure=>have:=HG.out;omega
  ·obtain rfl:j=n:=by omega
   obtain⟨L,lc,rfl,hmv⟩:=hai.done (r:=none) (by simp);have k1:=HK1.out.old hai.bel;have HFN:=Lib.hid (Yt (w:=w) (M:= .mk 3 0 qa xs) k1 hmv (Nat.lt_succ_self _) (Nat.le_refl _) hbw);have hv:=HVL.out;rw[List.take_of_length_le (by rw[HN.out];exact Nat.le_refl _)]at hv;have HV:=Lib.hid hv;have g0:=hai.box.cell 0;have g1:=hai.box.cell 1;have g2:=hai.box.cell 2;have g3:=hai.box.cell 3;have g4:=hai.box.cell 4;have g5:=hai.box.cell 5;have g6:=hai.box.cell 6;have d0:=k1.cell 0;have d1:=k1.cell 1;have d2:=k1.cell 2;have d3:=k1.cell 3;have d4:=k1.cell 4;have d5:=k1.cell 5;have d6:=k1.cell 6;have f0:=k1.frozen 0;have f1:=k1.frozen 1;have f2:=k1.frozen 2;have f3:=k1.frozen 3;have f4:=k1.frozen 4;have f5:=k1.frozen 5;have f6:=k1.frozen 6;have z0:=k1.lt;clear hai hbw hmv k1 hv hlt;go_wp2_with fail
   exact qg Tryz.results85 rfl rfl HFN.out.1 Tryz.underlying44 rfl Tryz.sizeMat ⟨xs,HV.out,HFN.out.2⟩
def Zt(S:Nat→Prop)(w:World)(base b:Nat):Prop:=S b∨yK w base b
def Ym(S:Nat→Prop)(T:RP)(w:World)(e:Ending)(w':World):Prop:=∃A c K kc,e= .returned (qn T A c K kc)∧RV w' (Zt S w' w.heap.size) T (qc T A c K kc)∧Below w.heap.size w w'
def yY(w:World)(S0 S:Nat→Prop)(A:Option Addr)(ts:List RP):Prop:=∃rows,jd w S0 4 A ts.length rows.flatten∧qH w S ts rows
section
variable {w w' W W':World} {S0 S S1:Nat→Prop} {A:Option Addr} {ts:List RP}
theorem yY.keep(h:yY w S0 S A ts)(h0:∀b,S0 b→∀o,w'.cell? ⟨b,o,none⟩=w.cell? ⟨b,o,none⟩)(h1:∀b,S b→∀o,w'.cell? ⟨b,o,none⟩=w.cell? ⟨b,o,none⟩):yY w' S0 S A ts:=by
 obtain⟨rows,k1,k2⟩:=h;exact⟨rows,k1.keep h0,qH.keep h1 _ _ k2⟩
theorem yY.mono(h:yY w S0 S A ts){S0' S':Nat→Prop}(h0:∀b,S0 b→S0' b)(h1:∀b,S b→S' b):yY w S0' S' A ts:=by
 obtain⟨rows,k1,k2⟩:=h;exact⟨rows,k1.mono h0,qH.mono h1 _ _ k2⟩
theorem yY.old(h:yY w S0 S A ts)(hb:Below w.heap.size w w')(h0:∀b,S0 b→b<w.heap.size)(h1:∀b,S b→b<w.heap.size):yY w' S0 S A ts:=
 h.keep (fun b k o=>hb.cell (p:=⟨b,o,none⟩) (h0 b k)) (fun b k o=>hb.cell (p:=⟨b,o,none⟩) (h1 b k))
theorem yY.kid(h:yY w S0 S A ts){i:Nat}{u:RP}(hi:ts[i]? =some u):
 ∃b o A' c' K' kc',A=some ⟨b,o,none⟩∧S0 b∧w.cell? ⟨b,o+i*4,none⟩=some (.int .i64 u.lv)∧w.cell? ⟨b,o+i*4+1,none⟩=some (.bool u.ng)∧
  w.cell? ⟨b,o+i*4+2,none⟩=some (.slice A' u.ds.length c')∧w.cell? ⟨b,o+i*4+3,none⟩=some (.slice K' u.ks.length kc')∧RV w S u (qc u A' c' K' kc'):=by
 obtain⟨rows,h6,h7⟩:=h;have hl:i<ts.length:=(List.getElem?_eq_some_iff.1 hi).1;obtain⟨a1,a2,a3⟩:=qH.at_ ts rows h7;obtain⟨r,hr,hv⟩:=a3 i u hi;obtain⟨A',c',K',kc',rfl⟩:=hv.cells;obtain⟨b,o,hA,hb,hc⟩:=h6.2 (by omega);have f:=fun j hj v (hv:(qc u A' c' K' kc')[j]? =some v)=>hc (i*4+j) v ((Je rows a1 i _ hr j hj).trans hv);exact⟨b,o,A',c',K',kc',hA,hb,f 0 (by omega) _ rfl,f 1 (by omega) _ rfl,f 2 (by omega) _ rfl,f 3 (by omega) _ rfl,hv⟩
theorem qH.takeR{w:World}{S:Nat→Prop}:∀(n:Nat)(ts:List RP)(rows:List (List Value)),qH w S ts rows→qH w S (ts.take n) (rows.take n)
 |0,_,_,_=>by simp[qH]
 |n+1,[],rows,h=>by unfold qH at h;subst h;simp[qH]
 |n+1,t::ts,rows,h=>by
  unfold qH at h;obtain⟨r,rs,rfl,h2,h3⟩:=h;simp only[List.take_succ_cons,qH];exact⟨r,rs.take n,rfl,h2,qH.takeR n ts rs h3⟩
theorem yY.node(h:yY w S S A ts){n:Nat}(hn:n≤ts.length)(l:Int):RV w S (.mk l false [] (ts.take n)) (qc (.mk l false [] (ts.take n)) none 0 A n):=by
 obtain⟨rows,h6,h7⟩:=h;obtain⟨a1,a2,_⟩:=qH.at_ ts rows h7;have hl:(ts.take n).length=n:=by rw[List.length_take];omega
 have hrl:(rows.take n).length=n:=by rw[List.length_take];omega
 have hf:(rows.take n).flatten.length=n*4:=by
  rw[jq (fun r hr=>a1 r (List.mem_of_mem_take hr)),hrl]
 unfold RV;refine⟨none,0,A,n,rfl,⟨rfl,fun hp=>absurd hp (Nat.lt_irrefl 0)⟩,by simp[qP],Nat.zero_le _,by rw[hl];exact Nat.le_refl _,rows.take n,⟨by rw[hl];exact hf,fun hp=>?_⟩,qH.takeR n _ _ h7⟩;obtain⟨b,o,e,hb,hc⟩:=h6.2 (by omega);refine⟨b,o,e,hb,fun j u hu=>hc j u ?_⟩;have hsp:rows.flatten=(rows.take n).flatten++(rows.drop n).flatten:=by rw[←List.flatten_append,List.take_append_drop]
 rw[hsp,List.getElem?_append_left (by have:=(List.getElem?_eq_some_iff.1 hu).1;exact this)];exact hu
theorem RV.oldS{t:RP}{vs:List Value}{base:Nat}(h:RV W (Zt S W base) t vs)(hb:Below W.heap.size W W')(hS:∀b,S b→b<W.heap.size):RV W' (Zt S W' base) t vs:=by
 obtain⟨k1,k2⟩:=yK.keep (w:=W) (w':=W') (base:=base) (base':=base) (fun _ _ k=>k.old hb) (fun _ _ _ k=>k.old hb) (Nat.le_refl _);refine RV.mono (fun b hb'=>?_) _ _ (RV.keep (w':=W') (fun b hb' o=>?_) _ _ h)
 ·exact hb'.imp id (k2 b)
 ·rcases hb' with h|h
  ·exact hb.cell (p:=⟨b,o,none⟩) (hS b h)
  ·exact k1 b h o
end
theorem Tryz.slice_full(b o n c a:Nat)(h:a≤c)(W:World):(Instr.slice 26 (.slice (some ⟨b,o,none⟩) n c) none (some (.int .i64 (a:Int))) (some (.int .i64 (a:Int)))).run Tryz.prog W= .ok (.slice (some ⟨b,o,none⟩) a a) W:=by
 simp[Instr.slice,run_underlying Tryz.underlying26,go_sem];intro hh;omega
theorem qcs{S:Nat→Prop}{w V:World}{g:Nat}{T:RP}{A K:Option Addr}{c kc:Nat}{cs:Array Value}(hk:qd V g 28 cs)(hcs:cs.size=4)(hr:RV V S T (qc T A c K kc))(hS:∀b,S b→b≠g)(hw:w.heap.size≤g)(hb:Below w.heap.size w V):
 qd ((((V.setCell ⟨g,0,none⟩ (.int .i64 T.lv)).setCell ⟨g,1,none⟩ (.bool T.ng)).setCell ⟨g,2,none⟩ (.slice A T.ds.length c)).setCell ⟨g,3,none⟩ (.slice K T.ks.length kc)) g 28 #[.int .i64 T.lv,.bool T.ng,.slice A T.ds.length c,.slice K T.ks.length kc]∧
 RV ((((V.setCell ⟨g,0,none⟩ (.int .i64 T.lv)).setCell ⟨g,1,none⟩ (.bool T.ng)).setCell ⟨g,2,none⟩ (.slice A T.ds.length c)).setCell ⟨g,3,none⟩ (.slice K T.ks.length kc)) S T (qc T A c K kc)∧
 Below w.heap.size w ((((V.setCell ⟨g,0,none⟩ (.int .i64 T.lv)).setCell ⟨g,1,none⟩ (.bool T.ng)).setCell ⟨g,2,none⟩ (.slice A T.ds.length c)).setCell ⟨g,3,none⟩ (.slice K T.ks.length kc)):=by
 obtain⟨s1,s2,s3⟩:=jt (k:=0) hk (.int .i64 T.lv) (.bool T.ng) (.slice A T.ds.length c) (.slice K T.ks.length kc);have e:(((cs.setIfInBounds 0 (Value.int .i64 T.lv)).setIfInBounds (0+1) (.bool T.ng)).setIfInBounds (0+2) (.slice A T.ds.length c)).setIfInBounds (0+3) (.slice K T.ks.length kc)=#[.int .i64 T.lv,.bool T.ng,.slice A T.ds.length c,.slice K T.ks.length kc]:=by
  obtain⟨l⟩:=cs
  match l,hcs with
  |[_,_,_,_],_=>rfl
 rw[e]at s1;exact⟨s1,RV.keep (fun b hb' o=>set4_far V (Ne.symm (hS b hb')) 0 o _ _ _ _) _ _ hr,qe (o:=0) hb hw _ _ _ _⟩
theorem qaE{ts:List RP}{k:Nat}(h:qW (ts.getD k qa)=false)(he:jf ts (k+1)=jf ts ts.length):jf ts ts.length=k+1:=by
 rw[←he,jf,if_neg (by rw[h];decide)]
theorem qa6(S:Nat→Prop)(l:Int)(ts:List RP)(hts:ts.length≤100000)(A:Option Addr)(c:Nat)(w:World)(hS:∀b,S b→b<w.heap.size)(h:yY w S S A ts)(hc:ts.length≤c):
 Calls Tryz.prog 114 #[.int .i64 l,.slice A ts.length c] w fun e w'=>∃A' c' K kc,e= .returned (qn (jD l ts) A' c' K kc)∧RV w' S (jD l ts) (qc (jD l ts) A' c' K kc)∧Below w.heap.size w w':=by
 have hb0:=(Below.refl w.heap.size w).alloc (Nat.le_refl _) (.cells #[.int .i64 0,.bool false,.slice none 0 0,.slice none 0 0] 28);have hk0:=qd.new w 28 #[.int .i64 0,.bool false,.slice none 0 0,.slice none 0 0];have HB0:=Lib.hid hb0;have HK0:=Lib.hid hk0;have HT:=Lib.hid (fun(W:World)(hW:Below w.heap.size w W)=>h.old hW hS hS);have HS:=Lib.hid (fun(b:Nat)(hb:S b)=>show b≠w.heap.size from Nat.ne_of_lt (hS b hb));have HZ:=Lib.hid (fun(u:RP)(A:Option Addr)(c:Nat)(K:Option Addr)(kc:Nat)(W:World)=>Jz u A c K kc W);have HQ0:=Lib.hid (fun(e:jf ts 0=jf ts ts.length)=>show jD l ts=qa by unfold jD;rw[if_pos (by rw[←e];rfl)]);have HQ1:=Lib.hid (fun(u:RP)(hu:ts[0]? =some u)(hz:qW u=false)(e:jf ts 1=jf ts ts.length)=>show jD l ts=u by
  have hg:ts.getD 0 qa=u:=by rw[List.getD_eq_getElem?_getD,hu];rfl
  have:=qaE (k:=0) (by rw[hg];exact hz) e;unfold jD;rw[if_neg (by omega),if_pos this];exact hg)
 have HQ2:=Lib.hid (fun(k:Nat)(u:RP)(hu:ts[k+1]? =some u)(hz:qW u=false)(e:jf ts (k+1+1)=jf ts ts.length)=>show jD l ts= .mk l false [] (ts.take (k+1+1))by
  have hg:ts.getD (k+1) qa=u:=by rw[List.getD_eq_getElem?_getD,hu];rfl
  have:=qaE (k:=k+1) (by rw[hg];exact hz) e;unfold jD;rw[if_neg (by omega),if_neg (by omega),this])
 have HQZ:=Lib.hid (fun(k:Nat)(u:RP)(hu:ts[k]? =some u)(hz:qW u=true)(e:jf ts (k+1)=jf ts ts.length)=>show jf ts k=jf ts ts.length by
  have hg:ts.getD k qa=u:=by rw[List.getD_eq_getElem?_getD,hu];rfl
  rw[←e,jf,hg,if_pos hz])
 have HC:=Lib.hid hc;unfold qn at HZ ⊢;clear h hS hb0 hk0;generalize jD l ts=T at*;generalize hn:ts.length=n at*;have HN:=Lib.hid hn;clear hn hc;go_enter Tryz.func114,Tryz.ntmps114
 go_wp2_with fail
 go_loopg [5] n (fun gn i wr=>∃(k:Nat),k≤n∧gn=k∧i= .int .i64 k∧jf ts k=jf ts n∧Below w.heap.size w wr∧qd wr w.heap.size 28 #[.int .i64 0,.bool false,.slice none 0 0,.slice none 0 0])
 case atStart=>exact⟨_,Nat.le_refl _,rfl,rfl,rfl,HB0.out,HK0.out⟩
 case round=>
  clear HB0 HK0;obtain⟨k,hk,hgk,rfl,hz,hbw,hkw⟩:=hrel;have HG:=Lib.hid hgk;have HKW:=Lib.hid hkw;have HBW:=Lib.hid hbw;have HZZ:=Lib.hid hz;clear hgk hz;by_cases h0:0<k
  ·obtain⟨k,rfl⟩:∃k',k=k'+1:=⟨k-1,by omega⟩;obtain⟨u,hu⟩:∃u,ts[k]? =some u:=⟨_,List.getElem?_eq_getElem (by rw[HN.out];omega)⟩;obtain⟨b,o,A1,q1,K1,r1,rfl,hbS,x0,x1,x2,x3,hku⟩:=(HT.out wr hbw).kid hu;have i1:(k:Int)<(n:Int):=by omega
   have i2:(n:Int)≤(c:Int):=by have:=HC.out;omega
   have hkk:((k+1:Nat):Int)-1=(k:Int):=by omega
   have HU:=Lib.hid hu;have HKU:=Lib.hid (fun(V:World)(hV:Below wr.heap.size wr V)=>(HT.out V (hbw.trans (hV.mono hbw.size))));clear hu hku hbw hkw;have HZ1:=Lib.hid (HZ.out u A1 q1 K1 r1 wr)
   cases hz:qW u with
   |true=>
    have HX:=Lib.hid hz;rw[hz]at HZ1;clear hz HQ0 HQ1 HQ2 HZ;go_wp2_with fail
    refine HZ1.out.mono ?_;rintro e w4 ⟨rfl,hb4⟩;have HB4:=Lib.hid (HBW.out.trans (hb4.mono HBW.out.size));have HK4:=Lib.hid (HKW.out.old hb4);clear hb4 x0 x1 x2 x3;go_wp2_with fail
    go_roundg k
    case rel=>exact⟨k,by omega,rfl,by go_num,HQZ.out k u HU.out HX.out HZZ.out,HB4.out,HK4.out⟩
    case measure=>have:=HG.out;omega
   |false=>
    have HX:=Lib.hid hz;rw[hz]at HZ1;clear hz HQ0 HQZ HZ;go_wp2_with fail
    refine HZ1.out.mono ?_;rintro e w4 ⟨rfl,hb4⟩;have HB4:=Lib.hid (HBW.out.trans (hb4.mono HBW.out.size));have hk4:=HKW.out.old hb4;have HT4:=Lib.hid (HT.out w4 HB4.out);have HK4:=Lib.hid hk4;have d0:=hk4.cell 0;have d1:=hk4.cell 1;have d2:=hk4.cell 2;have d3:=hk4.cell 3;have f0:=hk4.frozen 0;have f1:=hk4.frozen 1;have f2:=hk4.frozen 2;have f3:=hk4.frozen 3;have z0:=hk4.lt;clear hb4 hk4 x0 x1 x2 x3 HKW HBW HZ1;by_cases h1:k=0
    ·subst h1;have HTU:=Lib.hid (HQ1.out u HU.out HX.out HZZ.out);obtain⟨b',o',A2,q2,K2,r2,ee,hbS2,y0,y1,y2,y3,hku⟩:=HT4.out.kid HU.out
     injection ee with ee
     injection ee with e1 e2
     subst e1;subst e2;rw[Nat.zero_mul,Nat.add_zero]at y0 y1 y2 y3;have HFN:=Lib.hid (qcs (w:=w) HK4.out rfl hku HS.out (Nat.le_refl _) HB4.out);clear hku HQ1 HQ2 HT HT4 HKU;have hT:=HTU.out;subst hT;go_wp2_with fail
     exact qg Tryz.results114 rfl rfl HFN.out.1 Tryz.underlying28 rfl Tryz.sizeRec ⟨A2,q2,K2,r2,rfl,HFN.out.2.1,HFN.out.2.2⟩
    ·obtain⟨k,rfl⟩:∃k',k=k'+1:=⟨k-1,by omega⟩;have HTU:=Lib.hid (HQ2.out k u HU.out HX.out HZZ.out);have hlt:(ts.take (k+1+1)).length=k+1+1:=by rw[List.length_take,HN.out];omega
     have HFN:=Lib.hid (qcs (w:=w) HK4.out rfl (HT4.out.node (n:=k+1+1) (by rw[HN.out];omega) l) HS.out (Nat.le_refl _) HB4.out);rw[show(RP.mk l false [] (ts.take (k+1+1))).ks.length=k+1+1 from hlt]at HFN;have hsl:=fun W=>Tryz.slice_full b o n c (k+1+1) (by omega) W;have j1:(((k+1+1:Nat):Int)==0)=false:=by simp;omega
     have j2:(((k+1+1:Nat):Int)==1)=false:=by simp;omega
     have hT:=HTU.out;subst hT;have HLT:=Lib.hid hlt;clear HQ1 HQ2 HT HT4 HKU hlt HTU;go_wp2_with fail
     refine qg Tryz.results114 rfl rfl HFN.out.1 Tryz.underlying28 rfl Tryz.sizeRec ⟨none,0,some ⟨b,o,none⟩,k+1+1,?_,HFN.out.2.1,HFN.out.2.2⟩;show _=Ending.returned (Value.agg #[_,_,_,.slice _ (ts.take (k+1+1)).length _]);rw[HLT.out]
  ·obtain rfl:k=0:=by omega
   have HTU:=Lib.hid (HQ0.out HZZ.out);have HFN:=Lib.hid (qcs (w:=w) (S:=S) HKW.out rfl (RT.zero (w:=wr)) HS.out (Nat.le_refl _) HBW.out);have d0:=hkw.cell 0;have d1:=hkw.cell 1;have d2:=hkw.cell 2;have d3:=hkw.cell 3;have f0:=hkw.frozen 0;have f1:=hkw.frozen 1;have f2:=hkw.frozen 2;have f3:=hkw.frozen 3;have z0:=hkw.lt;have hT:=HTU.out;subst hT;clear HQ1 HQ2 HT hkw hbw HTU HQZ HQ0;go_wp2_with fail
   exact qg Tryz.results114 rfl rfl HFN.out.1 Tryz.underlying28 rfl Tryz.sizeRec ⟨none,0,none,0,rfl,HFN.out.2.1,HFN.out.2.2⟩
structure ZT where
 ng:Bool
 ds:List Nat
 A:Option Addr
 c:Nat
def ZT.z(x:ZT):Int:=qb x.ng x.ds
def ZT.cells(x:ZT):List Value:=[.bool x.ng,.slice x.A x.ds.length x.c]
abbrev ZT.v(x:ZT):Value:= .agg #[.bool x.ng,.slice x.A x.ds.length x.c]
abbrev Zw(zs:List ZT):List Value:=zs.flatMap ZT.cells
theorem Qr(zs:List ZT):(Zw zs).length=zs.length*2:=by
 induction zs with
 |nil=>rfl
 |cons p ps ih=>unfold Zw at ih ⊢; rw[List.flatMap_cons,List.length_append,ih];simp[ZT.cells];omega
theorem qco(zs:List ZT)(i j:Nat)(p:ZT)(hi:zs[i]? =some p)(hj:j<2):(Zw zs)[i*2+j]? =p.cells[j]?:=by
 induction zs generalizing i with
 |nil=>simp at hi
 |cons q ps ih=>
  unfold Zw at ih ⊢;rw[List.flatMap_cons]
  match i,hi with
  |0,hi=>
   simp at hi;subst hi;rw[List.getElem?_append_left (by simp[ZT.cells];omega)];simp
  |i+1,hi=>
   rw[List.getElem?_append_right (by simp[ZT.cells];omega)];have:=ih i (by simpa using hi);rw[←this]
   congr 1
   simp[ZT.cells];omega
theorem qcj:∀(zs:List ZT)(i:Nat)(x:ZT),i<zs.length→((Zw zs).set (i*2) (.bool x.ng)).set (i*2+1) (.slice x.A x.ds.length x.c)=Zw (zs.set i x)
 |[],i,x,h=>by simp at h
 |z::zs,0,x,_=>by
  unfold Zw;rw[List.set_cons_zero,List.flatMap_cons,List.flatMap_cons];rfl
 |z::zs,i+1,x,h=>by
  have ih:=qcj zs i x (by simpa using h);unfold Zw at ih ⊢;rw[List.set_cons_succ,List.flatMap_cons,List.flatMap_cons,←ih,List.set_append_right _ _ (by simp[ZT.cells];omega),List.set_append_right _ _ (by simp[ZT.cells];omega)];have e:z.cells.length=2:=rfl;rw[e,show(i+1)*2-2=i*2 by omega,show(i+1)*2+1-2=i*2+1 by omega]
structure qR (w:World) (B:Nat) (P:Option Addr) (zs:List ZT):Prop where
 rd:qi w B 2 P zs.length (Zw zs)
 nn:∀x∈zs,qh w B x.A x.c x.ds
section
variable {w w':World} {B B':Nat} {P:Option Addr} {zs:List ZT}
theorem qR.below(h:qR w B P zs)(hb:Below B w w'):qR w' B P zs:=⟨h.rd.below hb,fun x hx=>(h.nn x hx).below hb⟩
theorem qR.more(h:qR w B P zs)(hB:B≤B'):qR w B' P zs:=⟨h.rd.more hB,fun x hx=>(h.nn x hx).more hB⟩
theorem qR.at_(h:qR w B P zs){i:Nat}{x:ZT}(hi:zs[i]? =some x):
 ∃b o,P=some ⟨b,o,none⟩∧b<B∧w.cell? ⟨b,o+i*2,none⟩=some (.bool x.ng)∧w.cell? ⟨b,o+i*2+1,none⟩=some (.slice x.A x.ds.length x.c)∧qh w B x.A x.c x.ds:=by
 have hl:i<zs.length:=(List.getElem?_eq_some_iff.1 hi).1;obtain⟨b,o,e,hb,hc⟩:=h.rd.2 (by omega);have f:=fun j hj u (hu:x.cells[j]? =some u)=>hc (i*2+j) u ((qco zs i j x hi hj).trans hu);exact⟨b,o,e,hb,f 0 (by omega) _ rfl,f 1 (by omega) _ rfl,h.nn x (List.mem_of_getElem? hi)⟩
theorem qR.of_blk{g:Nat}{t:TypeId}(hk:qd w g t (Zw zs).toArray)(hg:g<B)(hn:∀x∈zs,qh w B x.A x.c x.ds):qR w B (some ⟨g,0,none⟩) zs:=
 ⟨⟨Qr zs,fun _=>⟨g,0,rfl,hg,fun j u hu=>by rw[Nat.zero_add,hk.cell];simpa using hu⟩⟩,hn⟩
end
def yJ(zs:List ZT):Int:=match zs with|[]=>0|z::zs=>z.z+yJ zs
theorem qbB(z:ZT):∀zs:List ZT,yJ (zs++[z])=yJ zs+z.z
 |[]=>by simp[yJ]
 |y::zs=>by
  rw[List.cons_append,yJ,qbB z zs,yJ];omega
theorem qgk{zs:List ZT}{j:Nat}{x:ZT}(h:zs[j]? =some x):yJ (zs.take (j+1))=yJ (zs.take j)+x.z:=by
 obtain⟨hj,rfl⟩:=List.getElem?_eq_some_iff.1 h;rw[List.take_succ_eq_append_getElem hj,qbB]
theorem qdG{w:World}{B L:Nat}:∀(zs:List ZT),(∀x∈zs,qh w B x.A x.c x.ds∧x.ds.length≤L)→(yJ zs).natAbs≤zs.length*4294967296^L
 |[],_=>by simp[yJ]
 |z::zs,h=>by
  have h1:=h z List.mem_cons_self;have h2:=qdG zs fun x hx=>h x (List.mem_cons_of_mem _ hx);have h3:=Nat.lt_of_lt_of_le (qT h1.1.dg) (Nat.pow_le_pow_right (n:=4294967296) (by decide) h1.2);have h4:=Int.natAbs_add_le z.z (yJ zs);unfold ZT.z at h4;rw[qz]at h4;rw[yJ,List.length_cons,Nat.succ_mul];unfold ZT.z;generalize 4294967296^L=X at*;generalize zs.length*X=Y at*;omega
theorem qja{w:World}{B L:Nat}{zs:List ZT}(hl:zs.length<4294967296)(h:∀x∈zs,qh w B x.A x.c x.ds∧x.ds.length≤L):(dig (yJ zs).natAbs).length≤L+1:=by
 refine qC (Nat.lt_of_le_of_lt (qdG zs h) ?_);rw[Nat.pow_succ,Nat.mul_comm];exact Nat.mul_lt_mul_of_pos_left hl (Nat.pow_pos (by decide))
structure qiM (w W:World) (g:Nat) (rc:Array Value) (z:Int) (A:Option Addr) (c:Nat):Prop where
 bel:Below w.heap.size w W
 ge:w.heap.size<g
 res:qd W w.heap.size 25 rc
 box:qd W g 25 #[.bool (decide (z<0)),.slice A (dig z.natAbs).length c]
 len:(dig z.natAbs).length≤c
 nat:qk W A (dig z.natAbs)
theorem qiM.put{w W W':World}{g:Nat}{rc:Array Value}{z z':Int}{A A':Option Addr}{c c':Nat}(h:qiM w W g rc z A c)(hb:Below W.heap.size W W')(l:(dig z'.natAbs).length≤c')(n:qk W' A' (dig z'.natAbs)):
 qiM w ((W'.setCell ⟨g,0,none⟩ (.bool (decide (z'<0)))).setCell ⟨g,1,none⟩ (.slice A' (dig z'.natAbs).length c')) g rc z' A' c':=by
 have hk:=h.box.old hb;have hg:=h.ge;exact⟨((h.bel.trans (hb.mono h.bel.size)).setCell (p:=⟨g,0,none⟩) (Nat.le_of_lt hg) _).setCell (p:=⟨g,1,none⟩) (Nat.le_of_lt hg) _,hg,((h.res.old hb).far (p:=⟨g,0,none⟩) (Nat.ne_of_lt hg) _).far (p:=⟨g,1,none⟩) (Nat.ne_of_lt hg) _,(hk.set_ 0 _).set_ 1 _,l,n.store2 hk (by decide) _ _⟩
theorem qi4(L:Nat)(hL:L≤100000)(zs:List ZT)(hn:zs.length≤100000)(P:Option Addr)(c B:Nat)(w:World)(hB:B≤w.heap.size)(h:qR w B P zs)(hc:zs.length≤c)(hl:∀x∈zs,x.ds.length≤L):
 Calls Tryz.prog 124 #[.slice P zs.length c] w (qy (yJ zs) w):=by
 have HR:=Lib.hid (fun(W:World)(hW:Below w.heap.size w W)=>h.below (hW.mono hB));have HLN:=Lib.hid (fun(j:Nat)=>show(dig (yJ (zs.take j)).natAbs).length≤L+1 from qja (w:=w) (B:=B) (by rw[List.length_take];omega) fun x hx=>⟨h.nn x (List.mem_of_mem_take hx),hl x (List.mem_of_mem_take hx)⟩);have HXL:=Lib.hid hl;have HB:=Lib.hid hB;obtain⟨hb0,k0,k1,hs⟩:=qK w 25 25 #[.bool false,.slice none 0 0] #[.bool false,.slice none 0 0];have HSI:=Lib.hid (show qiM w ((w.alloc (.cells #[.bool false,.slice none 0 0] 25)).alloc (.cells #[.bool false,.slice none 0 0] 25)) (w.heap.size+1) #[.bool false,.slice none 0 0] 0 none 0 from
  ⟨hb0,Nat.lt_succ_self _,k0,by rw[show(dig (0:Int).natAbs)=[]from qt];exact k1,by rw[show(dig (0:Int).natAbs)=[]from qt];exact Nat.le_refl _,by rw[show(dig (0:Int).natAbs)=[]from qt];exact .inl rfl⟩)
 unfold qy;clear h hl hb0 k0 k1 hs;have HFN:=Lib.hid (show yJ zs=yJ (zs.take zs.length)by rw[List.take_length]);generalize yJ zs=Z at*;generalize hnn:zs.length=n at*;have HN:=Lib.hid hnn;clear hnn hB;go_enter Tryz.func124,Tryz.ntmps124
 go_wp2_with fail
 generalize (w.alloc (.cells #[.bool false,.slice none 0 0] 25)).alloc (.cells #[.bool false,.slice none 0 0] 25)=W0 at*;go_loopg [9] n (fun gn ix wr=>∃(j:Nat)(A:Option Addr)(q:Nat),j≤n∧gn=n-j∧ix= .int .i64 j∧qiM w wr (w.heap.size+1) #[.bool false,.slice none 0 0] (yJ (zs.take j)) A q)
 case atStart=>exact⟨0,none,0,Nat.zero_le _,rfl,rfl,HSI.out⟩
 case round=>
  clear HSI;obtain⟨j,A,q,hj,hgj,rfl,hsi⟩:=hrel;have HG:=Lib.hid hgj;have HSI:=Lib.hid hsi;have hbw:=hsi.bel;clear hgj;by_cases hlt:j<n
  ·obtain⟨x,hx⟩:∃x,zs[j]? =some x:=⟨_,List.getElem?_eq_getElem (by rw[HN.out];exact hlt)⟩;obtain⟨b,o,rfl,hbB,x0,x1,hnx⟩:=(HR.out wr hbw).at_ hx;have hxm:=List.mem_of_getElem? hx;have HST:=Lib.hid (qgk hx);have i3:(0:Int)≤(j:Int):=by omega
   have i4:(j:Int)<(n:Int):=by omega
   have i5:(n:Int)≤(c:Int):=by omega
   have hal:=(Below.refl wr.heap.size wr).alloc (Nat.le_refl _) (.cells #[.bool x.ng,.slice x.A x.ds.length x.c] 25);have hnb:=qd.new wr 25 #[.bool x.ng,.slice x.A x.ds.length x.c];have hBw:B≤wr.heap.size:=Nat.le_trans HB.out hbw.size;have hadd:=ZU (decide (yJ (zs.take j)<0)) x.ng A x.A q x.c (wr.alloc (.cells #[.bool x.ng,.slice x.A x.ds.length x.c] 25)).heap.size (dig (yJ (zs.take j)).natAbs) x.ds (wr.alloc (.cells #[.bool x.ng,.slice x.A x.ds.length x.c] 25)) (Nat.le_refl _) (qV (hsi.nat.old hal) hsi.len) ((hnx.below (hal.mono hBw)).more (Nat.le_trans hBw hal.size)) (by have:=HLN.out j;omega) (by have:=HXL.out x hxm;omega);rw[q7,show qb x.ng x.ds=x.z from rfl,←HST.out]at hadd;have HAD:=Lib.hid hadd;unfold qy at HAD;have HAL:=Lib.hid hal;have HNB:=Lib.hid hnb;have t0:wr.cell? ⟨w.heap.size+1,0,none⟩=some (.bool (decide (yJ (zs.take j)<0))):=hsi.box.cell 0;have t1:wr.cell? ⟨w.heap.size+1,1,none⟩=some (.slice A (dig (yJ (zs.take j)).natAbs).length q):=hsi.box.cell 1;have tl:=hsi.box.lt;clear hx hnx hxm hsi hadd hal hnb hbw hBw HST;generalize hz1:yJ (zs.take (j+1))=z1 at*;have HZ1:=Lib.hid hz1;clear hz1;generalize hz0:yJ (zs.take j)=z0 at*;clear hz0;generalize x.ds.length=xl at*;generalize x.ng=xg at*;go_wp2_with fail
   refine HAD.out.mono ?_;rintro e w4 ⟨A4,c4,rfl,l4,n4,hb4⟩;have hb:=HAL.out.trans (hb4.mono HAL.out.size);have hk:=HSI.out.box.old hb;have d0:w4.cell? ⟨w.heap.size+1,0,none⟩=some (.bool (decide (z0<0))):=hk.cell 0;have d1:w4.cell? ⟨w.heap.size+1,1,none⟩=some (.slice A (dig z0.natAbs).length q):=hk.cell 1;have f0:=hk.frozen 0;have f1:=hk.frozen 1;have zl:=hk.lt;have HNX:=Lib.hid (HSI.out.put hb l4 n4);clear hb4 n4 l4 t0 t1 tl x0 x1 hk HAD HAL HNB hb;go_wp2_with fail
   go_roundg (n-(j+1))
   case rel=>exact⟨j+1,A4,c4,by omega,rfl,by go_num,by rw[HZ1.out];exact HNX.out⟩
   case measure=>have:=HG.out;omega
  ·obtain rfl:j=n:=by omega
   rw[←HFN.out]at hsi;have HSE:=Lib.hid hsi;have t0:wr.cell? ⟨w.heap.size+1,0,none⟩=some (.bool (decide (Z<0))):=hsi.box.cell 0;have t1:wr.cell? ⟨w.heap.size+1,1,none⟩=some (.slice A (dig Z.natAbs).length q):=hsi.box.cell 1;have d0:wr.cell? ⟨w.heap.size,0,none⟩=some (.bool false):=hsi.res.cell 0;have d1:wr.cell? ⟨w.heap.size,1,none⟩=some (.slice none 0 0):=hsi.res.cell 1;have f0:=hsi.res.frozen 0;have f1:=hsi.res.frozen 1;have zl:=hsi.res.lt;clear hsi hbw HSI;go_wp2_with fail
   exact qg Tryz.results124 rfl rfl ((HSE.out.res.set_ 0 _).set_ 1 _) Tryz.underlying25 rfl Tryz.sizeInt ⟨A,q,rfl,HSE.out.len,HSE.out.nat.store2 HSE.out.res (by decide) _ _,(HSE.out.bel.setCell (p:=⟨w.heap.size,0,none⟩) (Nat.le_refl _) _).setCell (p:=⟨w.heap.size,1,none⟩) (Nat.le_refl _) _⟩
theorem Tryz.infoInt2:(Tryz.prog.info? 25).map (fun i=>(i.zero,i.size,i.bytes))=some (some (.agg #[.bool false,.slice none 0 0]),2,32):=by kernel_rfl
theorem Tryz.make_int(n:Nat)(hn:n≤1000000)(w:World):(Instr.makeSlice 37 (.int .i64 (n:Int)) (.int .i64 (n:Int))).run Tryz.prog w= .ok (.slice (some ⟨w.heap.size,0,none⟩) n n) (w.alloc (.cells (madeCells #[.bool false,.slice none 0 0] (n*2)) 25)):=by
 obtain⟨i0,hi0,hz0,hz1,hz2⟩:=qZ Tryz.infoInt2;have hr:=run_make (P:=Tryz.prog) w 37 25 i0 _ Tryz.underlying37 hi0 hz0 .i64 .i64 n n (by omega) (by omega) (by rw[hz2];omega) (by omega);simp only[Int.toNat_natCast,hz1,Value.cells]at hr;exact hr
section
variable {S:Nat→Prop} {W W1:World} {g m b0:Nat} {ts:List RP} {cur:Array Value} {rows:List (List Value)}
theorem qY.oldSh(h:qY W g m (Zt S W b0) ts cur rows)(hb:Below W.heap.size W W1)(hS:∀b,S b→b<W.heap.size):qY W1 g m (Zt S W1 b0) ts cur rows:=by
 obtain⟨k1,k2⟩:=yK.keep (w:=W) (w':=W1) (base:=b0) (base':=b0) (fun _ _ k=>k.old hb) (fun _ _ _ k=>k.old hb) (Nat.le_refl _);refine(h.keep (h.row.old hb) fun b hb' o=>?_).mono fun b hb'=>hb'.imp id (k2 b);rcases hb' with h|h
 ·exact hb.cell (p:=⟨b,o,none⟩) (hS b h)
 ·exact k1 b h o
theorem qY.putSh(h:qY W g m (Zt S W (g+1)) ts cur rows)(hS:∀b,S b→b≠g){e:Nat}(he:e<m){t:RP}{A K:Option Addr}{c kc:Nat}(ht:RV W (Zt S W (g+1)) t (qc t A c K kc)):
 ∃cur' rows',qY (jl W g (e*4) (.int .i64 t.lv) (.bool t.ng) (.slice A t.ds.length c) (.slice K t.ks.length kc)) g m (Zt S (jl W g (e*4) (.int .i64 t.lv) (.bool t.ng) (.slice A t.ds.length c) (.slice K t.ks.length kc)) (g+1)) (ts.set e t) cur' rows':=by
 obtain⟨cur',hp⟩:=h.put (fun b hb=>hb.elim (hS b) fun k=>k.ne h.row) he ht;obtain⟨_,s2,s3⟩:=jt (k:=e*4) h.row (.int .i64 t.lv) (.bool t.ng) (.slice A t.ds.length c) (.slice K t.ks.length kc);exact⟨cur',_,hp.mono fun b hb=>hb.imp id ((yK.keep (base:=g+1) (base':=g+1) s2 (fun j ds hg hj=>s3 j ds (by omega) hj) (Nat.le_refl _)).2 b)⟩
theorem qY.trsSh(h:qY W g m (Zt S W (g+1)) ts cur rows){base:Nat}(hb:base≤g):yY W (Zt S W base) (Zt S W base) (some ⟨g,0,none⟩) ts:=
 ⟨rows,⟨by rw[jq h.four,h.len,h.kl],fun _=>⟨g,0,rfl,.inr (.inr ⟨hb,cur,h.row⟩),fun j u hu=>by rw[Nat.zero_add];exact(h.row.cell j).trans (h.at_ j u hu)⟩⟩,qH.mono (fun b hb'=>hb'.imp id fun k=>k.mono (by omega)) _ _ h.kids⟩
theorem qfa{w V:World}{T:RP}{A K:Option Addr}{c kc:Nat}{cs:Array Value}(hk:qd V g 28 cs)(hcs:cs.size=4)(hr:RV V (Zt S V (g+1)) T (qc T A c K kc))(hS:∀b,S b→b≠g)(hw:w.heap.size≤g)(hb:Below w.heap.size w V):
 qd ((((V.setCell ⟨g,0,none⟩ (.int .i64 T.lv)).setCell ⟨g,1,none⟩ (.bool T.ng)).setCell ⟨g,2,none⟩ (.slice A T.ds.length c)).setCell ⟨g,3,none⟩ (.slice K T.ks.length kc)) g 28 #[.int .i64 T.lv,.bool T.ng,.slice A T.ds.length c,.slice K T.ks.length kc]∧
 Ym S T w (.returned (qn T A c K kc)) ((((V.setCell ⟨g,0,none⟩ (.int .i64 T.lv)).setCell ⟨g,1,none⟩ (.bool T.ng)).setCell ⟨g,2,none⟩ (.slice A T.ds.length c)).setCell ⟨g,3,none⟩ (.slice K T.ks.length kc)):=by
 obtain⟨q1,q2,q3⟩:=qcs (w:=w) hk hcs hr (fun b hb'=>hb'.elim (hS b) fun k=>k.ne hk) hw hb;obtain⟨_,s2,s3⟩:=jt (k:=0) hk (.int .i64 T.lv) (.bool T.ng) (.slice A T.ds.length c) (.slice K T.ks.length kc);exact⟨q1,A,c,K,kc,rfl,RV.mono (fun b hb'=>hb'.imp id ((yK.keep (base:=g+1) (base':=w.heap.size) s2 (fun j ds hg hj=>s3 j ds (by omega) hj) (by omega)).2 b)) _ _ q2,q3⟩
end
structure Y6 (S:Nat→Prop) (W0 W:World) (v:Value) (ks:List RP):Prop where
 bel:Below W0.heap.size W0 W
 row:∃rows,W.ownsRow W0.heap.size 28 4 v ks.length rows.flatten∧qH W S ks rows
theorem Y6.start{S:Nat→Prop}(w:World):Y6 S w w (.slice none 0 0) []:=⟨Below.refl _ _,[],⟨rfl,.inl ⟨rfl,rfl⟩⟩,by unfold qH;rfl⟩
section
variable {S:Nat→Prop} {W0 W W1 W2:World} {v v':Value} {ks:List RP} {rows:List (List Value)} {u:RP} {us cs:List Value}
theorem Y6.old(h:Y6 S W0 W v ks)(hS:∀b,S b→b<W0.heap.size)(h1:Below W.heap.size W W1):Y6 S W0 W1 v ks:=by
 obtain⟨rows,k1,k2⟩:=h.row;have hs:=h.bel.size;exact⟨h.bel.trans (h1.mono hs),rows,qQ k1 h1,qH.keep (fun b hb o=>h1.cell (p:=⟨b,o,none⟩) (Nat.lt_of_lt_of_le (hS b hb) hs)) _ _ k2⟩
theorem Y6.push(h:Y6 S W0 W v ks)(hS:∀b,S b→b<W0.heap.size)(hr:W.ownsRow W0.heap.size 28 4 v ks.length rows.flatten)(hm:qH W S ks rows)
 (h1:Below W.heap.size W W1)(hu:RV W1 S u us)(ho:W2.ownsRow W0.heap.size 28 4 v' (ks.length+1) (rows.flatten++us))(hg:(W1.alloc (.cells cs.toArray 28)).grownBy W2 v.ownBlock):Y6 S W0 W2 v' (ks++[u]):=by
 have ha:=(Below.refl W1.heap.size W1).alloc (Nat.le_refl _) (.cells cs.toArray 28);have hs:=h.bel.size;have hs1:=Nat.le_trans hs h1.size;have hs2:=Nat.le_trans hs1 ha.size;have hb2:Below W0.heap.size (W1.alloc (.cells cs.toArray 28)) W2:=⟨hg.os,hg.tape,hg.output,hg.size,fun k hk=>hg.block k (by omega) (fun e=>by have:=jb hr e.symm;omega)⟩;have hb1:Below W0.heap.size W1 W2:=(ha.mono hs1).trans hb2;have hbw:Below W0.heap.size W W2:=(h1.mono hs).trans hb1;refine⟨h.bel.trans hbw,rows++[us],by simpa using ho,qH.snoc (qH.keep (fun b hb o=>hbw.cell (p:=⟨b,o,none⟩) (hS b hb)) _ _ hm) (RV.keep (fun b hb o=>hb1.cell (p:=⟨b,o,none⟩) (hS b hb)) _ _ hu)⟩
theorem Y6.arg(h:Y6 S W0 W v ks):∃A c,v= .slice A ks.length c∧ks.length≤c∧yY W (· <W.heap.size) S A ks:=by
 obtain⟨rows,h1,h2⟩:=h.row;obtain⟨L,lc,rfl⟩:=qJ h1;refine⟨L,lc,rfl,?_,rows,jd.of (qi.of_own h1) (fun _ h=>h),h2⟩;by_cases h0:ks.length=0
 ·omega
 ·obtain⟨g',lc',e,hb,hl⟩:=h1.form (by omega)
  injection e with e1 e2 e3
  subst e1;subst e3;exact(jx h1).elim fun _ h=>h.2.2.1
end
theorem qez{l:Int}{i:Nat}{ts:List RP}{k:Nat}{u:RP}(h:ts[k]? =some u):jm l i (ts.take (k+1))=jm l i (ts.take k)++(match yM l i u with|some x=>[x]|none=>[]):=by
 obtain⟨hk,rfl⟩:=List.getElem?_eq_some_iff.1 h;unfold jm;rw[List.take_succ_eq_append_getElem hk,List.filterMap_append,List.filterMap_cons]
 cases yM l i ts[k]<;>rfl
structure QO (w W:World) (B g n:Nat) (ts:List RP) (j:Nat) (zs:List ZT):Prop where
 bel:Below w.heap.size w W
 blk:qd W g 25 (Zw zs).toArray
 len:zs.length=n
 nn:∀x∈zs,qh W B x.A x.c x.ds
 eq:zs.map (fun x=>(x.ng,x.ds))=(ts.take j).map (fun t=>(t.ng,t.ds))++List.replicate (n-j) (false,[])
theorem qhB:∀{zs:List ZT} {ts:List RP},zs.map (fun x=>(x.ng,x.ds))=ts.map (fun t=>(t.ng,t.ds))→yJ zs=Yu ts
 |[],[],_=>rfl
 |[],_::_,h=>by simp at h
 |_::_,[],h=>by simp at h
 |z::zs,t::ts,h=>by
  simp only[List.map_cons,List.cons.injEq,Prod.mk.injEq]at h;rw[yJ,Yu,qhB h.2];unfold ZT.z;rw[h.1.1,h.1.2]
theorem qcX(n:Nat):madeCells #[Value.bool false,.slice none 0 0] (n*2)=(Zw (List.replicate n ⟨false,[],none,0⟩)).toArray:=by
 apply Array.ext';apply List.ext_getElem?;intro j;have hs:=size_madeCells #[Value.bool false,.slice none 0 0] (n*2);have hl:=Qr (List.replicate n ⟨false,[],none,0⟩);rw[List.length_replicate]at hl;by_cases hj:j<n*2
 ·rw[Array.getElem?_toList,ZC _ _ _ hj];obtain⟨k,i,hi,rfl⟩:∃k i,i<2∧j=k*2+i:=⟨j/2,j%2,Nat.mod_lt _ (by omega),by omega⟩;have:=qco (List.replicate n ⟨false,[],none,0⟩) k i ⟨false,[],none,0⟩ (by rw[List.getElem?_replicate,if_pos (by omega)]) hi;simp only[];rw[this];rcases(by omega:i=0∨i=1)with rfl|rfl<;>simp[ZT.cells,Nat.mul_add_mod_self_right]
 ·rw[List.getElem?_eq_none (by rw[Array.length_toList,hs];omega),List.getElem?_eq_none (by simp only[];rw[hl];omega)]
theorem QO.start{w W:World}{B n:Nat}{ts:List RP}(hb:Below w.heap.size w W):QO w (W.alloc (.cells (madeCells #[.bool false,.slice none 0 0] (n*2)) 25)) B W.heap.size n ts 0 (List.replicate n ⟨false,[],none,0⟩):=by
 refine⟨hb.alloc hb.size _,?_,List.length_replicate,fun x hx=>?_,by simp⟩
 ·rw[←qcX];exact qd.new W 25 _
 ·rw[(List.mem_replicate.1 hx).2];exact⟨qi.none_,by simp[qP],Nat.le_refl _⟩
theorem QO.put{w W W1:World}{B g n:Nat}{ts:List RP}{j:Nat}{zs:List ZT}(h:QO w W B g n ts j zs)(hB:B≤w.heap.size)(hg:w.heap.size≤g)(hj:j<n){u:RP}(hu:ts[j]? =some u){A:Option Addr}{c:Nat}(hn:qh W B A c u.ds)(h1:Below W.heap.size W W1):
 QO w ((W1.setCell ⟨g,j*2,none⟩ (.bool u.ng)).setCell ⟨g,j*2+1,none⟩ (.slice A u.ds.length c)) B g n ts (j+1) (zs.set j ⟨u.ng,u.ds,A,c⟩):=by
 have hk:=((h.blk.old h1).set_ (j*2) (.bool u.ng)).set_ (j*2+1) (.slice A u.ds.length c);have hs:=h.bel.size;have hbb:Below B W ((W1.setCell ⟨g,j*2,none⟩ (.bool u.ng)).setCell ⟨g,j*2+1,none⟩ (.slice A u.ds.length c)):=((h1.mono (by omega)).setCell (p:=⟨g,j*2,none⟩) (by show B≤g;omega) _).setCell (p:=⟨g,j*2+1,none⟩) (by show B≤g;omega) _;refine⟨((h.bel.trans (h1.mono h.bel.size)).setCell (p:=⟨g,j*2,none⟩) hg _).setCell (p:=⟨g,j*2+1,none⟩) hg _,?_,by rw[List.length_set];exact h.len,fun x hx=>?_,?_⟩
 ·have e:=qcj zs j ⟨u.ng,u.ds,A,c⟩ (by rw[h.len];exact hj);rw[←e];simpa using hk
 ·rcases List.mem_or_eq_of_mem_set hx with hx|rfl
  ·exact(h.nn x hx).below hbb
  ·exact hn.below hbb
 ·obtain⟨hj',e⟩:=List.getElem?_eq_some_iff.1 hu;obtain⟨r,hr⟩:∃r,n-j=r+1:=⟨n-j-1,by omega⟩;have hl:((ts.take j).map fun t=>(t.ng,t.ds)).length=j:=by rw[List.length_map,List.length_take];omega
  rw[List.map_set,h.eq,List.set_append_right _ _ (by omega),hl,Nat.sub_self,hr,List.replicate_succ,List.set_cons_zero,List.take_succ_eq_append_getElem hj',List.map_append,List.append_assoc,e,show n-(j+1)=r by omega];rfl
theorem QO.fin{w W:World}{B g n:Nat}{ts:List RP}{zs:List ZT}(h:QO w W B g n ts n zs)(hn:ts.length=n):yJ zs=Yu ts∧∀x∈zs,∃t∈ts,x.ds=t.ds:=by
 have e:=h.eq;rw[Nat.sub_self,List.replicate_zero,List.append_nil,←hn,List.take_length]at e;refine⟨qhB e,fun x hx=>?_⟩;have:(x.ng,x.ds)∈ts.map fun t=>(t.ng,t.ds):=by
  rw[←e];exact List.mem_map.2 ⟨x,hx,rfl⟩
 obtain⟨t,ht,ee⟩:=List.mem_map.1 this
 injection ee with _ e2
 exact⟨t,ht,e2.symm⟩
theorem QO.ints{w W:World}{B g n:Nat}{ts:List RP}{j:Nat}{zs:List ZT}(h:QO w W B g n ts j zs)(hB:B≤w.heap.size):qR W W.heap.size (some ⟨g,0,none⟩) zs:=
 qR.of_blk h.blk h.blk.lt fun x hx=>(h.nn x hx).more (Nat.le_trans hB h.bel.size)
theorem qkC{S:Nat→Prop}{w V:World}{g:Nat}{z:Int}{A:Option Addr}{c:Nat}{cs:Array Value}(hk:qd V g 28 cs)(hcs:cs.size=4)(hn:qk V A (dig z.natAbs))(hl:(dig z.natAbs).length≤c)(hw:w.heap.size≤g)(hb:Below w.heap.size w V):
 qd ((((V.setCell ⟨g,0,none⟩ (.int .i64 0)).setCell ⟨g,1,none⟩ (.bool (decide (z<0)))).setCell ⟨g,2,none⟩ (.slice A (dig z.natAbs).length c)).setCell ⟨g,3,none⟩ (.slice none 0 0)) g 28 #[.int .i64 0,.bool (decide (z<0)),.slice A (dig z.natAbs).length c,.slice none 0 0]∧
 Ym S (ju z) w (.returned (qn (ju z) A c none 0)) ((((V.setCell ⟨g,0,none⟩ (.int .i64 0)).setCell ⟨g,1,none⟩ (.bool (decide (z<0)))).setCell ⟨g,2,none⟩ (.slice A (dig z.natAbs).length c)).setCell ⟨g,3,none⟩ (.slice none 0 0)):=by
 have hr:RV V (Zt (fun _=>False) V (g+1)) (ju z) (qc (ju z) A c none 0):=RV.mono (fun b h=> .inr h) _ _ (RB.const (base:=g+1) hn (qu _) hl);obtain⟨q1,A',c',K,kc,e,q2,q3⟩:=qfa (S:=fun _=>False) (w:=w) (T:=ju z) hk hcs hr (fun _ h=>h.elim) hw hb;refine⟨q1,A',c',K,kc,e,RV.mono (fun b h=>h.imp False.elim id) _ _ q2,q3⟩
def cfA(f:Nat→RP)(n i:Nat):List RP:=(List.range i).map f++List.replicate (n-i) qa
theorem qiD(f:Nat→RP){n i:Nat}(h:i<n):(cfA f n i).set i (f i)=cfA f n (i+1):=by
 unfold cfA;obtain⟨r,hr⟩:∃r,n-i=r+1:=⟨n-i-1,by omega⟩;have hl:((List.range i).map f).length=i:=by simp
 rw[List.set_append_right _ _ (by omega),hl,Nat.sub_self,hr,List.replicate_succ,List.set_cons_zero,List.range_succ,List.map_append,List.append_assoc,show n-(i+1)=r by omega];rfl
theorem qjx(f:Nat→RP)(n:Nat):cfA f n n=(List.range n).map f:=by simp[cfA]
structure qcN (S:Nat→Prop) (w W:World) (g n:Nat) (f:Nat→RP) (i:Nat):Prop where
 bel:Below w.heap.size w W
 row:∃cur rows,qY W g n (Zt S W (g+1)) (cfA f n i) cur rows
theorem qcN.start{S:Nat→Prop}{w W:World}{n:Nat}{f:Nat→RP}(hb:Below w.heap.size w W):qcN S w (W.alloc (.cells (madeCells #[.int .i64 0,.bool false,.slice none 0 0,.slice none 0 0] (n*4)) 28)) W.heap.size n f 0:=by
 have:=qY.zeros (S:=Zt S (W.alloc (.cells (madeCells #[.int .i64 0,.bool false,.slice none 0 0,.slice none 0 0] (n*4)) 28)) (W.heap.size+1)) n (qd.new W 28 (madeCells #[.int .i64 0,.bool false,.slice none 0 0,.slice none 0 0] (n*4)));exact⟨hb.alloc hb.size _,_,_,by simpa[cfA]using this⟩
theorem qcN.put{S:Nat→Prop}{w W W1:World}{g n:Nat}{f:Nat→RP}{i:Nat}(h:qcN S w W g n f i)(hS:∀b,S b→b<w.heap.size)(hg:w.heap.size≤g)(hi:i<n)(h1:Below W.heap.size W W1){A K:Option Addr}{c kc base:Nat}(ht:RV W1 (Zt S W1 base) (f i) (qc (f i) A c K kc))(hb:g+1≤base):
 qcN S w (jl W1 g (i*4) (.int .i64 (f i).lv) (.bool (f i).ng) (.slice A (f i).ds.length c) (.slice K (f i).ks.length kc)) g n f (i+1):=by
 obtain⟨cur,rows,hr⟩:=h.row;have hs:=h.bel.size;obtain⟨cur',rows',hp⟩:=(hr.oldSh h1 fun b hb=>Nat.lt_of_lt_of_le (hS b hb) hs).putSh (fun b hb=>by have:=hS b hb;omega) hi (RV.mono (fun _ k=>k.imp id fun k=>k.mono hb) _ _ ht);exact⟨qe (h.bel.trans (h1.mono hs)) hg _ _ _ _,cur',rows',by rw[←qiD f hi];exact hp⟩
theorem qcN.cell{S:Nat→Prop}{w W W1:World}{g n:Nat}{f:Nat→RP}{i:Nat}(h:qcN S w W g n f i)(h1:Below W.heap.size W W1){j:Nat}(hj:j<n):∃v0 v1 v2 v3,W1.cell? ⟨g,j*4,none⟩=some v0∧W1.cell? ⟨g,j*4+1,none⟩=some v1∧W1.cell? ⟨g,j*4+2,none⟩=some v2∧W1.cell? ⟨g,j*4+3,none⟩=some v3∧
 W1.frozen? ⟨g,j*4,none⟩=false∧W1.frozen? ⟨g,j*4+1,none⟩=false∧W1.frozen? ⟨g,j*4+2,none⟩=false∧W1.frozen? ⟨g,j*4+3,none⟩=false∧g<W1.heap.size:=by
 obtain⟨cur,rows,hr⟩:=h.row;have hk:=hr.row.old h1;have hz:=hr.siz;have ex:∀i,i<4→∃v,cur[j*4+i]? =some v:=fun i hi=>⟨_,Array.getElem?_eq_getElem (by omega)⟩;obtain⟨v0,q0⟩:=ex 0 (by omega);obtain⟨v1,q1⟩:=ex 1 (by omega);obtain⟨v2,q2⟩:=ex 2 (by omega);obtain⟨v3,q3⟩:=ex 3 (by omega);exact⟨v0,v1,v2,v3,(hk.cell _).trans q0,(hk.cell _).trans q1,(hk.cell _).trans q2,(hk.cell _).trans q3,hk.frozen _,hk.frozen _,hk.frozen _,hk.frozen _,hk.lt⟩
theorem Zt.old{S:Nat→Prop}{W W1:World}{base b:Nat}(h:Zt S W base b)(hb:Below W.heap.size W W1):Zt S W1 base b:=
 h.imp id ((yK.keep (w:=W) (w':=W1) (base:=base) (base':=base) (fun _ _ k=>k.old hb) (fun _ _ _ k=>k.old hb) (Nat.le_refl _)).2 b)
theorem Zt.lt{S:Nat→Prop}{W:World}{base b:Nat}(h:Zt S W base b)(hS:∀b,S b→b<W.heap.size):b<W.heap.size:=h.elim (hS b) fun k=>k.lt
theorem qaZ(S:Nat→Prop)(B X:Nat)(hSB:∀b,S b→b<B)(hX:X≤10000)(ts:List RP)(hL:(jP ts).1=0)(hn:ts.length≤10000)(hsm:∀t∈ts,yf X t)(P:Option Addr)(c:Nat)(w:World)(hB:B≤w.heap.size)(h:yY w (· <w.heap.size) S P ts)(hc:ts.length≤c):
 Calls Tryz.prog 101 #[.slice P ts.length c] w (Ym S (ju (Yu ts)) w):=by
 have HR:=Lib.hid (fun(W:World)(hW:Below w.heap.size w W)=>h.old hW (fun b hb=>hb) (fun b hb=>Nat.lt_of_lt_of_le (hSB b hb) hB));have hb0:=(Below.refl w.heap.size w).alloc (Nat.le_refl _) (.cells #[.int .i64 0,.bool false,.slice none 0 0,.slice none 0 0] 28);have hk0:=qd.new w 28 #[.int .i64 0,.bool false,.slice none 0 0,.slice none 0 0];have HB0:=Lib.hid hb0;have HK0:=Lib.hid hk0;have HC:=Lib.hid hc;have HSL:=Lib.hid (fun(b:Nat)(hb:S b)=>show b<w.heap.size from Nat.lt_of_lt_of_le (hSB b hb) hB);have HSB:=Lib.hid hSB;have HSM:=Lib.hid hsm;have HNL:=Lib.hid hn;have HBB:=Lib.hid hB;have HSU:=Lib.hid (fun(zs:List ZT)(hz:zs.length=ts.length)(P:Option Addr)(W:World)(h:qR W W.heap.size P zs)(hl:∀x∈zs,x.ds.length≤X)=>qi4 X (by omega) zs (by omega) P zs.length W.heap.size W (Nat.le_refl _) h (Nat.le_refl _) hl);obtain⟨i0,hi0,hz0,hz1,hz2⟩:=qZ Tryz.infoRec;have HI0:=Lib.hid (And.intro hi0 (And.intro hz0 (And.intro hz1 hz2)));have hmki:=fun(W:World)=>Tryz.make_int ts.length (by omega) W;have HMI:=Lib.hid hmki;have HLA:=Lib.hid (show jP ts=jP (ts.take ts.length)by rw[List.take_length]);unfold Ym qn;unfold qy at HSU;clear h hsm hB hc hb0 hk0 hSB hi0 hz0 hz1 hz2 hmki;obtain⟨R,hR⟩:∃R,R=ju (Yu ts):=⟨_,rfl⟩;have HR0:=Lib.hid hR;rw[←hR];clear hR;generalize hnn:ts.length=n at*;have HN:=Lib.hid hnn;clear hnn;go_enter Tryz.func101,Tryz.ntmps101
 go_wp2_with fail
 generalize w.alloc (.cells #[.int .i64 0,.bool false,.slice none 0 0,.slice none 0 0] 28)=W0 at*;go_loopg [3,4,17] n (fun gn lv sz ix wr=>∃j:Nat,j≤n∧gn=n-j∧ix= .int .i64 j∧lv= .int .i64 (jP (ts.take j)).1∧sz= .int .i64 ((jP (ts.take j)).2:Nat)∧Below W0.heap.size W0 wr)
 case atStart=>exact⟨0,Nat.zero_le _,rfl,rfl,rfl,rfl,Below.refl _ _⟩
 case round=>
  obtain⟨j,hj,hgj,rfl,rfl,rfl,hbw⟩:=hrel;have HG:=Lib.hid hgj;clear hgj;have HBW:=Lib.hid (HB0.out.trans (hbw.mono HB0.out.size));have HBX:=Lib.hid hbw;by_cases hlt:j<n
  ·obtain⟨u,hu⟩:∃u,ts[j]? =some u:=⟨_,List.getElem?_eq_getElem (by rw[HN.out];exact hlt)⟩;obtain⟨b,o,A1,q1,K1,r1,rfl,hbS,x0,x1,x2,x3,hku⟩:=(HR.out wr HBW.out).kid hu;have HST:=Lib.hid (qdA hu);have i3:(0:Int)≤(j:Int):=by omega
   have i4:(j:Int)<(n:Int):=by omega
   have i5:(n:Int)≤(c:Int):=by have:=HC.out;omega
   have HAL:=Lib.hid (hbw.trans (((Below.refl wr.heap.size wr).alloc (Nat.le_refl _) (.cells #[.int .i64 u.lv,.bool u.ng,.slice A1 u.ds.length q1,.slice K1 u.ks.length r1] 28)).mono hbw.size));have hS1:yL (jP (ts.take j)) u=if(jP (ts.take j)).1<u.lv then(u.lv,max 0 u.ks.length)else if u.lv=(jP (ts.take j)).1 then((jP (ts.take j)).1,max (jP (ts.take j)).2 u.ks.length)else jP (ts.take j):=rfl
   have HS1:=Lib.hid (HST.out.trans hS1);clear hu hku hbw HST hS1;generalize hpj:jP (ts.take j)=pj at*;clear hpj;obtain⟨lj,sj⟩:=pj;dsimp only at*;generalize u.ds.length=ud at*;generalize u.ks.length=uk at*;generalize u.ng=ug at*;generalize u.lv=ul at*;by_cases h1:lj<ul
   ·have HS2:=Lib.hid (show jP (ts.take (j+1))=(ul,max 0 uk)by rw[HS1.out,if_pos h1]);have e1:decide (lj<ul)=true:=decide_eq_true h1;clear HS1;go_wp2_with fail
    go_roundg (n-(j+1))
    case rel=>exact⟨j+1,by omega,rfl,by go_num,by rw[HS2.out],by rw[HS2.out];congr 1,HAL.out⟩
    case measure=>have:=HG.out;omega
   ·by_cases h2:ul=lj
    ·have HS2:=Lib.hid (show jP (ts.take (j+1))=(lj,max sj uk)by rw[HS1.out,if_neg h1,if_pos h2]);have e1:decide (lj<ul)=false:=decide_eq_false h1;subst h2;clear HS1 h1;go_wp2_with fail
     go_roundg (n-(j+1))
     case rel=>exact⟨j+1,by omega,rfl,by go_num,by rw[HS2.out],by rw[HS2.out];congr 1;simp only[];omega,HAL.out⟩
     case measure=>have:=HG.out;omega
    ·have HS2:=Lib.hid (show jP (ts.take (j+1))=(lj,sj)by rw[HS1.out,if_neg h1,if_neg h2]);have e1:decide (lj<ul)=false:=decide_eq_false h1;have e2:(ul==lj)=false:=by simpa using h2
     clear HS1 h1 h2;go_wp2_with fail
     go_roundg (n-(j+1))
     case rel=>exact⟨j+1,by omega,rfl,by go_num,by rw[HS2.out],by rw[HS2.out],HAL.out⟩
     case measure=>have:=HG.out;omega
  ·obtain rfl:j=n:=by omega
   rw[←HLA.out];have HK0W:=Lib.hid (HK0.out.old hbw);clear hbw HLA HG hlt hj;have eL:((jP ts).1==0)=true:=by simpa using hL
   have hmk:=HMI.out wr;have hng:=HBX.out.size;have hgg0:w.heap.size<wr.heap.size:=Nat.lt_of_lt_of_le (HK0.out.lt) HBX.out.size;have HNI:=Lib.hid (QO.start (B:=B) (n:=j) (ts:=ts) HBW.out);clear hL HMI hng;generalize (jP ts).1=L at*;generalize (jP ts).2=Z at*;generalize hgg:wr.heap.size=g at*;have HK1:=Lib.hid (HK0W.out.alloc (.cells (madeCells #[.bool false,.slice none 0 0] (j*2)) 25));go_wp2_with fail
   generalize wr.alloc (.cells (madeCells #[.bool false,.slice none 0 0] (j*2)) 25)=W3 at*;go_loopg [8,44] j (fun gn _ ix wr=>∃(k:Nat)(zs:List ZT),k≤j∧gn=j-k∧ix= .int .i64 k∧QO w wr B g j ts k zs∧qd wr w.heap.size 28 #[.int .i64 0,.bool false,.slice none 0 0,.slice none 0 0])
   case atStart=>exact⟨0,_,Nat.zero_le _,rfl,rfl,HNI.out,HK1.out⟩
   case round=>
    clear HNI HK1;obtain⟨k,zs,hk,hgk,rfl,hni,hkw⟩:=hrel;have HG:=Lib.hid hgk;have hbw2:=hni.bel;have HNI:=Lib.hid hni;have HKW:=Lib.hid hkw;clear hgk;by_cases hlt:k<j
    ·obtain⟨u,hu⟩:∃u,ts[k]? =some u:=⟨_,List.getElem?_eq_getElem (by rw[HN.out];exact hlt)⟩;obtain⟨b,o,A1,q1,K1,r1,rfl,hbS,x0,x1,x2,x3,hku⟩:=(HR.out wr hbw2).kid hu;have hal:=(Below.refl wr.heap.size wr).alloc (Nat.le_refl _) (.cells #[.int .i64 u.lv,.bool u.ng,.slice A1 u.ds.length q1,.slice K1 u.ks.length r1] 28);have hbx:=qd.new wr 28 #[.int .i64 u.lv,.bool u.ng,.slice A1 u.ds.length q1,.slice K1 u.ks.length r1];have hnat:qh wr B A1 q1 u.ds:=(RV.mono (fun b hb=>HSB.out b hb) _ _ hku).natIn;have hpt:=hni.put HBB.out (by omega) hlt hu hnat hal;have HPT:=Lib.hid hpt;have hkr:=hni.blk.old hal;have hzl:(Zw zs).toArray.size=j*2:=by rw[List.size_toArray,Qr,hni.len]
     have ex:∀i,i<2→∃v,(Zw zs).toArray[k*2+i]? =some v:=fun i hi=>⟨_,Array.getElem?_eq_getElem (by omega)⟩;obtain⟨p0,s0⟩:=ex 0 (by omega);obtain⟨p1,s1⟩:=ex 1 (by omega);have i3:(0:Int)≤(k:Int):=by omega
     have i4:(k:Int)<(j:Int):=by omega
     have i5:(j:Int)≤(c:Int):=by have:=HC.out;omega
     have HK2:=Lib.hid ((hkw.old hal).far (p:=⟨g,k*2,none⟩) (by show w.heap.size≠g;omega) (.bool u.ng));have HK3:=Lib.hid (HK2.out.far (p:=⟨g,k*2+1,none⟩) (by show w.heap.size≠g;omega) (.slice A1 u.ds.length q1));clear hu hnat hpt hni hkw hbw2 hzl HK2 HNI HKW hku;generalize u.ds.length=ud at*;generalize u.ks.length=uk at*;generalize u.lv=ul at*;go_upto_region 15 with(fail)
     generalize hV:wr.alloc (.cells #[.int .i64 ul,.bool u.ng,.slice A1 ud q1,.slice K1 uk r1] 28)=V at*;have d0:V.cell? ⟨g,k*2,none⟩=some p0:=(hkr.cell _).trans s0;have d1:V.cell? ⟨g,k*2+1,none⟩=some p1:=(hkr.cell _).trans s1;have f0:=hkr.frozen (k*2);have f1:=hkr.frozen (k*2+1);have zl:=hkr.lt;have y1:=hbx.cell 1;have y2:=hbx.cell 2;generalize u.ng=ug at*;clear hkr ex s0 s1 hbx hal x0 x1 x2 x3 hV;go_wp2_with fail
     go_roundg (j-(k+1))
     case rel=>exact⟨k+1,_,by omega,rfl,by go_num,HPT.out,HK3.out⟩
     case measure=>have:=HG.out;omega
    ·obtain rfl:k=j:=by omega
     obtain⟨e1,e2⟩:=hni.fin HN.out;have hsu:=HSU.out zs (by rw[hni.len]) (some ⟨g,0,none⟩) wr (hni.ints HBB.out) (fun x hx=>by
      obtain⟨t,ht,e⟩:=e2 x hx;rw[e];exact(HSM.out t ht).at_.1)
     rw[hni.len,e1]at hsu;have HS:=Lib.hid hsu;clear hsu e1 e2 hni hkw HSU HSM;generalize Yu ts=z at*;go_wp2_with fail
     refine HS.out.mono ?_;rintro e w4 ⟨A4,c4,rfl,l4,n4,hb4⟩;have hk4:=HKW.out.old hb4;have HFN:=Lib.hid (qkC (S:=S) (w:=w) hk4 rfl n4 l4 (Nat.le_refl _) (hbw2.trans (hb4.mono hbw2.size)));have d0:=hk4.cell 0;have d1:=hk4.cell 1;have d2:=hk4.cell 2;have d3:=hk4.cell 3;have f0:=hk4.frozen 0;have f1:=hk4.frozen 1;have f2:=hk4.frozen 2;have f3:=hk4.frozen 3;have zl:=hk4.lt;have hT:=HR0.out;subst hT;clear hk4 n4 l4 hb4 HS hbw2 HKW HNI;go_wp2_with fail
     exact qg Tryz.results101 rfl rfl HFN.out.1 Tryz.underlying28 rfl Tryz.sizeRec HFN.out.2
