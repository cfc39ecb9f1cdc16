import Derived.Test.YtflikmojaidhhaaGreatPq25
namespace Go.Proofs.YtflikmojaidhhaaGreat
open Go.RowKit Go.Sort
theorem jM.of_arr{w:World}{B g:Nat}{t:TypeId}{x0 x1 x2 x3:QT}(hk:qd w g t (xc4 x0 x1 x2 x3))(hg:g<B)(hp:YC w B [x0,x1,x2,x3]):jM w B (some ⟨g,0,none⟩) [x0,x1,x2,x3]:=by
 refine⟨⟨rfl,fun _=>⟨g,0,rfl,hg,fun j u hu=>?_⟩⟩,fun x hx=>(hp.nn x hx).1,fun x hx=>(hp.nd x hx).1⟩;rw[Nat.zero_add,hk.cell,qaV];simpa using hu
theorem YC.more{w:World}{B C:Nat}{vs:List QT}(h:YC w B vs)(hc:B≤C):YC w C vs:=⟨fun x hx=>⟨(h.nn x hx).1.more hc,(h.nn x hx).2⟩,fun x hx=>⟨(h.nd x hx).1.more hc,(h.nd x hx).2⟩⟩
theorem qlf:rB 3 200 4+3≤150000:=by simp only[rB];omega
theorem Yd.impC{G G':RP→Prop}(h:∀p,G p→G' p):∀t:MX,Yd G t→Yd G' t
 |t,hg=>by
  obtain⟨a,b,c⟩:=hg.parts;exact Yd.mk (fun e=>h _ (a e)) b fun u hu=>Yd.impC h u (c u hu)
termination_by t=>JY t
decreasing_by exact QY hu
theorem qk5:Tryz.prog.follows .mixedOrders=true:=by kernel_rfl
set_option maxHeartbeats 1000000
set_option maxRecDepth 100000
theorem qhD(k:Nat)(hk:k<4)(r s:Int)(t:RP)(hf:zU 400 t)(d:Nat)(hd:d≤100)(hlw:qM d 5 (qq t))(x0 x1 x2 x3:QT)(hs:s=zy ((jS ((k:Int)+1) t).map (vT (yy [x0,x1,x2,x3]))))(A:Option Addr)(c:Nat)(K:Option Addr)(kc B:Nat)(w:World)(hB:B≤w.heap.size)(h:RV w (· <B) t (qc t A c K kc))(hp:YC w B [x0,x1,x2,x3]):
 Calls Tryz.prog 10 #[qn t A c K kc,.int .i64 r,.int .i64 ((k:Int)+1),.agg zp,.agg (xc4 x0 x1 x2 x3),.int .i64 s] w fun e w'=>e= .returned (.bool true)∧Below w.heap.size w w':=by
 have hdt:qG (qq t):=(jJ t).dig (RV.digT _ _ h);have hcf:=qho hk hlw hdt;have hcl:=qfm (k:=k) hlw;have hfc:zU 400 (qq t):=zU.of_can (jJ t).can.1 hlw (by omega);have HSB:=Lib.hid (fun(W:World)(hW:Below w.heap.size w W)=>qg4 r ((k:Int)+1) (by omega) (by omega) t hf hfc (fun _ _ c hc=>⟨(hcf c hc).1,qM.mono (by omega) (Nat.le_refl _) _ (hcf c hc).2.1⟩) (by omega) A c K kc B W (Nat.le_trans hB hW.size) (h.below (hW.mono hB)));have HMK:=Lib.hid (fun(M:MX)(hM:Zx r (jS ((k:Int)+1) t) M)=>And.intro (qkh hk hlw hdt hM) (hM.tr (fun c hc=>(hcf c hc).1) (yy [x0,x1,x2,x3])));obtain⟨hb0,k0,k1,k2,hsz⟩:=jF w 28 46 31 #[.int .i64 t.lv,.bool t.ng,.slice A t.ds.length c,.slice K t.ks.length kc] zp (xc4 x0 x1 x2 x3);have HB0:=Lib.hid hb0;have HSB1:=Lib.hid (HSB.out _ hb0);have HKX:=Lib.hid k2;have HPX:=Lib.hid (fun(W:World)(hW:Below w.heap.size w W)=>hp.below (hW.mono hB));have hlen:∀x∈[x0,x1,x2,x3],x.ds.length≤3∧x.es.length≤3:=fun x hx=>⟨(hp.nn x hx).2,(hp.nd x hx).2⟩;have HAT:=Lib.hid (fun(M:MX)(hM:Yd (fun p=>qj p=true∧qM 200 5 p) M)=>qcY 3 200 (by omega) (by omega) qlf [x0,x1,x2,x3] rfl hlen (JY M) M (Nat.le_refl _) hM);have HNM:=Lib.hid (fun(M:MX)(hM:Yd (zU 400) M)=>Z8 400 (by omega) (JY M) M (Nat.le_refl _) hM);have HHO:=Lib.hid (fun(W:World)=>Zq r s W);have HB:=Lib.hid hB;have HS:=Lib.hid hs;unfold qhy qn at HSB1;unfold qn;clear hdt hcf hcl hfc HSB h hp hB hlen k2 hsz hb0 hf hlw hs;generalize hX:xc4 x0 x1 x2 x3=cx at*;have HXC:=Lib.hid hX;clear hX;have HIC:=Lib.hid (show zp.size=24 from rfl);generalize zp=ic at*;go_enter Tryz.func10,Tryz.ntmps10
 go_upto_region 1 with(fail)
 generalize ((w.alloc (.cells #[.int .i64 t.lv,.bool t.ng,.slice A t.ds.length c,.slice K t.ks.length kc] 28)).alloc (.cells ic 46)).alloc (.cells cx 31)=W at*;apply wp_region_lit;refine wpList_load_row rfl _ _ rfl w.heap.size rfl _ _ (0,0) _ k0 Tryz.underlying28 rfl (by kernel_rfl) ?_;simp only[Act.put,List.setIfInBounds_toArray,List.set_cons_zero,List.set_cons_succ];refine wpList_plain rfl fun K hK=>?_;go_simp
 refine hK _ _ ?_;clear hK K;refine wpList_plain rfl fun K hK=>?_;go_simp
 refine hK _ _ ?_;clear hK K;refine wpList_load_row rfl _ _ rfl (w.heap.size+1) rfl _ _ (0,0) _ k1 Tryz.underlying46 rfl (by rw[HIC.out];kernel_rfl) ?_;simp only[Act.put,List.setIfInBounds_toArray,List.set_cons_zero,List.set_cons_succ];clear k0 k1;refine wpList_plain rfl fun K hK=>?_;go_simp
 go_at_call 22
 refine HSB1.out.mono ?_;rintro e w1 ⟨_,M,hbm,A2,c2,K2,kc2,L2,lc2,rfl,hmv,hb1⟩;obtain⟨hmk,htr⟩:=HMK.out M hbm;rw[←HS.out]at htr;have hbw1:=HB0.out.trans (hb1.mono HB0.out.size);have hal:=(Below.refl w1.heap.size w1).alloc (Nat.le_refl _) (.cells #[.int .i64 M.kd,.int .i64 M.rl,.int .i64 M.p.lv,.bool M.p.ng,.slice A2 M.p.ds.length c2,.slice K2 M.p.ks.length kc2,.slice L2 M.ks.length lc2] 44);have hbx:=qd.new w1 44 #[.int .i64 M.kd,.int .i64 M.rl,.int .i64 M.p.lv,.bool M.p.ng,.slice A2 M.p.ds.length c2,.slice K2 M.p.ks.length kc2,.slice L2 M.ks.length lc2];have hgn:Yd (zU 400) M:=Yd.impC (fun p hp=>zU.of_can hp.1 hp.2.1 (by omega)) M hmk.gn;have hn:=HNM.out M hgn A2 c2 K2 kc2 L2 lc2 _ _ (Nat.le_refl _) (((MV.mono (fun _ hb=>hb.lt) _ _ hmv:MV w1 (· <w1.heap.size) M _).below hal).more hal.size);rw[hmk.nm]at hn;have HN:=Lib.hid hn;have HB1A:=Lib.hid (hbw1.trans (hal.mono hbw1.size));have HKX1:=Lib.hid ((HKX.out.old (hb1.mono (Nat.le_refl _))).old hal);have HG1:=Lib.hid (show w.heap.size+1+1<w1.heap.size by have:=HKX.out.lt;have:=hb1.size;omega);clear hn hgn hbx hal HB0 HKX;refine hK _ _ ?_;clear hK K;go_wp2_with fail
 refine HN.out.mono ?_;rintro e w2 ⟨A3,c3,K3,kc3,L3,lc3,rfl,hm3,hb2⟩;have hal:=(Below.refl w2.heap.size w2).alloc (Nat.le_refl _) (.cells #[.int .i64 M.kd,.int .i64 M.rl,.int .i64 M.p.lv,.bool M.p.ng,.slice A3 M.p.ds.length c3,.slice K3 M.p.ks.length kc3,.slice L3 M.ks.length lc3] 44);have hbx:=qd.new w2 44 #[.int .i64 M.kd,.int .i64 M.rl,.int .i64 M.p.lv,.bool M.p.ng,.slice A3 M.p.ds.length c3,.slice K3 M.p.ks.length kc3,.slice L3 M.ks.length lc3];have hm4:=(((MV.mono (fun _ hb=>hb.lt) _ _ hm3:MV w2 (· <w2.heap.size) M _).below hal).more hal.size);have hb13:=HB1A.out.trans ((hb2.trans (hal.mono hb2.size)).mono HB1A.out.size);have hkx:=HKX1.out.old (hb2.trans (hal.mono hb2.size));have hg13:w.heap.size+1+1<w1.heap.size:=HG1.out;have hq13:=hb2.size;clear hm3 hb2 hal HN HB1A HKX1 HG1;go_upto_region 3 with(fail)
 generalize hW3:w2.alloc (.cells #[.int .i64 M.kd,.int .i64 M.rl,.int .i64 M.p.lv,.bool M.p.ng,.slice A3 M.p.ds.length c3,.slice K3 M.p.ks.length kc3,.slice L3 M.ks.length lc3] 44)=W3 at*;clear hW3;have hxr:∀(d:Nat)(os:Array Obj),jM (grow (redrawn W3 d) os) W3.heap.size (some ⟨w.heap.size+1+1,0,none⟩) [x0,x1,x2,x3]:=fun d os=>jM.of_arr (t:=31) (by rw[HXC.out];exact hkx.old (below_regrown W3 d os)) (by have:=hkx.lt;omega) (((HPX.out W3 hb13).more (Nat.le_trans HB.out hb13.size)).below (below_regrown W3 d os));have hmr:=fun(d:Nat)(os:Array Obj)=>hm4.below (below_regrown W3 d os);have hgo:Yd (fun p=>qj p=true∧qM 200 5 p) M:=Yd.impC (fun p hp=>⟨hp.1,qM.mono (by omega) (Nat.le_refl _) _ hp.2.1⟩) M hmk.gn;have hany:(Zz M).any (yI ((k:Int)+1))=false:=by
  rw[List.any_eq_false];intro p hp;rw[(hmk.al p hp).2.2]
  decide
 have htv:yg (sgV [x0,x1,x2,x3]) M=yF r s:=by
  rw[←htr];unfold trM;rw[hmk.nm];rfl
 have HC1:=Lib.hid (fun(d':Nat)(os:Array Obj)=>Calls.regrown_of (d:=d') (os:=os) (qgO ((k:Int)+1) (by omega) 10000 (by omega) (qiR k (d+3)) M hmk.gn (Nat.le_trans hmk.ln (by omega)) (fun p hp=>(hmk.al p hp).2.1.sm (by omega) (by omega)) A3 c3 K3 kc3 L3 lc3 W3.heap.size (grow (redrawn W3 d') os) (below_regrown W3 d' os).size (hmr d' os)));have HC2:=Lib.hid (fun(d':Nat)(os:Array Obj)=>Calls.regrown_of (d:=d') (os:=os) (HAT.out M hgo A3 c3 K3 kc3 L3 lc3 W3.heap.size (some ⟨w.heap.size+1+1,0,none⟩) 4 (grow (redrawn W3 d') os) (below_regrown W3 d' os).size (hmr d' os) (hxr d' os) (Nat.le_refl _)));have HC3:=Lib.hid (fun(d':Nat)(os:Array Obj)=>Calls.regrown_of (d:=d') (os:=os) ((HHO.out (grow (redrawn W3 d') os)).mono (fun e w' h=>⟨h.1,h.2▸Below.refl _ _⟩)));rw[hany]at HC1;rw[htv]at HC2;unfold ZP at HC1 HC2;have HBF:=Lib.hid hb13;have y0:=cell_regrown (hbx.cell 0);have y1:=cell_regrown (hbx.cell 1);have y2:=cell_regrown (hbx.cell 2);have y3:=cell_regrown (hbx.cell 3);have y4:=cell_regrown (hbx.cell 4);have y5:=cell_regrown (hbx.cell 5);have y6:=cell_regrown (hbx.cell 6);clear hxr hmr hgo hany htv hmk htr hbm hbx hb13 hm4 hkx hq13 hg13 hbw1 hmv hb1 HSB1 HMK HAT HNM HHO HXC HIC HPX HS HB;generalize yF r s=z at*;generalize M.p.ds.length=md at*;generalize M.p.ks.length=mk at*;generalize M.ks.length=mn at*;generalize M.p.ng=mg at*;generalize M.p.lv=ml at*;generalize M.kd=mkd at*;generalize M.rl=mrl at*;refine wp_region_quiet_below qk5 (by kernel_rfl) ?_;repeat(go_big_quiet_step (fail))
 refine wpQuiet_step (fun K hK=>?_);go_simp
 apply Exists.intro;refine⟨fun _=>HC1.out _ _,hK _ ?_⟩;clear hK K;repeat(go_big_quiet_step (fail))
 refine wpQuiet_step (fun K hK=>?_);go_simp
 apply Exists.intro;refine⟨fun _=>HC2.out _ _,hK _ ?_⟩;clear hK K;repeat(go_big_quiet_step (fail))
 refine wpQuiet_step (fun K hK=>?_);go_simp
 apply Exists.intro;refine⟨fun _=>HC3.out _ _,hK _ ?_⟩;clear hK K;repeat(go_big_quiet_step (fail))
 refine wpQuiet_nil ?_;rintro _ ⟨⟨dq,osq⟩,rfl⟩;have HB2:=Lib.hid (HBF.out.trans ((below_regrown W3 dq osq).mono HBF.out.size));clear HC1 HC2 HC3 y0 y1 y2 y3 y4 y5 y6;go_wp2_with fail
 go_ret
 exact⟨by simp,HB2.out⟩
end Go.Proofs.YtflikmojaidhhaaGreat
namespace Go.Proofs.YtflikmojaidhhaaGreat
open Go.RowKit
abbrev qip:Array Value:=#[.int .i64 0,.int .i64 0,.int .i64 0,.bool false,.slice none 0 0,.slice none 0 0,.slice none 0 0]
abbrev zM:Array Value:=#[.int .i64 1,.int .i64 0,.int .i64 0,.bool false,.slice none 0 0,.slice none 0 0,.slice none 0 0]
def zY(w:World)(e:Ending)(w':World):Prop:=e= .returned (.agg zM)∧Below w.heap.size w w'
theorem ZL{w V:World}{g:Nat}(hk:qd V g 44 qip)(hw:w.heap.size≤g)(hb:Below w.heap.size w V):
 qd (Jh V g (.int .i64 1) (.int .i64 0) (.int .i64 0) (.bool false) (.slice none 0 0) (.slice none 0 0) (.slice none 0 0)) g 44 zM∧
 zY w (.returned (.agg zM)) (Jh V g (.int .i64 1) (.int .i64 0) (.int .i64 0) (.bool false) (.slice none 0 0) (.slice none 0 0) (.slice none 0 0)):=by
 obtain⟨s1,s2,s3⟩:=JX hk (.int .i64 1) (.int .i64 0) (.int .i64 0) (.bool false) (.slice none 0 0) (.slice none 0 0) (.slice none 0 0);exact⟨s1,rfl,hb.trans (s3 _ hw)⟩
set_option maxHeartbeats 1000000
set_option maxRecDepth 100000
theorem qjn(A:Option Addr)(c:Nat)(K:Option Addr)(kc:Nat)(w:World):Calls Tryz.prog 55 #[.agg #[.int .i64 1,.int .i64 0,.int .i64 0,.bool false,.slice A 0 c,.slice K 0 kc,.slice none 0 0]] w (zY w):=by
 obtain⟨hb0,k0,k1,hs⟩:=qK w 44 44 #[.int .i64 1,.int .i64 0,.int .i64 0,.bool false,.slice A 0 c,.slice K 0 kc,.slice none 0 0] #[.int .i64 0,.int .i64 0,.int .i64 0,.bool false,.slice none 0 0,.slice none 0 0,.slice none 0 0];have HB0:=Lib.hid hb0;have HK1:=Lib.hid k1;have HST:=Lib.hid (fun(W:World)=>qay true W);have c0:=k0.cell 0;clear k0 k1 hb0 hs;go_enter Tryz.func55,Tryz.ntmps55
 go_upto_region 1 with(fail)
 generalize (w.alloc (.cells #[.int .i64 1,.int .i64 0,.int .i64 0,.bool false,.slice A 0 c,.slice K 0 kc,.slice none 0 0] 44)).alloc (.cells #[.int .i64 0,.int .i64 0,.int .i64 0,.bool false,.slice none 0 0,.slice none 0 0,.slice none 0 0] 44)=W at*;go_wp2_with fail
 refine(HST.out _).mono ?_;rintro e w1 ⟨rfl,hb1⟩;have k1:=HK1.out.old hb1;have HFN:=Lib.hid (ZL (w:=w) k1 (Nat.le_succ _) (HB0.out.trans (hb1.mono HB0.out.size)));have d0:=k1.cell 0;have d1:=k1.cell 1;have d2:=k1.cell 2;have d3:=k1.cell 3;have d4:=k1.cell 4;have d5:=k1.cell 5;have d6:=k1.cell 6;have f0:=k1.frozen 0;have f1:=k1.frozen 1;have f2:=k1.frozen 2;have f3:=k1.frozen 3;have f4:=k1.frozen 4;have f5:=k1.frozen 5;have f6:=k1.frozen 6;have z0:=k1.lt;have ht:(QN true).kd=1:=rfl;clear k1 hb1 HB0 HK1 c0;go_wp2_with fail
 refine qg Tryz.results55 rfl rfl HFN.out.1 Tryz.underlying44 rfl Tryz.sizeMat HFN.out.2
abbrev JU(A:Option Addr)(c:Nat)(K:Option Addr)(kc:Nat):Array Value:=#[.int .i64 1,.int .i64 0,.int .i64 0,.bool false,.slice none 0 0,.slice none 0 0,.slice none 0 0,.int .i64 1,.int .i64 0,.int .i64 0,.bool false,.slice A 0 c,.slice K 0 kc,.slice none 0 0]
theorem qc5(A:Option Addr)(c:Nat)(K:Option Addr)(kc:Nat)(g lc:Nat)(w:World)(hlc:2≤lc)(hk:qd w g 44 (JU A c K kc)):
 Calls Tryz.prog 98 #[.agg #[.int .i64 3,.int .i64 0,.int .i64 0,.bool false,.slice none 0 0,.slice none 0 0,.slice (some ⟨g,0,none⟩) 2 lc]] w (zY w):=by
 obtain⟨hb0,k0,k1,hs⟩:=qK w 44 44 #[.int .i64 3,.int .i64 0,.int .i64 0,.bool false,.slice none 0 0,.slice none 0 0,.slice (some ⟨g,0,none⟩) 2 lc] #[.int .i64 0,.int .i64 0,.int .i64 0,.bool false,.slice none 0 0,.slice none 0 0,.slice none 0 0];have HB0:=Lib.hid hb0;have HK1:=Lib.hid k1;have HKR:=Lib.hid (hk.old hb0);have HOF:=Lib.hid qjn;have c0:=k0.cell 0;have c6:=k0.cell 6;have i2:(2:Int)≤(lc:Int):=by omega
 have hgl:g<w.heap.size:=hk.lt;clear k0 k1 hb0 hs hk;go_enter Tryz.func98,Tryz.ntmps98
 go_upto_region 1 with(fail)
 generalize (w.alloc (.cells #[.int .i64 3,.int .i64 0,.int .i64 0,.bool false,.slice none 0 0,.slice none 0 0,.slice (some ⟨g,0,none⟩) 2 lc] 44)).alloc (.cells #[.int .i64 0,.int .i64 0,.int .i64 0,.bool false,.slice none 0 0,.slice none 0 0,.slice none 0 0] 44)=W at*;go_wp2_with fail
 clear c0 c6;go_loopg [6,20] 2 (fun gn kv ix wr=>∃j:Nat,j≤2∧gn=2-j∧kv= .slice none 0 0∧ix= .int .i64 j∧Below W.heap.size W wr)
 case atStart=>exact⟨0,by omega,rfl,rfl,rfl,Below.refl _ _⟩
 case round=>
  obtain⟨j,hj,hgj,rfl,rfl,hbw⟩:=hrel;have HG:=Lib.hid hgj;clear hgj;by_cases hlt:j<2
  ·obtain rfl|rfl:j=0∨j=1:=by omega
   ·have kr:=HKR.out.old hbw;have r0:=kr.cell 0;have r1:=kr.cell 1;have r2:=kr.cell 2;have r3:=kr.cell 3;have r4:=kr.cell 4;have r5:=kr.cell 5;have r6:=kr.cell 6;have hal:=(Below.refl wr.heap.size wr).alloc (Nat.le_refl _) (.cells #[.int .i64 1,.int .i64 0,.int .i64 0,.bool false,.slice none 0 0,.slice none 0 0,.slice none 0 0] 44);have HC:=Lib.hid (HOF.out none 0 none 0 (wr.alloc (.cells #[.int .i64 1,.int .i64 0,.int .i64 0,.bool false,.slice none 0 0,.slice none 0 0,.slice none 0 0] 44)));have HBW:=Lib.hid (hbw.trans (hal.mono hbw.size));unfold zY at HC;clear kr hbw hal;go_wp2_with fail
    refine HC.out.mono ?_;rintro e w1 ⟨rfl,hb1⟩;have HB1:=Lib.hid (HBW.out.trans (hb1.mono HBW.out.size));clear hb1 HC HBW r0 r1 r2 r3 r4 r5 r6;go_wp2_with fail
    go_roundg 1
    case rel=>exact⟨1,by omega,rfl,rfl,rfl,by have hA:=HB1.out.alloc HB1.out.size (.cells zM 44);exact hA.alloc hA.size _⟩
    case measure=>have:=HG.out;omega
   ·have kr:=HKR.out.old hbw;have r0:=kr.cell 7;have r1:=kr.cell 8;have r2:=kr.cell 9;have r3:=kr.cell 10;have r4:=kr.cell 11;have r5:=kr.cell 12;have r6:=kr.cell 13;have hal:=(Below.refl wr.heap.size wr).alloc (Nat.le_refl _) (.cells #[.int .i64 1,.int .i64 0,.int .i64 0,.bool false,.slice A 0 c,.slice K 0 kc,.slice none 0 0] 44);have HC:=Lib.hid (HOF.out A c K kc (wr.alloc (.cells #[.int .i64 1,.int .i64 0,.int .i64 0,.bool false,.slice A 0 c,.slice K 0 kc,.slice none 0 0] 44)));have HBW:=Lib.hid (hbw.trans (hal.mono hbw.size));unfold zY at HC;clear kr hbw hal;go_wp2_with fail
    refine HC.out.mono ?_;rintro e w1 ⟨rfl,hb1⟩;have HB1:=Lib.hid (HBW.out.trans (hb1.mono HBW.out.size));clear hb1 HC HBW r0 r1 r2 r3 r4 r5 r6;go_wp2_with fail
    go_roundg 0
    case rel=>exact⟨2,by omega,rfl,rfl,rfl,by have hA:=HB1.out.alloc HB1.out.size (.cells zM 44);exact hA.alloc hA.size _⟩
    case measure=>have:=HG.out;omega
  ·obtain rfl:j=2:=by omega
   have k1:=HK1.out.old hbw;have HFN:=Lib.hid (ZL (w:=w) k1 (Nat.le_succ _) (HB0.out.trans (hbw.mono HB0.out.size)));have d0:=k1.cell 0;have d1:=k1.cell 1;have d2:=k1.cell 2;have d3:=k1.cell 3;have d4:=k1.cell 4;have d5:=k1.cell 5;have d6:=k1.cell 6;have f0:=k1.frozen 0;have f1:=k1.frozen 1;have f2:=k1.frozen 2;have f3:=k1.frozen 3;have f4:=k1.frozen 4;have f5:=k1.frozen 5;have f6:=k1.frozen 6;have z0:=k1.lt;clear k1 hbw HB0 HK1 HKR HOF;go_wp2_with fail
   refine qg Tryz.results98 rfl rfl HFN.out.1 Tryz.underlying44 rfl Tryz.sizeMat HFN.out.2
theorem qk4(A:Option Addr)(c:Nat)(K:Option Addr)(kc g lc:Nat)(w:World)(hlc:2≤lc)(hk:qd w g 44 (JU A c K kc)):
 Calls Tryz.prog 55 #[.agg #[.int .i64 3,.int .i64 0,.int .i64 0,.bool false,.slice none 0 0,.slice none 0 0,.slice (some ⟨g,0,none⟩) 2 lc]] w (zY w):=by
 obtain⟨hb0,k0,k1,hs⟩:=qK w 44 44 #[.int .i64 3,.int .i64 0,.int .i64 0,.bool false,.slice none 0 0,.slice none 0 0,.slice (some ⟨g,0,none⟩) 2 lc] #[.int .i64 0,.int .i64 0,.int .i64 0,.bool false,.slice none 0 0,.slice none 0 0,.slice none 0 0];have HB0:=Lib.hid hb0;have HK1:=Lib.hid k1;have HJ:=Lib.hid (qc5 A c K kc g lc _ hlc (hk.old hb0));have c0:=k0.cell 0;have c1:=k0.cell 1;have c2:=k0.cell 2;have c3:=k0.cell 3;have c4:=k0.cell 4;have c5:=k0.cell 5;have c6:=k0.cell 6;clear k0 k1 hb0 hs hk;unfold zY at HJ;go_enter Tryz.func55,Tryz.ntmps55
 go_upto_region 1 with(fail)
 generalize (w.alloc (.cells #[.int .i64 3,.int .i64 0,.int .i64 0,.bool false,.slice none 0 0,.slice none 0 0,.slice (some ⟨g,0,none⟩) 2 lc] 44)).alloc (.cells #[.int .i64 0,.int .i64 0,.int .i64 0,.bool false,.slice none 0 0,.slice none 0 0,.slice none 0 0] 44)=W at*;go_wp2_with fail
 refine HJ.out.mono ?_;rintro e w1 ⟨rfl,hb1⟩;have k1:=HK1.out.old hb1;have HFN:=Lib.hid (ZL (w:=w) k1 (Nat.le_succ _) (HB0.out.trans (hb1.mono HB0.out.size)));have d0:=k1.cell 0;have d1:=k1.cell 1;have d2:=k1.cell 2;have d3:=k1.cell 3;have d4:=k1.cell 4;have d5:=k1.cell 5;have d6:=k1.cell 6;have f0:=k1.frozen 0;have f1:=k1.frozen 1;have f2:=k1.frozen 2;have f3:=k1.frozen 3;have f4:=k1.frozen 4;have f5:=k1.frozen 5;have f6:=k1.frozen 6;have z0:=k1.lt;clear k1 hb1 HB0 HK1 HJ c0 c1 c2 c3 c4 c5 c6;go_wp2_with fail
 refine qg Tryz.results55 rfl rfl HFN.out.1 Tryz.underlying44 rfl Tryz.sizeMat HFN.out.2
def qA:RP:= .mk 0 false [1] []
def jB(i:Int):RP:= .mk i false [] [qa,qA]
theorem qke:dig 1=[1]:=by decide+kernel
theorem qdc(i:Int)(w:World):Calls Tryz.prog 34 #[.int .i64 i] w fun e w'=>e= .returned (.bool (decide (1≤i)&&decide (i≤4)))∧w'=w:=by
 by_cases h1:1≤i
 ·rw[decide_eq_true h1,Bool.true_and];go_enter Tryz.func34,Tryz.ntmps34
  go_wp2
  go_ret
  exact⟨rfl,rfl⟩
 ·rw[decide_eq_false h1,Bool.false_and];go_enter Tryz.func34,Tryz.ntmps34
  go_wp2
  go_ret
  exact⟨rfl,rfl⟩
theorem qkk{w:World}{base g:Nat}{i:Int}{A1:Option Addr}{c1:Nat}(hb:base≤g)(hk:qd w g 28 #[.int .i64 0,.bool false,.slice none 0 0,.slice none 0 0,.int .i64 0,.bool false,.slice A1 1 c1,.slice none 0 0])(hn:qk w A1 [1])(hc:1≤c1):
 RB w base (jB i) (qc (jB i) none 0 (some ⟨g,0,none⟩) 2):=by
 refine RB.node (ks:=[qa,qA]) (rows:=[qc qa none 0 none 0,qc qA A1 c1 none 0]) rfl (fun r hr=>?_) hb hk (fun j v hv=>?_) (Nat.le_refl _) ?_
 ·simp at hr;rcases hr with rfl|rfl<;>rfl
 ·rw[←hv];simp[qc,qa,qA,RP.lv,RP.ng,RP.ds,RP.ks]
 ·unfold qH;refine⟨_,_,rfl,RT.zero,?_⟩;unfold qH;refine⟨_,_,rfl,RB.const hn (by simp[qP]) hc,?_⟩;unfold qH;rfl
theorem VarFin.mk{w w3:World}{i:Int}{g h:Nat}{cs:Array Value}{A1:Option Addr}{c1:Nat}(s1:qd w3 g 28 cs)(hn:qk w3 A1 [1])(hb:Below w.heap.size w w3)(hc:[1].length≤c1)(hz:w3.heap.size=h)(hg:w.heap.size≤h):
 qd (w3.alloc (.cells #[.int .i64 0,.bool false,.slice none 0 0,.slice none 0 0,.int .i64 0,.bool false,.slice A1 1 c1,.slice none 0 0] 28)) g 28 cs∧
 RB (w3.alloc (.cells #[.int .i64 0,.bool false,.slice none 0 0,.slice none 0 0,.int .i64 0,.bool false,.slice A1 1 c1,.slice none 0 0] 28)) w.heap.size (jB i) (qc (jB i) none 0 (some ⟨h,0,none⟩) 2)∧
 Below w.heap.size w (w3.alloc (.cells #[.int .i64 0,.bool false,.slice none 0 0,.slice none 0 0,.int .i64 0,.bool false,.slice A1 1 c1,.slice none 0 0] 28)):=by
 subst hz;have ha:=(Below.refl w3.heap.size w3).alloc (Nat.le_refl _) (.cells #[.int .i64 0,.bool false,.slice none 0 0,.slice none 0 0,.int .i64 0,.bool false,.slice A1 1 c1,.slice none 0 0] 28);exact⟨s1.alloc _,qkk hg (qd.new w3 28 _) (hn.old ha) hc,hb.alloc hg _⟩
set_option maxHeartbeats 2000000
theorem qko(i:Int)(h1:1≤i)(h4:i≤4)(w:World):Calls Tryz.prog 12 #[.int .i64 i] w fun e w'=>
 ∃g,e= .returned (.agg #[.int .i64 i,.bool false,.slice none 0 0,.slice (some ⟨g,0,none⟩) 2 2])∧RB w' w.heap.size (jB i) (qc (jB i) none 0 (some ⟨g,0,none⟩) 2)∧Below w.heap.size w w':=by
 have HB0:=Lib.hid ((Below.refl w.heap.size w).alloc (Nat.le_refl _) (.cells #[.int .i64 0,.bool false,.slice none 0 0,.slice none 0 0] 28));have HK0:=Lib.hid (qd.new w 28 #[.int .i64 0,.bool false,.slice none 0 0,.slice none 0 0]);have HL:=Lib.hid (fun W=>qdc i W);rw[decide_eq_true h1,decide_eq_true h4]at HL;have HO:=Lib.hid (fun W=>JP 1 (by omega) (by omega) W);clear h1 h4;go_enter Tryz.func12,Tryz.ntmps12
 go_wp2_with fail
 refine(HL.out _).mono ?_;rintro e w1 ⟨rfl,rfl⟩;go_wp2_with fail
 refine(HO.out _).mono ?_;rintro e w2 hr;unfold qy at hr;rw[show(1:Int).natAbs=1 from rfl,qke]at hr;obtain⟨A1,c1,rfl,hc1,hn1,hb2⟩:=hr;rw[show decide ((1:Int)<0)=false from rfl];have hk:=HK0.out.old hb2;obtain⟨s1,s2,s3⟩:=jt (k:=0) hk (.int .i64 i) (.bool false) (.slice none 0 0) (.slice (some ⟨w2.heap.size,0,none⟩) 2 2);have hb3:=((((HB0.out.trans (hb2.mono (by simp))).setCell (p:=⟨w.heap.size,0,none⟩) (Nat.le_refl _) (.int .i64 i)).setCell (p:=⟨w.heap.size,1,none⟩) (Nat.le_refl _) (.bool false)).setCell (p:=⟨w.heap.size,2,none⟩) (Nat.le_refl _) (.slice none 0 0)).setCell (p:=⟨w.heap.size,3,none⟩) (Nat.le_refl _) (.slice (some ⟨w2.heap.size,0,none⟩) 2 2);have HFIN:=Lib.hid (VarFin.mk (i:=i) (h:=w2.heap.size) s1 (qk.keep hn1 s2) hb3 hc1 (by simp) (Nat.le_of_lt hk.lt));have f0:=hk.frozen 0;have f1:=hk.frozen 1;have f2:=hk.frozen 2;have f3:=hk.frozen 3;have d0:=hk.cell 0;have d1:=hk.cell 1;have d2:=hk.cell 2;have d3:=hk.cell 3;have z0:=hk.lt;clear hk hb2 hn1 hc1 s1 s2 s3 hb3;go_wp2_with fail
 obtain⟨k1,k2,k3⟩:=HFIN.out;exact qg Tryz.results12 rfl rfl k1 Tryz.underlying28 rfl Tryz.sizeRec ⟨w2.heap.size,rfl,k2,k3⟩
def OkV(w:World)(r:Option Nat)(b:Nat):Prop:=(∃cs,qd w b 134 cs)∨(some b≠r∧∃cs,qd w b 28 cs)
theorem OkV.lt{w:World}{r:Option Nat}{b:Nat}(h:OkV w r b):b<w.heap.size:=by
 rcases h with⟨cs,h⟩|⟨_,cs,h⟩<;>exact h.lt
theorem OkV.keep{w w':World}{r r':Option Nat}(hu:∀g cs,qd w g 134 cs→qd w' g 134 cs)(hr:∀g cs,some g≠r→qd w g 28 cs→qd w' g 28 cs∧some g≠r'):
 (∀b,OkV w r b→∀o,w'.cell? ⟨b,o,none⟩=w.cell? ⟨b,o,none⟩)∧∀b,OkV w r b→OkV w' r' b:=by
 refine⟨fun b h o=>?_,fun b h=>?_⟩
 ·rcases h with⟨cs,h⟩|⟨h0,cs,h⟩
  ·exact h.cell_eq (hu b cs h) o
  ·exact h.cell_eq (hr b cs h0 h).1 o
 ·rcases h with⟨cs,h⟩|⟨h0,cs,h⟩
  ·exact .inl ⟨cs,hu b cs h⟩
  ·exact .inr ⟨(hr b cs h0 h).2,cs,(hr b cs h0 h).1⟩
structure qeh (w W:World) (v:Value) (ks:List RP):Prop where
 bel:Below w.heap.size w W
 row:∃rows,W.ownsRow w.heap.size 28 4 v ks.length rows.flatten∧qH W (OkV W v.ownBlock) ks rows
theorem qeh.start(w:World):qeh w w (.slice none 0 0) []:=⟨Below.refl _ _,[],⟨rfl,.inl ⟨rfl,rfl⟩⟩,by unfold qH;rfl⟩
theorem qeh.push{w W W1 W2:World}{v v':Value}{ks:List RP}{rows:List (List Value)}{u:RP}{us cs:List Value}(h:qeh w W v ks)(hr:W.ownsRow w.heap.size 28 4 v ks.length rows.flatten)(hm:qH W (OkV W v.ownBlock) ks rows)
 (h1:Below W.heap.size W W1)(hu:RB W1 W.heap.size u us)(ho:W2.ownsRow w.heap.size 28 4 v' (ks.length+1) (rows.flatten++us))(hg:(W1.alloc (.cells cs.toArray 28)).grownBy W2 v.ownBlock)
 (hat:v'.ownBlock=v.ownBlock∨v'.ownBlock=some (W1.alloc (.cells cs.toArray 28)).heap.size):qeh w W2 v' (ks++[u]):=by
 have ha:=(Below.refl W1.heap.size W1).alloc (Nat.le_refl _) (.cells cs.toArray 28);have h2:=h1.trans (ha.mono h1.size);have hr1:=qQ hr h2;have hlt:∀b,v.ownBlock=some b→b<W.heap.size:=fun b hb=>by
  rcases hr.2 with⟨e,_⟩|⟨g',cap,cur,e,_,hh,_⟩
  ·rw[e]at hb;simp[Value.ownBlock]at hb
  ·rw[e]at hb;have:g'=b:=by simpa[Value.ownBlock]using hb
   subst this;exact qd.lt (show qd W g' 28 cur from hh)
 have ku:∀j ds,qd W1 j 134 ds→qd W2 j 134 ds:=fun j ds k=>(k.old ha).grown hg (qF hr1 (k.old ha) (by decide));have kr:∀j ds,some j≠v.ownBlock→qd W1 j 28 ds→qd W2 j 28 ds∧some j≠v'.ownBlock:=fun j ds hne k=>⟨(k.old ha).grown hg hne,by
  rcases hat with e|e
  ·rw[e];exact hne
  ·rw[e];intro e;injection e with e;have:=(k.old ha).lt;omega⟩
 obtain⟨k1,k2⟩:=OkV.keep (w:=W1) (w':=W2) (r:=v.ownBlock) (r':=v'.ownBlock) ku kr;obtain⟨q1,q2⟩:=OkV.keep (w:=W) (w':=W1) (r:=v.ownBlock) (r':=v.ownBlock) (fun _ _ k=>k.old h1) (fun _ _ hne k=>⟨k.old h1,hne⟩);have hub:∀b,yK W1 W.heap.size b→OkV W1 v.ownBlock b:=fun b hb=>by
  rcases hb with hb|⟨h0,hb⟩
  ·exact .inl hb
  ·exact .inr ⟨fun e=>by have:=hlt b e.symm;omega,hb⟩
 have hu2:RV W2 (OkV W2 v'.ownBlock) u us:=RV.mono k2 _ _ (RV.keep k1 _ _ (RV.mono hub _ _ hu));have hm2:qH W2 (OkV W2 v'.ownBlock) ks rows:=qH.mono k2 _ _ (qH.keep k1 _ _ (qH.mono q2 _ _ (qH.keep q1 _ _ hm)));refine⟨?_,rows++[us],by simpa using ho,qH.snoc hm2 hu2⟩;have hb2:Below w.heap.size (W1.alloc (.cells cs.toArray 28)) W2:=⟨hg.os,hg.tape,hg.output,hg.size,fun k hk=>hg.block k (by have:=h.bel.size;have:=h2.size;omega) (fun e=>by have:=jb hr e.symm;omega)⟩;exact(h.bel.trans (h2.mono h.bel.size)).trans hb2
theorem qeh.fin{w W:World}{v:Value}{ks:List RP}(h:qeh w W v ks):∃K kc,v= .slice K ks.length kc∧RV W (· <W.heap.size) (.mk 0 false [] ks) (qc (.mk 0 false [] ks) none 0 K kc):=by
 obtain⟨rows,h1,h2⟩:=h.row;obtain⟨L,lc,rfl⟩:=qJ h1;refine⟨L,lc,rfl,?_⟩;have hm:=qH.mono (S':=(· <W.heap.size)) (fun b hb=>hb.lt) _ _ h2;unfold RV;by_cases h0:ks.length=0
 ·exact⟨none,0,L,lc,rfl,jd.of qi.none_ (fun _ h=>h),by simp[qP],Nat.le_refl _,by omega,rows,⟨h1.1,fun hp=>by omega⟩,hm⟩
 ·obtain⟨g',lc',e,hb,hl⟩:=h1.form (by omega)
  injection e with e1 e2 e3
  subst e1;subst e3;obtain⟨cur,hk,_,hc,hx⟩:=jx h1;refine⟨none,0,_,lc,rfl,jd.of qi.none_ (fun _ h=>h),by simp[qP],Nat.le_refl _,hc,rows,⟨h1.1,fun _=>⟨g',0,rfl,hl,fun j x hj=>?_⟩⟩,hm⟩;rw[Nat.zero_add,hk.cell];exact hx j x hj
theorem Qi:qj (jB 1)=true:=by simp[jB,qa,qA,qj,zV,YB,Zs,qW,RP.lv,RP.ds]
theorem qjA:qM 1 5 (jB 1):=by simp[jB,qa,qA,qM,Jd]
theorem Yk:qj qA=true:=by simp[qA,qj,YB]
theorem qaa:zU 400 (jB 1):=zU.of_can Qi qjA (by omega)
theorem qbK:zU 400 (qq (jB 1)):=by rw[qw Qi];exact qaa
theorem qbY:qW (jB 1)=false:=rfl
theorem qfX:zo 1 (jB 1)=1:=by decide
theorem qjt:dgZ 1 (jB 1)=1:=by
 unfold dgZ;rw[qw Qi,if_neg (by rw[qbY];decide),if_pos (by decide),qfX];rfl
theorem qhL:jS 1 (jB 1)=[qa,qA]:=by
 unfold jS;rw[qw Qi,if_neg (by rw[qbY];decide),qfX];have e:JV 1 1 (jB 1)=[qa,qA]:=by simp[jB,JV]
 rw[e];simp only[List.map_cons,List.map_nil];rw[qw (show qj qa=true from rfl),qw Yk]
theorem Z6{W:World}{S:Nat→Prop}{g:Nat}{l:Int}{b:Bool}{P Q:Option Addr}{m n mc nc:Nat}(hk:qd W g 28 #[.int .i64 l,.bool b,.slice P m mc,.slice Q n nc]){T:RP}(hks:T.ks=[]){A:Option Addr}{c:Nat}{K:Option Addr}{kc:Nat}(h:RV W S T (qc T A c K kc)):RV W (fun b=>S b∧b≠g) T (qc T A c K kc):=by
 cases T with
 |mk lv ng ds ks=>
  have hks':ks=[]:=hks;subst hks';obtain⟨h1,h2,h3,h4⟩:=h.node;unfold RV;refine⟨A,c,K,kc,rfl,⟨h1.1,fun hp=>?_⟩,h2,h3,h4,[],⟨rfl,fun hp=>absurd hp (Nat.lt_irrefl 0)⟩,by unfold qH;rfl⟩;obtain⟨b',o,e,hS,hx⟩:=h1.2 hp;refine⟨b',o,e,⟨hS,fun hb=>?_⟩,hx⟩;subst hb;have hp':0<ds.length:=hp;have hd:(qf ds)[0]? =some (.int .u32 (ds[0]:Nat)):=by simp[qf,hp']
  have:=hx 0 _ hd;rw[Nat.add_zero,hk.cell]at this
  match o,this with
  |0,this=>simp at this
  |1,this=>simp at this
  |2,this=>simp at this
  |3,this=>simp at this
  |o+4,this=>simp at this
def qan(T:RP)(w:World)(e:Ending)(w':World):Prop:=∃A c K kc,e= .returned (qn T A c K kc)∧RV w' (· <w'.heap.size) T (qc T A c K kc)∧Below w.heap.size w w'
theorem qkL{w V:World}{g:Nat}{T:RP}{A K:Option Addr}{c kc:Nat}(hks:T.ks=[])(hk:qd V g 28 #[.int .i64 0,.bool false,.slice none 0 0,.slice none 0 0])(hw:w.heap.size≤g)(hb:Below w.heap.size w V)(hr:RV V (· <V.heap.size) T (qc T A c K kc)):
 qd (jl V g 0 (.int .i64 T.lv) (.bool T.ng) (.slice A T.ds.length c) (.slice K T.ks.length kc)) g 28 #[.int .i64 T.lv,.bool T.ng,.slice A T.ds.length c,.slice K T.ks.length kc]∧
 qan T w (.returned (qn T A c K kc)) (jl V g 0 (.int .i64 T.lv) (.bool T.ng) (.slice A T.ds.length c) (.slice K T.ks.length kc)):=by
 obtain⟨s1,_,_⟩:=jt (k:=0) hk (.int .i64 T.lv) (.bool T.ng) (.slice A T.ds.length c) (.slice K T.ks.length kc);exact⟨s1,A,c,K,kc,rfl,RV.mono (fun b h=>by rw[jQ];exact h.1) _ _ (RV.keep (fun b hb o=>set4_far V (Ne.symm hb.2) 0 o _ _ _ _) _ _ (Z6 hk hks hr)),qe hb hw _ _ _ _⟩
set_option maxHeartbeats 1000000
theorem qbu(i:Nat)(hi:i<2)(T:RP)(hT:[qa,qA][i]? =some T)(A:Option Addr)(c:Nat)(K:Option Addr)(kc B:Nat)(w:World)(hB:B≤w.heap.size)(h:RV w (· <B) (jB 1) (qc (jB 1) A c K kc)):
 Calls Tryz.prog 29 #[qn (jB 1) A c K kc,.int .i64 1,.int .i64 i] w (qan T w):=by
 have hks:T.ks=[]:=by
  rcases(by omega:i=0∨i=1)with rfl|rfl
  ·simp at hT;subst hT;rfl
  ·simp at hT;subst hT;rfl
 obtain⟨hb0,k0,k1,hs⟩:=qK w 28 28 #[.int .i64 1,.bool false,.slice A 0 c,.slice K 2 kc] #[.int .i64 0,.bool false,.slice none 0 0,.slice none 0 0];have HC:=Lib.hid (qbt 400 (by omega) 1 (by omega) (by omega) (jB 1) qaa qbK A c K kc B _ (Nat.le_trans hB hb0.size) (h.below (hb0.mono hB)));unfold qbV at HC;rw[qhL]at HC;have HNZ:=Lib.hid (show qW (qq (jB 1))=true→False by rw[qw Qi,qbY];intro h;cases h);have hrv:qn (jB 1) A c K kc= .agg #[.int .i64 1,.bool false,.slice A 0 c,.slice K 2 kc]:=rfl;rw[hrv]at HC ⊢;have HB0:=Lib.hid hb0;have HK1:=Lib.hid k1;have c0:=k0.cell 0;have c1:=k0.cell 1;have c2:=k0.cell 2;have c3:=k0.cell 3;have HT:=Lib.hid hT;have HKS:=Lib.hid hks;clear h hb0 k0 k1 hs hrv hB hT hks;generalize hcs:[qa,qA]=cs at*;have HLN:=Lib.hid (show cs.length=2 by rw[←hcs];rfl);clear hcs;generalize qq (jB 1)=cv at*;generalize JV 1 (zo 1 cv) cv=cov at*;go_enter Tryz.func29,Tryz.ntmps29
 go_upto_region 1 with(fail)
 generalize (w.alloc (.cells #[.int .i64 1,.bool false,.slice A 0 c,.slice K 2 kc] 28)).alloc (.cells #[.int .i64 0,.bool false,.slice none 0 0,.slice none 0 0] 28)=W at*;go_wp2_with fail
 refine HC.out.mono ?_;rintro e w1 ⟨hct,hb1,⟨hz,_⟩|⟨_,_,g,cur,rows,hg,rfl,hrow⟩⟩
 ·exact(HNZ.out hz).elim
 have hkl:=HLN.out;rw[hkl]at hrow ⊢;obtain⟨A1,c1',K1,kc1,x0,x1,x2,x3,hkid⟩:=hrow.get (i:=i) HT.out;have k1:=HK1.out.old hb1;have HFN:=Lib.hid (qkL (w:=w) HKS.out k1 (Nat.le_succ _) (HB0.out.trans (hb1.mono HB0.out.size)) hkid);have d0:=k1.cell 0;have d1:=k1.cell 1;have d2:=k1.cell 2;have d3:=k1.cell 3;have f0:=k1.frozen 0;have f1:=k1.frozen 1;have f2:=k1.frozen 2;have f3:=k1.frozen 3;have z0:=k1.lt;have i3:(0:Int)≤(i:Int):=by omega
 have i4:(i:Int)<2:=by omega
 have i5:(i:Int).toNat=i:=Int.toNat_natCast i;have i6:¬(i:Int)<0:=by omega
 have i7:¬(2:Int)≤(i:Int):=by omega
 clear hrow hkid k1 HC HB0 HK1 HT HLN hct hb1 c0 c1 c2 c3 hi;go_wp2_with fail
 refine qg Tryz.results29 rfl rfl HFN.out.1 Tryz.underlying28 rfl Tryz.sizeRec HFN.out.2
