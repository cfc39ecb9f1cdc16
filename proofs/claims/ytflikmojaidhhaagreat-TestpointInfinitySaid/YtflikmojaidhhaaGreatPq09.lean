import Derived.Test.YtflikmojaidhhaaGreatPq04
import Derived.Test.YtflikmojaidhhaaGreatPq08
namespace Go.Proofs.YtflikmojaidhhaaGreat
open Go.RowKit
theorem Tryz.sizeRat:(Tryz.prog.info? 30).map (·.size)=some 3:=by kernel_rfl
def qN(q:Rat)(w:World)(e:Ending)(w':World):Prop:=
 ∃(A:Option Addr)(c:Nat)(D:Option Addr)(cd:Nat),e= .returned (.agg #[.bool (decide (q.num<0)),.slice A (dig q.num.natAbs).length c,.slice D (dig q.den).length cd])∧(dig q.num.natAbs).length≤c∧(dig q.den).length≤cd∧qk w' A (dig q.num.natAbs)∧qk w' D (dig q.den)∧Below w.heap.size w w'
theorem qk.keepTwo{w:World}{g:Nat}{t:TypeId}{cs:Array Value}(hk:qd w g t cs)(ht:t≠134)(a b c:Value){A:Option Addr}{ds:List Nat}(h:qk w A ds):qk (((w.setCell ⟨g,0,none⟩ a).setCell ⟨g,1,none⟩ b).setCell ⟨g,2,none⟩ c) A ds:=
 ((h.far hk ht 0 a).far (hk.set_ 0 a) ht 1 b).far ((hk.set_ 0 a).set_ 1 b) ht 2 c
theorem qaF:dig 1=[1]:=by decide+kernel
theorem qkY(w:World):Calls Tryz.prog 72 #[.int .u64 1] w fun e w'=>∃A c,e= .returned (.slice A 1 c)∧1≤c∧qk w' A [1]∧Below w.heap.size w w':=by
 have h:=qcm 1 (by omega) w;unfold jT at h;rw[qaF]at h;exact h
theorem qN.int{z:Int}{w w':World}{A D:Option Addr}{c cd:Nat}(h1:(dig z.natAbs).length≤c)(h2:1≤cd)(h3:qk w' A (dig z.natAbs))(h4:qk w' D [1])(h5:Below w.heap.size w w'):
 qN (z:Rat) w (.returned (.agg #[.bool (decide (z<0)),.slice A (dig z.natAbs).length c,.slice D 1 cd])) w':=by
 unfold qN;rw[Rat.num_intCast,Rat.den_intCast,qaF];exact⟨A,c,D,cd,rfl,h1,h2,h3,h4,h5⟩
set_option maxHeartbeats 1000000
set_option maxRecDepth 100000
theorem qbx(ng:Bool)(A:Option Addr)(c B:Nat)(ds:List Nat)(w:World)(hB:B≤w.heap.size)(h:qh w B A c ds)(hm:ds.length≤1000000):
 Calls Tryz.prog 94 #[.agg #[.bool ng,.slice A ds.length c]] w (qN ((qb ng ds:Int):Rat) w):=by
 obtain⟨hb0,k0,k1,hs⟩:=qK w 25 30 #[.bool ng,.slice A ds.length c] #[.bool false,.slice none 0 0,.slice none 0 0];have HN:=Lib.hid (jH ng A c B ds _ (Nat.le_trans hB hb0.size) (h.below (hb0.mono hB)) hm);unfold qy at HN;generalize qb ng ds=z at*;have HO:=Lib.hid (fun(W:World)=>qkY W);have HB0:=Lib.hid hb0;have HK1:=Lib.hid k1;have HRS:=Lib.hid (fun(w':World)(A D:Option Addr)(c cd:Nat) h1 h2 h3 h4 h5=>qN.int (z:=z) (w:=w) (w':=w') (A:=A) (D:=D) (c:=c) (cd:=cd) h1 h2 h3 h4 h5);generalize qN ((z:Int):Rat) w=Post at*;clear h hs hb0 k0 k1 hm hB;go_enter Tryz.func94,Tryz.ntmps94
 go_wp2_with fail
 refine HN.out.mono ?_;rintro e w1 ⟨A1,c1,rfl,l1,n1,hb1⟩;have HB1:=Lib.hid (HB0.out.trans (hb1.mono HB0.out.size));have HK1':=Lib.hid (HK1.out.old hb1);have HN1:=Lib.hid n1;have HL1:=Lib.hid l1;clear hb1 n1 l1 HN HK1 HB0;generalize (dig z.natAbs).length=zl at*;go_wp2_with fail
 refine(HO.out w1).mono ?_;rintro e w2 ⟨A2,c2,rfl,l2,n2,hb2⟩;have hk:=HK1'.out.old hb2;have HB2:=Lib.hid ((((HB1.out.trans (hb2.mono HB1.out.size)).setCell (p:=⟨w.heap.size+1,0,none⟩) (Nat.le_succ _) (.bool (decide (z<0)))).setCell (p:=⟨w.heap.size+1,1,none⟩) (Nat.le_succ _) (.slice A1 zl c1)).setCell (p:=⟨w.heap.size+1,2,none⟩) (Nat.le_succ _) (.slice A2 1 c2));have d0:=hk.cell 0;have d1:=hk.cell 1;have d2:=hk.cell 2;have f0:=hk.frozen 0;have f1:=hk.frozen 1;have f2:=hk.frozen 2;have z0:=hk.lt;have HS:=Lib.hid (((hk.set_ 0 (.bool (decide (z<0)))).set_ 1 (.slice A1 zl c1)).set_ 2 (.slice A2 1 c2));have HN1':=Lib.hid (qk.keepTwo hk (by decide) (.bool (decide (z<0))) (.slice A1 zl c1) (.slice A2 1 c2) (HN1.out.old hb2));have HN2':=Lib.hid (qk.keepTwo hk (by decide) (.bool (decide (z<0))) (.slice A1 zl c1) (.slice A2 1 c2) n2);have HL2:=Lib.hid l2;clear hk hb2 n2 l2;go_wp2_with fail
 refine qg Tryz.results94 rfl rfl HS.out Tryz.underlying30 rfl Tryz.sizeRat ?_;exact HRS.out _ _ _ _ _ HL1.out HL2.out HN1'.out HN2'.out HB2.out
theorem qaP{q:Rat}{w w2:World}{g:Nat}{x0 x1 x2:Value}{A D:Option Addr}{c cd:Nat}(hk:qd w2 g 30 #[x0,x1,x2])(hg:w.heap.size≤g)(l1:(dig q.num.natAbs).length≤c)(l2:(dig q.den).length≤cd)(n1:qk w2 A (dig q.num.natAbs))(n2:qk w2 D (dig q.den))(hb:Below w.heap.size w w2):
 qd (((w2.setCell ⟨g,0,none⟩ (.bool (decide (q.num<0)))).setCell ⟨g,1,none⟩ (.slice A (dig q.num.natAbs).length c)).setCell ⟨g,2,none⟩ (.slice D (dig q.den).length cd)) g 30 #[.bool (decide (q.num<0)),.slice A (dig q.num.natAbs).length c,.slice D (dig q.den).length cd]∧
 qN q w (.returned (.agg #[.bool (decide (q.num<0)),.slice A (dig q.num.natAbs).length c,.slice D (dig q.den).length cd])) (((w2.setCell ⟨g,0,none⟩ (.bool (decide (q.num<0)))).setCell ⟨g,1,none⟩ (.slice A (dig q.num.natAbs).length c)).setCell ⟨g,2,none⟩ (.slice D (dig q.den).length cd)):=
 ⟨((hk.set_ 0 _).set_ 1 _).set_ 2 _,A,c,D,cd,rfl,l1,l2,qk.keepTwo hk (by decide) _ _ _ n1,qk.keepTwo hk (by decide) _ _ _ n2,((hb.setCell (p:=⟨g,0,none⟩) hg _).setCell (p:=⟨g,1,none⟩) hg _).setCell (p:=⟨g,2,none⟩) hg _⟩
theorem qjo(z:Int)(h0:-9223372036854775808≤z)(h1:z≤9223372036854775807)(w:World):Calls Tryz.prog 95 #[.int .i64 z] w (qN (z:Rat) w):=by
 have hb0:=(Below.refl w.heap.size w).alloc (Nat.le_refl _) (.cells #[.bool false,.slice none 0 0,.slice none 0 0] 30);have HI:=Lib.hid (JP z h0 h1 (w.alloc (.cells #[.bool false,.slice none 0 0,.slice none 0 0] 30)));have HK0:=Lib.hid (qd.new w 30 #[.bool false,.slice none 0 0,.slice none 0 0]);have HB0:=Lib.hid hb0;have hz2:(dig z.natAbs).length≤2:=qfp (by omega);have HRF:=Lib.hid (fun(W:World)(A:Option Addr)(c:Nat)(hc:(dig z.natAbs).length≤c)(hn:qk W A (dig z.natAbs))=>qbx (decide (z<0)) A c W.heap.size (dig z.natAbs) W (Nat.le_refl _) (qV hn hc) (by omega));rw[q7]at HRF;unfold qy at HI;have HFIN:=Lib.hid (fun(w2:World)(A D:Option Addr)(c cd:Nat)(hk:qd w2 w.heap.size 30 #[.bool false,.slice none 0 0,.slice none 0 0]) l1 l2 n1 n2 hb=>qaP (q:=(z:Rat)) (w:=w) (w2:=w2) (g:=w.heap.size) (A:=A) (D:=D) (c:=c) (cd:=cd) hk (Nat.le_refl _) l1 l2 n1 n2 hb);unfold qN at HRF;generalize qN ((z:Int):Rat) w=Post at*;generalize ((z:Int):Rat)=q at*;clear hb0 hz2 h0 h1;go_enter Tryz.func95,Tryz.ntmps95
 go_wp2_with fail
 refine HI.out.mono ?_;rintro e w1 ⟨A1,c1,rfl,l1,n1,hb1⟩;have HR1:=Lib.hid (HRF.out w1 A1 c1 l1 n1);have HB1:=Lib.hid (HB0.out.trans (hb1.mono HB0.out.size));have HK1:=Lib.hid (HK0.out.old hb1);clear hb1 n1 l1 HI HRF HB0 HK0;go_wp2_with fail
 refine HR1.out.mono ?_;rintro e w2 ⟨A2,c2,D2,e2,rfl,l2,l3,n2,n3,hb2⟩;have hk:=HK1.out.old hb2;have d0:=hk.cell 0;have d1:=hk.cell 1;have d2:=hk.cell 2;have f0:=hk.frozen 0;have f1:=hk.frozen 1;have f2:=hk.frozen 2;have z0:=hk.lt;have HF:=Lib.hid (HFIN.out w2 A2 D2 c2 e2 hk l2 l3 n2 n3 (HB1.out.trans (hb2.mono HB1.out.size)));clear hk hb2 l2 l3 n2 n3 HFIN;go_wp2_with fail
 exact qg Tryz.results95 rfl rfl HF.out.1 Tryz.underlying30 rfl Tryz.sizeRat HF.out.2
def jG(ng:Bool)(ds es:List Nat)(w:World)(e:Ending)(w':World):Prop:=
 ∃(ng':Bool)(ds' es':List Nat)(A:Option Addr)(c:Nat)(D:Option Addr)(cd:Nat),e= .returned (.tuple #[.agg #[.bool ng',.slice A ds'.length c],.agg #[.bool false,.slice D es'.length cd]])∧
  qh w' w'.heap.size A c ds'∧qh w' w'.heap.size D cd es'∧val es'≠0∧mkRat (qb ng' ds') (val es')=mkRat (qb ng ds) (val es)∧ds'.length≤ds.length∧es'.length≤max es.length 1∧Below w.heap.size w w'
theorem QE{P:Program}{fn:Func}{p q:Tmp}{ty:TypeId}(h:fn.results=#[.cell p ty,.cell q ty])(tmps:Array Value)(w:World)(g g':Nat)(t:TypeId)(cs cs':Array Value)(d:TypeDesc)
 (hp:tmps.getD p undef= .pointer (some ⟨g,0,none⟩))(hq:tmps.getD q undef= .pointer (some ⟨g',0,none⟩))(hc:qd w g t cs)(hc':qd w g' t cs')
 (hu:P.underlying ty=some d)(hd:(match d with| .struct _| .array _ _=>true|_=>false)=true)(hi:(P.info? ty).map (·.size)=some cs.size)(hi':(P.info? ty).map (·.size)=some cs'.size):
 (results fn tmps).run P w= .ok (.tuple #[.agg cs,.agg cs']) w:=by
 have hp':tmps[p]?.getD undef= .pointer (some ⟨g,0,none⟩):=by simpa using hp
 have hq':tmps[q]?.getD undef= .pointer (some ⟨g',0,none⟩):=by simpa using hq
 simp[results,h,hp',hq',asAddr,run_loadVar_row w g t ty cs (0,0) d hc hu hd hi,run_loadVar_row w g' t ty cs' (0,0) d hc' hu hd hi']
theorem jG.zero{ng:Bool}{ds es:List Nat}{w w':World}{A:Option Addr}{c:Nat}(hz:val es=0)(hc:1≤c)(hn:qk w' A [1])(hb:Below w.heap.size w w'):
 jG ng ds es w (.returned (.tuple #[.agg #[.bool false,.slice none 0 0],.agg #[.bool false,.slice A 1 c]])) w':=
 ⟨false,[],[1],none,0,A,c,rfl,⟨qi.none_,by simp[qP],Nat.le_refl _⟩,⟨hn.reads,by simp[qP],hc⟩,by simp[val],by rw[hz,Rat.mkRat_zero];simp[qb,val],by simp,by simp;omega,hb⟩
theorem jG.same{ng:Bool}{ds es:List Nat}{w w':World}{A:Option Addr}{c:Nat}{D:Option Addr}{cd:Nat}(hz:val es≠0)(h:qh w' w'.heap.size A c ds)(h':qh w' w'.heap.size D cd es)(hb:Below w.heap.size w w'):
 jG ng ds es w (.returned (.tuple #[.agg #[.bool ng,.slice A ds.length c],.agg #[.bool false,.slice D es.length cd]])) w':=
 ⟨ng,ds,es,A,c,D,cd,rfl,h,h',hz,rfl,Nat.le_refl _,by omega,hb⟩
set_option maxHeartbeats 2000000
theorem zG(ng:Bool)(A:Option Addr)(c B:Nat)(ds:List Nat)(D:Option Addr)(cd:Nat)(es:List Nat)(w:World)(hB:B≤w.heap.size)(h:qh w B A c ds)(h':qh w B D cd es)(hm':es.length≤1000000):
 Calls Tryz.prog 93 #[.agg #[.bool ng,.slice A ds.length c,.slice D es.length cd]] w (jG ng ds es w):=by
 obtain⟨hb0,k0,k1,k2,hs⟩:=jF w 30 25 25 #[.bool ng,.slice A ds.length c,.slice D es.length cd] #[.bool false,.slice none 0 0] #[.bool false,.slice none 0 0];have hZ:=QP D cd B es _ h'.cap hm' (h'.rd.below (hb0.mono hB)) h'.dg;have HK0:=Lib.hid k0;have HK1:=Lib.hid k1;have HK2:=Lib.hid (show qd _ (w.heap.size+1+1) _ _ from k2);have HB0:=Lib.hid hb0;by_cases hz:val es=0
 ·rw[show(val es==0)=true by simp[hz]]at hZ;have HZ:=Lib.hid hZ;have HO:=Lib.hid (fun(W:World)=>JP 1 (by omega) (by omega) W);unfold qy at HO;rw[show(1:Int).natAbs=1 from rfl,qaF,show decide ((1:Int)<0)=false from rfl]at HO;have HPR:=Lib.hid (fun(W:World)(A1:Option Addr)(c1:Nat)(hc:1≤c1)(hn:qk W A1 [1])(hb:Below w.heap.size w W)=>jG.zero (ng:=ng) (ds:=ds) hz hc hn hb);generalize jG ng ds es w=Post at*;generalize ds.length=n at*;generalize es.length=m at*;clear h h' hb0 k0 k1 k2 hs hZ hz hm' hB;go_enter Tryz.func93,Tryz.ntmps93
  go_wp2_with fail
  generalize ((w.alloc (.cells #[.bool ng,.slice A n c,.slice D m cd] 30)).alloc (.cells #[.bool false,.slice none 0 0] 25)).alloc (.cells #[.bool false,.slice none 0 0] 25)=W0 at*;refine HZ.out.mono ?_;rintro e w1 ⟨rfl,rfl⟩;go_wp2_with fail
  refine(HO.out W0).mono ?_;rintro e w2 ⟨A2,c2,rfl,l2,n2,hb2⟩;have hk1:=HK1.out.old hb2;have hk2:=HK2.out.old hb2;obtain⟨x1,x2,xn⟩:=qar hk1 hk2 (Nat.ne_of_lt (Nat.lt_succ_self _)) (.bool false) (.slice none 0 0) (.bool false) (.slice A2 1 c2);have HX1:=Lib.hid x1;have HX2:=Lib.hid x2;have HXN:=Lib.hid (xn _ _ n2);have HL2:=Lib.hid l2;have HBF:=Lib.hid (((((HB0.out.trans (hb2.mono HB0.out.size)).setCell (p:=⟨w.heap.size+1,0,none⟩) (Nat.le_succ _) (.bool false)).setCell (p:=⟨w.heap.size+1,1,none⟩) (Nat.le_succ _) (.slice none 0 0)).setCell (p:=⟨w.heap.size+1+1,0,none⟩) (Nat.le_succ_of_le (Nat.le_succ _)) (.bool false)).setCell (p:=⟨w.heap.size+1+1,1,none⟩) (Nat.le_succ_of_le (Nat.le_succ _)) (.slice A2 1 c2));have d0:=hk1.cell 0;have d1:=hk1.cell 1;have d2:=hk2.cell 0;have d3:=hk2.cell 1;have f0:=hk1.frozen 0;have f1:=hk1.frozen 1;have f2:=hk2.frozen 0;have f3:=hk2.frozen 1;have z0:=hk1.lt;have z1:=hk2.lt;clear hk1 hk2 x1 x2 xn n2 l2 hb2;go_wp2_with fail
  refine bodyPost_ret (QE Tryz.results93 _ _ _ _ _ _ _ _ rfl rfl HX1.out HX2.out Tryz.underlying25 rfl Tryz.sizeInt Tryz.sizeInt) rfl ?_;exact HPR.out _ _ _ HL2.out HXN.out HBF.out
 ·rw[show(val es==0)=false by simp[hz]]at hZ;have HZ:=Lib.hid hZ;have HPR:=Lib.hid (fun(W:World)(hn:qh W W.heap.size A c ds)(hn':qh W W.heap.size D cd es)(hb:Below w.heap.size w W)=>jG.same (ng:=ng) hz hn hn' hb);have HIN:=Lib.hid (fun(W:World)(hW:Below w.heap.size w W)=>And.intro ((h.below (hW.mono hB)).more (Nat.le_trans hB hW.size)) ((h'.below (hW.mono hB)).more (Nat.le_trans hB hW.size)));generalize jG ng ds es w=Post at*;generalize ds.length=n at*;generalize es.length=m at*;clear h h' hb0 k0 k1 k2 hs hZ hz hm' hB;go_enter Tryz.func93,Tryz.ntmps93
  go_wp2_with fail
  generalize ((w.alloc (.cells #[.bool ng,.slice A n c,.slice D m cd] 30)).alloc (.cells #[.bool false,.slice none 0 0] 25)).alloc (.cells #[.bool false,.slice none 0 0] 25)=W0 at*;refine HZ.out.mono ?_;rintro e w1 ⟨rfl,rfl⟩;have hk0:=HK0.out;have hk1:=HK1.out;have hk2:=HK2.out;obtain⟨x1,x2,xn⟩:=qar hk1 hk2 (Nat.ne_of_lt (Nat.lt_succ_self _)) (.bool ng) (.slice A n c) (.bool false) (.slice D m cd);have HX1:=Lib.hid x1;have HX2:=Lib.hid x2;have HBF:=Lib.hid ((((HB0.out.setCell (p:=⟨w.heap.size+1,0,none⟩) (Nat.le_succ _) (.bool ng)).setCell (p:=⟨w.heap.size+1,1,none⟩) (Nat.le_succ _) (.slice A n c)).setCell (p:=⟨w.heap.size+1+1,0,none⟩) (Nat.le_succ_of_le (Nat.le_succ _)) (.bool false)).setCell (p:=⟨w.heap.size+1+1,1,none⟩) (Nat.le_succ_of_le (Nat.le_succ _)) (.slice D m cd));have a0:=hk0.cell 0;have a1:=hk0.cell 1;have a2:=hk0.cell 2;have d0:=hk1.cell 0;have d1:=hk1.cell 1;have d2:=hk2.cell 0;have d3:=hk2.cell 1;have f0:=hk1.frozen 0;have f1:=hk1.frozen 1;have f2:=hk2.frozen 0;have f3:=hk2.frozen 1;have z0:=hk1.lt;have z1:=hk2.lt;clear hk0 hk1 hk2 x1 x2 xn;go_wp2_with fail
  go_region
  go_wp2_with fail
  refine bodyPost_ret (QE Tryz.results93 _ _ _ _ _ _ _ _ rfl rfl HX1.out HX2.out Tryz.underlying25 rfl Tryz.sizeInt Tryz.sizeInt) rfl ?_;have hbd:=HBF.out.trans ((qm.drew _).below _);exact HPR.out _ (HIN.out _ hbd).1 (HIN.out _ hbd).2 hbd
theorem Zr(n:Int){d:Nat}(hd:d≠0):∃k:Nat,k≠0∧n=(mkRat n d).num*k∧d=(mkRat n d).den*k:=by
 obtain⟨k,h1,h2,h3⟩:=Rat.normalize_num_den' n d hd;rw[Rat.normalize_eq_mkRat hd]at h2 h3;exact⟨k,h1,h2,h3⟩
theorem qf3(n:Int){d:Nat}(hd:d≠0):qB (mkRat n d).num=qB n:=by
 obtain⟨k,h1,h2,_⟩:=Zr n hd;have hk:(0:Int)<(k:Int):=by omega
 generalize (mkRat n d).num=z at*;subst h2;unfold qB;rcases Int.lt_trichotomy z 0 with h|h|h
 ·have:=Int.mul_neg_of_neg_of_pos h hk;rw[if_pos h,if_pos this]
 ·subst h;simp
 ·have:=Int.mul_pos h hk;rw[if_neg (by omega),if_neg (by omega),if_neg (by omega),if_neg (by omega)]
theorem qgs(ng:Bool)(A:Option Addr)(c B:Nat)(ds:List Nat)(D:Option Addr)(cd:Nat)(es:List Nat)(w:World)(hB:B≤w.heap.size)(h:qh w B A c ds)(h':qh w B D cd es)(hm:ds.length≤1000000)(hm':es.length≤1000000):
 Calls Tryz.prog 51 #[.agg #[.bool ng,.slice A ds.length c,.slice D es.length cd]] w fun e w'=>e= .returned (.int .i64 (qB (mkRat (qb ng ds) (val es)).num))∧Below w.heap.size w w':=by
 have hb0:=(Below.refl w.heap.size w).alloc (Nat.le_refl _) (.cells #[.bool ng,.slice A ds.length c,.slice D es.length cd] 30);have hp:=zG ng A c B ds D cd es _ (Nat.le_trans hB hb0.size) (h.below (hb0.mono hB)) (h'.below (hb0.mono hB)) hm';unfold jG at hp;have HP:=Lib.hid hp;have HB0:=Lib.hid hb0;have HL:=Lib.hid hm;generalize mkRat (qb ng ds) (val es)=q at*;generalize ds.length=n at*;generalize es.length=m at*;clear h h' hb0 hm hm' hp;go_enter Tryz.func51,Tryz.ntmps51
 go_wp2_with fail
 refine HP.out.mono ?_;rintro e w1 ⟨ng1,ds1,es1,A1,c1,D1,e1,rfl,h1,h2,h3,h4,h5,_,hb1⟩;obtain⟨hbb,k0,k1,_⟩:=qK w1 25 25 #[.bool ng1,.slice A1 ds1.length c1] #[.bool false,.slice D1 es1.length e1];have HS:=Lib.hid (zQ ng1 A1 c1 w1.heap.size ds1 _ hbb.size (h1.below hbb) (by have:=HL.out;omega));have HQ:=Lib.hid (show qB (qb ng1 ds1)=qB q.num by rw[←h4,qf3 _ h3]);have HBB:=Lib.hid ((HB0.out.trans (hb1.mono HB0.out.size)).trans (hbb.mono (Nat.le_trans HB0.out.size hb1.size)));have d0:=k0.cell 0;have d1:=k0.cell 1;clear h1 h2 h3 h4 h5 hb1 hbb k0 k1 HP HB0;generalize ds1.length=n1 at*;generalize es1.length=m1 at*;go_wp2_with fail
 refine HS.out.mono ?_;rintro e w3 ⟨rfl,rfl⟩;go_wp2_with fail
 go_ret
 exact⟨by rw[HQ.out];rfl,HBB.out.alloc HBB.out.size _⟩
end Go.Proofs.YtflikmojaidhhaaGreat
namespace Go.Proofs.YtflikmojaidhhaaGreat
open Go.RowKit
theorem qkE(ng:Bool)(A D:Option Addr)(c cd B:Nat)(ds es:List Nat)(w:World)(hB:B≤w.heap.size)(h:qh w B A c ds)(h':qh w B D cd es)(hm:ds.length≤400000)(hm':es.length≤400000):
 Calls Tryz.prog 133 #[.agg #[.bool ng,.slice A ds.length c],.agg #[.bool false,.slice D es.length cd]] w fun e w'=>∃A c,e= .returned (.agg #[.bool false,.slice A (dig (Nat.gcd (val ds) (val es))).length c])∧(dig (Nat.gcd (val ds) (val es))).length≤c∧qk w' A (dig (Nat.gcd (val ds) (val es)))∧Below w.heap.size w w':=by
 refine(qfu ng false A D c cd B ds es w hB h h' hm hm').mono ?_;rintro e w' ⟨A1,c1,h1,h2,h3,h4⟩;have e0:decide (((Nat.gcd (val ds) (val es):Nat):Int)<0)=false:=by simp
 rw[e0,Int.natAbs_natCast]at h1;rw[Int.natAbs_natCast]at h2 h3;exact⟨A1,c1,h1,h2,h3,h4⟩
theorem qkz{ng:Bool}{ds es:List Nat}(hz:val es≠0):qb (!ng==false) (dig (val ds/val (dig (Nat.gcd (val ds) (val es)))))=(mkRat (qb ng ds) (val es)).num:=by
 have hg:Nat.gcd (val ds) (val es)≠0:=Nat.gcd_ne_zero_right hz;have h1:=qbh (ng:=ng) (ng':=false) (ds:=ds) (es:=dig (Nat.gcd (val ds) (val es)));have e1:qb false (dig (Nat.gcd (val ds) (val es)))=((Nat.gcd (val ds) (val es):Nat):Int):=by unfold qb;rw[if_neg (by simp),qp]
 rw[e1]at h1;have h2:=(h1 (by rw[←Int.natAbs_dvd_natAbs,qz,Int.natAbs_natCast];exact Nat.gcd_dvd_left _ _) (by omega)).1;rw[h2,Rat.num_mkRat,if_neg hz,qz,Nat.gcd_comm]
theorem qjH{ng:Bool}{ds es:List Nat}(hz:val es≠0):qb (!false==false) (dig (val es/val (dig (Nat.gcd (val ds) (val es)))))=(((mkRat (qb ng ds) (val es)).den:Nat):Int):=by
 rw[Rat.den_mkRat,if_neg hz,qz,Nat.gcd_comm (val es),qp];unfold qb;rw[if_neg (by simp),qp]
theorem qkV(ng ng':Bool)(A A':Option Addr)(c c' B:Nat)(ds es:List Nat)(w:World)(z:Int)(hB:B≤w.heap.size)(h:qh w B A c ds)(h':qh w B A' c' es)(hm:ds.length≤400000)(hm':es.length≤400000)(hy:val es≠0)(hz:qb (!ng==ng') (dig (val ds/val es))=z):
 Calls Tryz.prog 134 #[.agg #[.bool ng,.slice A ds.length c],.agg #[.bool ng',.slice A' es.length c']] w fun e w'=>∃A c r,e= .returned (.tuple #[.agg #[.bool (decide (z<0)),.slice A (dig z.natAbs).length c],r,.int .i64 0])∧(dig z.natAbs).length≤c∧qk w' A (dig z.natAbs)∧Below w.heap.size w w':=by
 refine(qfE ng ng' A A' c c' B ds es w hB h h' hm hm' hy).mono ?_;rintro e w' ⟨A1,c1,A2,c2,h1,h2,h3,h4,h5,h6⟩;rw[hz]at h1 h2 h4;exact⟨A1,c1,_,h1,h2,h4,h6⟩
set_option maxHeartbeats 2000000
set_option maxRecDepth 100000
theorem qai(ng:Bool)(A:Option Addr)(c B:Nat)(ds:List Nat)(D:Option Addr)(cd:Nat)(es:List Nat)(w:World)(hB:B≤w.heap.size)(h:qh w B A c ds)(h':qh w B D cd es)(hm:ds.length≤400000)(hm':es.length≤400000)(hz:val es≠0):
 Calls Tryz.prog 112 #[.agg #[.bool ng,.slice A ds.length c],.agg #[.bool false,.slice D es.length cd]] w (qN (mkRat (qb ng ds) (val es)) w):=by
 obtain⟨hb0,k0,k1,k2,hs⟩:=jF w 25 25 30 #[.bool ng,.slice A ds.length c] #[.bool false,.slice D es.length cd] #[.bool false,.slice none 0 0,.slice none 0 0];have HG:=Lib.hid (qkE ng A D c cd B ds es _ (Nat.le_trans hB hb0.size) (h.below (hb0.mono hB)) (h'.below (hb0.mono hB)) hm hm');have hgl:(dig (Nat.gcd (val ds) (val es))).length≤400000:=Nat.le_trans (Jr (Nat.gcd_le_right _ (by omega))) (Nat.le_trans (qo h'.dg) hm');have hg0:val (dig (Nat.gcd (val ds) (val es)))≠0:=by rw[qp];exact Nat.gcd_ne_zero_right hz
 have HQ1:=Lib.hid (fun(W:World)(Ag:Option Addr)(cg:Nat)(hW:Below w.heap.size w W)(hc:(dig (Nat.gcd (val ds) (val es))).length≤cg)(hn:qk W Ag (dig (Nat.gcd (val ds) (val es))))=>
  qkV ng false A Ag c cg W.heap.size ds _ W _ (Nat.le_refl _) ((h.below (hW.mono hB)).more (Nat.le_trans hB hW.size)) (qV hn hc) hm hgl hg0 (qkz hz))
 have HQ2:=Lib.hid (fun(W:World)(Ag:Option Addr)(cg:Nat)(hW:Below w.heap.size w W)(hc:(dig (Nat.gcd (val ds) (val es))).length≤cg)(hn:qk W Ag (dig (Nat.gcd (val ds) (val es))))=>
  qkV false false D Ag cd cg W.heap.size es _ W _ (Nat.le_refl _) ((h'.below (hW.mono hB)).more (Nat.le_trans hB hW.size)) (qV hn hc) hm' hgl hg0 (qjH (ng:=ng) (ds:=ds) hz))
 generalize mkRat (qb ng ds) (val es)=q at*;rw[Int.natAbs_natCast,show decide (((q.den:Nat):Int)<0)=false by simp]at HQ2;generalize Nat.gcd (val ds) (val es)=G at*;have HFIN:=Lib.hid (fun(w2:World)(A D:Option Addr)(c cd:Nat)(hk:qd w2 (w.heap.size+1+1) 30 #[.bool false,.slice none 0 0,.slice none 0 0]) l1 l2 n1 n2 hb=>qaP (q:=q) (w:=w) (w2:=w2) (g:=w.heap.size+1+1) (A:=A) (D:=D) (c:=c) (cd:=cd) hk (Nat.le_succ_of_le (Nat.le_succ _)) l1 l2 n1 n2 hb);have HB0:=Lib.hid hb0;have HK0:=Lib.hid k0;have HK1:=Lib.hid k1;have HK2:=Lib.hid (show qd _ (w.heap.size+1+1) _ _ from k2);generalize qN q w=Post at*;clear h h' hb0 k0 k1 k2 hs hm hm' hz hgl hg0;generalize ds.length=n at*;generalize es.length=m at*;go_enter Tryz.func112,Tryz.ntmps112
 go_wp2_with fail
 generalize ((w.alloc (.cells #[.bool ng,.slice A n c] 25)).alloc (.cells #[.bool false,.slice D m cd] 25)).alloc (.cells #[.bool false,.slice none 0 0,.slice none 0 0] 30)=W0 at*;refine HG.out.mono ?_;rintro e w1 ⟨Ag,cg,rfl,lg,ng1,hb1⟩;have hal:=(Below.refl w1.heap.size w1).alloc (Nat.le_refl _) (.cells #[.bool false,.slice Ag (dig G).length cg] 25);have hb1a:=hb1.trans (hal.mono hb1.size);have HB1:=Lib.hid (HB0.out.trans (hb1a.mono HB0.out.size));have hj0:=HK0.out.old hb1a;have hj1:=HK1.out.old hb1a;have HJ2:=Lib.hid (HK2.out.old hb1a);have hjg:=qd.new w1 25 #[.bool false,.slice Ag (dig G).length cg];have HNG:=Lib.hid (ng1.old hal);have HLG:=Lib.hid lg;have HLT:=Lib.hid (show w.heap.size+1+1<w1.heap.size from(HK2.out.old hb1).lt);clear hb1 hal hb1a ng1 lg HG HK0 HK1 HK2 HB0;go_upto_region 2 with(fail)
 generalize w1.alloc (.cells #[.bool false,.slice Ag (dig G).length cg] 25)=W1 at*;generalize w1.heap.size=gg at*;have HQ1':=Lib.hid (HQ1.out W1 Ag cg HB1.out HLG.out HNG.out);have HJ0:=Lib.hid hj0;have HJ1:=Lib.hid hj1;have HJG:=Lib.hid hjg;have a0:=hj0.cell 0;have a1:=hj0.cell 1;have b0:=hjg.cell 0;have b1:=hjg.cell 1;clear hj0 hj1 hjg HQ1;go_wp2_with fail
 refine HQ1'.out.mono ?_;rintro e w2 ⟨A2,c2,r2,rfl,l2,n2,hb2⟩;have hj0:=HJ0.out.old hb2;have hj1:=HJ1.out.old hb2;have hj2:=HJ2.out.old hb2;have hjg:=HJG.out.old hb2;have f0:=hj0.frozen 0;have f1:=hj0.frozen 1;have d0:=hj0.cell 0;have d1:=hj0.cell 1;have z0:=hj0.lt;have HP0:=Lib.hid ((hj0.set_ 0 (.bool (decide (q.num<0)))).set_ 1 (.slice A2 (dig q.num.natAbs).length c2));have HP1:=Lib.hid ((hj1.far (p:=⟨w.heap.size,0,none⟩) (show w.heap.size+1≠w.heap.size by omega) (.bool (decide (q.num<0)))).far (p:=⟨w.heap.size,1,none⟩) (show w.heap.size+1≠w.heap.size by omega) (.slice A2 (dig q.num.natAbs).length c2));have HP2:=Lib.hid ((hj2.far (p:=⟨w.heap.size,0,none⟩) (show w.heap.size+1+1≠w.heap.size by omega) (.bool (decide (q.num<0)))).far (p:=⟨w.heap.size,1,none⟩) (show w.heap.size+1+1≠w.heap.size by omega) (.slice A2 (dig q.num.natAbs).length c2));have HPG:=Lib.hid ((hjg.far (p:=⟨w.heap.size,0,none⟩) (show gg≠w.heap.size by have:=HLT.out;omega) (.bool (decide (q.num<0)))).far (p:=⟨w.heap.size,1,none⟩) (show gg≠w.heap.size by have:=HLT.out;omega) (.slice A2 (dig q.num.natAbs).length c2));have HN2:=Lib.hid (n2.store2 hj0 (by decide) (.bool (decide (q.num<0))) (.slice A2 (dig q.num.natAbs).length c2));have HNG2:=Lib.hid ((HNG.out.old hb2).store2 hj0 (by decide) (.bool (decide (q.num<0))) (.slice A2 (dig q.num.natAbs).length c2));have HL2:=Lib.hid l2;have HB2:=Lib.hid (((HB1.out.trans (hb2.mono HB1.out.size)).setCell (p:=⟨w.heap.size,0,none⟩) (Nat.le_refl _) (.bool (decide (q.num<0)))).setCell (p:=⟨w.heap.size,1,none⟩) (Nat.le_refl _) (.slice A2 (dig q.num.natAbs).length c2));clear hj0 hj1 hj2 hjg l2 n2 hb2 HJ0 HJ1 HJ2 HJG HNG HQ1' HB1 a0 a1 b0 b1;go_upto_region 3 with(fail)
 generalize (w2.setCell ⟨w.heap.size,0,none⟩ (.bool (decide (q.num<0)))).setCell ⟨w.heap.size,1,none⟩ (.slice A2 (dig q.num.natAbs).length c2)=W2 at*;have HQ2':=Lib.hid (HQ2.out W2 Ag cg HB2.out HLG.out HNG2.out);clear HQ2 f0 f1 d0 d1 z0;have a0:=HP1.out.cell 0;have a1:=HP1.out.cell 1;have b0:=HPG.out.cell 0;have b1:=HPG.out.cell 1;go_wp2_with fail
 refine HQ2'.out.mono ?_;rintro e w3 ⟨A3,c3,r3,rfl,l3,n3,hb3⟩;have hj0:=HP0.out.old hb3;have hj1:=HP1.out.old hb3;have hj2:=HP2.out.old hb3;have f0:=hj1.frozen 0;have f1:=hj1.frozen 1;have d0:=hj1.cell 0;have d1:=hj1.cell 1;have z0:=hj1.lt;have HS0:=Lib.hid ((hj0.far (p:=⟨w.heap.size+1,0,none⟩) (show w.heap.size≠w.heap.size+1 by omega) (.bool false)).far (p:=⟨w.heap.size+1,1,none⟩) (show w.heap.size≠w.heap.size+1 by omega) (.slice A3 (dig q.den).length c3));have HS1:=Lib.hid ((hj1.set_ 0 (.bool false)).set_ 1 (.slice A3 (dig q.den).length c3));have HS2:=Lib.hid ((hj2.far (p:=⟨w.heap.size+1,0,none⟩) (show w.heap.size+1+1≠w.heap.size+1 by omega) (.bool false)).far (p:=⟨w.heap.size+1,1,none⟩) (show w.heap.size+1+1≠w.heap.size+1 by omega) (.slice A3 (dig q.den).length c3));have HN3:=Lib.hid (n3.store2 hj1 (by decide) (.bool false) (.slice A3 (dig q.den).length c3));have HN2':=Lib.hid ((HN2.out.old hb3).store2 hj1 (by decide) (.bool false) (.slice A3 (dig q.den).length c3));have HL3:=Lib.hid l3;have HB3:=Lib.hid (((HB2.out.trans (hb3.mono HB2.out.size)).setCell (p:=⟨w.heap.size+1,0,none⟩) (Nat.le_succ _) (.bool false)).setCell (p:=⟨w.heap.size+1,1,none⟩) (Nat.le_succ _) (.slice A3 (dig q.den).length c3));clear hj0 hj1 hj2 l3 n3 hb3 HP0 HP1 HP2 HPG HN2 HNG2 HQ2' HB2 a0 a1 b0 b1;go_upto_region 4 with(fail)
 generalize (w3.setCell ⟨w.heap.size+1,0,none⟩ (.bool false)).setCell ⟨w.heap.size+1,1,none⟩ (.slice A3 (dig q.den).length c3)=W3 at*;clear f0 f1 d0 d1 z0;have a0:=HS0.out.cell 0;have a1:=HS0.out.cell 1;have b1:=HS1.out.cell 1;have f0:=HS2.out.frozen 0;have f1:=HS2.out.frozen 1;have f2:=HS2.out.frozen 2;have d0:=HS2.out.cell 0;have d1:=HS2.out.cell 1;have d2:=HS2.out.cell 2;have z0:=HS2.out.lt;have HF:=Lib.hid (HFIN.out W3 A2 A3 c2 c3 HS2.out HL2.out HL3.out HN2'.out HN3.out HB3.out);clear HFIN;go_wp2_with fail
 exact qg Tryz.results112 rfl rfl HF.out.1 Tryz.underlying30 rfl Tryz.sizeRat HF.out.2
end Go.Proofs.YtflikmojaidhhaaGreat
namespace Go.Proofs.YtflikmojaidhhaaGreat
open Go.RowKit
structure YS (w w':World) (g:Nat):Prop where
 other:∀g' t cs,g'≠g→qd w g' t cs→qd w' g' t cs
 below:∀B b,Below B b w→B≤g→Below B b w'
theorem YS.refl(w:World)(g:Nat):YS w w g:=⟨fun _ _ _ _ h=>h,fun _ _ h _=>h⟩
theorem YS.set{w w':World}{g:Nat}(h:YS w w' g)(k:Nat)(v:Value):YS w (w'.setCell ⟨g,k,none⟩ v) g:=
 ⟨fun g' t cs hg hb=>(h.other g' t cs hg hb).far hg _,fun B b hb hB=>(h.below B b hb hB).setCell hB _⟩
structure qg3 (zs:List Nat) (n i c X:Nat):Prop where
 len:zs.length=n
 dg:qP zs
 sum:val zs+4294967296^i*c=X
 carry:c≤1
theorem qg3.step{zs:List Nat}{n i c X y:Nat}(h:qg3 zs n i c X)(hi:i<n)(hy:y<4294967296):
 qg3 (zs.set i ((zs.getD i 0+y+c)%4294967296)) n (i+1) ((zs.getD i 0+y+c)/4294967296) (X+4294967296^i*y):=by
 have hc:=h.carry;have hz:=jR h.dg i;refine⟨by simp[h.len],fun d hd=>?_,?_,by omega⟩
 ·rcases List.mem_or_eq_of_mem_set hd with hd|rfl
  ·exact h.dg d hd
  ·exact Nat.mod_lt _ (by decide)
 ·have hv:=Jb (ds:=zs) (k:=i) (by rw[h.len];exact hi) ((zs.getD i 0+y+c)%4294967296);have h0:=h.sum;obtain⟨s,hs⟩:∃s,s=(zs.getD i 0+y+c)%4294967296:=⟨_,rfl⟩;obtain⟨o,ho⟩:∃o,o=(zs.getD i 0+y+c)/4294967296:=⟨_,rfl⟩;rw[←hs]at hv ⊢;rw[←ho];have e:zs.getD i 0+y+c=s+4294967296*o:=by omega
  clear hs ho;generalize zs.getD i 0=z at*;have e2:4294967296^i*(z+y+c)=4294967296^i*(s+4294967296*o):=by rw[e]
  rw[Nat.mul_add,Nat.mul_add,Nat.mul_add,←Nat.mul_assoc]at e2;rw[Nat.pow_succ];omega
def qli(w:World)(g:Nat)(A:Option Addr)(es:List Nat):Prop:=
 es=[]∨∃h xs,A=some ⟨h,0,none⟩∧h≠g∧qd w h 134 (qf xs).toArray∧es=xs.take es.length
theorem qjz{w wr:World}{g:Nat}{A:Option Addr}{es:List Nat}(h:qli w g A es)(hi:YS w wr g){k:Nat}(hk:k<es.length):
 ∃b,A=some ⟨b,0,none⟩∧b<wr.heap.size∧wr.cell? ⟨b,k,none⟩=some (.int .u32 ((es.getD k 0:Nat):Int)):=by
 rcases h with rfl|⟨b,xs,rfl,hg,hb,he⟩
 ·simp at hk
 ·have hb2:=hi.other _ _ _ hg hb;have hl:es.length≤xs.length:=by
   have:=congrArg List.length he;rw[List.length_take]at this;omega
  refine⟨b,rfl,hb2.lt,?_⟩;rw[hb2.cell k];refine(jn xs k (by omega)).trans ?_;have e:es.getD k 0=xs.getD k 0:=by
   rw[List.getD_eq_getElem?_getD,List.getD_eq_getElem?_getD]
   conv=>lhs;rw[he]
   rw[List.getElem?_take];simp[hk]
  rw[e]
set_option maxHeartbeats 2000000
set_option maxRecDepth 100000
theorem Zo(g o m cz:Nat)(zs:List Nat)(A:Option Addr)(c:Nat)(es:List Nat)(w:World)(hm:o+m=zs.length)(hl:zs.length≤1000000)(hem:es.length≤m)
 (hz:qd w g 134 (qf zs).toArray)(gz:qP zs)(ge:qP es)(hx:qli w g A es)(hfit:val zs+4294967296^o*val es<4294967296^zs.length):
 Calls Tryz.prog 149 #[.slice (some ⟨g,o,none⟩) m cz,.slice A es.length c] w fun e w'=>e= .returned (.tuple #[])∧YS w w' g∧∃zs',zs'.length=zs.length∧qP zs'∧val zs'=val zs+4294967296^o*val es∧qd w' g 134 (qf zs').toArray:=by
 have GE:=Lib.hid ge;have HX:=Lib.hid hx;have HFIT:=Lib.hid hfit;have HST0:=Lib.hid (show qg3 zs zs.length (o+0) 0 (val zs+4294967296^o*val (es.take 0))from⟨rfl,gz,by simp[val],by omega⟩);have HZ0:=Lib.hid hz;clear ge hx hfit gz hz;go_enter Tryz.func149,Tryz.ntmps149
 go_wp2_with fail
 go_loopg [4,5,6,10] es.length (fun gn cy _ _ j wr=>∃(k:Nat)(zt:List Nat)(q:Nat),k≤es.length∧gn=es.length-k∧j= .int .i64 k∧cy= .int .u32 (q:Int)∧qg3 zt zs.length (o+k) q (val zs+4294967296^o*val (es.take k))∧qd wr g 134 (qf zt).toArray∧YS w wr g)
 case atStart=>exact⟨0,zs,0,Nat.zero_le _,rfl,rfl,rfl,HST0.out,HZ0.out,YS.refl _ _⟩
 case round=>
  clear HST0 HZ0;obtain⟨k,zt,q,hk,hgk,rfl,rfl,hst,hzb,hin⟩:=hrel;have HG:=Lib.hid hgk;clear hgk;have hq:=hst.carry;by_cases hlt:k<es.length
  ·obtain⟨b1,rfl,q1,c1⟩:=qjz HX.out hin hlt;have hy:=jR GE.out k;have HT:=Lib.hid (qx (ds:=es) (k:=k) hlt);have hzl:o+k<zt.length:=by rw[hst.len];omega
   have c3:wr.cell? ⟨g,o+k,none⟩=some (.int .u32 ((zt.getD (o+k) 0:Nat):Int)):=(hzb.cell (o+k)).trans (jn _ _ hzl);have hzz:=jR hst.dg (o+k);have f3:=hzb.frozen (o+k);have z1:=hzb.lt;generalize es.getD k 0=y at*;have HN:=Lib.hid (hst.step (by omega) hy);have HA:=Lib.hid (yu (zt.getD (o+k) 0) y q hzz hy hq);generalize zt.getD (o+k) 0=z at*;generalize (z+y+q)%4294967296=s at*;generalize (z+y+q)/4294967296=cy at*;have HZB:=Lib.hid hzb;have HIN:=Lib.hid hin;clear hst hzb hin hzz hy;have i1:(k:Int)<es.length:=by omega
   have i2:(k:Int)<(m:Int):=by omega
   go_wp2_with fail
   refine(HA.out _).mono ?_;rintro e w1 ⟨rfl,rfl⟩;go_wp2_with fail
   go_roundg (es.length-(k+1))
   case rel=>
    refine⟨k+1,zt.set (o+k) s,cy,by omega,rfl,by go_num,rfl,?_,?_,HIN.out.set _ _⟩
    ·have h:=HN.out;rw[HT.out,Nat.mul_add,←Nat.mul_assoc,←Nat.pow_add];rw[Nat.add_assoc (val zs)]at h;exact h
    ·rw[←je];exact HZB.out.set_ (o+k) _
   case measure=>have:=HG.out;omega
  ·obtain rfl:k=es.length:=by omega
   rw[List.take_length]at hst;have HST0:=Lib.hid hst;clear hst;go_wp2_with fail
   go_loopg [4,7] (m-es.length) (fun gn cy i wr=>∃(k:Nat)(zt:List Nat)(q:Nat),es.length≤k∧k≤m∧gn=m-k∧i= .int .i64 k∧cy= .int .u32 (q:Int)∧qg3 zt zs.length (o+k) q (val zs+4294967296^o*val es)∧qd wr g 134 (qf zt).toArray∧YS w wr g)
   case atStart=>exact⟨es.length,zt,q,Nat.le_refl _,hem,rfl,rfl,rfl,HST0.out,hzb,hin⟩
   case round=>
    clear HST0 hzb hin hq HG;obtain⟨k,zt,q,hek,hk,hgk,rfl,rfl,hst,hzb,hin⟩:=hrel;have HG:=Lib.hid hgk;clear hgk;have hq:=hst.carry;by_cases hq0:q=0
    ·subst hq0;have HST:=Lib.hid hst;have HZB:=Lib.hid hzb;have HIN:=Lib.hid hin;clear hst hzb hin;go_wp2_with fail
     first|(refine bodyPost_end (v:= .tuple #[]) (results_none rfl _ _ _) rfl ?_)|(refine bodyPost_ret (v:= .tuple #[]) (results_none rfl _ _ _) rfl ?_)
     refine⟨rfl,?_⟩;exact⟨HIN.out,zt,HST.out.len,HST.out.dg,by have:=HST.out.sum;rw[Nat.mul_zero,Nat.add_zero]at this;exact this,HZB.out⟩
    ·obtain rfl:q=1:=by omega
     by_cases hlt:k<m
     ·have hzl:o+k<zt.length:=by rw[hst.len];omega
      have c3:wr.cell? ⟨g,o+k,none⟩=some (.int .u32 ((zt.getD (o+k) 0:Nat):Int)):=(hzb.cell (o+k)).trans (jn _ _ hzl);have hzz:=jR hst.dg (o+k);have f3:=hzb.frozen (o+k);have z1:=hzb.lt;have HN:=Lib.hid (hst.step (y:=0) (by omega) (by omega));have HA:=Lib.hid (yu (zt.getD (o+k) 0) 0 1 hzz (by omega) (by omega));generalize zt.getD (o+k) 0=z at*;generalize (z+0+1)%4294967296=s at*;generalize (z+0+1)/4294967296=cy at*;have HZB:=Lib.hid hzb;have HIN:=Lib.hid hin;clear hst hzb hin hzz;have i2:(k:Int)<(m:Int):=by omega
      go_wp2_with fail
      refine(HA.out _).mono ?_;rintro e w1 ⟨rfl,rfl⟩;go_wp2_with fail
      go_roundg (m-(k+1))
      case rel=>
       refine⟨k+1,zt.set (o+k) s,cy,by omega,by omega,rfl,by go_num,rfl,?_,?_,HIN.out.set _ _⟩
       ·have h:=HN.out;rw[Nat.mul_zero,Nat.add_zero]at h;exact h
       ·rw[←je];exact HZB.out.set_ (o+k) _
      case measure=>have:=HG.out;omega
     ·exfalso;obtain rfl:k=m:=by omega
      have h:=hst.sum;have h2:=HFIT.out;rw[hm]at h;omega
theorem j9{w:World}{B b o c:Nat}{l:List Nat}(h:qh w B (some ⟨b,o,none⟩) c l){k:Nat}(hk:k≤l.length):qh w B (some ⟨b,o,none⟩) c (l.take k):=by
 refine⟨⟨by simp[qf],fun hp=>?_⟩,fun d hd=>h.dg d (List.mem_of_mem_take hd),?_⟩
 ·rw[List.length_take]at hp;obtain⟨b1,o1,e,hb,hc⟩:=h.rd.2 (by omega);refine⟨b1,o1,e,hb,fun j u hu=>hc j u ?_⟩;simp[qf,List.getElem?_take]at hu ⊢;exact hu.2
 ·have:=h.cap;rw[List.length_take];omega
theorem j8{w:World}{B b o c:Nat}{l:List Nat}(h:qh w B (some ⟨b,o,none⟩) c l){k:Nat}(hk:k≤l.length):qh w B (some ⟨b,o+k,none⟩) (c-k) (l.drop k):=by
 refine⟨⟨by simp[qf],fun hp=>?_⟩,fun d hd=>h.dg d (List.mem_of_mem_drop hd),?_⟩
 ·rw[List.length_drop]at hp;obtain⟨b1,o1,e,hb,hc⟩:=h.rd.2 (by omega)
  injection e with e;injection e with e1 e2 _;subst e1;subst e2
  refine⟨b,o+k,rfl,hb,fun j u hu=>?_⟩;rw[Nat.add_assoc];refine hc (k+j) u ?_;simp[qf,List.getElem?_drop]at hu ⊢;exact hu
 ·have:=h.cap;rw[List.length_drop];omega
theorem qfO{a b:List Nat}(ha:qP a)(hb:qP b):qP (a++b):=fun d hd=>by
 rcases List.mem_append.1 hd with h|h
 ·exact ha d h
 ·exact hb d h
theorem qi8(n:Nat):qP (List.replicate n 0):=fun d hd=>by have:=List.eq_of_mem_replicate hd;omega
theorem zR(l:List Nat):(qf l).length=l.length:=by simp[qf]
theorem qc6(zs xs:List Nat)(o:Nat):splice (qf zs) o (qf xs)=qf (zs.take o++xs++zs.drop (o+xs.length)):=by
 simp[splice,qf,List.map_take,List.map_drop]
theorem qhO(al ah bl bh:Nat):(al+ah)*(bl+bh)-(al*bl+ah*bh)=al*bh+ah*bl∧al*bl+ah*bh≤(al+ah)*(bl+bh):=by
 have e:(al+ah)*(bl+bh)=al*bl+ah*bh+(al*bh+ah*bl):=by
  rw[Nat.add_mul,Nat.mul_add,Nat.mul_add];omega
 omega
theorem qhx(al ah bl bh P:Nat):al*bl+P*P*(ah*bh)+P*(al*bh+ah*bl)=(al+P*ah)*(bl+P*bh):=by
 rw[Nat.add_mul,Nat.mul_add,Nat.mul_add,Nat.mul_add];have e1:al*(P*bh)=P*(al*bh):=Nat.mul_left_comm _ _ _;have e2:P*ah*bl=P*(ah*bl):=Nat.mul_assoc _ _ _;have e3:P*ah*(P*bh)=P*P*(ah*bh):=Nat.mul_mul_mul_comm _ _ _ _;rw[e1,e2,e3];omega
theorem qbn{P m n k v:Nat}(hP:P=4294967296^k)(hn:n=k+m)(h:P*v<4294967296^n):v<4294967296^m:=by
 rw[hn,Nat.pow_add,←hP]at h;exact Nat.lt_of_mul_lt_mul_left h
theorem qfC{b g:Nat}{w:World}{A:Option Addr}{ds:List Nat}(h:zE b w A ds)(hg:g<b):qli w g A ds:=by
 rcases h with rfl|⟨k,zs,rfl,hk,hb,he⟩
 ·exact .inl rfl
 ·exact .inr ⟨k,zs,rfl,by omega,hb,he⟩
def qjk(w:World)(B n X:Nat)(u v:Value):Prop:=
 ∃(A A':Option Addr)(c c':Nat)(a b:List Nat),u= .slice A a.length c∧v= .slice A' b.length c'∧b.length≤a.length∧a.length+b.length=n∧qh w B A c a∧qh w B A' c' b∧val a*val b=X
def qhV(n:Nat):Prop:=∀(A A':Option Addr)(c c' B:Nat)(a b:List Nat)(w:World),a.length+b.length<n→B≤w.heap.size→qh w B A c a→qh w B A' c' b→
 Calls Tryz.prog 135 #[.slice A a.length c,.slice A' b.length c'] w (QW (a.length+b.length) (val a*val b) w)
theorem zE.into{b g:Nat}{w w':World}{A:Option Addr}{ds:List Nat}(h:zE b w A ds)(hg:g<b)(hi:YS w w' g):zE b w' A ds:=by
 rcases h with rfl|⟨k,zs,rfl,hk,hb,he⟩
 ·exact .inl rfl
 ·exact .inr ⟨k,zs,rfl,hk,hi.other _ _ _ (by omega) hb,he⟩
theorem yO{P:Program}{w:World}{ops:Array Oper}{rest:List Oper}{o:Oper}{a:Act}{Q:Exit→Act→World→Prop}(hgd:o.guard=none)(d s:Operand)(dT sT:TypeId)
 (ho:o.op= .call {callee:= .builtin .copy,args:=#[d,s],argTypes:=#[dT,sT]})(elem:TypeId)(hu:P.underlying dT=some (.slice elem))(hsz:(P.info? elem).map (·.size)=some 1)
 (dp sp:Option Addr)(dLen dCap sLen sCap:Nat)(hd:a.eval d= .slice dp dLen dCap)(hs:a.eval s= .slice sp sLen sCap)
 (g off:Nat)(cur:List Value)(t:TypeId)(hg:qd w g t cur.toArray)(cs:List Value)(hn:cs.length=Nat.min sLen dLen)
 (hpos:0<cs.length→dp=some ⟨g,off,none⟩∧∃ad,sp=some ad∧∀j v,cs[j]? =some v→w.cell? (ad.add j)=some v)
 (hfit:off+cs.length≤cur.length)(h1:∀v∈cs,v.oneCell'=true)
 (h:∀w',Hid (qd w' g t (splice cur off cs).toArray)→YS w w' g→wpList P ops Q rest (a.put o.dst (goInt cs.length)) w'):
 wpList P ops Q (o::rest) a w:=by
 by_cases h0:cs.length=0
 ·obtain rfl:cs=[]:=List.eq_nil_of_length_eq_zero h0;refine wpList_copy_nothing hgd d s dT sT ho elem hu hsz dp sp dLen dCap sLen sCap hd hs (by simpa using hn.symm) ?_;exact h w (show qd _ _ _ _ by simpa[splice]using hg) (YS.refl _ _)
 ·obtain⟨rfl,ad,rfl,hsrc⟩:=hpos (by omega);refine wpList_copy_own hgd d s dT sT ho elem hu hsz g off dLen dCap ad sLen sCap hd hs cur.toArray t hg cs hn hsrc (by simpa using hfit) h1 ?_;refine h _ (show _=_ by simpa[splice]using setRow_heap w g _ _ t _ hg) ⟨fun g' t' cs' hne hb=>(setRow_other w g g' _ hne).trans hb,fun B b hb hB=>below_setRow hb hB _⟩
theorem qhv{w:World}{A:Option Addr}{c:Nat}{ds:List Nat}(h:qk w A ds)(hd:qP ds)(hc:ds.length≤c):qh w w.heap.size A c ds:=⟨h.reads,hd,hc⟩
theorem qc7{z1 z2:List Nat}{n h:Nat}(h1:z1.length=h)(h2:z2.length=n-h)(hn:h≤n):splice (qf (z1++List.replicate (n-h) 0)) h (qf z2)=qf (z1++z2):=by
 rw[qc6]
 congr 1
 subst h1;rw[List.take_left,List.append_assoc]
 congr 1
 rw[List.drop_of_length_le (by rw[List.length_append,List.length_replicate,h2];omega),List.append_nil]
