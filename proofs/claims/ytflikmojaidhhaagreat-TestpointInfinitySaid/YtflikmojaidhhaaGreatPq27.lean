import Derived.Test.YtflikmojaidhhaaGreatPq26
namespace Go.Proofs.YtflikmojaidhhaaGreat
open Go.RowKit
theorem qhg{w V:World}{g base:Nat}{T:RP}{A K:Option Addr}{c kc:Nat}(hk:qd V g 28 #[.int .i64 0,.bool false,.slice none 0 0,.slice none 0 0])(hr:RB V base T (qc T A c K kc))(hg:g<base)(hw:w.heap.size≤g)(hb:Below w.heap.size w V):
 qd (jl V g 0 (.int .i64 T.lv) (.bool T.ng) (.slice A T.ds.length c) (.slice K T.ks.length kc)) g 28 #[.int .i64 T.lv,.bool T.ng,.slice A T.ds.length c,.slice K T.ks.length kc]∧
 q8 T w (.returned (qn T A c K kc)) (jl V g 0 (.int .i64 T.lv) (.bool T.ng) (.slice A T.ds.length c) (.slice K T.ks.length kc)):=by
 obtain⟨s1,s2,s3⟩:=jt (k:=0) hk (.int .i64 T.lv) (.bool T.ng) (.slice A T.ds.length c) (.slice K T.ks.length kc);exact⟨s1,A,c,K,kc,rfl,RB.mono (RB.keep (base':=base) hr s2 (fun j ds hg' hj=>s3 j ds (by omega) hj) (Nat.le_refl _)) (by omega),qe hb hw _ _ _ _⟩
set_option maxHeartbeats 1000000
set_option maxRecDepth 100000
theorem qjw(w:World):Calls Tryz.prog 58 #[.int .i64 0] w (q8 (ju 0) w):=by
 have HB0:=Lib.hid ((Below.refl w.heap.size w).alloc (Nat.le_refl _) (.cells #[.int .i64 0,.bool false,.slice none 0 0,.slice none 0 0] 28));have HK0:=Lib.hid (qd.new w 28 #[.int .i64 0,.bool false,.slice none 0 0,.slice none 0 0]);have HO:=Lib.hid (fun W=>JP 0 (by omega) (by omega) W);have HCO:=Lib.hid (fun(A:Option Addr)(c:Nat)(ds:List Nat)(W:World)(h:qh W W.heap.size A c ds)(hm:ds.length≤1000000)=>qaM false A c W.heap.size ds W (Nat.le_refl _) h hm);go_enter Tryz.func58,Tryz.ntmps58
 go_upto_region 1 with(fail)
 generalize w.alloc (.cells #[.int .i64 0,.bool false,.slice none 0 0,.slice none 0 0] 28)=W at*;go_wp2_with fail
 refine(HO.out _).mono ?_;rintro e w2 hr;unfold qy at hr;rw[show(0:Int).natAbs=0 from rfl,qt]at hr;obtain⟨A1,c1,rfl,hc1,hn1,hb2⟩:=hr;rw[show decide ((0:Int)<0)=false from rfl];have HC1:=Lib.hid (HCO.out A1 c1 [] w2 ⟨⟨rfl,fun hp=>absurd hp (Nat.lt_irrefl 0)⟩,by simp[qP],hc1⟩ (by simp));have HB2:=Lib.hid hb2;rw[show qb false []=0 from rfl]at HC1;unfold q8 at HC1;clear hc1 hn1 hb2 HO HCO;go_wp2_with fail
 refine HC1.out.mono ?_;rintro e w3 ⟨A3,c3,K3,kc3,rfl,hr3,hb3⟩;have hb23:=HB2.out.trans (hb3.mono HB2.out.size);have kk:=HK0.out.old hb23;have HFN:=Lib.hid (qhg (w:=w) kk hr3 (Nat.lt_of_lt_of_le HK0.out.lt HB2.out.size) (Nat.le_refl _) (HB0.out.trans (hb23.mono HB0.out.size)));have f0:=kk.frozen 0;have f1:=kk.frozen 1;have f2:=kk.frozen 2;have f3:=kk.frozen 3;have d0:=kk.cell 0;have d1:=kk.cell 1;have d2:=kk.cell 2;have d3:=kk.cell 3;have z0:=kk.lt;clear kk hr3 hb3 hb23 HC1 HB2 HB0 HK0;unfold qn;generalize ju 0=T at*;go_wp2_with fail
 refine qg Tryz.results58 rfl rfl HFN.out.1 Tryz.underlying28 rfl Tryz.sizeRec HFN.out.2
theorem qg5{W:World}{S:Nat→Prop}{g:Nat}{t:TypeId}{cs:Array Value}(hk:qd W g t cs)(hcs:∀x:Int,Value.int .u32 x∉cs){T:RP}(hks:T.ks=[]){A:Option Addr}{c:Nat}{K:Option Addr}{kc:Nat}(h:RV W S T (qc T A c K kc)):RV W (fun b=>S b∧b≠g) T (qc T A c K kc):=by
 cases T with
 |mk lv ng ds ks=>
  have hks':ks=[]:=hks;subst hks';obtain⟨h1,h2,h3,h4⟩:=h.node;unfold RV;refine⟨A,c,K,kc,rfl,⟨h1.1,fun hp=>?_⟩,h2,h3,h4,[],⟨rfl,fun hp=>absurd hp (Nat.lt_irrefl 0)⟩,by unfold qH;rfl⟩;obtain⟨b',o,e,hS,hx⟩:=h1.2 hp;refine⟨b',o,e,⟨hS,fun hb=>?_⟩,hx⟩;subst hb;have hp':0<ds.length:=hp;have hd:(qf ds)[0]? =some (.int .u32 (ds[0]:Nat)):=by simp[qf,hp']
  have:=hx 0 _ hd;rw[Nat.add_zero,hk.cell]at this;exact hcs _ (Array.mem_of_getElem? this)
theorem qfs:zU 400 qA:=zU.of_can Yk (show qM 1 5 qA by simp[qA,qM,Jd]) (by omega)
theorem qhQ(A:Option Addr)(c:Nat)(K:Option Addr)(kc:Nat)(V:World)(h:RV V (· <V.heap.size) qA (qc qA A c K kc)):
 Calls Tryz.prog 33 #[.agg #[.int .i64 qA.lv,.bool qA.ng,.slice A qA.ds.length c,.slice K qA.ks.length kc],.int .i64 4] V (fun e w'=>∃A c K kc,e= .returned (.agg #[.int .i64 1,.int .i64 0,.int .i64 0,.bool false,.slice A 0 c,.slice K 0 kc,.slice none 0 0])∧Below V.heap.size V w'):=by
 refine(ZV 400 (by omega) 4 qA qfs (by rw[qw Yk];exact(show qM 1 5 qA by simp[qA,qM,Jd]).sm (by omega) (by omega)) A c K kc V.heap.size V (Nat.le_refl _) h).mono ?_;rintro e w' ⟨_,M,hM,_,A2,c2,K2,k2,rfl,_,hb⟩;unfold QR at hM;rw[show qq qA=qA from qw Yk]at hM;rcases hM with⟨_,rfl⟩|⟨h,_⟩
 ·rw[show qif 4 (qB (qb qA.ng qA.ds))=true by simp[qA,RP.ng,RP.ds,qb,val,qif,qB]];exact⟨A2,c2,K2,k2,rfl,hb⟩
 ·exact absurd rfl h
def ql1(W:World)(u:Value)(wc:World):Prop:=∃g9,u= .pointer (some ⟨g9,0,none⟩)∧Below W.heap.size W wc∧qd wc g9 44 zM
theorem J9{W V:World}{g9:Nat}(hb:Below W.heap.size W V)(b9:qd V g9 44 qip)(e9:W.heap.size≤g9):
 ql1 W (.pointer (some ⟨g9,0,none⟩)) (Jh V g9 (.int .i64 1) (.int .i64 0) (.int .i64 0) (.bool false) (.slice none 0 0) (.slice none 0 0) (.slice none 0 0)):=by
 obtain⟨s1,s2,s3⟩:=JX b9 (.int .i64 1) (.int .i64 0) (.int .i64 0) (.bool false) (.slice none 0 0) (.slice none 0 0) (.slice none 0 0);exact⟨g9,rfl,hb.trans (s3 _ e9),s1⟩
def qim(w:World)(e:Ending)(w':World):Prop:=∃(cs:Array Value)(A:Option Addr)(c:Nat)(K:Option Addr)(k:Nat),cs.size=24∧e= .returned (.agg cs)∧cs.all (·.oneCell')=true∧cs[0]? =some (.int .i64 2)∧
 cs[13]? =some (.int .i64 qA.lv)∧cs[14]? =some (.bool qA.ng)∧cs[15]? =some (.slice A qA.ds.length c)∧cs[16]? =some (.slice K qA.ks.length k)∧RV w' (· <w'.heap.size) qA (qc qA A c K k)∧Below w.heap.size w w'
def qlX(W:World)(u v:Value)(wc:World):Prop:=∃(g7 g8:Nat)(A1:Option Addr)(c1:Nat)(K1:Option Addr)(k1:Nat)(A0:Option Addr)(c0:Nat)(K0:Option Addr)(k0:Nat),u= .pointer (some ⟨g7,0,none⟩)∧v= .pointer (some ⟨g8,0,none⟩)∧Below W.heap.size W wc∧
 qd wc g7 28 #[.int .i64 qA.lv,.bool qA.ng,.slice A1 qA.ds.length c1,.slice K1 qA.ks.length k1]∧qd wc g8 28 #[.int .i64 qa.lv,.bool qa.ng,.slice A0 qa.ds.length c0,.slice K0 qa.ks.length k0]∧
 RV wc (· <wc.heap.size) qA (qc qA A1 c1 K1 k1)∧RV wc (· <wc.heap.size) qa (qc qa A0 c0 K0 k0)
theorem ym{W V:World}{g7 g8:Nat}{A1 K1 A0 K0:Option Addr}{c1 k1 c0 k0:Nat}(hb:Below W.heap.size W V)(b7:qd V g7 28 #[.int .i64 0,.bool false,.slice none 0 0,.slice none 0 0])(b8:qd V g8 28 #[.int .i64 0,.bool false,.slice none 0 0,.slice none 0 0])(e7:W.heap.size≤g7)(e8:W.heap.size≤g8)(hne:g7≠g8)
 (r1:RV V (· <V.heap.size) qA (qc qA A1 c1 K1 k1))(r0:RV V (· <V.heap.size) qa (qc qa A0 c0 K0 k0)):
 qlX W (.pointer (some ⟨g7,0,none⟩)) (.pointer (some ⟨g8,0,none⟩)) (jl (jl V g7 0 (.int .i64 qA.lv) (.bool qA.ng) (.slice A1 qA.ds.length c1) (.slice K1 qA.ks.length k1)) g8 0 (.int .i64 qa.lv) (.bool qa.ng) (.slice A0 qa.ds.length c0) (.slice K0 qa.ks.length k0)):=by
 have key:∀{T:RP} {A K:Option Addr} {c k:Nat},T.ks=[]→RV V (· <V.heap.size) T (qc T A c K k)→∀(x0 x1 x2 x3 y0 y1 y2 y3:Value),RV (jl (jl V g7 0 x0 x1 x2 x3) g8 0 y0 y1 y2 y3) (· <(jl (jl V g7 0 x0 x1 x2 x3) g8 0 y0 y1 y2 y3).heap.size) T (qc T A c K k):=fun hks hr x0 x1 x2 x3 y0 y1 y2 y3=>
  RV.mono (fun b h=>by rw[jQ,jQ];exact h.1.1) _ _ (RV.keep (fun b hb' o=>(set4_far _ (Ne.symm hb'.2) 0 o _ _ _ _).trans (set4_far V (Ne.symm hb'.1.2) 0 o _ _ _ _)) _ _ (Z6 b8 hks (Z6 b7 hks hr)))
 obtain⟨s7,_,_⟩:=jt (k:=0) b7 (.int .i64 qA.lv) (.bool qA.ng) (.slice A1 qA.ds.length c1) (.slice K1 qA.ks.length k1);have b8':=b8.set4_far (Ne.symm hne) 0 (.int .i64 qA.lv) (.bool qA.ng) (.slice A1 qA.ds.length c1) (.slice K1 qA.ks.length k1);obtain⟨s8,_,_⟩:=jt (k:=0) b8' (.int .i64 qa.lv) (.bool qa.ng) (.slice A0 qa.ds.length c0) (.slice K0 qa.ks.length k0);exact⟨g7,g8,A1,c1,K1,k1,A0,c0,K0,k0,rfl,rfl,qe (qe hb e7 _ _ _ _) e8 _ _ _ _,qd.set4_far s7 hne 0 _ _ _ _,s8,key rfl r1 _ _ _ _ _ _ _ _,key rfl r0 _ _ _ _ _ _ _ _⟩
theorem qeR(A:Option Addr)(c:Nat)(Kp:Option Addr)(kc B:Nat)(w:World)(hB:B≤w.heap.size)(h:RV w (· <B) (jB 1) (qc (jB 1) A c Kp kc)):
 Calls Tryz.prog 28 #[qn (jB 1) A c Kp kc,.int .i64 1,.agg zM] w (qim w):=by
 have hrv:qn (jB 1) A c Kp kc= .agg #[.int .i64 1,.bool false,.slice A 0 c,.slice Kp 2 kc]:=rfl;obtain⟨hb0,k0,k1,k2,hs⟩:=jF w 28 44 46 #[.int .i64 1,.bool false,.slice A 0 c,.slice Kp 2 kc] zM #[.int .i64 0,.int .i64 0,.bool false,.slice none 0 0,.slice none 0 0,.int .i64 0,.bool false,.slice none 0 0,.slice none 0 0,.int .i64 0,.bool false,.slice none 0 0,.slice none 0 0,.int .i64 0,.bool false,.slice none 0 0,.slice none 0 0,.int .i64 0,.int .i64 0,.int .i64 0,.bool false,.slice none 0 0,.slice none 0 0,.slice none 0 0];have HC1:=Lib.hid (fun(W V:World)(hW:Below w.heap.size w W)(hV:Below W.heap.size W V)=>show Calls Tryz.prog 29 #[qn (jB 1) A c Kp kc,.int .i64 1,.int .i64 1] V (qan qA V)from qbu 1 (by omega) qA rfl A c Kp kc B V (Nat.le_trans hB (Nat.le_trans hW.size hV.size)) (h.below ((hW.trans (hV.mono hW.size)).mono hB)));have HC0:=Lib.hid (fun(W V:World)(hW:Below w.heap.size w W)(hV:Below W.heap.size W V)=>show Calls Tryz.prog 29 #[qn (jB 1) A c Kp kc,.int .i64 1,.int .i64 0] V (qan qa V)from qbu 0 (by omega) qa rfl A c Kp kc B V (Nat.le_trans hB (Nat.le_trans hW.size hV.size)) (h.below ((hW.trans (hV.mono hW.size)).mono hB)));have HB0:=Lib.hid hb0;have HK0:=Lib.hid k0;have HK1:=Lib.hid k1;have HK2:=Lib.hid k2;rw[hrv]at HC1 HC0 ⊢;clear h hrv hb0 k0 k1 k2 hs hB;unfold qan qn at HC1 HC0;generalize htc:zM=tc at*;go_enter Tryz.func28,Tryz.ntmps28
 go_upto_region 1 with(fail)
 subst htc;generalize ((w.alloc (.cells #[.int .i64 1,.bool false,.slice A 0 c,.slice Kp 2 kc] 28)).alloc (.cells zM 44)).alloc (.cells #[.int .i64 0,.int .i64 0,.bool false,.slice none 0 0,.slice none 0 0,.int .i64 0,.bool false,.slice none 0 0,.slice none 0 0,.int .i64 0,.bool false,.slice none 0 0,.slice none 0 0,.int .i64 0,.bool false,.slice none 0 0,.slice none 0 0,.int .i64 0,.int .i64 0,.int .i64 0,.bool false,.slice none 0 0,.slice none 0 0,.slice none 0 0] 46)=W at*;have KF:=Lib.hid (fun(V:World)(hV:Below W.heap.size W V)=>(⟨(HK0.out.old hV).cell 0,(HK0.out.old hV).cell 1,(HK0.out.old hV).cell 2,(HK0.out.old hV).cell 3⟩:
  V.cell? ⟨w.heap.size,0,none⟩=some (.int .i64 1)∧V.cell? ⟨w.heap.size,1,none⟩=some (.bool false)∧V.cell? ⟨w.heap.size,2,none⟩=some (.slice A 0 c)∧V.cell? ⟨w.heap.size,3,none⟩=some (.slice Kp 2 kc)))
 replace HC1:=Lib.hid (fun(V:World)(hV:Below W.heap.size W V)=>HC1.out W V HB0.out hV)
 replace HC0:=Lib.hid (fun(V:World)(hV:Below W.heap.size W V)=>HC0.out W V HB0.out hV)
 have hb:Below W.heap.size W W.drew:=(qm.drew _).below _;go_cut [7,8] (fun u v wc=>qlX W u v wc)
 case first=>
  refine wp_region_held_drew (S:=fun w'=>w'.cell? ⟨w.heap.size,0,none⟩=some (.int .i64 1)∧w'.cell? ⟨w.heap.size,1,none⟩=some (.bool false)∧w'.cell? ⟨w.heap.size,2,none⟩=some (.slice A 0 c)∧w'.cell? ⟨w.heap.size,3,none⟩=some (.slice Kp 2 kc)) (by kernel_rfl) (KF.out _ hb) (fun hHeld=>?_);refine wpAnyH_take (i:=0) (v:=?v0) (by simp only[List.getElem?_toArray,List.getElem?_cons_zero];rfl) (by kernel_rfl) (by kernel_rfl) (by kernel_rfl) (by exact fun _ _ _ h=>h) (Or.inl ⟨by rfl,?hy0⟩) (by assumption) ?rest0
  case hy0=>(intro w0 hSw;(try dsimp only at hSw);go_simp;(first|done|(with_reducible rfl)))
  simp only[Act.put,List.setIfInBounds_toArray,List.set_cons_zero,List.set_cons_succ];refine wpAnyH_take (i:=1) (v:=?v1) (by simp only[List.getElem?_toArray,List.getElem?_cons_succ,List.getElem?_cons_zero];rfl) (by kernel_rfl) (by kernel_rfl) (by kernel_rfl) (by exact fun _ _ _ h=>h) (Or.inl ⟨by rfl,?hy1⟩) (by assumption) ?rest1
  case hy1=>(intro w0 hSw;(try dsimp only at hSw);go_simp;(first|done|(with_reducible rfl)))
  simp only[Act.put,List.setIfInBounds_toArray,List.set_cons_zero,List.set_cons_succ];refine wpAnyH_take (i:=3) (v:=?v3) (by simp only[List.getElem?_toArray,List.getElem?_cons_succ,List.getElem?_cons_zero];rfl) (by kernel_rfl) (by kernel_rfl) (by kernel_rfl) (by exact fun _ _ _ h=>h) (Or.inl ⟨by rfl,?hy3⟩) (by assumption) ?rest3
  case hy3=>(intro w0 hSw;(try dsimp only at hSw);go_simp;(first|done|(with_reducible rfl)))
  simp only[Act.put,List.setIfInBounds_toArray,List.set_cons_zero,List.set_cons_succ];refine wpAnyH_take (i:=4) (v:=?v4) (by simp only[List.getElem?_toArray,List.getElem?_cons_succ,List.getElem?_cons_zero];rfl) (by kernel_rfl) (by kernel_rfl) (by kernel_rfl) (by exact fun _ _ _ h=>h) (Or.inl ⟨by rfl,?hy4⟩) (by assumption) ?rest4
  case hy4=>(intro w0 hSw;(try dsimp only at hSw);go_simp;(first|done|(with_reducible rfl)))
  simp only[Act.put,List.setIfInBounds_toArray,List.set_cons_zero,List.set_cons_succ];generalize W.drew=V0 at*;refine wpAnyH_ready (rs:=[2,6,7]) (by kernel_rfl) (by simp) ?_;refine AllReadyH.cons (by simp only[List.getElem?_toArray,List.getElem?_cons_succ,List.getElem?_cons_zero];rfl) (fun P hP=>?rx2) (AllReadyH.cons (by simp only[List.getElem?_toArray,List.getElem?_cons_succ,List.getElem?_cons_zero];rfl) (fun P hP=>?rx6) (AllReadyH.cons (by simp only[List.getElem?_toArray,List.getElem?_cons_succ,List.getElem?_cons_zero];rfl) (fun P hP=>?rx7) (AllReadyH.nil)))
  case rx2=>
   go_simp
   go_at_call 29
   refine(HC1.out _ hb).mono ?_;rintro e V1 ⟨A1,c1,K1,k1,rfl,r1,st⟩
   replace hb:=hb.trans (st.mono hb.size)
   clear st;refine hP.out _ _ (KF.out _ hb) (fun hHeld=>?_);clear hP P
   (try simp only[Act.put,List.setIfInBounds_toArray,List.set_cons_zero,List.set_cons_succ])
   refine wpAnyH_ready (rs:=[5,6,7]) (by kernel_rfl) (by simp) ?_;refine AllReadyH.cons (by simp only[List.getElem?_toArray,List.getElem?_cons_succ,List.getElem?_cons_zero];rfl) (fun P hP=>?r2x5) (AllReadyH.cons (by simp only[List.getElem?_toArray,List.getElem?_cons_succ,List.getElem?_cons_zero];rfl) (fun P hP=>?r2x6) (AllReadyH.cons (by simp only[List.getElem?_toArray,List.getElem?_cons_succ,List.getElem?_cons_zero];rfl) (fun P hP=>?r2x7) (AllReadyH.nil)))
   case r2x5=>
    go_simp
    go_at_call 29
    refine(HC0.out _ hb).mono ?_;rintro e V2 ⟨A0,c0,K0,k0,rfl,r0,st⟩
    replace hb:=hb.trans (st.mono hb.size)
    replace r1:=(r1.below st).more st.size
    clear st;refine hP.out _ _ (KF.out _ hb) (fun hHeld=>?_);clear hP P
    (try simp only[Act.put,List.setIfInBounds_toArray,List.set_cons_zero,List.set_cons_succ])
    refine wpAnyH_ready (rs:=[6,7]) (by kernel_rfl) (by simp) ?_;refine AllReadyH.cons (by simp only[List.getElem?_toArray,List.getElem?_cons_succ,List.getElem?_cons_zero];rfl) (fun P hP=>?r25x6) (AllReadyH.cons (by simp only[List.getElem?_toArray,List.getElem?_cons_succ,List.getElem?_cons_zero];rfl) (fun P hP=>?r25x7) (AllReadyH.nil))
    case r25x6=>
     go_simp
     have st:=(Below.refl V2.heap.size V2).alloc (Nat.le_refl _) (.cells #[.int .i64 0,.bool false,.slice none 0 0,.slice none 0 0] 28);have bA:=qd.new V2 28 #[.int .i64 0,.bool false,.slice none 0 0,.slice none 0 0];have geA:=hb.size
     replace hb:=hb.trans (st.mono hb.size)
     replace r1:=(r1.below st).more st.size
     replace r0:=(r0.below st).more st.size
     clear st;generalize V2.alloc (.cells #[.int .i64 0,.bool false,.slice none 0 0,.slice none 0 0] 28)=V3 at*;generalize V2.heap.size=gA at*;refine hP.out _ _ (KF.out _ hb) (fun hHeld=>?_);clear hP P
     (try simp only[Act.put,List.setIfInBounds_toArray,List.set_cons_zero,List.set_cons_succ])
     refine wpAnyH_ready (rs:=[7]) (by kernel_rfl) (by simp) ?_;refine AllReadyH.cons (by simp only[List.getElem?_toArray,List.getElem?_cons_succ,List.getElem?_cons_zero];rfl) (fun P hP=>?r256x7) (AllReadyH.nil)
     case r256x7=>
      go_simp
      have st:=(Below.refl V3.heap.size V3).alloc (Nat.le_refl _) (.cells #[.int .i64 0,.bool false,.slice none 0 0,.slice none 0 0] 28);have bB:=qd.new V3 28 #[.int .i64 0,.bool false,.slice none 0 0,.slice none 0 0];have geB:=hb.size;have hne:gA≠V3.heap.size:=Nat.ne_of_lt bA.lt;have hne2:=Ne.symm hne
      replace hb:=hb.trans (st.mono hb.size)
      replace r1:=(r1.below st).more st.size
      replace r0:=(r0.below st).more st.size
      replace bA:=bA.old st
      clear st;generalize V3.alloc (.cells #[.int .i64 0,.bool false,.slice none 0 0,.slice none 0 0] 28)=V4 at*;generalize V3.heap.size=gB at*;refine hP.out _ _ (KF.out _ hb) (fun hHeld=>?_);clear hP P
      (try simp only[Act.put,List.setIfInBounds_toArray,List.set_cons_zero,List.set_cons_succ])
      have d0:=bA.cell 0;have d1:=bA.cell 1;have d2:=bA.cell 2;have d3:=bA.cell 3;have df0:=bA.frozen 0;have df1:=bA.frozen 1;have df2:=bA.frozen 2;have df3:=bA.frozen 3;have dz:=bA.lt;refine wpAnyH_ready (rs:=[8]) (by kernel_rfl) (by simp) ?_;refine AllReadyH.cons (by simp only[List.getElem?_toArray,List.getElem?_cons_succ,List.getElem?_cons_zero];rfl) (fun P hP=>?_) AllReadyH.nil;go_simp
      refine hP.out _ _ (KF.out _ (qe hb geA _ _ _ _)) (fun hHeld=>?_);clear hP P
      (try simp only[Act.put,List.setIfInBounds_toArray,List.set_cons_zero,List.set_cons_succ])
      have e0:=bB.cell 0;have e1:=bB.cell 1;have e2:=bB.cell 2;have e3:=bB.cell 3;have ef0:=bB.frozen 0;have ef1:=bB.frozen 1;have ef2:=bB.frozen 2;have ef3:=bB.frozen 3;have ez:=bB.lt;refine wpAnyH_ready (rs:=[9]) (by kernel_rfl) (by simp) ?_;refine AllReadyH.cons (by simp only[List.getElem?_toArray,List.getElem?_cons_succ,List.getElem?_cons_zero];rfl) (fun P hP=>?_) AllReadyH.nil;go_simp
      refine hP.out _ _ (KF.out _ (qe (qe hb geA _ _ _ _) geB _ _ _ _)) (fun hHeld=>?_);clear hP P
      (try simp only[Act.put,List.setIfInBounds_toArray,List.set_cons_zero,List.set_cons_succ])
      refine wpAnyH_done (by kernel_rfl) ?_ _;go_wp2_with fail
      go_meet
      exact ym hb bA bB geA geB hne r1 r0
    case r25x7=>
     go_simp
     have st:=(Below.refl V2.heap.size V2).alloc (Nat.le_refl _) (.cells #[.int .i64 0,.bool false,.slice none 0 0,.slice none 0 0] 28);have bB:=qd.new V2 28 #[.int .i64 0,.bool false,.slice none 0 0,.slice none 0 0];have geB:=hb.size
     replace hb:=hb.trans (st.mono hb.size)
     replace r1:=(r1.below st).more st.size
     replace r0:=(r0.below st).more st.size
     clear st;generalize V2.alloc (.cells #[.int .i64 0,.bool false,.slice none 0 0,.slice none 0 0] 28)=V3 at*;generalize V2.heap.size=gB at*;refine hP.out _ _ (KF.out _ hb) (fun hHeld=>?_);clear hP P
     (try simp only[Act.put,List.setIfInBounds_toArray,List.set_cons_zero,List.set_cons_succ])
     refine wpAnyH_ready (rs:=[6]) (by kernel_rfl) (by simp) ?_;refine AllReadyH.cons (by simp only[List.getElem?_toArray,List.getElem?_cons_succ,List.getElem?_cons_zero];rfl) (fun P hP=>?r257x6) (AllReadyH.nil)
     case r257x6=>
      go_simp
      have st:=(Below.refl V3.heap.size V3).alloc (Nat.le_refl _) (.cells #[.int .i64 0,.bool false,.slice none 0 0,.slice none 0 0] 28);have bA:=qd.new V3 28 #[.int .i64 0,.bool false,.slice none 0 0,.slice none 0 0];have geA:=hb.size;have hne2:gB≠V3.heap.size:=Nat.ne_of_lt bB.lt;have hne:=Ne.symm hne2
      replace hb:=hb.trans (st.mono hb.size)
      replace r1:=(r1.below st).more st.size
      replace r0:=(r0.below st).more st.size
      replace bB:=bB.old st
      clear st;generalize V3.alloc (.cells #[.int .i64 0,.bool false,.slice none 0 0,.slice none 0 0] 28)=V4 at*;generalize V3.heap.size=gA at*;refine hP.out _ _ (KF.out _ hb) (fun hHeld=>?_);clear hP P
      (try simp only[Act.put,List.setIfInBounds_toArray,List.set_cons_zero,List.set_cons_succ])
      have d0:=bA.cell 0;have d1:=bA.cell 1;have d2:=bA.cell 2;have d3:=bA.cell 3;have df0:=bA.frozen 0;have df1:=bA.frozen 1;have df2:=bA.frozen 2;have df3:=bA.frozen 3;have dz:=bA.lt;refine wpAnyH_ready (rs:=[8]) (by kernel_rfl) (by simp) ?_;refine AllReadyH.cons (by simp only[List.getElem?_toArray,List.getElem?_cons_succ,List.getElem?_cons_zero];rfl) (fun P hP=>?_) AllReadyH.nil;go_simp
      refine hP.out _ _ (KF.out _ (qe hb geA _ _ _ _)) (fun hHeld=>?_);clear hP P
      (try simp only[Act.put,List.setIfInBounds_toArray,List.set_cons_zero,List.set_cons_succ])
      have e0:=bB.cell 0;have e1:=bB.cell 1;have e2:=bB.cell 2;have e3:=bB.cell 3;have ef0:=bB.frozen 0;have ef1:=bB.frozen 1;have ef2:=bB.frozen 2;have ef3:=bB.frozen 3;have ez:=bB.lt;refine wpAnyH_ready (rs:=[9]) (by kernel_rfl) (by simp) ?_;refine AllReadyH.cons (by simp only[List.getElem?_toArray,List.getElem?_cons_succ,List.getElem?_cons_zero];rfl) (fun P hP=>?_) AllReadyH.nil;go_simp
      refine hP.out _ _ (KF.out _ (qe (qe hb geA _ _ _ _) geB _ _ _ _)) (fun hHeld=>?_);clear hP P
      (try simp only[Act.put,List.setIfInBounds_toArray,List.set_cons_zero,List.set_cons_succ])
      refine wpAnyH_done (by kernel_rfl) ?_ _;go_wp2_with fail
      go_meet
      exact ym hb bA bB geA geB hne r1 r0
   case r2x6=>
    go_simp
    have st:=(Below.refl V1.heap.size V1).alloc (Nat.le_refl _) (.cells #[.int .i64 0,.bool false,.slice none 0 0,.slice none 0 0] 28);have bA:=qd.new V1 28 #[.int .i64 0,.bool false,.slice none 0 0,.slice none 0 0];have geA:=hb.size
    replace hb:=hb.trans (st.mono hb.size)
    replace r1:=(r1.below st).more st.size
    clear st;generalize V1.alloc (.cells #[.int .i64 0,.bool false,.slice none 0 0,.slice none 0 0] 28)=V2 at*;generalize V1.heap.size=gA at*;refine hP.out _ _ (KF.out _ hb) (fun hHeld=>?_);clear hP P
    (try simp only[Act.put,List.setIfInBounds_toArray,List.set_cons_zero,List.set_cons_succ])
    refine wpAnyH_ready (rs:=[5,7]) (by kernel_rfl) (by simp) ?_;refine AllReadyH.cons (by simp only[List.getElem?_toArray,List.getElem?_cons_succ,List.getElem?_cons_zero];rfl) (fun P hP=>?r26x5) (AllReadyH.cons (by simp only[List.getElem?_toArray,List.getElem?_cons_succ,List.getElem?_cons_zero];rfl) (fun P hP=>?r26x7) (AllReadyH.nil))
    case r26x5=>
     go_simp
     go_at_call 29
     refine(HC0.out _ hb).mono ?_;rintro e V3 ⟨A0,c0,K0,k0,rfl,r0,st⟩
     replace hb:=hb.trans (st.mono hb.size)
     replace r1:=(r1.below st).more st.size
     replace bA:=bA.old st
     clear st;refine hP.out _ _ (KF.out _ hb) (fun hHeld=>?_);clear hP P
     (try simp only[Act.put,List.setIfInBounds_toArray,List.set_cons_zero,List.set_cons_succ])
     refine wpAnyH_ready (rs:=[7]) (by kernel_rfl) (by simp) ?_;refine AllReadyH.cons (by simp only[List.getElem?_toArray,List.getElem?_cons_succ,List.getElem?_cons_zero];rfl) (fun P hP=>?r265x7) (AllReadyH.nil)
     case r265x7=>
      go_simp
      have st:=(Below.refl V3.heap.size V3).alloc (Nat.le_refl _) (.cells #[.int .i64 0,.bool false,.slice none 0 0,.slice none 0 0] 28);have bB:=qd.new V3 28 #[.int .i64 0,.bool false,.slice none 0 0,.slice none 0 0];have geB:=hb.size;have hne:gA≠V3.heap.size:=Nat.ne_of_lt bA.lt;have hne2:=Ne.symm hne
      replace hb:=hb.trans (st.mono hb.size)
      replace r1:=(r1.below st).more st.size
      replace bA:=bA.old st
      replace r0:=(r0.below st).more st.size
      clear st;generalize V3.alloc (.cells #[.int .i64 0,.bool false,.slice none 0 0,.slice none 0 0] 28)=V4 at*;generalize V3.heap.size=gB at*;refine hP.out _ _ (KF.out _ hb) (fun hHeld=>?_);clear hP P
      (try simp only[Act.put,List.setIfInBounds_toArray,List.set_cons_zero,List.set_cons_succ])
      have d0:=bA.cell 0;have d1:=bA.cell 1;have d2:=bA.cell 2;have d3:=bA.cell 3;have df0:=bA.frozen 0;have df1:=bA.frozen 1;have df2:=bA.frozen 2;have df3:=bA.frozen 3;have dz:=bA.lt;refine wpAnyH_ready (rs:=[8]) (by kernel_rfl) (by simp) ?_;refine AllReadyH.cons (by simp only[List.getElem?_toArray,List.getElem?_cons_succ,List.getElem?_cons_zero];rfl) (fun P hP=>?_) AllReadyH.nil;go_simp
      refine hP.out _ _ (KF.out _ (qe hb geA _ _ _ _)) (fun hHeld=>?_);clear hP P
      (try simp only[Act.put,List.setIfInBounds_toArray,List.set_cons_zero,List.set_cons_succ])
      have e0:=bB.cell 0;have e1:=bB.cell 1;have e2:=bB.cell 2;have e3:=bB.cell 3;have ef0:=bB.frozen 0;have ef1:=bB.frozen 1;have ef2:=bB.frozen 2;have ef3:=bB.frozen 3;have ez:=bB.lt;refine wpAnyH_ready (rs:=[9]) (by kernel_rfl) (by simp) ?_;refine AllReadyH.cons (by simp only[List.getElem?_toArray,List.getElem?_cons_succ,List.getElem?_cons_zero];rfl) (fun P hP=>?_) AllReadyH.nil;go_simp
      refine hP.out _ _ (KF.out _ (qe (qe hb geA _ _ _ _) geB _ _ _ _)) (fun hHeld=>?_);clear hP P
      (try simp only[Act.put,List.setIfInBounds_toArray,List.set_cons_zero,List.set_cons_succ])
      refine wpAnyH_done (by kernel_rfl) ?_ _;go_wp2_with fail
      go_meet
      exact ym hb bA bB geA geB hne r1 r0
    case r26x7=>
     go_simp
     have st:=(Below.refl V2.heap.size V2).alloc (Nat.le_refl _) (.cells #[.int .i64 0,.bool false,.slice none 0 0,.slice none 0 0] 28);have bB:=qd.new V2 28 #[.int .i64 0,.bool false,.slice none 0 0,.slice none 0 0];have geB:=hb.size;have hne:gA≠V2.heap.size:=Nat.ne_of_lt bA.lt;have hne2:=Ne.symm hne
     replace hb:=hb.trans (st.mono hb.size)
     replace r1:=(r1.below st).more st.size
     replace bA:=bA.old st
     clear st;generalize V2.alloc (.cells #[.int .i64 0,.bool false,.slice none 0 0,.slice none 0 0] 28)=V3 at*;generalize V2.heap.size=gB at*;refine hP.out _ _ (KF.out _ hb) (fun hHeld=>?_);clear hP P
     (try simp only[Act.put,List.setIfInBounds_toArray,List.set_cons_zero,List.set_cons_succ])
     refine wpAnyH_ready (rs:=[5]) (by kernel_rfl) (by simp) ?_;refine AllReadyH.cons (by simp only[List.getElem?_toArray,List.getElem?_cons_succ,List.getElem?_cons_zero];rfl) (fun P hP=>?r267x5) (AllReadyH.nil)
     case r267x5=>
      go_simp
      go_at_call 29
      refine(HC0.out _ hb).mono ?_;rintro e V4 ⟨A0,c0,K0,k0,rfl,r0,st⟩
      replace hb:=hb.trans (st.mono hb.size)
      replace r1:=(r1.below st).more st.size
      replace bA:=bA.old st
      replace bB:=bB.old st
      clear st;refine hP.out _ _ (KF.out _ hb) (fun hHeld=>?_);clear hP P
      (try simp only[Act.put,List.setIfInBounds_toArray,List.set_cons_zero,List.set_cons_succ])
      have d0:=bA.cell 0;have d1:=bA.cell 1;have d2:=bA.cell 2;have d3:=bA.cell 3;have df0:=bA.frozen 0;have df1:=bA.frozen 1;have df2:=bA.frozen 2;have df3:=bA.frozen 3;have dz:=bA.lt;refine wpAnyH_ready (rs:=[8]) (by kernel_rfl) (by simp) ?_;refine AllReadyH.cons (by simp only[List.getElem?_toArray,List.getElem?_cons_succ,List.getElem?_cons_zero];rfl) (fun P hP=>?_) AllReadyH.nil;go_simp
      refine hP.out _ _ (KF.out _ (qe hb geA _ _ _ _)) (fun hHeld=>?_);clear hP P
      (try simp only[Act.put,List.setIfInBounds_toArray,List.set_cons_zero,List.set_cons_succ])
      have e0:=bB.cell 0;have e1:=bB.cell 1;have e2:=bB.cell 2;have e3:=bB.cell 3;have ef0:=bB.frozen 0;have ef1:=bB.frozen 1;have ef2:=bB.frozen 2;have ef3:=bB.frozen 3;have ez:=bB.lt;refine wpAnyH_ready (rs:=[9]) (by kernel_rfl) (by simp) ?_;refine AllReadyH.cons (by simp only[List.getElem?_toArray,List.getElem?_cons_succ,List.getElem?_cons_zero];rfl) (fun P hP=>?_) AllReadyH.nil;go_simp
      refine hP.out _ _ (KF.out _ (qe (qe hb geA _ _ _ _) geB _ _ _ _)) (fun hHeld=>?_);clear hP P
      (try simp only[Act.put,List.setIfInBounds_toArray,List.set_cons_zero,List.set_cons_succ])
      refine wpAnyH_done (by kernel_rfl) ?_ _;go_wp2_with fail
      go_meet
      exact ym hb bA bB geA geB hne r1 r0
   case r2x7=>
    go_simp
    have st:=(Below.refl V1.heap.size V1).alloc (Nat.le_refl _) (.cells #[.int .i64 0,.bool false,.slice none 0 0,.slice none 0 0] 28);have bB:=qd.new V1 28 #[.int .i64 0,.bool false,.slice none 0 0,.slice none 0 0];have geB:=hb.size
    replace hb:=hb.trans (st.mono hb.size)
    replace r1:=(r1.below st).more st.size
    clear st;generalize V1.alloc (.cells #[.int .i64 0,.bool false,.slice none 0 0,.slice none 0 0] 28)=V2 at*;generalize V1.heap.size=gB at*;refine hP.out _ _ (KF.out _ hb) (fun hHeld=>?_);clear hP P
    (try simp only[Act.put,List.setIfInBounds_toArray,List.set_cons_zero,List.set_cons_succ])
    refine wpAnyH_ready (rs:=[5,6]) (by kernel_rfl) (by simp) ?_;refine AllReadyH.cons (by simp only[List.getElem?_toArray,List.getElem?_cons_succ,List.getElem?_cons_zero];rfl) (fun P hP=>?r27x5) (AllReadyH.cons (by simp only[List.getElem?_toArray,List.getElem?_cons_succ,List.getElem?_cons_zero];rfl) (fun P hP=>?r27x6) (AllReadyH.nil))
    case r27x5=>
     go_simp
     go_at_call 29
     refine(HC0.out _ hb).mono ?_;rintro e V3 ⟨A0,c0,K0,k0,rfl,r0,st⟩
     replace hb:=hb.trans (st.mono hb.size)
     replace r1:=(r1.below st).more st.size
     replace bB:=bB.old st
     clear st;refine hP.out _ _ (KF.out _ hb) (fun hHeld=>?_);clear hP P
     (try simp only[Act.put,List.setIfInBounds_toArray,List.set_cons_zero,List.set_cons_succ])
     refine wpAnyH_ready (rs:=[6]) (by kernel_rfl) (by simp) ?_;refine AllReadyH.cons (by simp only[List.getElem?_toArray,List.getElem?_cons_succ,List.getElem?_cons_zero];rfl) (fun P hP=>?r275x6) (AllReadyH.nil)
     case r275x6=>
      go_simp
      have st:=(Below.refl V3.heap.size V3).alloc (Nat.le_refl _) (.cells #[.int .i64 0,.bool false,.slice none 0 0,.slice none 0 0] 28);have bA:=qd.new V3 28 #[.int .i64 0,.bool false,.slice none 0 0,.slice none 0 0];have geA:=hb.size;have hne2:gB≠V3.heap.size:=Nat.ne_of_lt bB.lt;have hne:=Ne.symm hne2
      replace hb:=hb.trans (st.mono hb.size)
      replace r1:=(r1.below st).more st.size
      replace bB:=bB.old st
      replace r0:=(r0.below st).more st.size
      clear st;generalize V3.alloc (.cells #[.int .i64 0,.bool false,.slice none 0 0,.slice none 0 0] 28)=V4 at*;generalize V3.heap.size=gA at*;refine hP.out _ _ (KF.out _ hb) (fun hHeld=>?_);clear hP P
      (try simp only[Act.put,List.setIfInBounds_toArray,List.set_cons_zero,List.set_cons_succ])
      have d0:=bA.cell 0;have d1:=bA.cell 1;have d2:=bA.cell 2;have d3:=bA.cell 3;have df0:=bA.frozen 0;have df1:=bA.frozen 1;have df2:=bA.frozen 2;have df3:=bA.frozen 3;have dz:=bA.lt;refine wpAnyH_ready (rs:=[8]) (by kernel_rfl) (by simp) ?_;refine AllReadyH.cons (by simp only[List.getElem?_toArray,List.getElem?_cons_succ,List.getElem?_cons_zero];rfl) (fun P hP=>?_) AllReadyH.nil;go_simp
      refine hP.out _ _ (KF.out _ (qe hb geA _ _ _ _)) (fun hHeld=>?_);clear hP P
      (try simp only[Act.put,List.setIfInBounds_toArray,List.set_cons_zero,List.set_cons_succ])
      have e0:=bB.cell 0;have e1:=bB.cell 1;have e2:=bB.cell 2;have e3:=bB.cell 3;have ef0:=bB.frozen 0;have ef1:=bB.frozen 1;have ef2:=bB.frozen 2;have ef3:=bB.frozen 3;have ez:=bB.lt;refine wpAnyH_ready (rs:=[9]) (by kernel_rfl) (by simp) ?_;refine AllReadyH.cons (by simp only[List.getElem?_toArray,List.getElem?_cons_succ,List.getElem?_cons_zero];rfl) (fun P hP=>?_) AllReadyH.nil;go_simp
      refine hP.out _ _ (KF.out _ (qe (qe hb geA _ _ _ _) geB _ _ _ _)) (fun hHeld=>?_);clear hP P
      (try simp only[Act.put,List.setIfInBounds_toArray,List.set_cons_zero,List.set_cons_succ])
      refine wpAnyH_done (by kernel_rfl) ?_ _;go_wp2_with fail
      go_meet
      exact ym hb bA bB geA geB hne r1 r0
    case r27x6=>
     go_simp
     have st:=(Below.refl V2.heap.size V2).alloc (Nat.le_refl _) (.cells #[.int .i64 0,.bool false,.slice none 0 0,.slice none 0 0] 28);have bA:=qd.new V2 28 #[.int .i64 0,.bool false,.slice none 0 0,.slice none 0 0];have geA:=hb.size;have hne2:gB≠V2.heap.size:=Nat.ne_of_lt bB.lt;have hne:=Ne.symm hne2
     replace hb:=hb.trans (st.mono hb.size)
     replace r1:=(r1.below st).more st.size
     replace bB:=bB.old st
     clear st;generalize V2.alloc (.cells #[.int .i64 0,.bool false,.slice none 0 0,.slice none 0 0] 28)=V3 at*;generalize V2.heap.size=gA at*;refine hP.out _ _ (KF.out _ hb) (fun hHeld=>?_);clear hP P
     (try simp only[Act.put,List.setIfInBounds_toArray,List.set_cons_zero,List.set_cons_succ])
     refine wpAnyH_ready (rs:=[5]) (by kernel_rfl) (by simp) ?_;refine AllReadyH.cons (by simp only[List.getElem?_toArray,List.getElem?_cons_succ,List.getElem?_cons_zero];rfl) (fun P hP=>?r276x5) (AllReadyH.nil)
     case r276x5=>
      go_simp
      go_at_call 29
      refine(HC0.out _ hb).mono ?_;rintro e V4 ⟨A0,c0,K0,k0,rfl,r0,st⟩
      replace hb:=hb.trans (st.mono hb.size)
      replace r1:=(r1.below st).more st.size
      replace bB:=bB.old st
      replace bA:=bA.old st
      clear st;refine hP.out _ _ (KF.out _ hb) (fun hHeld=>?_);clear hP P
      (try simp only[Act.put,List.setIfInBounds_toArray,List.set_cons_zero,List.set_cons_succ])
      have d0:=bA.cell 0;have d1:=bA.cell 1;have d2:=bA.cell 2;have d3:=bA.cell 3;have df0:=bA.frozen 0;have df1:=bA.frozen 1;have df2:=bA.frozen 2;have df3:=bA.frozen 3;have dz:=bA.lt;refine wpAnyH_ready (rs:=[8]) (by kernel_rfl) (by simp) ?_;refine AllReadyH.cons (by simp only[List.getElem?_toArray,List.getElem?_cons_succ,List.getElem?_cons_zero];rfl) (fun P hP=>?_) AllReadyH.nil;go_simp
      refine hP.out _ _ (KF.out _ (qe hb geA _ _ _ _)) (fun hHeld=>?_);clear hP P
      (try simp only[Act.put,List.setIfInBounds_toArray,List.set_cons_zero,List.set_cons_succ])
      have e0:=bB.cell 0;have e1:=bB.cell 1;have e2:=bB.cell 2;have e3:=bB.cell 3;have ef0:=bB.frozen 0;have ef1:=bB.frozen 1;have ef2:=bB.frozen 2;have ef3:=bB.frozen 3;have ez:=bB.lt;refine wpAnyH_ready (rs:=[9]) (by kernel_rfl) (by simp) ?_;refine AllReadyH.cons (by simp only[List.getElem?_toArray,List.getElem?_cons_succ,List.getElem?_cons_zero];rfl) (fun P hP=>?_) AllReadyH.nil;go_simp
      refine hP.out _ _ (KF.out _ (qe (qe hb geA _ _ _ _) geB _ _ _ _)) (fun hHeld=>?_);clear hP P
      (try simp only[Act.put,List.setIfInBounds_toArray,List.set_cons_zero,List.set_cons_succ])
      refine wpAnyH_done (by kernel_rfl) ?_ _;go_wp2_with fail
      go_meet
      exact ym hb bA bB geA geB hne r1 r0
  case rx6=>
   go_simp
   have st:=(Below.refl V0.heap.size V0).alloc (Nat.le_refl _) (.cells #[.int .i64 0,.bool false,.slice none 0 0,.slice none 0 0] 28);have bA:=qd.new V0 28 #[.int .i64 0,.bool false,.slice none 0 0,.slice none 0 0];have geA:=hb.size
   replace hb:=hb.trans (st.mono hb.size)
   clear st;generalize V0.alloc (.cells #[.int .i64 0,.bool false,.slice none 0 0,.slice none 0 0] 28)=V1 at*;generalize V0.heap.size=gA at*;refine hP.out _ _ (KF.out _ hb) (fun hHeld=>?_);clear hP P
   (try simp only[Act.put,List.setIfInBounds_toArray,List.set_cons_zero,List.set_cons_succ])
   refine wpAnyH_ready (rs:=[2,7]) (by kernel_rfl) (by simp) ?_;refine AllReadyH.cons (by simp only[List.getElem?_toArray,List.getElem?_cons_succ,List.getElem?_cons_zero];rfl) (fun P hP=>?r6x2) (AllReadyH.cons (by simp only[List.getElem?_toArray,List.getElem?_cons_succ,List.getElem?_cons_zero];rfl) (fun P hP=>?r6x7) (AllReadyH.nil))
   case r6x2=>
    go_simp
    go_at_call 29
    refine(HC1.out _ hb).mono ?_;rintro e V2 ⟨A1,c1,K1,k1,rfl,r1,st⟩
    replace hb:=hb.trans (st.mono hb.size)
    replace bA:=bA.old st
    clear st;refine hP.out _ _ (KF.out _ hb) (fun hHeld=>?_);clear hP P
    (try simp only[Act.put,List.setIfInBounds_toArray,List.set_cons_zero,List.set_cons_succ])
    refine wpAnyH_ready (rs:=[5,7]) (by kernel_rfl) (by simp) ?_;refine AllReadyH.cons (by simp only[List.getElem?_toArray,List.getElem?_cons_succ,List.getElem?_cons_zero];rfl) (fun P hP=>?r62x5) (AllReadyH.cons (by simp only[List.getElem?_toArray,List.getElem?_cons_succ,List.getElem?_cons_zero];rfl) (fun P hP=>?r62x7) (AllReadyH.nil))
    case r62x5=>
     go_simp
     go_at_call 29
     refine(HC0.out _ hb).mono ?_;rintro e V3 ⟨A0,c0,K0,k0,rfl,r0,st⟩
     replace hb:=hb.trans (st.mono hb.size)
     replace bA:=bA.old st
     replace r1:=(r1.below st).more st.size
     clear st;refine hP.out _ _ (KF.out _ hb) (fun hHeld=>?_);clear hP P
     (try simp only[Act.put,List.setIfInBounds_toArray,List.set_cons_zero,List.set_cons_succ])
     refine wpAnyH_ready (rs:=[7]) (by kernel_rfl) (by simp) ?_;refine AllReadyH.cons (by simp only[List.getElem?_toArray,List.getElem?_cons_succ,List.getElem?_cons_zero];rfl) (fun P hP=>?r625x7) (AllReadyH.nil)
     case r625x7=>
      go_simp
      have st:=(Below.refl V3.heap.size V3).alloc (Nat.le_refl _) (.cells #[.int .i64 0,.bool false,.slice none 0 0,.slice none 0 0] 28);have bB:=qd.new V3 28 #[.int .i64 0,.bool false,.slice none 0 0,.slice none 0 0];have geB:=hb.size;have hne:gA≠V3.heap.size:=Nat.ne_of_lt bA.lt;have hne2:=Ne.symm hne
      replace hb:=hb.trans (st.mono hb.size)
      replace bA:=bA.old st
      replace r1:=(r1.below st).more st.size
      replace r0:=(r0.below st).more st.size
      clear st;generalize V3.alloc (.cells #[.int .i64 0,.bool false,.slice none 0 0,.slice none 0 0] 28)=V4 at*;generalize V3.heap.size=gB at*;refine hP.out _ _ (KF.out _ hb) (fun hHeld=>?_);clear hP P
      (try simp only[Act.put,List.setIfInBounds_toArray,List.set_cons_zero,List.set_cons_succ])
      have d0:=bA.cell 0;have d1:=bA.cell 1;have d2:=bA.cell 2;have d3:=bA.cell 3;have df0:=bA.frozen 0;have df1:=bA.frozen 1;have df2:=bA.frozen 2;have df3:=bA.frozen 3;have dz:=bA.lt;refine wpAnyH_ready (rs:=[8]) (by kernel_rfl) (by simp) ?_;refine AllReadyH.cons (by simp only[List.getElem?_toArray,List.getElem?_cons_succ,List.getElem?_cons_zero];rfl) (fun P hP=>?_) AllReadyH.nil;go_simp
      refine hP.out _ _ (KF.out _ (qe hb geA _ _ _ _)) (fun hHeld=>?_);clear hP P
      (try simp only[Act.put,List.setIfInBounds_toArray,List.set_cons_zero,List.set_cons_succ])
      have e0:=bB.cell 0;have e1:=bB.cell 1;have e2:=bB.cell 2;have e3:=bB.cell 3;have ef0:=bB.frozen 0;have ef1:=bB.frozen 1;have ef2:=bB.frozen 2;have ef3:=bB.frozen 3;have ez:=bB.lt;refine wpAnyH_ready (rs:=[9]) (by kernel_rfl) (by simp) ?_;refine AllReadyH.cons (by simp only[List.getElem?_toArray,List.getElem?_cons_succ,List.getElem?_cons_zero];rfl) (fun P hP=>?_) AllReadyH.nil;go_simp
      refine hP.out _ _ (KF.out _ (qe (qe hb geA _ _ _ _) geB _ _ _ _)) (fun hHeld=>?_);clear hP P
      (try simp only[Act.put,List.setIfInBounds_toArray,List.set_cons_zero,List.set_cons_succ])
      refine wpAnyH_done (by kernel_rfl) ?_ _;go_wp2_with fail
      go_meet
      exact ym hb bA bB geA geB hne r1 r0
    case r62x7=>
     go_simp
     have st:=(Below.refl V2.heap.size V2).alloc (Nat.le_refl _) (.cells #[.int .i64 0,.bool false,.slice none 0 0,.slice none 0 0] 28);have bB:=qd.new V2 28 #[.int .i64 0,.bool false,.slice none 0 0,.slice none 0 0];have geB:=hb.size;have hne:gA≠V2.heap.size:=Nat.ne_of_lt bA.lt;have hne2:=Ne.symm hne
     replace hb:=hb.trans (st.mono hb.size)
     replace bA:=bA.old st
     replace r1:=(r1.below st).more st.size
     clear st;generalize V2.alloc (.cells #[.int .i64 0,.bool false,.slice none 0 0,.slice none 0 0] 28)=V3 at*;generalize V2.heap.size=gB at*;refine hP.out _ _ (KF.out _ hb) (fun hHeld=>?_);clear hP P
     (try simp only[Act.put,List.setIfInBounds_toArray,List.set_cons_zero,List.set_cons_succ])
     refine wpAnyH_ready (rs:=[5]) (by kernel_rfl) (by simp) ?_;refine AllReadyH.cons (by simp only[List.getElem?_toArray,List.getElem?_cons_succ,List.getElem?_cons_zero];rfl) (fun P hP=>?r627x5) (AllReadyH.nil)
     case r627x5=>
      go_simp
      go_at_call 29
      refine(HC0.out _ hb).mono ?_;rintro e V4 ⟨A0,c0,K0,k0,rfl,r0,st⟩
      replace hb:=hb.trans (st.mono hb.size)
      replace bA:=bA.old st
      replace r1:=(r1.below st).more st.size
      replace bB:=bB.old st
      clear st;refine hP.out _ _ (KF.out _ hb) (fun hHeld=>?_);clear hP P
      (try simp only[Act.put,List.setIfInBounds_toArray,List.set_cons_zero,List.set_cons_succ])
      have d0:=bA.cell 0;have d1:=bA.cell 1;have d2:=bA.cell 2;have d3:=bA.cell 3;have df0:=bA.frozen 0;have df1:=bA.frozen 1;have df2:=bA.frozen 2;have df3:=bA.frozen 3;have dz:=bA.lt;refine wpAnyH_ready (rs:=[8]) (by kernel_rfl) (by simp) ?_;refine AllReadyH.cons (by simp only[List.getElem?_toArray,List.getElem?_cons_succ,List.getElem?_cons_zero];rfl) (fun P hP=>?_) AllReadyH.nil;go_simp
      refine hP.out _ _ (KF.out _ (qe hb geA _ _ _ _)) (fun hHeld=>?_);clear hP P
      (try simp only[Act.put,List.setIfInBounds_toArray,List.set_cons_zero,List.set_cons_succ])
      have e0:=bB.cell 0;have e1:=bB.cell 1;have e2:=bB.cell 2;have e3:=bB.cell 3;have ef0:=bB.frozen 0;have ef1:=bB.frozen 1;have ef2:=bB.frozen 2;have ef3:=bB.frozen 3;have ez:=bB.lt;refine wpAnyH_ready (rs:=[9]) (by kernel_rfl) (by simp) ?_;refine AllReadyH.cons (by simp only[List.getElem?_toArray,List.getElem?_cons_succ,List.getElem?_cons_zero];rfl) (fun P hP=>?_) AllReadyH.nil;go_simp
      refine hP.out _ _ (KF.out _ (qe (qe hb geA _ _ _ _) geB _ _ _ _)) (fun hHeld=>?_);clear hP P
      (try simp only[Act.put,List.setIfInBounds_toArray,List.set_cons_zero,List.set_cons_succ])
      refine wpAnyH_done (by kernel_rfl) ?_ _;go_wp2_with fail
      go_meet
      exact ym hb bA bB geA geB hne r1 r0
   case r6x7=>
    go_simp
    have st:=(Below.refl V1.heap.size V1).alloc (Nat.le_refl _) (.cells #[.int .i64 0,.bool false,.slice none 0 0,.slice none 0 0] 28);have bB:=qd.new V1 28 #[.int .i64 0,.bool false,.slice none 0 0,.slice none 0 0];have geB:=hb.size;have hne:gA≠V1.heap.size:=Nat.ne_of_lt bA.lt;have hne2:=Ne.symm hne
    replace hb:=hb.trans (st.mono hb.size)
    replace bA:=bA.old st
    clear st;generalize V1.alloc (.cells #[.int .i64 0,.bool false,.slice none 0 0,.slice none 0 0] 28)=V2 at*;generalize V1.heap.size=gB at*;refine hP.out _ _ (KF.out _ hb) (fun hHeld=>?_);clear hP P
    (try simp only[Act.put,List.setIfInBounds_toArray,List.set_cons_zero,List.set_cons_succ])
    refine wpAnyH_ready (rs:=[2]) (by kernel_rfl) (by simp) ?_;refine AllReadyH.cons (by simp only[List.getElem?_toArray,List.getElem?_cons_succ,List.getElem?_cons_zero];rfl) (fun P hP=>?r67x2) (AllReadyH.nil)
    case r67x2=>
     go_simp
     go_at_call 29
     refine(HC1.out _ hb).mono ?_;rintro e V3 ⟨A1,c1,K1,k1,rfl,r1,st⟩
     replace hb:=hb.trans (st.mono hb.size)
     replace bA:=bA.old st
     replace bB:=bB.old st
     clear st;refine hP.out _ _ (KF.out _ hb) (fun hHeld=>?_);clear hP P
     (try simp only[Act.put,List.setIfInBounds_toArray,List.set_cons_zero,List.set_cons_succ])
     refine wpAnyH_ready (rs:=[5]) (by kernel_rfl) (by simp) ?_;refine AllReadyH.cons (by simp only[List.getElem?_toArray,List.getElem?_cons_succ,List.getElem?_cons_zero];rfl) (fun P hP=>?r672x5) (AllReadyH.nil)
     case r672x5=>
      go_simp
      go_at_call 29
      refine(HC0.out _ hb).mono ?_;rintro e V4 ⟨A0,c0,K0,k0,rfl,r0,st⟩
      replace hb:=hb.trans (st.mono hb.size)
      replace bA:=bA.old st
      replace bB:=bB.old st
      replace r1:=(r1.below st).more st.size
      clear st;refine hP.out _ _ (KF.out _ hb) (fun hHeld=>?_);clear hP P
      (try simp only[Act.put,List.setIfInBounds_toArray,List.set_cons_zero,List.set_cons_succ])
      have d0:=bA.cell 0;have d1:=bA.cell 1;have d2:=bA.cell 2;have d3:=bA.cell 3;have df0:=bA.frozen 0;have df1:=bA.frozen 1;have df2:=bA.frozen 2;have df3:=bA.frozen 3;have dz:=bA.lt;refine wpAnyH_ready (rs:=[8]) (by kernel_rfl) (by simp) ?_;refine AllReadyH.cons (by simp only[List.getElem?_toArray,List.getElem?_cons_succ,List.getElem?_cons_zero];rfl) (fun P hP=>?_) AllReadyH.nil;go_simp
      refine hP.out _ _ (KF.out _ (qe hb geA _ _ _ _)) (fun hHeld=>?_);clear hP P
      (try simp only[Act.put,List.setIfInBounds_toArray,List.set_cons_zero,List.set_cons_succ])
      have e0:=bB.cell 0;have e1:=bB.cell 1;have e2:=bB.cell 2;have e3:=bB.cell 3;have ef0:=bB.frozen 0;have ef1:=bB.frozen 1;have ef2:=bB.frozen 2;have ef3:=bB.frozen 3;have ez:=bB.lt;refine wpAnyH_ready (rs:=[9]) (by kernel_rfl) (by simp) ?_;refine AllReadyH.cons (by simp only[List.getElem?_toArray,List.getElem?_cons_succ,List.getElem?_cons_zero];rfl) (fun P hP=>?_) AllReadyH.nil;go_simp
      refine hP.out _ _ (KF.out _ (qe (qe hb geA _ _ _ _) geB _ _ _ _)) (fun hHeld=>?_);clear hP P
      (try simp only[Act.put,List.setIfInBounds_toArray,List.set_cons_zero,List.set_cons_succ])
      refine wpAnyH_done (by kernel_rfl) ?_ _;go_wp2_with fail
      go_meet
      exact ym hb bA bB geA geB hne r1 r0
  case rx7=>
   go_simp
   have st:=(Below.refl V0.heap.size V0).alloc (Nat.le_refl _) (.cells #[.int .i64 0,.bool false,.slice none 0 0,.slice none 0 0] 28);have bB:=qd.new V0 28 #[.int .i64 0,.bool false,.slice none 0 0,.slice none 0 0];have geB:=hb.size
   replace hb:=hb.trans (st.mono hb.size)
   clear st;generalize V0.alloc (.cells #[.int .i64 0,.bool false,.slice none 0 0,.slice none 0 0] 28)=V1 at*;generalize V0.heap.size=gB at*;refine hP.out _ _ (KF.out _ hb) (fun hHeld=>?_);clear hP P
   (try simp only[Act.put,List.setIfInBounds_toArray,List.set_cons_zero,List.set_cons_succ])
   refine wpAnyH_ready (rs:=[2,6]) (by kernel_rfl) (by simp) ?_;refine AllReadyH.cons (by simp only[List.getElem?_toArray,List.getElem?_cons_succ,List.getElem?_cons_zero];rfl) (fun P hP=>?r7x2) (AllReadyH.cons (by simp only[List.getElem?_toArray,List.getElem?_cons_succ,List.getElem?_cons_zero];rfl) (fun P hP=>?r7x6) (AllReadyH.nil))
   case r7x2=>
    go_simp
    go_at_call 29
    refine(HC1.out _ hb).mono ?_;rintro e V2 ⟨A1,c1,K1,k1,rfl,r1,st⟩
    replace hb:=hb.trans (st.mono hb.size)
    replace bB:=bB.old st
    clear st;refine hP.out _ _ (KF.out _ hb) (fun hHeld=>?_);clear hP P
    (try simp only[Act.put,List.setIfInBounds_toArray,List.set_cons_zero,List.set_cons_succ])
    refine wpAnyH_ready (rs:=[5,6]) (by kernel_rfl) (by simp) ?_;refine AllReadyH.cons (by simp only[List.getElem?_toArray,List.getElem?_cons_succ,List.getElem?_cons_zero];rfl) (fun P hP=>?r72x5) (AllReadyH.cons (by simp only[List.getElem?_toArray,List.getElem?_cons_succ,List.getElem?_cons_zero];rfl) (fun P hP=>?r72x6) (AllReadyH.nil))
    case r72x5=>
     go_simp
     go_at_call 29
     refine(HC0.out _ hb).mono ?_;rintro e V3 ⟨A0,c0,K0,k0,rfl,r0,st⟩
     replace hb:=hb.trans (st.mono hb.size)
     replace bB:=bB.old st
     replace r1:=(r1.below st).more st.size
     clear st;refine hP.out _ _ (KF.out _ hb) (fun hHeld=>?_);clear hP P
     (try simp only[Act.put,List.setIfInBounds_toArray,List.set_cons_zero,List.set_cons_succ])
     refine wpAnyH_ready (rs:=[6]) (by kernel_rfl) (by simp) ?_;refine AllReadyH.cons (by simp only[List.getElem?_toArray,List.getElem?_cons_succ,List.getElem?_cons_zero];rfl) (fun P hP=>?r725x6) (AllReadyH.nil)
     case r725x6=>
      go_simp
      have st:=(Below.refl V3.heap.size V3).alloc (Nat.le_refl _) (.cells #[.int .i64 0,.bool false,.slice none 0 0,.slice none 0 0] 28);have bA:=qd.new V3 28 #[.int .i64 0,.bool false,.slice none 0 0,.slice none 0 0];have geA:=hb.size;have hne2:gB≠V3.heap.size:=Nat.ne_of_lt bB.lt;have hne:=Ne.symm hne2
      replace hb:=hb.trans (st.mono hb.size)
      replace bB:=bB.old st
      replace r1:=(r1.below st).more st.size
      replace r0:=(r0.below st).more st.size
      clear st;generalize V3.alloc (.cells #[.int .i64 0,.bool false,.slice none 0 0,.slice none 0 0] 28)=V4 at*;generalize V3.heap.size=gA at*;refine hP.out _ _ (KF.out _ hb) (fun hHeld=>?_);clear hP P
      (try simp only[Act.put,List.setIfInBounds_toArray,List.set_cons_zero,List.set_cons_succ])
      have d0:=bA.cell 0;have d1:=bA.cell 1;have d2:=bA.cell 2;have d3:=bA.cell 3;have df0:=bA.frozen 0;have df1:=bA.frozen 1;have df2:=bA.frozen 2;have df3:=bA.frozen 3;have dz:=bA.lt;refine wpAnyH_ready (rs:=[8]) (by kernel_rfl) (by simp) ?_;refine AllReadyH.cons (by simp only[List.getElem?_toArray,List.getElem?_cons_succ,List.getElem?_cons_zero];rfl) (fun P hP=>?_) AllReadyH.nil;go_simp
      refine hP.out _ _ (KF.out _ (qe hb geA _ _ _ _)) (fun hHeld=>?_);clear hP P
      (try simp only[Act.put,List.setIfInBounds_toArray,List.set_cons_zero,List.set_cons_succ])
      have e0:=bB.cell 0;have e1:=bB.cell 1;have e2:=bB.cell 2;have e3:=bB.cell 3;have ef0:=bB.frozen 0;have ef1:=bB.frozen 1;have ef2:=bB.frozen 2;have ef3:=bB.frozen 3;have ez:=bB.lt;refine wpAnyH_ready (rs:=[9]) (by kernel_rfl) (by simp) ?_;refine AllReadyH.cons (by simp only[List.getElem?_toArray,List.getElem?_cons_succ,List.getElem?_cons_zero];rfl) (fun P hP=>?_) AllReadyH.nil;go_simp
      refine hP.out _ _ (KF.out _ (qe (qe hb geA _ _ _ _) geB _ _ _ _)) (fun hHeld=>?_);clear hP P
      (try simp only[Act.put,List.setIfInBounds_toArray,List.set_cons_zero,List.set_cons_succ])
      refine wpAnyH_done (by kernel_rfl) ?_ _;go_wp2_with fail
      go_meet
      exact ym hb bA bB geA geB hne r1 r0
    case r72x6=>
     go_simp
     have st:=(Below.refl V2.heap.size V2).alloc (Nat.le_refl _) (.cells #[.int .i64 0,.bool false,.slice none 0 0,.slice none 0 0] 28);have bA:=qd.new V2 28 #[.int .i64 0,.bool false,.slice none 0 0,.slice none 0 0];have geA:=hb.size;have hne2:gB≠V2.heap.size:=Nat.ne_of_lt bB.lt;have hne:=Ne.symm hne2
     replace hb:=hb.trans (st.mono hb.size)
     replace bB:=bB.old st
     replace r1:=(r1.below st).more st.size
     clear st;generalize V2.alloc (.cells #[.int .i64 0,.bool false,.slice none 0 0,.slice none 0 0] 28)=V3 at*;generalize V2.heap.size=gA at*;refine hP.out _ _ (KF.out _ hb) (fun hHeld=>?_);clear hP P
     (try simp only[Act.put,List.setIfInBounds_toArray,List.set_cons_zero,List.set_cons_succ])
     refine wpAnyH_ready (rs:=[5]) (by kernel_rfl) (by simp) ?_;refine AllReadyH.cons (by simp only[List.getElem?_toArray,List.getElem?_cons_succ,List.getElem?_cons_zero];rfl) (fun P hP=>?r726x5) (AllReadyH.nil)
     case r726x5=>
      go_simp
      go_at_call 29
      refine(HC0.out _ hb).mono ?_;rintro e V4 ⟨A0,c0,K0,k0,rfl,r0,st⟩
      replace hb:=hb.trans (st.mono hb.size)
      replace bB:=bB.old st
      replace r1:=(r1.below st).more st.size
      replace bA:=bA.old st
      clear st;refine hP.out _ _ (KF.out _ hb) (fun hHeld=>?_);clear hP P
      (try simp only[Act.put,List.setIfInBounds_toArray,List.set_cons_zero,List.set_cons_succ])
      have d0:=bA.cell 0;have d1:=bA.cell 1;have d2:=bA.cell 2;have d3:=bA.cell 3;have df0:=bA.frozen 0;have df1:=bA.frozen 1;have df2:=bA.frozen 2;have df3:=bA.frozen 3;have dz:=bA.lt;refine wpAnyH_ready (rs:=[8]) (by kernel_rfl) (by simp) ?_;refine AllReadyH.cons (by simp only[List.getElem?_toArray,List.getElem?_cons_succ,List.getElem?_cons_zero];rfl) (fun P hP=>?_) AllReadyH.nil;go_simp
      refine hP.out _ _ (KF.out _ (qe hb geA _ _ _ _)) (fun hHeld=>?_);clear hP P
      (try simp only[Act.put,List.setIfInBounds_toArray,List.set_cons_zero,List.set_cons_succ])
      have e0:=bB.cell 0;have e1:=bB.cell 1;have e2:=bB.cell 2;have e3:=bB.cell 3;have ef0:=bB.frozen 0;have ef1:=bB.frozen 1;have ef2:=bB.frozen 2;have ef3:=bB.frozen 3;have ez:=bB.lt;refine wpAnyH_ready (rs:=[9]) (by kernel_rfl) (by simp) ?_;refine AllReadyH.cons (by simp only[List.getElem?_toArray,List.getElem?_cons_succ,List.getElem?_cons_zero];rfl) (fun P hP=>?_) AllReadyH.nil;go_simp
      refine hP.out _ _ (KF.out _ (qe (qe hb geA _ _ _ _) geB _ _ _ _)) (fun hHeld=>?_);clear hP P
      (try simp only[Act.put,List.setIfInBounds_toArray,List.set_cons_zero,List.set_cons_succ])
      refine wpAnyH_done (by kernel_rfl) ?_ _;go_wp2_with fail
      go_meet
      exact ym hb bA bB geA geB hne r1 r0
   case r7x6=>
    go_simp
    have st:=(Below.refl V1.heap.size V1).alloc (Nat.le_refl _) (.cells #[.int .i64 0,.bool false,.slice none 0 0,.slice none 0 0] 28);have bA:=qd.new V1 28 #[.int .i64 0,.bool false,.slice none 0 0,.slice none 0 0];have geA:=hb.size;have hne2:gB≠V1.heap.size:=Nat.ne_of_lt bB.lt;have hne:=Ne.symm hne2
    replace hb:=hb.trans (st.mono hb.size)
    replace bB:=bB.old st
    clear st;generalize V1.alloc (.cells #[.int .i64 0,.bool false,.slice none 0 0,.slice none 0 0] 28)=V2 at*;generalize V1.heap.size=gA at*;refine hP.out _ _ (KF.out _ hb) (fun hHeld=>?_);clear hP P
    (try simp only[Act.put,List.setIfInBounds_toArray,List.set_cons_zero,List.set_cons_succ])
    refine wpAnyH_ready (rs:=[2]) (by kernel_rfl) (by simp) ?_;refine AllReadyH.cons (by simp only[List.getElem?_toArray,List.getElem?_cons_succ,List.getElem?_cons_zero];rfl) (fun P hP=>?r76x2) (AllReadyH.nil)
    case r76x2=>
     go_simp
     go_at_call 29
     refine(HC1.out _ hb).mono ?_;rintro e V3 ⟨A1,c1,K1,k1,rfl,r1,st⟩
     replace hb:=hb.trans (st.mono hb.size)
     replace bB:=bB.old st
     replace bA:=bA.old st
     clear st;refine hP.out _ _ (KF.out _ hb) (fun hHeld=>?_);clear hP P
     (try simp only[Act.put,List.setIfInBounds_toArray,List.set_cons_zero,List.set_cons_succ])
     refine wpAnyH_ready (rs:=[5]) (by kernel_rfl) (by simp) ?_;refine AllReadyH.cons (by simp only[List.getElem?_toArray,List.getElem?_cons_succ,List.getElem?_cons_zero];rfl) (fun P hP=>?r762x5) (AllReadyH.nil)
     case r762x5=>
      go_simp
      go_at_call 29
      refine(HC0.out _ hb).mono ?_;rintro e V4 ⟨A0,c0,K0,k0,rfl,r0,st⟩
      replace hb:=hb.trans (st.mono hb.size)
      replace bB:=bB.old st
      replace bA:=bA.old st
      replace r1:=(r1.below st).more st.size
      clear st;refine hP.out _ _ (KF.out _ hb) (fun hHeld=>?_);clear hP P
      (try simp only[Act.put,List.setIfInBounds_toArray,List.set_cons_zero,List.set_cons_succ])
      have d0:=bA.cell 0;have d1:=bA.cell 1;have d2:=bA.cell 2;have d3:=bA.cell 3;have df0:=bA.frozen 0;have df1:=bA.frozen 1;have df2:=bA.frozen 2;have df3:=bA.frozen 3;have dz:=bA.lt;refine wpAnyH_ready (rs:=[8]) (by kernel_rfl) (by simp) ?_;refine AllReadyH.cons (by simp only[List.getElem?_toArray,List.getElem?_cons_succ,List.getElem?_cons_zero];rfl) (fun P hP=>?_) AllReadyH.nil;go_simp
      refine hP.out _ _ (KF.out _ (qe hb geA _ _ _ _)) (fun hHeld=>?_);clear hP P
      (try simp only[Act.put,List.setIfInBounds_toArray,List.set_cons_zero,List.set_cons_succ])
      have e0:=bB.cell 0;have e1:=bB.cell 1;have e2:=bB.cell 2;have e3:=bB.cell 3;have ef0:=bB.frozen 0;have ef1:=bB.frozen 1;have ef2:=bB.frozen 2;have ef3:=bB.frozen 3;have ez:=bB.lt;refine wpAnyH_ready (rs:=[9]) (by kernel_rfl) (by simp) ?_;refine AllReadyH.cons (by simp only[List.getElem?_toArray,List.getElem?_cons_succ,List.getElem?_cons_zero];rfl) (fun P hP=>?_) AllReadyH.nil;go_simp
      refine hP.out _ _ (KF.out _ (qe (qe hb geA _ _ _ _) geB _ _ _ _)) (fun hHeld=>?_);clear hP P
      (try simp only[Act.put,List.setIfInBounds_toArray,List.set_cons_zero,List.set_cons_succ])
      refine wpAnyH_done (by kernel_rfl) ?_ _;go_wp2_with fail
      go_meet
      exact ym hb bA bB geA geB hne r1 r0
 case rest=>
  obtain⟨g7,g8,A1,c1,K1,k1,A0,c0,K0,k0,rfl,rfl,hbc,b7,b8,r1,r0⟩:=hcut;generalize wc=wb at*;have HBC:=Lib.hid (HB0.out.trans (hbc.mono HB0.out.size));have HK1c:=Lib.hid (HK1.out.old hbc);have HK2c:=Lib.hid (HK2.out.old hbc);have H7:=Lib.hid b7;have H8:=Lib.hid b8;have R1:=Lib.hid r1;have R0:=Lib.hid r0;have HAT:=Lib.hid (fun(V:World)(hV:Below wb.heap.size wb V)=>qhQ A1 c1 K1 k1 V ((r1.below hV).more hV.size));have HAN:=Lib.hid (fun(L:Option Addr)(V:World)=>qaT L 2 2 V);have HOF:=Lib.hid (fun(A:Option Addr)(c:Nat)(K:Option Addr)(kc g:Nat)(V:World)(hk:qd V g 44 (JU A c K kc))=>qk4 A c K kc g 2 V (Nat.le_refl _) hk);unfold zY at HOF
  replace KF:=Lib.hid (fun(V:World)(hV:Below wb.heap.size wb V)=>(⟨(HK1c.out.old hV).cell 0,(HK1c.out.old hV).cell 1,(HK1c.out.old hV).cell 2,(HK1c.out.old hV).cell 3,(HK1c.out.old hV).cell 4,(HK1c.out.old hV).cell 5,(HK1c.out.old hV).cell 6,(H7.out.old hV).cell 0,(H7.out.old hV).cell 1,(H7.out.old hV).cell 2,(H7.out.old hV).cell 3⟩:V.cell? ⟨w.heap.size+1,0,none⟩=some (.int .i64 1)∧V.cell? ⟨w.heap.size+1,1,none⟩=some (.int .i64 0)∧V.cell? ⟨w.heap.size+1,2,none⟩=some (.int .i64 0)∧V.cell? ⟨w.heap.size+1,3,none⟩=some (.bool false)∧V.cell? ⟨w.heap.size+1,4,none⟩=some (.slice none 0 0)∧V.cell? ⟨w.heap.size+1,5,none⟩=some (.slice none 0 0)∧V.cell? ⟨w.heap.size+1,6,none⟩=some (.slice none 0 0)∧V.cell? ⟨g7,0,none⟩=some (.int .i64 qA.lv)∧V.cell? ⟨g7,1,none⟩=some (.bool qA.ng)∧V.cell? ⟨g7,2,none⟩=some (.slice A1 qA.ds.length c1)∧V.cell? ⟨g7,3,none⟩=some (.slice K1 qA.ks.length k1)))
  clear hbc b7 b8 r1 r0 hb HC1 HC0 HK0 HK1 HK2 HB0;go_upto_region 2 with(fail)
  have hb:Below wb.heap.size wb wb.drew:=(qm.drew _).below _;go_cut [9] (fun u wd=>ql1 wb u wd)
  case first=>
   refine wp_region_held_drew (S:=fun w'=>w'.cell? ⟨w.heap.size+1,0,none⟩=some (.int .i64 1)∧w'.cell? ⟨w.heap.size+1,1,none⟩=some (.int .i64 0)∧w'.cell? ⟨w.heap.size+1,2,none⟩=some (.int .i64 0)∧w'.cell? ⟨w.heap.size+1,3,none⟩=some (.bool false)∧w'.cell? ⟨w.heap.size+1,4,none⟩=some (.slice none 0 0)∧w'.cell? ⟨w.heap.size+1,5,none⟩=some (.slice none 0 0)∧w'.cell? ⟨w.heap.size+1,6,none⟩=some (.slice none 0 0)∧w'.cell? ⟨g7,0,none⟩=some (.int .i64 qA.lv)∧w'.cell? ⟨g7,1,none⟩=some (.bool qA.ng)∧w'.cell? ⟨g7,2,none⟩=some (.slice A1 qA.ds.length c1)∧w'.cell? ⟨g7,3,none⟩=some (.slice K1 qA.ks.length k1)) (by kernel_rfl) (KF.out _ hb) (fun hHeld=>?_);refine wpAnyH_take (i:=0) (v:=?vb0) (by simp only[List.getElem?_toArray,List.getElem?_cons_zero];rfl) (by kernel_rfl) (by kernel_rfl) (by kernel_rfl) (by exact fun _ _ _ h=>h) (Or.inl ⟨by rfl,?hyb0⟩) (by assumption) ?restb0
   case hyb0=>(intro w0 hSw;(try dsimp only at hSw);go_simp;(first|done|(with_reducible rfl)))
   simp only[Act.put,List.setIfInBounds_toArray,List.set_cons_zero,List.set_cons_succ];refine wpAnyH_take (i:=1) (v:=?vb1) (by simp only[List.getElem?_toArray,List.getElem?_cons_succ,List.getElem?_cons_zero];rfl) (by kernel_rfl) (by kernel_rfl) (by kernel_rfl) (by exact fun _ _ _ h=>h) (Or.inl ⟨by rfl,?hyb1⟩) (by assumption) ?restb1
   case hyb1=>(intro w0 hSw;(try dsimp only at hSw);go_simp;(first|done|(with_reducible rfl)))
   simp only[Act.put,List.setIfInBounds_toArray,List.set_cons_zero,List.set_cons_succ];generalize wb.drew=V0 at*;refine wpAnyH_ready (rs:=[2,6]) (by kernel_rfl) (by simp) ?_;refine AllReadyH.cons (by simp only[List.getElem?_toArray,List.getElem?_cons_succ,List.getElem?_cons_zero];rfl) (fun P hP=>?srx2) (AllReadyH.cons (by simp only[List.getElem?_toArray,List.getElem?_cons_succ,List.getElem?_cons_zero];rfl) (fun P hP=>?srx6) (AllReadyH.nil))
   case srx2=>
    go_simp
    go_at_call 33
    refine(HAT.out _ hb).mono ?_;rintro e V1 ⟨A2,c2,K2,k2,rfl,st⟩
    replace hb:=hb.trans (st.mono hb.size)
    clear st;refine hP.out _ _ (KF.out _ hb) (fun hHeld=>?_);clear hP P
    (try simp only[Act.put,List.setIfInBounds_toArray,List.set_cons_zero,List.set_cons_succ])
    refine wpAnyH_ready (rs:=[3,6]) (by kernel_rfl) (by simp) ?_;refine AllReadyH.cons (by simp only[List.getElem?_toArray,List.getElem?_cons_succ,List.getElem?_cons_zero];rfl) (fun P hP=>?sr2x3) (AllReadyH.cons (by simp only[List.getElem?_toArray,List.getElem?_cons_succ,List.getElem?_cons_zero];rfl) (fun P hP=>?sr2x6) (AllReadyH.nil))
    case sr2x3=>
     go_simp
     have st:=(Below.refl V1.heap.size V1).alloc (Nat.le_refl _) (.cells (JU A2 c2 K2 k2) 44);have bR:=qd.new V1 44 (JU A2 c2 K2 k2)
     replace hb:=hb.trans (st.mono hb.size)
     clear st;generalize V1.alloc (.cells (JU A2 c2 K2 k2) 44)=V2 at*;generalize V1.heap.size=gR at*;refine hP.out _ _ (KF.out _ hb) (fun hHeld=>?_);clear hP P
     (try simp only[Act.put,List.setIfInBounds_toArray,List.set_cons_zero,List.set_cons_succ])
     refine wpAnyH_ready (rs:=[4,6]) (by kernel_rfl) (by simp) ?_;refine AllReadyH.cons (by simp only[List.getElem?_toArray,List.getElem?_cons_succ,List.getElem?_cons_zero];rfl) (fun P hP=>?sr23x4) (AllReadyH.cons (by simp only[List.getElem?_toArray,List.getElem?_cons_succ,List.getElem?_cons_zero];rfl) (fun P hP=>?sr23x6) (AllReadyH.nil))
     case sr23x4=>
      go_simp
      go_at_call 56
      refine(HAN.out _ _).mono ?_;rintro e V3 ⟨rfl,st⟩
      replace hb:=hb.trans (st.mono hb.size)
      replace bR:=bR.old st
      clear st;refine hP.out _ _ (KF.out _ hb) (fun hHeld=>?_);clear hP P
      (try simp only[Act.put,List.setIfInBounds_toArray,List.set_cons_zero,List.set_cons_succ])
      refine wpAnyH_ready (rs:=[5,6]) (by kernel_rfl) (by simp) ?_;refine AllReadyH.cons (by simp only[List.getElem?_toArray,List.getElem?_cons_succ,List.getElem?_cons_zero];rfl) (fun P hP=>?sr234x5) (AllReadyH.cons (by simp only[List.getElem?_toArray,List.getElem?_cons_succ,List.getElem?_cons_zero];rfl) (fun P hP=>?sr234x6) (AllReadyH.nil))
      case sr234x5=>
       go_simp
       go_at_call 55
       refine(HOF.out A2 c2 K2 k2 gR _ bR).mono ?_;rintro e V4 ⟨rfl,st⟩
       replace hb:=hb.trans (st.mono hb.size)
       replace bR:=bR.old st
       clear st;refine hP.out _ _ (KF.out _ hb) (fun hHeld=>?_);clear hP P
       (try simp only[Act.put,List.setIfInBounds_toArray,List.set_cons_zero,List.set_cons_succ])
       refine wpAnyH_ready (rs:=[6]) (by kernel_rfl) (by simp) ?_;refine AllReadyH.cons (by simp only[List.getElem?_toArray,List.getElem?_cons_succ,List.getElem?_cons_zero];rfl) (fun P hP=>?sr2345x6) (AllReadyH.nil)
       case sr2345x6=>
        go_simp
        have st:=(Below.refl V4.heap.size V4).alloc (Nat.le_refl _) (.cells #[.int .i64 0,.int .i64 0,.int .i64 0,.bool false,.slice none 0 0,.slice none 0 0,.slice none 0 0] 44);have b9:=qd.new V4 44 #[.int .i64 0,.int .i64 0,.int .i64 0,.bool false,.slice none 0 0,.slice none 0 0,.slice none 0 0];have ge9:=hb.size
        replace hb:=hb.trans (st.mono hb.size)
        replace bR:=bR.old st
        clear st;generalize V4.alloc (.cells #[.int .i64 0,.int .i64 0,.int .i64 0,.bool false,.slice none 0 0,.slice none 0 0,.slice none 0 0] 44)=V5 at*;generalize V4.heap.size=g9 at*;refine hP.out _ _ (KF.out _ hb) (fun hHeld=>?_);clear hP P
        (try simp only[Act.put,List.setIfInBounds_toArray,List.set_cons_zero,List.set_cons_succ])
        have d0:=b9.cell 0;have d1:=b9.cell 1;have d2:=b9.cell 2;have d3:=b9.cell 3;have d4:=b9.cell 4;have d5:=b9.cell 5;have d6:=b9.cell 6;have f0:=b9.frozen 0;have f1:=b9.frozen 1;have f2:=b9.frozen 2;have f3:=b9.frozen 3;have f4:=b9.frozen 4;have f5:=b9.frozen 5;have f6:=b9.frozen 6;have z:=b9.lt;refine wpAnyH_ready (rs:=[7]) (by kernel_rfl) (by simp) ?_;refine AllReadyH.cons (by simp only[List.getElem?_toArray,List.getElem?_cons_succ,List.getElem?_cons_zero];rfl) (fun P hP=>?_) AllReadyH.nil;go_simp
        refine hP.out _ _ (KF.out _ (by obtain⟨_,_,s3⟩:=JX b9 (.int .i64 1) (.int .i64 0) (.int .i64 0) (.bool false) (.slice none 0 0) (.slice none 0 0) (.slice none 0 0);exact hb.trans (s3 _ ge9))) (fun hHeld=>?_);clear hP P
        (try simp only[Act.put,List.setIfInBounds_toArray,List.set_cons_zero,List.set_cons_succ])
        refine wpAnyH_done (by kernel_rfl) ?_ _;go_wp2_with fail
        go_meet
        exact J9 hb b9 ge9
      case sr234x6=>
       go_simp
       have st:=(Below.refl V3.heap.size V3).alloc (Nat.le_refl _) (.cells #[.int .i64 0,.int .i64 0,.int .i64 0,.bool false,.slice none 0 0,.slice none 0 0,.slice none 0 0] 44);have b9:=qd.new V3 44 #[.int .i64 0,.int .i64 0,.int .i64 0,.bool false,.slice none 0 0,.slice none 0 0,.slice none 0 0];have ge9:=hb.size
       replace hb:=hb.trans (st.mono hb.size)
       replace bR:=bR.old st
       clear st;generalize V3.alloc (.cells #[.int .i64 0,.int .i64 0,.int .i64 0,.bool false,.slice none 0 0,.slice none 0 0,.slice none 0 0] 44)=V4 at*;generalize V3.heap.size=g9 at*;refine hP.out _ _ (KF.out _ hb) (fun hHeld=>?_);clear hP P
       (try simp only[Act.put,List.setIfInBounds_toArray,List.set_cons_zero,List.set_cons_succ])
       refine wpAnyH_ready (rs:=[5]) (by kernel_rfl) (by simp) ?_;refine AllReadyH.cons (by simp only[List.getElem?_toArray,List.getElem?_cons_succ,List.getElem?_cons_zero];rfl) (fun P hP=>?sr2346x5) (AllReadyH.nil)
       case sr2346x5=>
        go_simp
        go_at_call 55
        refine(HOF.out A2 c2 K2 k2 gR _ bR).mono ?_;rintro e V5 ⟨rfl,st⟩
        replace hb:=hb.trans (st.mono hb.size)
        replace bR:=bR.old st
        replace b9:=b9.old st
        clear st;refine hP.out _ _ (KF.out _ hb) (fun hHeld=>?_);clear hP P
        (try simp only[Act.put,List.setIfInBounds_toArray,List.set_cons_zero,List.set_cons_succ])
        have d0:=b9.cell 0;have d1:=b9.cell 1;have d2:=b9.cell 2;have d3:=b9.cell 3;have d4:=b9.cell 4;have d5:=b9.cell 5;have d6:=b9.cell 6;have f0:=b9.frozen 0;have f1:=b9.frozen 1;have f2:=b9.frozen 2;have f3:=b9.frozen 3;have f4:=b9.frozen 4;have f5:=b9.frozen 5;have f6:=b9.frozen 6;have z:=b9.lt;refine wpAnyH_ready (rs:=[7]) (by kernel_rfl) (by simp) ?_;refine AllReadyH.cons (by simp only[List.getElem?_toArray,List.getElem?_cons_succ,List.getElem?_cons_zero];rfl) (fun P hP=>?_) AllReadyH.nil;go_simp
        refine hP.out _ _ (KF.out _ (by obtain⟨_,_,s3⟩:=JX b9 (.int .i64 1) (.int .i64 0) (.int .i64 0) (.bool false) (.slice none 0 0) (.slice none 0 0) (.slice none 0 0);exact hb.trans (s3 _ ge9))) (fun hHeld=>?_);clear hP P
        (try simp only[Act.put,List.setIfInBounds_toArray,List.set_cons_zero,List.set_cons_succ])
        refine wpAnyH_done (by kernel_rfl) ?_ _;go_wp2_with fail
        go_meet
        exact J9 hb b9 ge9
     case sr23x6=>
      go_simp
      have st:=(Below.refl V2.heap.size V2).alloc (Nat.le_refl _) (.cells #[.int .i64 0,.int .i64 0,.int .i64 0,.bool false,.slice none 0 0,.slice none 0 0,.slice none 0 0] 44);have b9:=qd.new V2 44 #[.int .i64 0,.int .i64 0,.int .i64 0,.bool false,.slice none 0 0,.slice none 0 0,.slice none 0 0];have ge9:=hb.size
      replace hb:=hb.trans (st.mono hb.size)
      replace bR:=bR.old st
      clear st;generalize V2.alloc (.cells #[.int .i64 0,.int .i64 0,.int .i64 0,.bool false,.slice none 0 0,.slice none 0 0,.slice none 0 0] 44)=V3 at*;generalize V2.heap.size=g9 at*;refine hP.out _ _ (KF.out _ hb) (fun hHeld=>?_);clear hP P
      (try simp only[Act.put,List.setIfInBounds_toArray,List.set_cons_zero,List.set_cons_succ])
      refine wpAnyH_ready (rs:=[4]) (by kernel_rfl) (by simp) ?_;refine AllReadyH.cons (by simp only[List.getElem?_toArray,List.getElem?_cons_succ,List.getElem?_cons_zero];rfl) (fun P hP=>?sr236x4) (AllReadyH.nil)
      case sr236x4=>
       go_simp
       go_at_call 56
       refine(HAN.out _ _).mono ?_;rintro e V4 ⟨rfl,st⟩
       replace hb:=hb.trans (st.mono hb.size)
       replace bR:=bR.old st
       replace b9:=b9.old st
       clear st;refine hP.out _ _ (KF.out _ hb) (fun hHeld=>?_);clear hP P
       (try simp only[Act.put,List.setIfInBounds_toArray,List.set_cons_zero,List.set_cons_succ])
       refine wpAnyH_ready (rs:=[5]) (by kernel_rfl) (by simp) ?_;refine AllReadyH.cons (by simp only[List.getElem?_toArray,List.getElem?_cons_succ,List.getElem?_cons_zero];rfl) (fun P hP=>?sr2364x5) (AllReadyH.nil)
       case sr2364x5=>
        go_simp
        go_at_call 55
        refine(HOF.out A2 c2 K2 k2 gR _ bR).mono ?_;rintro e V5 ⟨rfl,st⟩
        replace hb:=hb.trans (st.mono hb.size)
        replace bR:=bR.old st
        replace b9:=b9.old st
        clear st;refine hP.out _ _ (KF.out _ hb) (fun hHeld=>?_);clear hP P
        (try simp only[Act.put,List.setIfInBounds_toArray,List.set_cons_zero,List.set_cons_succ])
        have d0:=b9.cell 0;have d1:=b9.cell 1;have d2:=b9.cell 2;have d3:=b9.cell 3;have d4:=b9.cell 4;have d5:=b9.cell 5;have d6:=b9.cell 6;have f0:=b9.frozen 0;have f1:=b9.frozen 1;have f2:=b9.frozen 2;have f3:=b9.frozen 3;have f4:=b9.frozen 4;have f5:=b9.frozen 5;have f6:=b9.frozen 6;have z:=b9.lt;refine wpAnyH_ready (rs:=[7]) (by kernel_rfl) (by simp) ?_;refine AllReadyH.cons (by simp only[List.getElem?_toArray,List.getElem?_cons_succ,List.getElem?_cons_zero];rfl) (fun P hP=>?_) AllReadyH.nil;go_simp
        refine hP.out _ _ (KF.out _ (by obtain⟨_,_,s3⟩:=JX b9 (.int .i64 1) (.int .i64 0) (.int .i64 0) (.bool false) (.slice none 0 0) (.slice none 0 0) (.slice none 0 0);exact hb.trans (s3 _ ge9))) (fun hHeld=>?_);clear hP P
        (try simp only[Act.put,List.setIfInBounds_toArray,List.set_cons_zero,List.set_cons_succ])
        refine wpAnyH_done (by kernel_rfl) ?_ _;go_wp2_with fail
        go_meet
        exact J9 hb b9 ge9
    case sr2x6=>
     go_simp
     have st:=(Below.refl V1.heap.size V1).alloc (Nat.le_refl _) (.cells #[.int .i64 0,.int .i64 0,.int .i64 0,.bool false,.slice none 0 0,.slice none 0 0,.slice none 0 0] 44);have b9:=qd.new V1 44 #[.int .i64 0,.int .i64 0,.int .i64 0,.bool false,.slice none 0 0,.slice none 0 0,.slice none 0 0];have ge9:=hb.size
     replace hb:=hb.trans (st.mono hb.size)
     clear st;generalize V1.alloc (.cells #[.int .i64 0,.int .i64 0,.int .i64 0,.bool false,.slice none 0 0,.slice none 0 0,.slice none 0 0] 44)=V2 at*;generalize V1.heap.size=g9 at*;refine hP.out _ _ (KF.out _ hb) (fun hHeld=>?_);clear hP P
     (try simp only[Act.put,List.setIfInBounds_toArray,List.set_cons_zero,List.set_cons_succ])
     refine wpAnyH_ready (rs:=[3]) (by kernel_rfl) (by simp) ?_;refine AllReadyH.cons (by simp only[List.getElem?_toArray,List.getElem?_cons_succ,List.getElem?_cons_zero];rfl) (fun P hP=>?sr26x3) (AllReadyH.nil)
     case sr26x3=>
      go_simp
      have st:=(Below.refl V2.heap.size V2).alloc (Nat.le_refl _) (.cells (JU A2 c2 K2 k2) 44);have bR:=qd.new V2 44 (JU A2 c2 K2 k2)
      replace hb:=hb.trans (st.mono hb.size)
      replace b9:=b9.old st
      clear st;generalize V2.alloc (.cells (JU A2 c2 K2 k2) 44)=V3 at*;generalize V2.heap.size=gR at*;refine hP.out _ _ (KF.out _ hb) (fun hHeld=>?_);clear hP P
      (try simp only[Act.put,List.setIfInBounds_toArray,List.set_cons_zero,List.set_cons_succ])
      refine wpAnyH_ready (rs:=[4]) (by kernel_rfl) (by simp) ?_;refine AllReadyH.cons (by simp only[List.getElem?_toArray,List.getElem?_cons_succ,List.getElem?_cons_zero];rfl) (fun P hP=>?sr263x4) (AllReadyH.nil)
      case sr263x4=>
       go_simp
       go_at_call 56
       refine(HAN.out _ _).mono ?_;rintro e V4 ⟨rfl,st⟩
       replace hb:=hb.trans (st.mono hb.size)
       replace b9:=b9.old st
       replace bR:=bR.old st
       clear st;refine hP.out _ _ (KF.out _ hb) (fun hHeld=>?_);clear hP P
       (try simp only[Act.put,List.setIfInBounds_toArray,List.set_cons_zero,List.set_cons_succ])
       refine wpAnyH_ready (rs:=[5]) (by kernel_rfl) (by simp) ?_;refine AllReadyH.cons (by simp only[List.getElem?_toArray,List.getElem?_cons_succ,List.getElem?_cons_zero];rfl) (fun P hP=>?sr2634x5) (AllReadyH.nil)
       case sr2634x5=>
        go_simp
        go_at_call 55
        refine(HOF.out A2 c2 K2 k2 gR _ bR).mono ?_;rintro e V5 ⟨rfl,st⟩
        replace hb:=hb.trans (st.mono hb.size)
        replace b9:=b9.old st
        replace bR:=bR.old st
        clear st;refine hP.out _ _ (KF.out _ hb) (fun hHeld=>?_);clear hP P
        (try simp only[Act.put,List.setIfInBounds_toArray,List.set_cons_zero,List.set_cons_succ])
        have d0:=b9.cell 0;have d1:=b9.cell 1;have d2:=b9.cell 2;have d3:=b9.cell 3;have d4:=b9.cell 4;have d5:=b9.cell 5;have d6:=b9.cell 6;have f0:=b9.frozen 0;have f1:=b9.frozen 1;have f2:=b9.frozen 2;have f3:=b9.frozen 3;have f4:=b9.frozen 4;have f5:=b9.frozen 5;have f6:=b9.frozen 6;have z:=b9.lt;refine wpAnyH_ready (rs:=[7]) (by kernel_rfl) (by simp) ?_;refine AllReadyH.cons (by simp only[List.getElem?_toArray,List.getElem?_cons_succ,List.getElem?_cons_zero];rfl) (fun P hP=>?_) AllReadyH.nil;go_simp
        refine hP.out _ _ (KF.out _ (by obtain⟨_,_,s3⟩:=JX b9 (.int .i64 1) (.int .i64 0) (.int .i64 0) (.bool false) (.slice none 0 0) (.slice none 0 0) (.slice none 0 0);exact hb.trans (s3 _ ge9))) (fun hHeld=>?_);clear hP P
        (try simp only[Act.put,List.setIfInBounds_toArray,List.set_cons_zero,List.set_cons_succ])
        refine wpAnyH_done (by kernel_rfl) ?_ _;go_wp2_with fail
        go_meet
        exact J9 hb b9 ge9
   case srx6=>
    go_simp
    have st:=(Below.refl V0.heap.size V0).alloc (Nat.le_refl _) (.cells #[.int .i64 0,.int .i64 0,.int .i64 0,.bool false,.slice none 0 0,.slice none 0 0,.slice none 0 0] 44);have b9:=qd.new V0 44 #[.int .i64 0,.int .i64 0,.int .i64 0,.bool false,.slice none 0 0,.slice none 0 0,.slice none 0 0];have ge9:=hb.size
    replace hb:=hb.trans (st.mono hb.size)
    clear st;generalize V0.alloc (.cells #[.int .i64 0,.int .i64 0,.int .i64 0,.bool false,.slice none 0 0,.slice none 0 0,.slice none 0 0] 44)=V1 at*;generalize V0.heap.size=g9 at*;refine hP.out _ _ (KF.out _ hb) (fun hHeld=>?_);clear hP P
    (try simp only[Act.put,List.setIfInBounds_toArray,List.set_cons_zero,List.set_cons_succ])
    refine wpAnyH_ready (rs:=[2]) (by kernel_rfl) (by simp) ?_;refine AllReadyH.cons (by simp only[List.getElem?_toArray,List.getElem?_cons_succ,List.getElem?_cons_zero];rfl) (fun P hP=>?sr6x2) (AllReadyH.nil)
    case sr6x2=>
     go_simp
     go_at_call 33
     refine(HAT.out _ hb).mono ?_;rintro e V2 ⟨A2,c2,K2,k2,rfl,st⟩
     replace hb:=hb.trans (st.mono hb.size)
     replace b9:=b9.old st
     clear st;refine hP.out _ _ (KF.out _ hb) (fun hHeld=>?_);clear hP P
     (try simp only[Act.put,List.setIfInBounds_toArray,List.set_cons_zero,List.set_cons_succ])
     refine wpAnyH_ready (rs:=[3]) (by kernel_rfl) (by simp) ?_;refine AllReadyH.cons (by simp only[List.getElem?_toArray,List.getElem?_cons_succ,List.getElem?_cons_zero];rfl) (fun P hP=>?sr62x3) (AllReadyH.nil)
     case sr62x3=>
      go_simp
      have st:=(Below.refl V2.heap.size V2).alloc (Nat.le_refl _) (.cells (JU A2 c2 K2 k2) 44);have bR:=qd.new V2 44 (JU A2 c2 K2 k2)
      replace hb:=hb.trans (st.mono hb.size)
      replace b9:=b9.old st
      clear st;generalize V2.alloc (.cells (JU A2 c2 K2 k2) 44)=V3 at*;generalize V2.heap.size=gR at*;refine hP.out _ _ (KF.out _ hb) (fun hHeld=>?_);clear hP P
      (try simp only[Act.put,List.setIfInBounds_toArray,List.set_cons_zero,List.set_cons_succ])
      refine wpAnyH_ready (rs:=[4]) (by kernel_rfl) (by simp) ?_;refine AllReadyH.cons (by simp only[List.getElem?_toArray,List.getElem?_cons_succ,List.getElem?_cons_zero];rfl) (fun P hP=>?sr623x4) (AllReadyH.nil)
      case sr623x4=>
       go_simp
       go_at_call 56
       refine(HAN.out _ _).mono ?_;rintro e V4 ⟨rfl,st⟩
       replace hb:=hb.trans (st.mono hb.size)
       replace b9:=b9.old st
       replace bR:=bR.old st
       clear st;refine hP.out _ _ (KF.out _ hb) (fun hHeld=>?_);clear hP P
       (try simp only[Act.put,List.setIfInBounds_toArray,List.set_cons_zero,List.set_cons_succ])
       refine wpAnyH_ready (rs:=[5]) (by kernel_rfl) (by simp) ?_;refine AllReadyH.cons (by simp only[List.getElem?_toArray,List.getElem?_cons_succ,List.getElem?_cons_zero];rfl) (fun P hP=>?sr6234x5) (AllReadyH.nil)
       case sr6234x5=>
        go_simp
        go_at_call 55
        refine(HOF.out A2 c2 K2 k2 gR _ bR).mono ?_;rintro e V5 ⟨rfl,st⟩
        replace hb:=hb.trans (st.mono hb.size)
        replace b9:=b9.old st
        replace bR:=bR.old st
        clear st;refine hP.out _ _ (KF.out _ hb) (fun hHeld=>?_);clear hP P
        (try simp only[Act.put,List.setIfInBounds_toArray,List.set_cons_zero,List.set_cons_succ])
        have d0:=b9.cell 0;have d1:=b9.cell 1;have d2:=b9.cell 2;have d3:=b9.cell 3;have d4:=b9.cell 4;have d5:=b9.cell 5;have d6:=b9.cell 6;have f0:=b9.frozen 0;have f1:=b9.frozen 1;have f2:=b9.frozen 2;have f3:=b9.frozen 3;have f4:=b9.frozen 4;have f5:=b9.frozen 5;have f6:=b9.frozen 6;have z:=b9.lt;refine wpAnyH_ready (rs:=[7]) (by kernel_rfl) (by simp) ?_;refine AllReadyH.cons (by simp only[List.getElem?_toArray,List.getElem?_cons_succ,List.getElem?_cons_zero];rfl) (fun P hP=>?_) AllReadyH.nil;go_simp
        refine hP.out _ _ (KF.out _ (by obtain⟨_,_,s3⟩:=JX b9 (.int .i64 1) (.int .i64 0) (.int .i64 0) (.bool false) (.slice none 0 0) (.slice none 0 0) (.slice none 0 0);exact hb.trans (s3 _ ge9))) (fun hHeld=>?_);clear hP P
        (try simp only[Act.put,List.setIfInBounds_toArray,List.set_cons_zero,List.set_cons_succ])
        refine wpAnyH_done (by kernel_rfl) ?_ _;go_wp2_with fail
        go_meet
        exact J9 hb b9 ge9
  case rest=>
   obtain⟨g9,rfl,hbd,b9⟩:=hcut;have HBD:=Lib.hid (HBC.out.trans (hbd.mono HBC.out.size));have HK2d:=Lib.hid (HK2c.out.old hbd);have h7:=H7.out.old hbd;have h8:=H8.out.old hbd;have R1d:=Lib.hid ((R1.out.below hbd).more hbd.size);have r0:=(R0.out.below hbd).more hbd.size;have n7:=jr h7 HK2d.out (by decide);have n8:=jr h8 HK2d.out (by decide);have n9:=jr b9 HK2d.out (by decide)
   replace KF:=Lib.hid (fun(V:World)(hV:Below wc.heap.size wc V)=>(⟨(h8.old hV).cell 0,(h8.old hV).cell 1,(h8.old hV).cell 2,(h8.old hV).cell 3,(h7.old hV).cell 0,(h7.old hV).cell 1,(h7.old hV).cell 2,(h7.old hV).cell 3,(b9.old hV).cell 0,(b9.old hV).cell 1,(b9.old hV).cell 2,(b9.old hV).cell 3,(b9.old hV).cell 4,(b9.old hV).cell 5,(b9.old hV).cell 6⟩:V.cell? ⟨g8,0,none⟩=some (.int .i64 qa.lv)∧V.cell? ⟨g8,1,none⟩=some (.bool qa.ng)∧V.cell? ⟨g8,2,none⟩=some (.slice A0 qa.ds.length c0)∧V.cell? ⟨g8,3,none⟩=some (.slice K0 qa.ks.length k0)∧V.cell? ⟨g7,0,none⟩=some (.int .i64 qA.lv)∧V.cell? ⟨g7,1,none⟩=some (.bool qA.ng)∧V.cell? ⟨g7,2,none⟩=some (.slice A1 qA.ds.length c1)∧V.cell? ⟨g7,3,none⟩=some (.slice K1 qA.ks.length k1)∧V.cell? ⟨g9,0,none⟩=some (.int .i64 1)∧V.cell? ⟨g9,1,none⟩=some (.int .i64 0)∧V.cell? ⟨g9,2,none⟩=some (.int .i64 0)∧V.cell? ⟨g9,3,none⟩=some (.bool false)∧V.cell? ⟨g9,4,none⟩=some (.slice none 0 0)∧V.cell? ⟨g9,5,none⟩=some (.slice none 0 0)∧V.cell? ⟨g9,6,none⟩=some (.slice none 0 0)))
   have KS:=Lib.hid (fun(V:World)(hV:Below wc.heap.size wc V)(cs:Array Value)=>(⟨(cell_setRow_other V (w.heap.size+2) cs ⟨g8,0,none⟩ n8).trans ((h8.old hV).cell 0),(cell_setRow_other V (w.heap.size+2) cs ⟨g8,1,none⟩ n8).trans ((h8.old hV).cell 1),(cell_setRow_other V (w.heap.size+2) cs ⟨g8,2,none⟩ n8).trans ((h8.old hV).cell 2),(cell_setRow_other V (w.heap.size+2) cs ⟨g8,3,none⟩ n8).trans ((h8.old hV).cell 3),(cell_setRow_other V (w.heap.size+2) cs ⟨g7,0,none⟩ n7).trans ((h7.old hV).cell 0),(cell_setRow_other V (w.heap.size+2) cs ⟨g7,1,none⟩ n7).trans ((h7.old hV).cell 1),(cell_setRow_other V (w.heap.size+2) cs ⟨g7,2,none⟩ n7).trans ((h7.old hV).cell 2),(cell_setRow_other V (w.heap.size+2) cs ⟨g7,3,none⟩ n7).trans ((h7.old hV).cell 3),(cell_setRow_other V (w.heap.size+2) cs ⟨g9,0,none⟩ n9).trans ((b9.old hV).cell 0),(cell_setRow_other V (w.heap.size+2) cs ⟨g9,1,none⟩ n9).trans ((b9.old hV).cell 1),(cell_setRow_other V (w.heap.size+2) cs ⟨g9,2,none⟩ n9).trans ((b9.old hV).cell 2),(cell_setRow_other V (w.heap.size+2) cs ⟨g9,3,none⟩ n9).trans ((b9.old hV).cell 3),(cell_setRow_other V (w.heap.size+2) cs ⟨g9,4,none⟩ n9).trans ((b9.old hV).cell 4),(cell_setRow_other V (w.heap.size+2) cs ⟨g9,5,none⟩ n9).trans ((b9.old hV).cell 5),(cell_setRow_other V (w.heap.size+2) cs ⟨g9,6,none⟩ n9).trans ((b9.old hV).cell 6)⟩:(V.setRow (w.heap.size+2) cs).cell? ⟨g8,0,none⟩=some (.int .i64 qa.lv)∧(V.setRow (w.heap.size+2) cs).cell? ⟨g8,1,none⟩=some (.bool qa.ng)∧(V.setRow (w.heap.size+2) cs).cell? ⟨g8,2,none⟩=some (.slice A0 qa.ds.length c0)∧(V.setRow (w.heap.size+2) cs).cell? ⟨g8,3,none⟩=some (.slice K0 qa.ks.length k0)∧(V.setRow (w.heap.size+2) cs).cell? ⟨g7,0,none⟩=some (.int .i64 qA.lv)∧(V.setRow (w.heap.size+2) cs).cell? ⟨g7,1,none⟩=some (.bool qA.ng)∧(V.setRow (w.heap.size+2) cs).cell? ⟨g7,2,none⟩=some (.slice A1 qA.ds.length c1)∧(V.setRow (w.heap.size+2) cs).cell? ⟨g7,3,none⟩=some (.slice K1 qA.ks.length k1)∧(V.setRow (w.heap.size+2) cs).cell? ⟨g9,0,none⟩=some (.int .i64 1)∧(V.setRow (w.heap.size+2) cs).cell? ⟨g9,1,none⟩=some (.int .i64 0)∧(V.setRow (w.heap.size+2) cs).cell? ⟨g9,2,none⟩=some (.int .i64 0)∧(V.setRow (w.heap.size+2) cs).cell? ⟨g9,3,none⟩=some (.bool false)∧(V.setRow (w.heap.size+2) cs).cell? ⟨g9,4,none⟩=some (.slice none 0 0)∧(V.setRow (w.heap.size+2) cs).cell? ⟨g9,5,none⟩=some (.slice none 0 0)∧(V.setRow (w.heap.size+2) cs).cell? ⟨g9,6,none⟩=some (.slice none 0 0)));have HNG:=Lib.hid (fun(V:World)(hV:Below wc.heap.size wc V)=>qdM 400 (by omega) qa qav (by rw[qw (show qj qa=true from rfl)];exact(qM.zero 1 5).sm (by omega) (by omega)) A0 c0 K0 k0 V.heap.size V (Nat.le_refl _) ((r0.below hV).more hV.size));have HSM:=Lib.hid (fun(V:World)=>qjw V);unfold q8 qn at HNG HSM;generalize yc (-1) (qq qa)=tN at*;generalize ju 0=tZ at*;clear hbd b9 h7 h8 r0 n7 n8 n9 hb HAT HAN HOF HK1c HK2c HBC H7 H8 R1 R0;go_upto_region 3 with(fail)
   have hb:Below wc.heap.size wc wc.drew:=(qm.drew _).below _;refine wp_region_held_drew (S:=fun w'=>w'.cell? ⟨g8,0,none⟩=some (.int .i64 qa.lv)∧w'.cell? ⟨g8,1,none⟩=some (.bool qa.ng)∧w'.cell? ⟨g8,2,none⟩=some (.slice A0 qa.ds.length c0)∧w'.cell? ⟨g8,3,none⟩=some (.slice K0 qa.ks.length k0)∧w'.cell? ⟨g7,0,none⟩=some (.int .i64 qA.lv)∧w'.cell? ⟨g7,1,none⟩=some (.bool qA.ng)∧w'.cell? ⟨g7,2,none⟩=some (.slice A1 qA.ds.length c1)∧w'.cell? ⟨g7,3,none⟩=some (.slice K1 qA.ks.length k1)∧w'.cell? ⟨g9,0,none⟩=some (.int .i64 1)∧w'.cell? ⟨g9,1,none⟩=some (.int .i64 0)∧w'.cell? ⟨g9,2,none⟩=some (.int .i64 0)∧w'.cell? ⟨g9,3,none⟩=some (.bool false)∧w'.cell? ⟨g9,4,none⟩=some (.slice none 0 0)∧w'.cell? ⟨g9,5,none⟩=some (.slice none 0 0)∧w'.cell? ⟨g9,6,none⟩=some (.slice none 0 0)) (by kernel_rfl) (KF.out _ hb) (fun hHeld=>?_);refine wpAnyH_take (i:=0) (v:=?vc0) (by simp only[List.getElem?_toArray,List.getElem?_cons_zero];rfl) (by kernel_rfl) (by kernel_rfl) (by kernel_rfl) (by exact fun _ _ _ h=>h) (Or.inl ⟨by rfl,?hyc0⟩) (by assumption) ?restc0
   case hyc0=>(intro w0 hSw;(try dsimp only at hSw);go_simp;(first|done|(with_reducible rfl)))
   simp only[Act.put,List.setIfInBounds_toArray,List.set_cons_zero,List.set_cons_succ];refine wpAnyH_take (i:=4) (v:=?vc4) (by simp only[List.getElem?_toArray,List.getElem?_cons_succ,List.getElem?_cons_zero];rfl) (by kernel_rfl) (by kernel_rfl) (by kernel_rfl) (by exact fun _ _ _ h=>h) (Or.inl ⟨by rfl,?hyc4⟩) (by assumption) ?restc4
   case hyc4=>(intro w0 hSw;(try dsimp only at hSw);go_simp;(first|done|(with_reducible rfl)))
   simp only[Act.put,List.setIfInBounds_toArray,List.set_cons_zero,List.set_cons_succ];refine wpAnyH_take (i:=5) (v:=?vc5) (by simp only[List.getElem?_toArray,List.getElem?_cons_succ,List.getElem?_cons_zero];rfl) (by kernel_rfl) (by kernel_rfl) (by kernel_rfl) (by exact fun _ _ _ h=>h) (Or.inl ⟨by rfl,?hyc5⟩) (by assumption) ?restc5
   case hyc5=>(intro w0 hSw;(try dsimp only at hSw);go_simp;(first|done|(with_reducible rfl)))
   simp only[Act.put,List.setIfInBounds_toArray,List.set_cons_zero,List.set_cons_succ];generalize wc.drew=V0 at*;refine wpAnyH_ready (rs:=[1]) (by kernel_rfl) (by simp) ?_;refine AllReadyH.cons (by simp only[List.getElem?_toArray,List.getElem?_cons_succ,List.getElem?_cons_zero];rfl) (fun P hP=>?_) AllReadyH.nil;go_simp
   go_at_call 57
   refine(HNG.out _ hb).mono ?_;rintro e V1 ⟨⟨A3,c3,K3,k3,rfl,_,st⟩,_⟩
   replace hb:=hb.trans (st.mono hb.size)
   clear st;refine hP.out _ _ (KF.out _ hb) (fun hHeld=>?_);clear hP P
   (try simp only[Act.put,List.setIfInBounds_toArray,List.set_cons_zero,List.set_cons_succ])
   refine wpAnyH_ready (rs:=[2]) (by kernel_rfl) (by simp) ?_;refine AllReadyH.cons (by simp only[List.getElem?_toArray,List.getElem?_cons_succ,List.getElem?_cons_zero];rfl) (fun P hP=>?_) AllReadyH.nil;go_simp
   go_at_call 58
   refine(HSM.out _).mono ?_;rintro e V2 ⟨A4,c4,K4,k4,rfl,_,st⟩
   replace hb:=hb.trans (st.mono hb.size)
   clear st;refine hP.out _ _ (KF.out _ hb) (fun hHeld=>?_);clear hP P
   (try simp only[Act.put,List.setIfInBounds_toArray,List.set_cons_zero,List.set_cons_succ])
   refine wpAnyH_ready (rs:=[3]) (by kernel_rfl) (by simp) ?_;refine AllReadyH.cons (by simp only[List.getElem?_toArray,List.getElem?_cons_succ,List.getElem?_cons_zero];rfl) (fun P hP=>?_) AllReadyH.nil;go_simp
   go_at_call 58
   refine(HSM.out _).mono ?_;rintro e V3 ⟨A5,c5,K5,k5,rfl,_,st⟩
   replace hb:=hb.trans (st.mono hb.size)
   clear st;refine hP.out _ _ (KF.out _ hb) (fun hHeld=>?_);clear hP P
   (try simp only[Act.put,List.setIfInBounds_toArray,List.set_cons_zero,List.set_cons_succ])
   refine wpAnyH_ready (rs:=[6]) (by kernel_rfl) (by simp) ?_;refine AllReadyH.cons (by simp only[List.getElem?_toArray,List.getElem?_cons_succ,List.getElem?_cons_zero];rfl) (fun P hP=>?_) AllReadyH.nil;go_simp
   refine hP.out _ _ (KF.out _ hb) (fun hHeld=>?_);clear hP P
   (try simp only[Act.put,List.setIfInBounds_toArray,List.set_cons_zero,List.set_cons_succ])
   have hk6:=HK2d.out.old hb;have hrv:=qg5 hk6 (by intro x h;simp at h) (show qA.ks=[]from rfl) ((R1d.out.below hb).more hb.size);have hkf:qd (V3.setRow (w.heap.size+2) #[.int .i64 2,.int .i64 tN.lv,.bool tN.ng,.slice A3 tN.ds.length c3,.slice K3 tN.ks.length k3,.int .i64 tZ.lv,.bool tZ.ng,.slice A4 tZ.ds.length c4,.slice K4 tZ.ks.length k4,.int .i64 tZ.lv,.bool tZ.ng,.slice A5 tZ.ds.length c5,.slice K5 tZ.ks.length k5,.int .i64 qA.lv,.bool qA.ng,.slice A1 qA.ds.length c1,.slice K1 qA.ks.length k1,.int .i64 1,.int .i64 0,.int .i64 0,.bool false,.slice none 0 0,.slice none 0 0,.slice none 0 0]) (w.heap.size+2) 46 #[.int .i64 2,.int .i64 tN.lv,.bool tN.ng,.slice A3 tN.ds.length c3,.slice K3 tN.ks.length k3,.int .i64 tZ.lv,.bool tZ.ng,.slice A4 tZ.ds.length c4,.slice K4 tZ.ks.length k4,.int .i64 tZ.lv,.bool tZ.ng,.slice A5 tZ.ds.length c5,.slice K5 tZ.ks.length k5,.int .i64 qA.lv,.bool qA.ng,.slice A1 qA.ds.length c1,.slice K1 qA.ks.length k1,.int .i64 1,.int .i64 0,.int .i64 0,.bool false,.slice none 0 0,.slice none 0 0,.slice none 0 0]:=setRow_heap V3 (w.heap.size+2) _ _ 46 (0,0) hk6;refine wpAnyH_ready (rs:=[7]) (by kernel_rfl) (by simp) ?_;refine AllReadyH.cons (by simp only[List.getElem?_toArray,List.getElem?_cons_succ,List.getElem?_cons_zero];rfl) (fun P hP=>?_) AllReadyH.nil;rw[if_pos (show Region.wanted _ _=true from rfl)];refine wp_store_row 46 _ _ rfl (w.heap.size+2) #[.int .i64 2,.int .i64 tN.lv,.bool tN.ng,.slice A3 tN.ds.length c3,.slice K3 tN.ks.length k3,.int .i64 tZ.lv,.bool tZ.ng,.slice A4 tZ.ds.length c4,.slice K4 tZ.ks.length k4,.int .i64 tZ.lv,.bool tZ.ng,.slice A5 tZ.ds.length c5,.slice K5 tZ.ks.length k5,.int .i64 qA.lv,.bool qA.ng,.slice A1 qA.ds.length c1,.slice K1 qA.ks.length k1,.int .i64 1,.int .i64 0,.int .i64 0,.bool false,.slice none 0 0,.slice none 0 0,.slice none 0 0] rfl rfl 46 _ hk6 (by kernel_rfl) rfl (by simp[Value.oneCell']) ?_;refine hP.out _ _ (KS.out _ hb _) (fun hHeld=>?_);clear hP P;simp only[Act.put];refine wpAnyH_done (by kernel_rfl) ?_ _;have HF:=Lib.hid (⟨hkf,hrv,HBD.out.trans (hb.mono HBD.out.size)⟩:_∧_∧_);clear hkf hrv hk6 hb KF KS HNG HSM;go_wp2_with fail
   obtain⟨hkf,hrv,hbf⟩:=HF.out;refine qg Tryz.results28 rfl rfl hkf Tryz.underlying46 rfl (by kernel_rfl) ⟨_,A1,c1,K1,k1,rfl,rfl,by simp[Value.oneCell'],rfl,rfl,rfl,rfl,rfl,?_,below_setRow hbf (by omega) _⟩;exact RV.mono (fun b h=>by rw[setRow_size];exact h.1) _ _ (RV.keep (fun b hb o=>cell_setRow_other _ _ _ ⟨b,o,none⟩ hb.2) _ _ hrv)
