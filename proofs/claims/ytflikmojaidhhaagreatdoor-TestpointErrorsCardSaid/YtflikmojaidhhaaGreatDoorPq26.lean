import Derived.Test.YtflikmojaidhhaaGreatDoorPq25
import Derived.Test.YtflikmojaidhhaaGreatDoorPqA
namespace Go.Proofs.YtflikmojaidhhaaGreatDoor
open Go.RowKit
structure MtV where
 kd:Int
 rl:Int
 ml:Int
 mg:Bool
 A:Oa
 n:Nat
 c:Nat
 K:Oa
 k:Nat
 kc:Nat
 L:Oa
 l:Nat
 lc:Nat
theorem zx.v{w w':World}{e:Ending}(h:zx w e w'):∃M:MtV,e= .returned (.agg #[.int .i64 M.kd,.int .i64 M.rl,.int .i64 M.ml,.bool M.mg,.slice M.A M.n M.c,.slice M.K M.k M.kc,.slice M.L M.l M.lc])/\Below w.heap.size w w':=by
 obtain⟨kd,rl,ml,mg,A,n,c,K,k,kc,L,l,lc,rfl,hb⟩:=h;exact⟨⟨kd,rl,ml,mg,A,n,c,K,k,kc,L,l,lc⟩,rfl,hb⟩
theorem YM{w V:World}{g:Nat}(hk:qf V g 32 #[.int .i64 0,.int .i64 0,.int .i64 0,.bool false,.slice none 0 0,.slice none 0 0,.slice none 0 0])(hw:w.heap.size<=g)(hb:Below w.heap.size w V)(M:MtV):
 qf (set7 V g (.int .i64 M.kd) (.int .i64 M.rl) (.int .i64 M.ml) (.bool M.mg) (.slice M.A M.n M.c) (.slice M.K M.k M.kc) (.slice M.L M.l M.lc)) g 32 #[.int .i64 M.kd,.int .i64 M.rl,.int .i64 M.ml,.bool M.mg,.slice M.A M.n M.c,.slice M.K M.k M.kc,.slice M.L M.l M.lc]/\zx w (.returned (.agg #[.int .i64 M.kd,.int .i64 M.rl,.int .i64 M.ml,.bool M.mg,.slice M.A M.n M.c,.slice M.K M.k M.kc,.slice M.L M.l M.lc])) (set7 V g (.int .i64 M.kd) (.int .i64 M.rl) (.int .i64 M.ml) (.bool M.mg) (.slice M.A M.n M.c) (.slice M.K M.k M.kc) (.slice M.L M.l M.lc)):=YY hk hw hb _ _ _ _ _ _ _ _ _ _ _ _ _
theorem JI{P:Program}{f:Operand->Value}{o:Oper}{ty:TypeId}{x:Operand}{g:Nat}{t:TypeId}{cs:Array Value}{d:TypeDesc}{w:World}(ho:o.op= .load ty x)(hx:f x= .pointer (some ⟨g,0,none⟩))(hg:qf w g t cs)(hu:P.underlying ty=some d)(hd:(match d with| .struct _| .array _ _=>true|_=>false)=true)(hi:(P.info? ty).map (·.size)=some cs.size):
 Sem.run P (execOp f o) w= .ok (.value (.agg cs)) w:=by
 unfold execOp;simp only[ho,hx,Instr.loadAt,Instr.sureAddr,Sem.run_bind,Sem.run_pure,Result.andThen_ok,run_loadVar_row w g t ty cs (0,0) d hg hu hd hi]
theorem Below.seven{B g:Nat}{w X:World}(hz:Below B w X)(hg:B<=g)(x0 x1 x2 x3 x4 x5 x6:Value):Below B w (set7 X g x0 x1 x2 x3 x4 x5 x6):=by
 unfold set7;exact((((((hz.setCell (p:=⟨g,0,none⟩) hg _).setCell (p:=⟨g,1,none⟩) hg _).setCell (p:=⟨g,2,none⟩) hg _).setCell (p:=⟨g,3,none⟩) hg _).setCell (p:=⟨g,4,none⟩) hg _).setCell (p:=⟨g,5,none⟩) hg _).setCell (p:=⟨g,6,none⟩) hg _
def MtB(W:World)(g:Nat):Prop:=∃M:MtV,qf W g 32 #[.int .i64 M.kd,.int .i64 M.rl,.int .i64 M.ml,.bool M.mg,.slice M.A M.n M.c,.slice M.K M.k M.kc,.slice M.L M.l M.lc]
theorem qiS{W:World}{g:Nat}{M:MtV}(hk:qf W g 32 #[.int .i64 M.kd,.int .i64 M.rl,.int .i64 M.ml,.bool M.mg,.slice M.A M.n M.c,.slice M.K M.k M.kc,.slice M.L M.l M.lc])(x0 x1 x2 x3 x4 x5 x6:Value):qf (set7 W g x0 x1 x2 x3 x4 x5 x6) g 32 #[x0,x1,x2,x3,x4,x5,x6]:=by
 unfold set7;exact(((((((hk.set_ 0 x0).set_ 1 x1).set_ 2 x2).set_ 3 x3).set_ 4 x4).set_ 5 x5).set_ 6 x6:_)
theorem qjr{F:World->Nat->MtV->Prop}{G:Prop}(I:World->Nat->MtV->Prop)(h1:(∀V g M,I V g M->F V g M)->G)(h2:∀V g M,I V g M->F V g M):G:=h1 h2
theorem qe6{F:World->MtV->MtV->Prop}{G:Prop}(I:World->MtV->MtV->Prop)(h1:(∀V M M',I V M M'->F V M M')->G)(h2:∀V M M',I V M M'->F V M M'):G:=h1 h2
theorem QB.derP{k d m:Nat}(hk:k<4){T:RP}(h:QB ((k:Int)+1) d m T)(hd:d<=300)(hm:m<=5)(SP:0<yr ((k:Int)+1) T)(A:Oa)(c:Nat)(K:Oa)(kc:Nat)(w:World)(hr:RV w (· <w.heap.size) T (qe T A c K kc)):
 Calls Tryz.prog 71 #[qm T A c K kc,.int .i64 ((k:Int)+1)] w (qS (qaT ((k:Int)+1) T) w):=by
 have Tl:=h.cfs hk;have h2:=qbW hk SP;refine qgz 400 (by omega) ((k:Int)+1) (by omega) (by omega) T h.fit (h.fitc (by omega)) (fun u hu=>?_) (fun _=>?_) (Gl h.len (by omega)) (fun _=>by omega) A c K kc w.heap.size w (Gr _) hr
 ·have q:=(Tl u hu).q (by omega) (by omega) (by omega) (by omega);exact⟨q.fit,q.vp.sm (by omega) (by omega)⟩
 ·obtain⟨hu,SG⟩:=qc8 Tl (Gl h.len hm);obtain⟨a,b,_⟩:=Q8 (k:=(k:Int)+1) hu (by have:=h.len;omega);exact⟨a.dep,qN.few (n:=4) (by omega) _ (qN.mono (by omega) (Gr _) _ b),a.cnt⟩
theorem AfI.own_lt{w W:World}{g0 gT gR base:Nat}{pcs:Array Value}{v:Value}{ts:List RP}{T:RP}{A:Oa}{c:Nat}{K:Oa}{kc:Nat}(h:AfI w W g0 gT gR base pcs v ts T A c K kc):∀x,v.ownBlock=some x->x<W.heap.size:=fun x hx=>by
 obtain⟨rows,h1,_⟩:=h.row;exact(h1.lt x hx).2
theorem AfI.start{w W:World}{g0 gT gR B:Nat}{pcs:Array Value}{T:RP}{A:Oa}{c:Nat}{K:Oa}{kc:Nat}(hb:Below w.heap.size w W)(hl:w.heap.size<=g0/\gT≠g0/\gR≠g0)(hp:qf W gT 34 pcs)(hr:qf W gR 32 #[.int .i64 0,.int .i64 0,.int .i64 0,.bool false,.slice none 0 0,.slice none 0 0,.slice none 0 0])(hk:qf W g0 28 #[.int .i64 T.lv,.bool T.ng,.slice A T.ds.length c,.slice K T.ks.length kc])(hB:B<=w.heap.size)(ht:RV W (· <B) T (qe T A c K kc)):
 AfI w (W.alloc (.cells #[.int .i64 T.lv,.bool T.ng,.slice A T.ds.length c,.slice K T.ks.length kc] 28)) g0 gT gR W.heap.size pcs (.slice (some ⟨W.heap.size,0,none⟩) 1 1) [T] T A c K kc:=by
 have Xc:=Gb W (.cells (Gx T A c K kc) 28);have Xe:=hb.size;have hn:RV (W.alloc (.cells (Gx T A c K kc) 28)) (NO (.slice (some ⟨W.heap.size,0,none⟩) 1 1) [g0] (W.alloc (.cells (Gx T A c K kc) 28))) T (qe T A c K kc):=NO.low (ht.below (Xc.mono (Gl hB Xe))) (fun x hx=>by rw[List.mem_singleton]at hx;omega) (fun x (hx:some W.heap.size=some x)=>by injection hx with hx;omega) (Gl hB (Gl Xe Xc.size));refine⟨hb.trans (Xc.mono Xe),⟨hl.1,hk.lt,hp.lt,hr.lt,hl.2.1,hl.2.2⟩,hp.old Xc,hr.old Xc,hk.old Xc,hn,[qe T A c K kc],⟨rfl,.inr ⟨W.heap.size,1,_,rfl,Gr _,qf.new W 28 (Gx T A c K kc),Gr _,by decide,rfl,rfl⟩⟩,by unfold qG;exact⟨_,[],rfl,hn,by unfold qG;rfl⟩⟩
set_option maxHeartbeats 4000000
set_option maxRecDepth 100000
theorem qga(k:Nat)(hk:k<4)(t:RP)(ht:QB ((k:Int)+1) 3 4 t)(pa pb pc pd:RP)(qa:Qp ((k:Int)+1) 5 2 pa)(qb:Qp ((k:Int)+1) 5 2 pb)(qc:Qp ((k:Int)+1) 5 2 pc)(qd:Qp ((k:Int)+1) 5 2 pd)(pcs:Array Value)(Sc:pcs.size=24)
 (A:Oa)(c:Nat)(K:Oa)(kc B:Nat)(w:World)(hB:B<=w.heap.size)(h:RV w (· <B) t (qe t A c K kc))(ha:Ju w B pcs 1 pa)(hb:Ju w B pcs 5 pb)(hc:Ju w B pcs 9 pc)(hd:Ju w B pcs 13 pd):
 Calls Tryz.prog 28 #[qm t A c K kc,.int .i64 1,.int .i64 ((k:Int)+1),.agg pcs] w (zx w):=by
 obtain⟨Xb,k0,k1,k2,hs⟩:=jN w 28 34 32 (Gx t A c K kc) pcs Gy;have Va:∀(o:Nat)(q:RP)(W:World),Below w.heap.size w W->Ju w B pcs o q->Ju W W.heap.size pcs o q:=fun o q W hW h=>by
  obtain⟨A,c,K,kc,h0,h1,h2,h3,h4⟩:=h;exact⟨A,c,K,kc,h0,h1,h2,h3,(h4.below (hW.mono hB)).more (Gl hB hW.size)⟩
 have Sz:=Gh (fun(W:World)(hW:Below w.heap.size w W)(r:Int)(hr:r=1∨r=3)(u:RP)(hu:QB ((k:Int)+1) 12 4 u)(A:Oa)(c:Nat)(K:Oa)(kc:Nat)(h:RV W (· <W.heap.size) u (qe u A c K kc))=>qie ((k:Int)+1) (by omega) (by omega) r hr u hu.fit (hu.fitc (by omega)) (fun c hc=>(hu.cfs hk c hc).mono (by omega) (Gr _)) hu.len pa pb pc pd qa qb qc qd pcs Sc A c K kc W.heap.size W (Gr _) h (Va _ _ W hW ha) (Va _ _ W hW hb) (Va _ _ W hW hc) (Va _ _ W hW hd));have XH:=Gh (AfI.start (w:=w) (pcs:=pcs) (B:=B) Xb (show w.heap.size<=w.heap.size/\w.heap.size+1≠w.heap.size/\w.heap.size+1+1≠w.heap.size by omega) k1 k2 k0 hB (h.below (Xb.mono hB)));have VF:=Gh Sc;have Xj:((k:Int)+1)<=4:=by omega
 obtain⟨x0,x1,x2,x3⟩:=G4 k0;unfold qm at Sz ⊢;clear h hB Xb k0 k1 k2 ha hb hc hd Va hs Sc;go_enter Tryz.func28,Tryz.ntmps28
 go_upto_region 1 with(fail)
 generalize ((w.alloc (.cells (Gx t A c K kc) 28)).alloc (.cells pcs 34)).alloc (.cells Gy 32)=W at*;go_wp2_with fail
 clear x0 x1 x2 x3;have P8:=Gh (show W.heap.size<(W.alloc (.cells (Gx t A c K kc) 28)).heap.size by simp);generalize W.alloc (.cells (Gx t A c K kc) 28)=W1 at*;generalize Fq:W.heap.size=gB at*;generalize EN:w.heap.size+1=gT at*;generalize TE:gT+1=gR at*;have HGTR:=Gh (show gR=w.heap.size+1+1 by omega);clear Fq EN TE;go_loopg [9] 4 (fun m v wr=>∃(ts:List RP)(T:RP)(A:Oa)(c:Nat)(K:Oa)(kc:Nat),m<=4/\ts.length+m=5/\QB ((k:Int)+1) (15-3*m) m T/\(∀u∈ts,QB ((k:Int)+1) 12 4 u)/\AfI w wr w.heap.size gT gR gB pcs v ts T A c K kc/\gB<wr.heap.size)
 case atStart=>exact⟨[t],t,A,c,K,kc,by omega,rfl,ht,fun u hu=>by rw[List.mem_singleton]at hu;subst hu;exact ht.mono (by omega) (by omega),XH,P8⟩
 case round=>
  obtain⟨ts,T,A1,c1,K1,kc1,AK,S6,Vg,Xc,OT,Fq⟩:=hrel;clear XH P8;have HAI:=Gh OT;have Ez:=Gh Vg;have El:=Gh Xc;have HD:=Gh (yn 400 (by omega) ((k:Int)+1) T Vg.fit (Vg.fitc (by omega)) A1 c1 K1 kc1 wr.heap.size wr (Gr _) (NB.all (NO.nb OT.tree)));have DH:=Gh S6;have EZ:=Gh AK;obtain⟨x0,x1,x2,x3⟩:=G4 OT.box;unfold qm at HD;clear OT Vg Xc S6 AK;go_wp2_with fail
  refine HD.out.mono ?_;rintro e w1 ⟨rfl,-,Xp⟩;have DO:=Gh (Gm Fq Xp.size);have Rv:=Gh (HAI.out.old Xp);clear x0 x1 x2 x3 Xp HAI HD Fq;by_cases SP:0<yr ((k:Int)+1) T
  ·have h2:=Gl (qbW hk SP) Ez.out.len;have HM4':=EZ.out;obtain⟨m',rfl⟩:∃m',gk=m'+1:=⟨gk-1,by omega⟩;have Ld:=Gh (Ez.out.derP hk (by omega) (by omega) SP A1 c1 K1 kc1 w1 (NB.all (NO.nb Rv.out.tree)));have Nv:=Gh (Ez.out.der hk (by omega) (by omega) (by omega));obtain⟨y0,y1,y2,y3⟩:=G4 Rv.out.box;unfold qS qm at Ld;have Fy:=Gh h2;clear h2 HM4';generalize qaT ((k:Int)+1) T=T2 at*;go_wp2_with fail
   refine Ld.out.mono ?_;rintro e w2 ⟨A2,c2,K2,kc2,rfl,XK,Xf⟩;have NR:=Rv.out.old Xf;have hp:=NR.put XK Rv.out.box.lt Rv.out.own_lt;unfold set4 at hp;have kk:=NR.box;obtain⟨d0,d1,d2,d3⟩:=G4 kk;obtain⟨f0,f1,f2,f3,zl⟩:=G5 kk;clear kk;have HP:=Gh hp;have P7:=Gh (show gB<((((w2.setCell ⟨w.heap.size,0,none⟩ (.int .i64 T2.lv)).setCell ⟨w.heap.size,1,none⟩ (.bool T2.ng)).setCell ⟨w.heap.size,2,none⟩ (.slice A2 T2.ds.length c2)).setCell ⟨w.heap.size,3,none⟩ (.slice K2 T2.ks.length kc2)).heap.size by have:=DO.out;have:=Xf.size;simp;omega);clear hp XK Xf NR y0 y1 y2 y3 DO;go_upto_region 12 with(fail)
   generalize ((((w2.setCell ⟨w.heap.size,0,none⟩ (.int .i64 T2.lv)).setCell ⟨w.heap.size,1,none⟩ (.bool T2.ng)).setCell ⟨w.heap.size,2,none⟩ (.slice A2 T2.ds.length c2)).setCell ⟨w.heap.size,3,none⟩ (.slice K2 T2.ks.length kc2))=w3 at*;clear d0 d1 d2 d3 f0 f1 f2 f3 zl;have hp:=HP.out;have Xc:=Gb w3 (.cells (Gx T2 A2 c2 K2 kc2) 28);have Xv:=qu.four_newA w3 [.int .i64 T2.lv,.bool T2.ng,.slice A2 T2.ds.length c2,.slice K2 T2.ks.length kc2] rfl 28;have hq:=hp.old Xc;obtain⟨rows,Tv,Px⟩:=hq.row;obtain⟨i0,Uw,XU,X7,Xy⟩:=qO Tryz.infoRec;have VK:ts.length+1<=maxLen:=by have:=DH.out;unfold maxLen;omega
   have VH:(ts.length+1)*64<=140737488355328:=by have:=DH.out;omega
   have Xt:gB<=(w3.alloc (.cells (Gx T2 A2 c2 K2 kc2) 28)).heap.size:=Gl (Nat.le_of_lt P7) Xc.size;have Vi:=Gh (fun(w5:World)(v':Value) ho hg VI=>And.intro (hq.push (W2:=w5) (v':=v') Tv Px hg ho VI) (Gm P7 (Gl Xc.size hg.size)));have XO:∀x∈([.int .i64 T2.lv,.bool T2.ng,.slice A2 T2.ds.length c2,.slice K2 T2.ks.length kc2]:List Value),x.oneCell'=true:=by intro x hx;simp at hx;rcases hx with rfl|rfl|rfl|rfl<;>rfl
   obtain⟨y0,y1,y2,y3⟩:=G4 hp.box;clear hp Xc hq Px;go_wp2_with (at_builtin;refine qM _ rfl (.tmp 40) (.tmp 42) 26 rfl gB 28 i0 _ 4 64 Tryz.underlying26 Uw XU X7 Xy rfl (by decide) u9 ts.length rows.flatten rfl Tv (w3.heap.size+1) (some ⟨w3.heap.size,0,none⟩) 1 1 [.int .i64 T2.lv,.bool T2.ng,.slice A2 T2.ds.length c2,.slice K2 T2.ks.length kc2] rfl Xv XO VK VH Xt ?_;intro v' w5 hown2 TV hat2;refine Hid.out ?_)
   refine Gh ?_;have Ee:=Gh (Vi w5 v' hown2 TV (hat2.imp id fun e=>⟨_,e,Gr _⟩));clear hown2 TV hat2 Xv Tv XO VK VH Xt Vi Uw XU X7 Xy y0 y1 y2 y3;go_wp2_with fail
   have AK:=EZ.out;have VY:=Fy.out;have S6:=DH.out;go_roundg m'
   case rel=>exact⟨ts++[T2],T2,A2,c2,K2,kc2,by omega,by rw[List.length_append,List.length_singleton];omega,Nv.out.mono (by omega) (Gr _),fun u hu=>by
    rcases List.mem_append.1 hu with hu|hu
    ·exact El u hu
    ·rw[List.mem_singleton]at hu;subst hu;exact Nv.out.mono (by omega) (by omega),Ee.out.1,Ee.out.2⟩
   case measure=>omega
  ·obtain⟨P,cp,rfl,Fr,UG⟩:=Rv.out.ins;have hT:=Rv.out.pt;have hR:=Rv.out.re;have Ug:=Rv.out.bel;have AL:=Rv.out.lo;obtain⟨n,hn⟩:∃n,n=ts.length:=⟨_,rfl⟩;rw[<-hn]at Fr ⊢;have HN:=Gh hn;have VV:=Gh UG;have HT:=Gh hT;have HR:=Gh hR;have CO:=Gh Ug;have KG:=Gh (show w.heap.size<=gR by have:=HGTR.out;omega);have S6:=DH.out;have AK:=EZ.out;obtain⟨l,rfl⟩:∃l,n=l+1:=⟨n-1,by omega⟩;have hl:l<=4:=by omega
   obtain⟨uL,IC⟩:∃u,ts[l]? =some u:=⟨_,Gn (by omega)⟩;have SS:=Gh IC;have e1:((l+1:Nat):Int)-1=(l:Int):=by omega
   have e2:IntKind.i64.wrap (l:Int)=(l:Int):=IntWalk.i64_in _ (by omega);obtain⟨bA,oA,A4,q4,K4,r4,rfl,RD,y0,y1,y2,y3,XN⟩:=UG.kid IC;have Sk:=Gh (And.intro y0 (And.intro y1 (And.intro y2 y3)));have Bg:=Gh XN;have XR:=Gh RD;clear hn UG hT hR Ug AL S6 AK IC y0 y1 y2 y3 XN RD DH EZ Ez Rv;go_upto_region 14 with(fail)
   have KF:=Gh (fun(X:World)(hX:Below w1.heap.size w1 X)=>(⟨(hX.cell (p:=⟨bA,oA+l*4,none⟩) XR).trans Sk.out.1,(hX.cell (p:=⟨bA,oA+l*4+1,none⟩) XR).trans Sk.out.2.1,(hX.cell (p:=⟨bA,oA+l*4+2,none⟩) XR).trans Sk.out.2.2.1,(hX.cell (p:=⟨bA,oA+l*4+3,none⟩) XR).trans Sk.out.2.2.2,HT.out.old hX⟩:X.cell? ⟨bA,oA+l*4,none⟩=some (.int .i64 uL.lv)/\X.cell? ⟨bA,oA+l*4+1,none⟩=some (.bool uL.ng)/\X.cell? ⟨bA,oA+l*4+2,none⟩=some (.slice A4 uL.ds.length q4)/\X.cell? ⟨bA,oA+l*4+3,none⟩=some (.slice K4 uL.ks.length r4)/\qf X gT 34 pcs));have hz:Below w1.heap.size w1 w1.drew:=(qt.drew _).below _;have XT:=Gh (fun(X:World)(hX:Below w1.heap.size w1 X)=>Sz X (Gt CO hX) 1 (.inl rfl) uL (El uL (Gk SS)) A4 q4 K4 r4 ((Bg.out.below hX).more hX.size));have hcp':((l:Int)+1)<=(cp:Int):=by omega
   have i0:(0:Int)<=(l:Int):=by omega
   have i1:(l:Int)<(l:Int)+1:=by omega
   refine wp_region_held_drew (S:=fun w'=>w'.cell? ⟨bA,oA+l*4,none⟩=some (.int .i64 uL.lv)/\w'.cell? ⟨bA,oA+l*4+1,none⟩=some (.bool uL.ng)/\w'.cell? ⟨bA,oA+l*4+2,none⟩=some (.slice A4 uL.ds.length q4)/\w'.cell? ⟨bA,oA+l*4+3,none⟩=some (.slice K4 uL.ks.length r4)/\qf w' gT 34 pcs) (by kernel_rfl) (KF _ hz) (fun Xa=>?_);refine tk 0 ?_
   refine tk 1 ?_
   refine tk 2 ?_
   refine tk 3 ?_
   refine tk 4 ?_
   refine tk 5 ?_
   simp only[Act.put,sA,sB,sC];refine wpAnyH_take (i:=6) (v:= .agg pcs) (by simp only[List.getElem?_toArray,List.getElem?_cons_succ,List.getElem?_cons_zero];rfl) (by kernel_rfl) (by kernel_rfl) (by kernel_rfl) (by exact fun _ _ _ h=>h) (Or.inl ⟨by rfl,?hyq7⟩) (by assumption) ?restq7
   case hyq7=>exact fun w0 hSw=>JI rfl rfl hSw.2.2.2.2 Tryz.underlying34 rfl (by rw[VF.out];kernel_rfl)
   simp only[Act.put,sA,sB,sC];generalize w1.drew=V0 at*;apply qjr (fun X g M=>Below w1.heap.size w1 X/\w1.heap.size<=g/\qf X g 32 Gy)
   case h1=>
    intro HJ;refine rd2 7 8 (fun P hP=>?ka7) (fun P hP=>?ka8)
    case ka7=>
     go_simp
     go_at_call 27
     refine(XT _ hz).mono ?_;rintro e X0 hm;obtain⟨M1,rfl,st⟩:=hm.v
     replace hz:=Gt hz st
     clear st;refine hP _ _ (KF _ hz) (fun Xa=>?_);clear hP P
     refine rd1 8 (fun P hP=>?_);have st:=Gb X0 (.cells Gy 32);have Vb:=qf.new X0 32 Gy;have Er:=hz.size;go_simp
     replace hz:=Gt hz st
     clear st;generalize X0.alloc (.cells Gy 32)=Y1 at*;generalize X0.heap.size=gM at*;refine hP _ _ (KF _ hz) (fun Xa=>?_);clear hP P
     exact HJ _ gM M1 ⟨hz,Er,Vb⟩
    case ka8=>
     have st:=Gb V0 (.cells Gy 32);have Vb:=qf.new V0 32 Gy;have Er:=hz.size;go_simp
     replace hz:=Gt hz st
     clear st;generalize V0.alloc (.cells Gy 32)=Y0 at*;generalize V0.heap.size=gM at*;refine hP _ _ (KF _ hz) (fun Xa=>?_);clear hP P
     refine rd1 7 (fun P hP=>?_);go_simp
     go_at_call 27
     refine(XT _ hz).mono ?_;rintro e X1 hm;obtain⟨M1,rfl,st⟩:=hm.v
     replace hz:=Gt hz st
     replace Vb:=Vb.old st
     clear st;refine hP _ _ (KF _ hz) (fun Xa=>?_);clear hP P
     exact HJ _ gM M1 ⟨hz,Er,Vb⟩
   case h2=>
    clear hz;intro X gM M1 ⟨hz,Er,Vb⟩;refine rd1 9 (fun P hP=>?_);have LW:=(Qd Vb (.int .i64 M1.kd) (.int .i64 M1.rl) (.int .i64 M1.ml) (.bool M1.mg) (.slice M1.A M1.n M1.c) (.slice M1.K M1.k M1.kc) (.slice M1.L M1.l M1.lc));have UQ:=Gh (Below.seven (B:=w1.heap.size) hz Er (.int .i64 M1.kd) (.int .i64 M1.rl) (.int .i64 M1.ml) (.bool M1.mg) (.slice M1.A M1.n M1.c) (.slice M1.K M1.k M1.kc) (.slice M1.L M1.l M1.lc));have Tj:=Gh LW.1;unfold set7 at UQ Tj;have kk:=Vb;obtain⟨d0,d1,d2,d3⟩:=G4 kk;have d4:=kk.cell 4;have d5:=kk.cell 5;have d6:=kk.cell 6;have f0:=kk.frozen 0;have f1:=kk.frozen 1;have f2:=kk.frozen 2;have f3:=kk.frozen 3;have f4:=kk.frozen 4;have f5:=kk.frozen 5;have f6:=kk.frozen 6;have zl:=kk.lt;clear kk;go_simp
    refine hP _ _ (KF _ UQ) (fun Xa=>?_);clear hP P
    clear d0 d1 d2 d3 d4 d5 d6 f0 f1 f2 f3 f4 f5 f6 zl LW Vb hz;refine wpAnyH_done (by kernel_rfl) ?_ _;clear Xa KF XT;generalize (((((((X.setCell ⟨gM,0,none⟩ (.int .i64 M1.kd)).setCell ⟨gM,1,none⟩ (.int .i64 M1.rl)).setCell ⟨gM,2,none⟩ (.int .i64 M1.ml)).setCell ⟨gM,3,none⟩ (.bool M1.mg)).setCell ⟨gM,4,none⟩ (.slice M1.A M1.n M1.c)).setCell ⟨gM,5,none⟩ (.slice M1.K M1.k M1.kc)).setCell ⟨gM,6,none⟩ (.slice M1.L M1.l M1.lc))=X1 at*;have e3:IntKind.i64.wrap ((l:Int)-1)=(l:Int)-1:=IntWalk.i64_in _ (by omega);go_wp2_with fail
    have UK:=Gh UQ.out;have P4:=Gh (show MtB X1 gM from⟨M1,Tj⟩);have Af:=Gh Er;clear UQ Tj Er Sk Bg XR SS e1 e2 e3 hcp' i0 i1;go_loopg [12] l (fun gn iv wr=>∃r j:Nat,r+j=l/\gn=r/\iv= .int .i64 ((r:Int)-1)/\Below w1.heap.size w1 wr/\MtB wr gM)
    case atStart=>exact⟨l,0,rfl,rfl,rfl,UK,P4⟩
    case round=>
     obtain⟨r,j,hrj,TE,rfl,Xe,M,Vb⟩:=hrel;clear UK P4;have WX:=Gh TE;have Xh:=Gh Xe;have Tj:=Gh Vb;clear TE;by_cases h0:0<r
     ·obtain⟨r,rfl⟩:∃r',r=r'+1:=⟨r-1,by omega⟩;obtain⟨u,hu⟩:∃u,ts[r]? =some u:=⟨_,Gn (by have:=HN.out;omega)⟩;obtain⟨b',o',A5,q5,K5,r5,hP,RD,y0,y1,y2,y3,XN⟩:=(VV.out.below Xe).kid hu
      injection hP with hP
      injection hP with CD OU
      subst CD;subst OU;have jk:((r+1:Nat):Int)-1=(r:Int):=by omega
      have i0:(0:Int)<=(r:Int):=by omega
      have i1:(r:Int)<(l:Int)+1:=by omega
      have i2:((l:Int)+1)<=(cp:Int):=by omega
      have e1:IntKind.i64.wrap ((r:Int)-1)=(r:Int)-1:=IntWalk.i64_in _ (by omega);rw[jk];have Xc:=Gb wr (.cells (Gx u A5 q5 K5 r5) 28);have HD:=Gh (qf.new wr 28 (Gx u A5 q5 K5 r5));have Xw:=Gh (Gt Xe Xc);have RG:=Gh (show wr.heap.size≠gM by have:=Vb.lt;omega);have WH:=Gh (show gT≠gM by have:=HT.out.lt;have:=Af.out;omega);have XA:=Gh (Vb.old Xc);have HU:=Gh (El u (Gk hu));have Bg:=Gh (((XN.more Xe.size).below Xc).more Xc.size);clear Xc Xe Vb hu XN jk RD Xh Tj;go_upto_region 19 with(fail)
      generalize wr.alloc (.cells (Gx u A5 q5 K5 r5) 28)=X2 at*;generalize wr.heap.size=gD at*;clear y0 y1 y2 y3;have BZ:=Gh (HT.out.old Xw);have KF:=Gh (fun(X:World)(hX:Below X2.heap.size X2 X)=>(⟨(HD.out.old hX).cell 0,(HD.out.old hX).cell 1,(HD.out.old hX).cell 2,(HD.out.old hX).cell 3,BZ.out.old hX⟩:Gd X gD (.int .i64 u.lv) (.bool u.ng) (.slice A5 u.ds.length q5) (.slice K5 u.ks.length r5) (qf X gT 34 pcs)));have hz:Below X2.heap.size X2 X2.drew:=(qt.drew _).below _;have XT:=Gh (fun(X:World)(hX:Below X2.heap.size X2 X)(q:Int)(hq:q=1∨q=3)=>Sz X (CO.out.trans ((Gt Xw hX).mono CO.out.size)) q hq u HU A5 q5 K5 r5 ((Bg.out.below hX).more hX.size));have Ff:=Gh (fun(X:World)=>qai 1 X);rw[show qjY 1=1 from rfl]at Ff;refine wp_region_held_drew (S:=fun w'=>Gd w' gD (.int .i64 u.lv) (.bool u.ng) (.slice A5 u.ds.length q5) (.slice K5 u.ks.length r5) (qf w' gT 34 pcs)) (by kernel_rfl) (KF _ hz) (fun Xa=>?_);refine tk 0 ?_
      refine tk 1 ?_
      refine tk 3 ?_
      simp only[Act.put,sA,sB,sC];refine wpAnyH_take (i:=4) (v:= .agg pcs) (by simp only[List.getElem?_toArray,List.getElem?_cons_succ,List.getElem?_cons_zero];rfl) (by kernel_rfl) (by kernel_rfl) (by kernel_rfl) (by exact fun _ _ _ h=>h) (Or.inl ⟨by rfl,?hyq11⟩) (by assumption) ?restq11
      case hyq11=>exact fun w0 hSw=>JI rfl rfl hSw.2.2.2.2 Tryz.underlying34 rfl (by rw[VF.out];kernel_rfl)
      refine tk 6 ?_
      refine tk 7 ?_
      simp only[Act.put,sA,sB,sC];refine wpAnyH_take (i:=8) (v:= .agg pcs) (by simp only[List.getElem?_toArray,List.getElem?_cons_succ,List.getElem?_cons_zero];rfl) (by kernel_rfl) (by kernel_rfl) (by kernel_rfl) (by exact fun _ _ _ h=>h) (Or.inl ⟨by rfl,?hyq14⟩) (by assumption) ?restq14
      case hyq14=>exact fun w0 hSw=>JI rfl rfl hSw.2.2.2.2 Tryz.underlying34 rfl (by rw[VF.out];kernel_rfl)
      simp only[Act.put,sA,sB,sC];generalize X2.drew=V at*;apply qe6 (fun X M5 M9=>Below X2.heap.size X2 X)
      case h1=>
       intro HJ
       iterate 4
        all_goals first
         |refine rd2 2 10 (fun P hP=>?_) (fun P hP=>?_) (by decide+kernel)
         |refine rd2 5 10 (fun P hP=>?_) (fun P hP=>?_) (by decide+kernel)
         |refine rd2 9 10 (fun P hP=>?_) (fun P hP=>?_) (by decide+kernel)
         |refine rd1 2 (fun P hP=>?_) (by decide+kernel)
         |refine rd1 5 (fun P hP=>?_) (by decide+kernel)
         |refine rd1 9 (fun P hP=>?_) (by decide+kernel)
         |refine rd1 10 (fun P hP=>?_) (by decide+kernel)
        all_goals first
         |(go_simp
           go_at_call 66
           refine(Ff _).mono ?_;rintro e V ⟨rfl,rfl⟩;refine hP _ _ (KF _ hz) (fun Xa=>?_);clear hP P
           (try simp only[Act.put,sA,sB,sC]))
         |(have hg:=M5
           clear hg;go_simp
           go_at_call 27
           refine(XT _ hz _ (.inr rfl)).mono ?_;rintro e V hm;obtain⟨M9,rfl,st⟩:=hm.v
           replace hz:=Gt hz st
           clear st hm;refine hP _ _ (KF _ hz) (fun Xa=>?_);clear hP P
           (try simp only[Act.put,sA,sB,sC]))
         |(go_simp
           go_at_call 27
           refine(XT _ hz _ (.inl rfl)).mono ?_;rintro e V hm;obtain⟨M5,rfl,st⟩:=hm.v
           replace hz:=Gt hz st
           clear st hm;refine hP _ _ (KF _ hz) (fun Xa=>?_);clear hP P
           (try simp only[Act.put,sA,sB,sC]))
         |(obtain⟨n0,n1,n2,n3,n4,n5,n6⟩:=(⟨(XA.out.old hz).cell 0,(XA.out.old hz).cell 1,(XA.out.old hz).cell 2,(XA.out.old hz).cell 3,(XA.out.old hz).cell 4,(XA.out.old hz).cell 5,(XA.out.old hz).cell 6⟩:Gd V gM (.int .i64 M.kd) (.int .i64 M.rl) (.int .i64 M.ml) (.bool M.mg) (V.cell? ⟨gM,4,none⟩=some (.slice M.A M.n M.c)/\V.cell? ⟨gM,5,none⟩=some (.slice M.K M.k M.kc)/\V.cell? ⟨gM,6,none⟩=some (.slice M.L M.l M.lc)))
           go_simp
           refine hP _ _ (KF _ hz) (fun Xa=>?_);clear hP P
           clear n0 n1 n2 n3 n4 n5 n6)
       all_goals first
        |exact HJ V M5 M9 hz
      case h2=>
       clear hz;intro X M5 M9 hz;refine rd1 11 (fun P hP=>?_);have st:=Gb X (.cells #[.int .i64 M9.kd,.int .i64 M9.rl,.int .i64 M9.ml,.bool M9.mg,.slice M9.A M9.n M9.c,.slice M9.K M9.k M9.kc,.slice M9.L M9.l M9.lc,.int .i64 M.kd,.int .i64 M.rl,.int .i64 M.ml,.bool M.mg,.slice M.A M.n M.c,.slice M.K M.k M.kc,.slice M.L M.l M.lc] 32);go_simp
       replace hz:=Gt hz st
       clear st;generalize X.alloc (.cells #[.int .i64 M9.kd,.int .i64 M9.rl,.int .i64 M9.ml,.bool M9.mg,.slice M9.A M9.n M9.c,.slice M9.K M9.k M9.kc,.slice M9.L M9.l M9.lc,.int .i64 M.kd,.int .i64 M.rl,.int .i64 M.ml,.bool M.mg,.slice M.A M.n M.c,.slice M.K M.k M.kc,.slice M.L M.l M.lc] 32)=Y11 at*;generalize X.heap.size=gs11 at*;refine hP _ _ (KF _ hz) (fun Xa=>?_);clear hP P
       refine rd1 12 (fun P hP=>?_);go_simp
       go_at_call 39
       refine(zN _ _ _ _).mono ?_;rintro e X12 ⟨rfl,st⟩
       replace hz:=Gt hz st
       clear st;refine hP _ _ (KF _ hz) (fun Xa=>?_);clear hP P
       refine rd1 13 (fun P hP=>?_);have st:=Gb X12 (.cells #[.int .i64 M5.kd,.int .i64 M5.rl,.int .i64 M5.ml,.bool M5.mg,.slice M5.A M5.n M5.c,.slice M5.K M5.k M5.kc,.slice M5.L M5.l M5.lc,.int .i64 3,.int .i64 0,.int .i64 0,.bool false,.slice none 0 0,.slice none 0 0,.slice (some ⟨gs11,0,none⟩) 2 2] 32);go_simp
       replace hz:=Gt hz st
       clear st;generalize X12.alloc (.cells #[.int .i64 M5.kd,.int .i64 M5.rl,.int .i64 M5.ml,.bool M5.mg,.slice M5.A M5.n M5.c,.slice M5.K M5.k M5.kc,.slice M5.L M5.l M5.lc,.int .i64 3,.int .i64 0,.int .i64 0,.bool false,.slice none 0 0,.slice none 0 0,.slice (some ⟨gs11,0,none⟩) 2 2] 32)=Y13 at*;generalize X12.heap.size=gs13 at*;refine hP _ _ (KF _ hz) (fun Xa=>?_);clear hP P
       refine rd1 14 (fun P hP=>?_);go_simp
       go_at_call 65
       refine(Zx _ _ _ _).mono ?_;rintro e X14 ⟨rfl,st⟩
       replace hz:=Gt hz st
       clear st;refine hP _ _ (KF _ hz) (fun Xa=>?_);clear hP P
       refine rd1 15 (fun P hP=>?_);have LW:=(qiS (XA.out.old hz) (.int .i64 4) (.int .i64 0) (.int .i64 0) (.bool false) (.slice none 0 0) (.slice none 0 0) (.slice (some ⟨gs13,0,none⟩) 2 2));have UQ:=Gh (Below.seven (B:=w1.heap.size) (Gt Xw hz) Af (.int .i64 4) (.int .i64 0) (.int .i64 0) (.bool false) (.slice none 0 0) (.slice none 0 0) (.slice (some ⟨gs13,0,none⟩) 2 2));have Tj:=Gh LW;have UN:=Gh (⟨((HD.out.old hz).far7 RG (.int .i64 4) (.int .i64 0) (.int .i64 0) (.bool false) (.slice none 0 0) (.slice none 0 0) (.slice (some ⟨gs13,0,none⟩) 2 2)).cell 0,((HD.out.old hz).far7 RG (.int .i64 4) (.int .i64 0) (.int .i64 0) (.bool false) (.slice none 0 0) (.slice none 0 0) (.slice (some ⟨gs13,0,none⟩) 2 2)).cell 1,((HD.out.old hz).far7 RG (.int .i64 4) (.int .i64 0) (.int .i64 0) (.bool false) (.slice none 0 0) (.slice none 0 0) (.slice (some ⟨gs13,0,none⟩) 2 2)).cell 2,((HD.out.old hz).far7 RG (.int .i64 4) (.int .i64 0) (.int .i64 0) (.bool false) (.slice none 0 0) (.slice none 0 0) (.slice (some ⟨gs13,0,none⟩) 2 2)).cell 3,((BZ.out.old hz).far7 WH (.int .i64 4) (.int .i64 0) (.int .i64 0) (.bool false) (.slice none 0 0) (.slice none 0 0) (.slice (some ⟨gs13,0,none⟩) 2 2))⟩:(set7 X14 gM (.int .i64 4) (.int .i64 0) (.int .i64 0) (.bool false) (.slice none 0 0) (.slice none 0 0) (.slice (some ⟨gs13,0,none⟩) 2 2)).cell? ⟨gD,0,none⟩=some (.int .i64 u.lv)/\(set7 X14 gM (.int .i64 4) (.int .i64 0) (.int .i64 0) (.bool false) (.slice none 0 0) (.slice none 0 0) (.slice (some ⟨gs13,0,none⟩) 2 2)).cell? ⟨gD,1,none⟩=some (.bool u.ng)/\(set7 X14 gM (.int .i64 4) (.int .i64 0) (.int .i64 0) (.bool false) (.slice none 0 0) (.slice none 0 0) (.slice (some ⟨gs13,0,none⟩) 2 2)).cell? ⟨gD,2,none⟩=some (.slice A5 u.ds.length q5)/\(set7 X14 gM (.int .i64 4) (.int .i64 0) (.int .i64 0) (.bool false) (.slice none 0 0) (.slice none 0 0) (.slice (some ⟨gs13,0,none⟩) 2 2)).cell? ⟨gD,3,none⟩=some (.slice K5 u.ks.length r5)/\qf (set7 X14 gM (.int .i64 4) (.int .i64 0) (.int .i64 0) (.bool false) (.slice none 0 0) (.slice none 0 0) (.slice (some ⟨gs13,0,none⟩) 2 2)) gT 34 pcs);unfold set7 at UQ Tj UN;have kk:=XA.out.old hz;obtain⟨d0,d1,d2,d3⟩:=G4 kk;have d4:=kk.cell 4;have d5:=kk.cell 5;have d6:=kk.cell 6;have f0:=kk.frozen 0;have f1:=kk.frozen 1;have f2:=kk.frozen 2;have f3:=kk.frozen 3;have f4:=kk.frozen 4;have f5:=kk.frozen 5;have f6:=kk.frozen 6;have zl:=kk.lt;clear kk;go_simp
       refine hP _ _ (UN) (fun Xa=>?_);clear hP P
       clear d0 d1 d2 d3 d4 d5 d6 f0 f1 f2 f3 f4 f5 f6 zl LW hz UN KF;refine wpAnyH_done (by kernel_rfl) ?_ _;clear Xa XT Ff;go_wp2_with fail
       go_roundg r
       case rel=>exact⟨r,j+1,by omega,rfl,rfl,UQ,⟨4,0,0,false,none,0,0,none,0,0,some ⟨gs13,0,none⟩,2,2⟩,Tj⟩
       case measure=>have:=WX.out;omega
     ·obtain rfl:r=0:=by omega
      have Xg:=Gh (YM (HR.out.old Xe) KG (Gt CO Xe) M);obtain⟨n0,n1,n2,n3⟩:=G4 Vb;have n4:=Vb.cell 4;have n5:=Vb.cell 5;have n6:=Vb.cell 6;have i0:¬(0:Int)<=((0:Nat):Int)-1:=by omega
      have kk:=HR.out.old Xe;obtain⟨d0,d1,d2,d3⟩:=G4 kk;have d4:=kk.cell 4;have d5:=kk.cell 5;have d6:=kk.cell 6;have f0:=kk.frozen 0;have f1:=kk.frozen 1;have f2:=kk.frozen 2;have f3:=kk.frozen 3;have f4:=kk.frozen 4;have f5:=kk.frozen 5;have f6:=kk.frozen 6;have zl:=kk.lt;clear kk;clear Vb Xe;go_wp2_with fail
      exact qo Tryz.results28 rfl rfl Xg.out.1 Tryz.underlying32 rfl Tryz.sizeMat Xg.out.2
