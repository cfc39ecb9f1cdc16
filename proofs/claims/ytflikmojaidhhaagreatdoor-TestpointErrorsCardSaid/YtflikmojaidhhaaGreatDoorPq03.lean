import Derived.Deep.RegionHeld3
import Derived.Deep.DrawnRows
import Derived.Test.YtflikmojaidhhaaGreatDoorPq02
import Derived.Test.YtflikmojaidhhaaGreatDoorPqA
namespace Go.Proofs.YtflikmojaidhhaaGreatDoor
open Go.RowKit
theorem Tryz.sizeInt:(Tryz.prog.info? 25).map (·.size)=some 2:=by kernel_rfl
theorem qo{P:Program}{fn:Func}{Q:Ending->World->Prop}{a:Act}{w:World}{p:Tmp}{ty:TypeId}{g:Nat}{t:TypeId}{cs:Array Value}{d:TypeDesc}(hr:fn.results=#[.cell p ty])(AU:a.defers=[])(hp:a.tmps.getD p undef= .pointer (some ⟨g,0,none⟩))(hb:qf w g t cs)
 (hu:P.underlying ty=some d)(hd:(match d with| .struct _| .array _ _=>true|_=>false)=true)(hi:(P.info? ty).map (·.size)=some cs.size)(h:Q (.returned (.agg cs)) w):bodyPost P fn Q Exit.ret a w:=
 bodyPost_ret (results_cell_row hr a.tmps w g t cs (0,0) d hp hb hu hd hi) AU h
set_option maxHeartbeats 400000
theorem zH(ng:Bool)(A:Oa)(n c:Nat)(w:World):
 Calls Tryz.prog 108 #[.bool ng,.slice A n c] w fun e w'=>e= .returned (.agg #[.bool (ng&&decide (0<n)),.slice A n c])/\Below w.heap.size w w':=by
 cases ng
 ·go_enter Tryz.func108,Tryz.ntmps108
  go_wp2
  exact qo Tryz.results108 rfl rfl (qf.new w _ _) Tryz.underlying25 rfl Tryz.sizeInt ⟨rfl,(Below.refl _ w).alloc (Gr _) _⟩
 ·by_cases h:0<n
  ·have hb:decide ((0:Int)<(n:Int))=true:=by simpa using h
   go_enter Tryz.func108,Tryz.ntmps108
   go_wp2
   exact qo Tryz.results108 rfl rfl (qf.new w _ _) Tryz.underlying25 rfl Tryz.sizeInt ⟨by simp[h],(Below.refl _ w).alloc (Gr _) _⟩
  ·obtain rfl:n=0:=by omega
   go_enter Tryz.func108,Tryz.ntmps108
   go_wp2
   exact qo Tryz.results108 rfl rfl (qf.new w _ _) Tryz.underlying25 rfl Tryz.sizeInt ⟨rfl,(Below.refl _ w).alloc (Gr _) _⟩
theorem qL.far{w:World}{A:Oa}{ds:List Nat}(h:qL w A ds){g:Nat}{t:TypeId}{cs:Array Value}(hb:qf w g t cs)(ht:t≠123)(o:Nat)(u:Value):qL (w.setCell ⟨g,o,none⟩ u) A ds:=
 h.keep fun g' cs' k=>k.far (by
  rintro rfl;unfold qf at k hb;rw[k]at hb
  injection hb with hb
  injection hb with _ h1
  exact ht h1.symm) u
theorem qL.store2{w:World}{A:Oa}{ds:List Nat}(h:qL w A ds){g:Nat}{t:TypeId}{cs:Array Value}(hb:qf w g t cs)(ht:t≠123)(u v:Value):qL ((w.setCell ⟨g,0,none⟩ u).setCell ⟨g,1,none⟩ v) A ds:=
 (h.far hb ht 0 u).far (hb.set_ 0 u) ht 1 v
def qj(ng:Bool)(ds:List Nat):Int:=if ng then -(val ds:Int)else(val ds:Int)
def qX(z:Int)(w:World)(e:Ending)(w':World):Prop:=
 ∃A c,e= .returned (.agg #[.bool (decide (z<0)),.slice A (dig z.natAbs).length c])/\(dig z.natAbs).length<=c/\qL w' A (dig z.natAbs)/\Below w.heap.size w w'
theorem je(ng:Bool)(ds:List Nat):(qj ng ds).natAbs=val ds:=by unfold qj;cases ng<;>simp
theorem qin(ng:Bool)(ds:List Nat):decide (qj ng ds<0)=(ng&&decide (0<(dig (val ds)).length)):=by
 have:0<(dig (val ds)).length↔0<val ds:=by
  have:=@Jw (val ds);omega
 unfold qj
 cases ng<;>simp[this]
set_option maxRecDepth 100000
theorem JY(ng:Bool)(A:Oa)(c B:Nat)(ds:List Nat)(w:World)(hB:B<=w.heap.size)(hc:ds.length<=c)(hm:ds.length<=1000000)(hr:qu w B 1 A ds.length (qp ds))(hd:jg ds):
 Calls Tryz.prog 84 #[.bool ng,.slice A ds.length c] w (qX (qj ng ds) w):=by
 have Xq:=Gb w (.cells #[.bool false,.slice none 0 0] 25);have hn:=yw A c B ds _ (by simp;omega) hc hm (hr.below (Xq.mono hB)) hd;have e1:=qin ng ds;have e2:=je ng ds;have U1:=qf.new w 25 #[.bool false,.slice none 0 0];unfold qX;rw[e1,e2];clear e1 e2;unfold yg at hn;generalize dig (val ds)=es at*;have HN:=Gh hn;have Uq:=Gh Xq;have Ek:=Gh U1;clear hn Xq U1;go_enter Tryz.func84,Tryz.ntmps84
 go_wp2_with fail
 refine HN.out.mono ?_;rintro e w1 ⟨A1,c1,rfl,h1,h2,h3⟩;have hs:=zH ng A1 es.length c1 w1;generalize RC:(ng&&decide (0<es.length))=g at*;have T0:=Gh RC;clear RC;have HS:=Gh hs;clear hs;go_wp2_with fail
 refine HS.out.mono ?_;rintro e w2 ⟨rfl,h4⟩;have hk:=(Ek.out.old h3).old h4;have d0:w2.cell? ⟨w.heap.size,0,none⟩=some (.bool false):=(hk.cell 0).trans rfl;have d1:w2.cell? ⟨w.heap.size,1,none⟩=some (.slice none 0 0):=(hk.cell 1).trans rfl;have f0:=hk.frozen 0;have f1:=hk.frozen 1;have z0:=hk.lt;go_wp2_with fail
 have Vy:=h2.old h4;have Ug:=(Uq.out.trans (h3.mono (by simp))).trans (h4.mono (by have:=h3.size;simp at this;omega));exact qo Tryz.results84 rfl rfl ((hk.set_ 0 _).set_ 1 _) Tryz.underlying25 rfl Tryz.sizeInt ⟨A1,c1,by rw[T0.out];rfl,h1,Vy.store2 hk (by decide) _ _,(Ug.setCell (Gr _) _).setCell (Gr _) _⟩
structure qx (w:World) (B:Nat) (A:Oa) (c:Nat) (ds:List Nat):Prop where
 rd:qu w B 1 A ds.length (qp ds)
 dg:jg ds
 cap:ds.length<=c
theorem qx.below{w w':World}{B c:Nat}{A:Oa}{ds:List Nat}(h:qx w B A c ds)(hb:Below B w w'):qx w' B A c ds:=⟨h.rd.below hb,h.dg,h.cap⟩
theorem qx.more{w:World}{B B' c:Nat}{A:Oa}{ds:List Nat}(h:qx w B A c ds)(hB:B<=B'):qx w B' A c ds:=⟨h.rd.more hB,h.dg,h.cap⟩
theorem yZ(ng:Bool)(A:Oa)(c B:Nat)(ds:List Nat)(w:World)(hB:B<=w.heap.size)(h:qx w B A c ds)(hm:ds.length<=1000000):
 Calls Tryz.prog 47 #[.agg #[.bool ng,.slice A ds.length c]] w (qX (qj ng ds) w):=by
 have Xq:=(Gb w (.cells #[.bool ng,.slice A ds.length c] 25)).alloc (by simp) (.cells #[.bool false,.slice none 0 0] 25);have hn:=JY ng A c B ds _ (by simp;omega) h.cap hm (h.rd.below (Xq.mono hB)) h.dg;have U1:=qf.new (w.alloc (.cells #[.bool ng,.slice A ds.length c] 25)) 25 #[.bool false,.slice none 0 0];rw[show(w.alloc (.cells #[.bool ng,.slice A ds.length c] 25)).heap.size=w.heap.size+1 by simp]at U1;have HN:=Gh hn;have Uq:=Gh Xq;have Ek:=Gh U1;clear hn Xq U1 h;go_enter Tryz.func47,Tryz.ntmps47
 go_wp2_with fail
 refine HN.out.mono ?_;rintro e w2 ⟨A1,c1,rfl,h1,h2,h3⟩;generalize hz:qj ng ds=z at*;generalize he:dig z.natAbs=es at*;generalize hg:decide (z<0)=g at*;have HE:=Gh he;have HG:=Gh hg;clear he hg hz;have hk:=Ek.out.old h3;have d0:w2.cell? ⟨w.heap.size+1,0,none⟩=some (.bool false):=(hk.cell 0).trans rfl;have d1:w2.cell? ⟨w.heap.size+1,1,none⟩=some (.slice none 0 0):=(hk.cell 1).trans rfl;have f0:=hk.frozen 0;have f1:=hk.frozen 1;have z0:=hk.lt;go_wp2_with fail
 have Ug:=Uq.out.trans (h3.mono (by simp;omega));exact qo Tryz.results47 rfl rfl ((hk.set_ 0 _).set_ 1 _) Tryz.underlying25 rfl Tryz.sizeInt ⟨A1,c1,by rw[HE,HG.out];rfl,by rw[HE.out];exact h1,by rw[HE.out];exact h2.store2 hk (by decide) _ _,(Ug.setCell (by show _<=w.heap.size+1;omega) _).setCell (by show _<=w.heap.size+1;omega) _⟩
theorem qhJ(ng:Bool)(A:Oa)(c B:Nat)(ds:List Nat)(w:World)(hB:B<=w.heap.size)(h:qx w B A c ds)(hm:ds.length<=1000000):
 Calls Tryz.prog 111 #[.agg #[.bool ng,.slice A ds.length c]] w (qX (-qj ng ds) w):=by
 have Xq:=(Gb w (.cells #[.bool ng,.slice A ds.length c] 25)).alloc (by simp) (.cells #[.bool false,.slice none 0 0] 25);have hn:=JY (!ng) A c B ds _ (by simp;omega) h.cap hm (h.rd.below (Xq.mono hB)) h.dg;have U1:=qf.new (w.alloc (.cells #[.bool ng,.slice A ds.length c] 25)) 25 #[.bool false,.slice none 0 0];rw[show(w.alloc (.cells #[.bool ng,.slice A ds.length c] 25)).heap.size=w.heap.size+1 by simp]at U1;rw[show qj (!ng) ds=-qj ng ds by unfold qj;cases ng<;>simp]at hn;have HN:=Gh hn;have Uq:=Gh Xq;have Ek:=Gh U1;clear hn Xq U1 h;go_enter Tryz.func111,Tryz.ntmps111
 go_wp2_with fail
 refine HN.out.mono ?_;rintro e w2 ⟨A1,c1,rfl,h1,h2,h3⟩;generalize hz:-qj ng ds=z at*;generalize he:dig z.natAbs=es at*;generalize hg:decide (z<0)=g at*;have HE:=Gh he;have HG:=Gh hg;clear he hg hz;have hk:=Ek.out.old h3;have d0:w2.cell? ⟨w.heap.size+1,0,none⟩=some (.bool false):=(hk.cell 0).trans rfl;have d1:w2.cell? ⟨w.heap.size+1,1,none⟩=some (.slice none 0 0):=(hk.cell 1).trans rfl;have f0:=hk.frozen 0;have f1:=hk.frozen 1;have z0:=hk.lt;go_wp2_with fail
 have Ug:=Uq.out.trans (h3.mono (by simp;omega));exact qo Tryz.results111 rfl rfl ((hk.set_ 0 _).set_ 1 _) Tryz.underlying25 rfl Tryz.sizeInt ⟨A1,c1,by rw[HE,HG.out];rfl,by rw[HE.out];exact h1,by rw[HE.out];exact h2.store2 hk (by decide) _ _,(Ug.setCell (by show _<=w.heap.size+1;omega) _).setCell (by show _<=w.heap.size+1;omega) _⟩
def qP(z:Int):Int:=if z<0 then -1 else if z=0 then 0 else 1
theorem zI(ng:Bool)(A:Oa)(c B:Nat)(ds:List Nat)(w:World)(hB:B<=w.heap.size)(h:qx w B A c ds)(hm:ds.length<=1000000):
 Calls Tryz.prog 52 #[.agg #[.bool ng,.slice A ds.length c]] w fun e w'=>e= .returned (.int .i64 (qP (qj ng ds)))/\w'=w.alloc (.cells #[.bool ng,.slice A ds.length c] 25):=by
 have Xq:=Gb w (.cells #[.bool ng,.slice A ds.length c] 25);have hn:=qaC A c B ds _ h.cap hm (h.rd.below (Xq.mono hB)) h.dg;have hv:qP (qj ng ds)=if val ds=0 then 0 else if ng then -1 else 1:=by
  unfold qP qj
  cases ng
  ·by_cases h0:val ds=0
   ·simp[h0]
   ·rw[if_neg h0];simp;rw[if_neg (by omega),if_neg h0]
  ·by_cases h0:val ds=0
   ·simp[h0]
   ·rw[if_neg h0,if_pos rfl,if_pos (by simp;omega)];rfl
 rw[hv];by_cases h0:val ds=0
 ·have hb:(val ds==0)=true:=by simpa using h0
  rw[if_pos h0];rw[hb]at hn;have HN:=Gh hn;clear hn hb h0 hv h;go_enter Tryz.func52,Tryz.ntmps52
  go_wp2_with fail
  refine HN.out.mono ?_;rintro e w2 ⟨rfl,rfl⟩;go_wp2_with fail
  go_ret
  exact⟨rfl,rfl⟩
 ·have hb:(val ds==0)=false:=by simpa using h0
  rw[if_neg h0];rw[hb]at hn;have HN:=Gh hn;clear hn hb h0 hv h
  cases ng
  ·go_enter Tryz.func52,Tryz.ntmps52
   go_wp2_with fail
   refine HN.out.mono ?_;rintro e w2 ⟨rfl,rfl⟩;go_wp2_with fail
   go_ret
   exact⟨rfl,rfl⟩
  ·go_enter Tryz.func52,Tryz.ntmps52
   go_wp2_with fail
   refine HN.out.mono ?_;rintro e w2 ⟨rfl,rfl⟩;go_wp2_with fail
   go_ret
   exact⟨rfl,rfl⟩
def Zr(a b:Int):Int:=if a<b then -1 else if b<a then 1 else 0
theorem qgL(a b:Int):(Zr a b==0)=decide (a=b):=by
 unfold Zr;by_cases h:a<b
 ·rw[if_pos h];simp;omega
 ·by_cases h2:b<a
  ·rw[if_neg h,if_pos h2];simp;omega
  ·rw[if_neg h,if_neg h2];simp;omega
theorem qdu{a b:Int}(h:qP a<qP b):Zr a b=-1:=by
 unfold qP at h;unfold Zr;rw[if_pos];repeat' split at h
 all_goals omega
theorem qcV{a b:Int}(h:qP b<qP a):Zr a b=1:=by
 unfold qP at h;unfold Zr;have:b<a:=by
  repeat' split at h
  all_goals omega
 rw[if_neg (by omega),if_pos this]
theorem qdH{ng ng':Bool}{ds es:List Nat}(h:qP (qj ng ds)=qP (qj ng' es)):Zr (qj ng ds) (qj ng' es)=if qP (qj ng ds)<0 then zp (val es) (val ds)else zp (val ds) (val es):=by
 unfold Zr zp;unfold qP at*;unfold qj at*;generalize val ds=x at*;generalize val es=y at*
 cases ng<;>cases ng'<;>simp only[if_true,if_false,Bool.false_eq_true]at* <;>(repeat' split at h)<;>(repeat' split)<;>omega
set_option maxHeartbeats 1000000
theorem qiP(ng ng':Bool)(A A':Oa)(c c' B:Nat)(ds es:List Nat)(w:World)(hB:B<=w.heap.size)(h:qx w B A c ds)(h':qx w B A' c' es)(hm:ds.length<=1000000)(UE:es.length<=1000000):
 Calls Tryz.prog 180 #[.agg #[.bool ng,.slice A ds.length c],.agg #[.bool ng',.slice A' es.length c']] w fun e w'=>e= .returned (.int .i64 (Zr (qj ng ds) (qj ng' es)))/\Below w.heap.size w w':=by
 have Om:=fun(W:World)(hb:Below w.heap.size w W)=>zI ng A c B ds W (Gl hB hb.size) (h.below (hb.mono hB)) hm;have Cp:=fun(W:World)(hb:Below w.heap.size w W)=>zI ng' A' c' B es W (Gl hB hb.size) (h'.below (hb.mono hB)) UE;have Dg:=Gh Om;have UQ:=Gh Cp;clear Om Cp;go_enter Tryz.func180,Tryz.ntmps180
 go_upto_region 1 with(fail)
 have Xq:=(Gb w (.cells #[.bool ng,.slice A ds.length c] 25)).alloc (by simp) (.cells #[.bool ng',.slice A' es.length c'] 25);go_cut [5,6] (fun s t wc=>s= .int .i64 (qP (qj ng ds))/\t= .int .i64 (qP (qj ng' es))/\Below (w.heap.size+2) ((w.alloc (.cells #[.bool ng,.slice A ds.length c] 25)).alloc (.cells #[.bool ng',.slice A' es.length c'] 25)) wc)
 case first=>
  have h1:=Dg.out _ Xq.drew;have h2:=UQ.out _ (Xq.alloc (by simp;omega) (.cells #[.bool ng,.slice A ds.length c] 25)).drew;have h3:=UQ.out _ Xq.drew;have h4:=Dg.out _ (Xq.alloc (by simp;omega) (.cells #[.bool ng',.slice A' es.length c'] 25)).drew;have H1:=Gh h1;have H2:=Gh h2;have H3:=Gh h3;have H4:=Gh h4;clear h1 h2 h3 h4 Xq Dg UQ h h';generalize qP (qj ng ds)=s1 at*;generalize qP (qj ng' es)=s2 at*;go_region_with (go_at_call 52;first|(with_reducible refine H1.out.mono ?_;rintro e w1 ⟨rfl,rfl⟩)|(with_reducible refine H2.out.mono ?_;rintro e w1 ⟨rfl,rfl⟩)|(with_reducible refine H3.out.mono ?_;rintro e w1 ⟨rfl,rfl⟩)|(with_reducible refine H4.out.mono ?_;rintro e w1 ⟨rfl,rfl⟩))
  all_goals(go_wp2_with fail;go_meet;exact⟨rfl,rfl,by repeat(first|exact Below.refl _ _|refine Below.drew ?_|refine Below.alloc ?_ (by simp;try omega) _)⟩)
 case rest=>
  obtain⟨rfl,rfl,OP⟩:=hcut;have XU:((w.alloc (.cells #[.bool ng,.slice A ds.length c] 25)).alloc (.cells #[.bool ng',.slice A' es.length c'] 25)).heap.size=w.heap.size+2:=by simp
  have Xe:=Xq.trans (OP.mono (by omega));have k1:qf wc w.heap.size 25 #[.bool ng,.slice A ds.length c]:=((qf.new w 25 #[.bool ng,.slice A ds.length c]).alloc _).below OP (by omega);have k2:qf wc (w.heap.size+1) 25 #[.bool ng',.slice A' es.length c']:=by
   have:=qf.new (w.alloc (.cells #[.bool ng,.slice A ds.length c] 25)) 25 #[.bool ng',.slice A' es.length c'];rw[show(w.alloc (.cells #[.bool ng,.slice A ds.length c] 25)).heap.size=w.heap.size+1 by simp]at this;exact this.below OP (by omega)
  have d1:wc.cell? ⟨w.heap.size,1,none⟩=some (.slice A ds.length c):=(k1.cell 1).trans rfl;have d2:wc.cell? ⟨w.heap.size+1,1,none⟩=some (.slice A' es.length c'):=(k2.cell 1).trans rfl;have z1:=k1.lt;have z2:=k2.lt;have n1:=h.below (Xe.mono hB);have n2:=h'.below (Xe.mono hB);have BS:=QZ A A' c c' B ds es wc n1.cap n2.cap hm UE n1.rd n2.rd n1.dg n2.dg;have Tc:=QZ A' A c' c B es ds wc n2.cap n1.cap UE hm n2.rd n1.rd n2.dg n1.dg;have Pa:=Gh BS;have XR:=Gh Tc;have Xh:=Gh Xe;clear BS Tc k1 k2 n1 n2 h h' OP Xq XU Dg UQ Xe;rcases Int.lt_trichotomy (qP (qj ng ds)) (qP (qj ng' es))with hs|hs|hs
  ·have hv:Zr (qj ng ds) (qj ng' es)=-1:=qdu hs;have HV:=Gh hv;clear hv;generalize qP (qj ng ds)=s1 at*;generalize qP (qj ng' es)=s2 at*;go_wp2_with fail
   go_ret
   exact⟨by rw[HV.out];rfl,Xh⟩
  ·have hv:=qdH hs;have HV:=Gh hv;clear hv;rw[<-hs];clear hs;generalize qP (qj ng ds)=s1 at*;by_cases h0:s1<0
   ·rw[if_pos h0]at HV;generalize zp (val es) (val ds)=r at*;go_wp2_with fail
    refine XR.out.mono ?_;rintro e w2 ⟨rfl,hd⟩;go_wp2_with fail
    go_ret
    exact⟨by rw[HV.out];rfl,Xh.out.trans (hd.below _)⟩
   ·rw[if_neg h0]at HV;generalize zp (val ds) (val es)=r at*;go_wp2_with fail
    refine Pa.out.mono ?_;rintro e w2 ⟨rfl,hd⟩;go_wp2_with fail
    go_ret
    exact⟨by rw[HV.out];rfl,Xh.out.trans (hd.below _)⟩
  ·have hv:Zr (qj ng ds) (qj ng' es)=1:=qcV hs;have HV:=Gh hv;clear hv;generalize qP (qj ng ds)=s1 at*;generalize qP (qj ng' es)=s2 at*;go_wp2_with fail
   go_ret
   exact⟨by rw[HV.out];rfl,Xh⟩
theorem qhY(ng ng':Bool)(A A':Oa)(c c' B:Nat)(ds es:List Nat)(w:World)(hB:B<=w.heap.size)(h:qx w B A c ds)(h':qx w B A' c' es)(hm:ds.length<=1000000)(UE:es.length<=1000000):
 Calls Tryz.prog 163 #[.agg #[.bool ng,.slice A ds.length c],.agg #[.bool ng',.slice A' es.length c']] w fun e w'=>e= .returned (.bool (decide (qj ng ds=qj ng' es)))/\Below w.heap.size w w':=by
 have Xq:=(Gb w (.cells #[.bool ng,.slice A ds.length c] 25)).alloc (by simp) (.cells #[.bool ng',.slice A' es.length c'] 25);have hc:=qiP ng ng' A A' c c' B ds es _ (Gl hB Xq.size) (h.below (Xq.mono hB)) (h'.below (Xq.mono hB)) hm UE;have XU:((w.alloc (.cells #[.bool ng,.slice A ds.length c] 25)).alloc (.cells #[.bool ng',.slice A' es.length c'] 25)).heap.size=w.heap.size+2:=by simp
 have HZ:=Gh XU;have Uq:=Gh Xq;have HC:=Gh hc;have hv:=qgL (qj ng ds) (qj ng' es);rw[<-hv];clear hc h h' Xq XU hv;generalize Zr (qj ng ds) (qj ng' es)=r at*;go_enter Tryz.func163,Tryz.ntmps163
 go_wp2_with fail
 refine HC.out.mono ?_;rintro e w2 ⟨rfl,hb⟩;go_wp2_with fail
 go_ret
 exact⟨rfl,Uq.out.trans (hb.mono (by rw[HZ.out];omega))⟩
theorem Jc(x:Int)(h0:-9223372036854775808<=x)(h1:x<=9223372036854775807)(w:World):Calls Tryz.prog 35 #[.int .i64 x] w (qX x w):=by
 have Xq:=Gb w (.cells #[.bool false,.slice none 0 0] 25);have U1:=qf.new w 25 #[.bool false,.slice none 0 0];have hn:=qea x.natAbs (by omega) (w.alloc (.cells #[.bool false,.slice none 0 0] 25));unfold yg at hn;unfold qX;generalize dig x.natAbs=es at*;have Uq:=Gh Xq;have Ek:=Gh U1;clear Xq U1;by_cases hx:x<0
 ·rw[show decide (x<0)=true by simpa using hx];have Lp:((x.natAbs:Nat):Int)=IntKind.u64.wrap (-IntKind.u64.wrap x):=by
   simp only[IntKind.wrap,IntKind.bits,IntKind.signed,Bool.false_and,Bool.false_eq_true,if_false];omega
  rw[Lp]at hn;have HN:=Gh hn;clear hn Lp;go_enter Tryz.func35,Tryz.ntmps35
  go_wp2_with fail
  refine HN.out.mono ?_;rintro e w2 ⟨A1,c1,rfl,h3,h4,h5⟩;have hk:=Ek.out.old h5;have d0:w2.cell? ⟨w.heap.size,0,none⟩=some (.bool false):=(hk.cell 0).trans rfl;have d1:w2.cell? ⟨w.heap.size,1,none⟩=some (.slice none 0 0):=(hk.cell 1).trans rfl;have f0:=hk.frozen 0;have f1:=hk.frozen 1;have z0:=hk.lt;go_wp2_with fail
  have Ug:=Uq.out.trans (h5.mono (by simp));exact qo Tryz.results35 rfl rfl ((hk.set_ 0 _).set_ 1 _) Tryz.underlying25 rfl Tryz.sizeInt ⟨A1,c1,rfl,h3,h4.store2 hk (by decide) _ _,(Ug.setCell (Gr _) _).setCell (Gr _) _⟩
 ·rw[show decide (x<0)=false by simpa using hx];have Lp:((x.natAbs:Nat):Int)=x:=by omega
  rw[Lp]at hn;have HN:=Gh hn;clear hn Lp;go_enter Tryz.func35,Tryz.ntmps35
  go_wp2_with fail
  refine HN.out.mono ?_;rintro e w2 ⟨A1,c1,rfl,h3,h4,h5⟩;have hk:=Ek.out.old h5;have d0:w2.cell? ⟨w.heap.size,0,none⟩=some (.bool false):=(hk.cell 0).trans rfl;have d1:w2.cell? ⟨w.heap.size,1,none⟩=some (.slice none 0 0):=(hk.cell 1).trans rfl;have f0:=hk.frozen 0;have f1:=hk.frozen 1;have z0:=hk.lt;go_wp2_with fail
  have Ug:=Uq.out.trans (h5.mono (by simp));exact qo Tryz.results35 rfl rfl ((hk.set_ 0 _).set_ 1 _) Tryz.underlying25 rfl Tryz.sizeInt ⟨A1,c1,rfl,h3,h4.store2 hk (by decide) _ _,(Ug.setCell (Gr _) _).setCell (Gr _) _⟩
attribute [local go_sem ↓] Go.wp_at_zero Go.wp_at_succ
theorem qg2(ng ng':Bool)(ds es:List Nat):(qj ng ds*qj ng' es).natAbs=val ds*val es:=by
 rw[Int.natAbs_mul,je,je]
theorem jL{v:Nat}:0<(dig v).length↔0<v:=by
 have:=@Jw v;omega
theorem qiF(ng ng':Bool)(ds es:List Nat):decide (qj ng ds*qj ng' es<0)=((!ng==ng')&&decide (0<(dig (val ds*val es)).length)):=by
 have h0:((val ds:Nat):Int)*((val es:Nat):Int)=((val ds*val es:Nat):Int):=by simp
 have h1:=@jL (val ds*val es);unfold qj
 cases ng<;>cases ng'<;>simp only[if_true,Bool.false_eq_true,if_false,Int.neg_mul,Int.mul_neg,h0]<;>simp[h1]<;>omega
theorem qf.drewN{w:World}{g:Nat}{t:TypeId}{cs:Array Value}(h:qf w g t cs)(n:Nat):qf (w.drewN n) g t cs:=h
theorem jE{w:World}{g b o:Nat}{u v x:Value}(h:w.cell? ⟨b,o,none⟩=some x)(Xl:b≠g):((w.setCell ⟨g,0,none⟩ u).setCell ⟨g,1,none⟩ v).cell? ⟨b,o,none⟩=some x:=by
 rw[World.cell?_setCell_other _ _ _ _ (fun e=>Xl (congrArg Addr.block e).symm),World.cell?_setCell_other _ _ _ _ (fun e=>Xl (congrArg Addr.block e).symm)];exact h
theorem JP(n:Nat):n≠n+1+1:=by omega
theorem Yp(n:Nat):n≠n+1:=by omega
theorem qR(w:World)(t0 t1:TypeId)(c0 c1:Array Value):Below w.heap.size w ((w.alloc (.cells c0 t0)).alloc (.cells c1 t1))/\qf ((w.alloc (.cells c0 t0)).alloc (.cells c1 t1)) w.heap.size t0 c0/\
 qf ((w.alloc (.cells c0 t0)).alloc (.cells c1 t1)) (w.heap.size+1) t1 c1/\((w.alloc (.cells c0 t0)).alloc (.cells c1 t1)).heap.size=w.heap.size+2:=by
 refine⟨(Gb w _).alloc (by simp) _,(qf.new w t0 c0).alloc _,?_,by simp⟩;have k1:=qf.new (w.alloc (.cells c0 t0)) t1 c1;simpa using k1
theorem jN(w:World)(t0 t1 t2:TypeId)(c0 c1 c2:Array Value):Below w.heap.size w (((w.alloc (.cells c0 t0)).alloc (.cells c1 t1)).alloc (.cells c2 t2))/\qf (((w.alloc (.cells c0 t0)).alloc (.cells c1 t1)).alloc (.cells c2 t2)) w.heap.size t0 c0/\
 qf (((w.alloc (.cells c0 t0)).alloc (.cells c1 t1)).alloc (.cells c2 t2)) (w.heap.size+1) t1 c1/\qf (((w.alloc (.cells c0 t0)).alloc (.cells c1 t1)).alloc (.cells c2 t2)) (w.heap.size+2) t2 c2/\
 (((w.alloc (.cells c0 t0)).alloc (.cells c1 t1)).alloc (.cells c2 t2)).heap.size=w.heap.size+3:=by
 obtain⟨h1,h2,h3,h4⟩:=qR w t0 t1 c0 c1;refine⟨h1.alloc (by omega) _,h2.alloc _,h3.alloc _,?_,by simp⟩;have k2:=qf.new ((w.alloc (.cells c0 t0)).alloc (.cells c1 t1)) t2 c2;simpa using k2
end Go.Proofs.YtflikmojaidhhaaGreatDoor
namespace Go.Proofs.YtflikmojaidhhaaGreatDoor
open Go.RowKit
attribute [local go_sem ↓] Go.wp_at_zero Go.wp_at_succ
theorem qgG(ng:Bool)(ds es:List Nat):(qj ng ds+qj ng es).natAbs=val ds+val es/\decide (qj ng ds+qj ng es<0)=(ng&&decide (0<(dig (val ds+val es)).length)):=by
 have h1:=@jL (val ds+val es);unfold qj
 cases ng
 ·simp only[Bool.false_eq_true,if_false,Bool.false_and,decide_eq_false_iff_not];omega
 ·simp only[if_true,Bool.true_and,decide_eq_decide,h1];omega
theorem qj5(ng:Bool)(ds es:List Nat)(h:val es<=val ds):(qj ng ds+qj (!ng) es).natAbs=val ds-val es/\decide (qj ng ds+qj (!ng) es<0)=(ng&&decide (0<(dig (val ds-val es)).length)):=by
 have h1:=@jL (val ds-val es);unfold qj
 cases ng
 ·simp only[Bool.false_eq_true,if_false,Bool.false_and,Bool.not_false,if_true,decide_eq_false_iff_not];omega
 ·simp only[if_true,Bool.true_and,Bool.not_true,Bool.false_eq_true,if_false,decide_eq_decide,h1];omega
theorem qi1(ng:Bool)(ds es:List Nat)(h:val ds<val es):(qj ng ds+qj (!ng) es).natAbs=val es-val ds/\decide (qj ng ds+qj (!ng) es<0)=((!ng)&&decide (0<(dig (val es-val ds)).length)):=by
 have h1:=@jL (val es-val ds);unfold qj
 cases ng
 ·simp only[Bool.false_eq_true,if_false,Bool.not_false,if_true,Bool.true_and,decide_eq_decide,h1];omega
 ·simp only[if_true,Bool.not_true,Bool.false_eq_true,if_false,Bool.false_and,decide_eq_false_iff_not];omega
theorem qi5{a b:Nat}(h:b<=a):0<=zp a b:=by unfold zp;split<;>(try split)<;>omega
theorem qkf{a b:Nat}(h:a<b):zp a b<0:=by unfold zp;rw[if_pos h];omega
set_option maxHeartbeats 1000000
set_option maxRecDepth 100000
theorem qgf(ng:Bool)(A A':Oa)(c c' B:Nat)(ds es:List Nat)(w:World)(hB:B<=w.heap.size)(h:qx w B A c ds)(h':qx w B A' c' es)(hm:ds.length<=900000)(UE:es.length<=900000):
 Calls Tryz.prog 117 #[.agg #[.bool ng,.slice A ds.length c],.agg #[.bool ng,.slice A' es.length c']] w (qX (qj ng ds+qj ng es) w):=by
 obtain⟨e2,e1⟩:=qgG ng ds es;have hn:=fun(W:World)(hb:Below w.heap.size w W)=>qkg A A' c c' B ds es W (Gl hB hb.size) h.cap h'.cap hm UE (h.rd.below (hb.mono hB)) (h'.rd.below (hb.mono hB)) h.dg h'.dg;unfold qX;rw[e1,e2];clear e1 e2;unfold yg at hn;have TC:=h.cap;have VY:=h'.cap;clear h h';generalize dig (val ds+val es)=rs at*;have HN:=Gh hn;have HX:=Gh (jN w 25 25 25 #[.bool ng,.slice A ds.length c] #[.bool ng,.slice A' es.length c'] #[.bool false,.slice none 0 0]);clear hn;go_enter Tryz.func117,Tryz.ntmps117
 have VA:(ng==ng)=true:=by simp
 go_wp2_with fail
 generalize ((w.alloc (.cells #[.bool ng,.slice A ds.length c] 25)).alloc (.cells #[.bool ng,.slice A' es.length c'] 25)).alloc (.cells #[.bool false,.slice none 0 0] 25)=W at*;obtain⟨Xb,k0,k1,k2,hs⟩:=HX.out;have HS:=Gh hs;clear hs HX;have c0:W.cell? ⟨w.heap.size,0,none⟩=some (.bool ng):=k0.cell 0;have c1:W.cell? ⟨w.heap.size,1,none⟩=some (.slice A ds.length c):=k0.cell 1;have c3:W.cell? ⟨w.heap.size+1,1,none⟩=some (.slice A' es.length c'):=k1.cell 1;have l0:=k0.lt;have l1:=k1.lt;have l2:=k2.lt;have K2:qf W.drew (w.heap.size+2) 25 #[.bool false,.slice none 0 0]:=k2;have Rs:Below w.heap.size w W.drew:=Xb.trans ((qt.drew _).below _);go_region_held3 (fun w'=>w'.cell? ⟨w.heap.size,0,none⟩=some (.bool ng)/\w'.cell? ⟨w.heap.size,1,none⟩=some (.slice A ds.length c)/\w'.cell? ⟨w.heap.size+1,1,none⟩=some (.slice A' es.length c'))
  (first|exact⟨c0,c1,c3⟩|exact⟨(h3.cell l0).trans c0,(h3.cell l0).trans c1,(h3.cell l1).trans c3⟩|exact⟨q0,q1,q3⟩|exact⟨jE q0 (JP _),jE q1 (JP _),jE q3 (Yp _)⟩)
  (first|(go_at_call 132;refine(HN _ Rs).mono ?_;rintro e w1 ⟨A1,c1',rfl,h1,h2,h3⟩)|(go_at_call 108;refine(zH _ _ _ _ _).mono ?_;rintro e w2 ⟨rfl,h4⟩;have kk:=(K2.old h3).old h4;have d0:w2.cell? ⟨w.heap.size+2,0,none⟩=some (.bool false):=kk.cell 0;have d1:w2.cell? ⟨w.heap.size+2,1,none⟩=some (.slice none 0 0):=kk.cell 1;have f0:=kk.frozen 0;have f1:=kk.frozen 1;have q0:=(h4.cell (Gm l0 h3.size)).trans ((h3.cell l0).trans c0);have q1:=(h4.cell (Gm l0 h3.size)).trans ((h3.cell l0).trans c1);have q3:=(h4.cell (Gm l1 h3.size)).trans ((h3.cell l1).trans c3)))
 clear q0 q1 q3 c0 c1 c3;go_wp2_with fail
 have Ug:=(Gt Rs h3).trans (h4.mono (Gl Rs.size h3.size));exact qo Tryz.results117 rfl rfl ((kk.set_ 0 _).set_ 1 _) Tryz.underlying25 rfl Tryz.sizeInt ⟨A1,c1',rfl,h1,(h2.old h4).store2 kk (by decide) _ _,(Ug.setCell (Nat.le_add_right _ 2) _).setCell (Nat.le_add_right _ 2) _⟩
theorem qeM(ng:Bool)(A A':Oa)(c c' B:Nat)(ds es:List Nat)(w:World)(hB:B<=w.heap.size)(h:qx w B A c ds)(h':qx w B A' c' es)(hm:ds.length<=900000)(UE:es.length<=900000):
 Calls Tryz.prog 117 #[.agg #[.bool ng,.slice A ds.length c],.agg #[.bool (!ng),.slice A' es.length c']] w (qX (qj ng ds+qj (!ng) es) w):=by
 have Fr:=fun(W:World)(hb:Below w.heap.size w W)=>QZ A A' c c' B ds es W h.cap h'.cap (by omega) (by omega) (h.rd.below (hb.mono hB)) (h'.rd.below (hb.mono hB)) h.dg h'.dg;have HC:=Gh Fr;clear Fr;have HX:=Gh (jN w 25 25 25 #[.bool ng,.slice A ds.length c] #[.bool (!ng),.slice A' es.length c'] #[.bool false,.slice none 0 0]);have TC:=h.cap;have VY:=h'.cap;have VA:(ng== !ng)=false:=by cases ng<;>rfl
 generalize Dw:(!ng)=ng' at*;have Sf:=Gh Dw;clear Dw;by_cases Vo:val es<=val ds
 ·obtain⟨e2,e1⟩:=qj5 ng ds es Vo;rw[Sf.out]at e1 e2;have hn:=fun(W:World)(hb:Below w.heap.size w W)=>qfN A A' c c' B ds es W (Gl hB hb.size) h.cap h'.cap hm UE (h.rd.below (hb.mono hB)) (h'.rd.below (hb.mono hB)) h.dg h'.dg Vo;unfold qX;rw[e1,e2];clear e1 e2;unfold qbP at hn;clear h h';generalize dig (val ds-val es)=rs at*;have hk:=qi5 Vo;generalize zp (val ds) (val es)=kk at*;have HN:=Gh hn;clear hn Vo;go_enter Tryz.func117,Tryz.ntmps117
  go_wp2_with fail
  generalize ((w.alloc (.cells #[.bool ng,.slice A ds.length c] 25)).alloc (.cells #[.bool ng',.slice A' es.length c'] 25)).alloc (.cells #[.bool false,.slice none 0 0] 25)=W at*;obtain⟨Xb,k0,k1,k2,hs⟩:=HX.out;clear hs HX;refine(HC _ Xb).mono ?_;rintro e w1 ⟨rfl,hd⟩;obtain⟨nd,rfl⟩:=hd;have k0':=k0.drewN nd;have k1':=k1.drewN nd;have k2':=k2.drewN nd;have Xp:Below w.heap.size w (W.drewN nd):=Xb.trans ((qt.drewN _ _).below _);clear k0 k1 k2 Xb HC;generalize W.drewN nd=W1 at*;have c0:W1.cell? ⟨w.heap.size,0,none⟩=some (.bool ng):=k0'.cell 0;have c1:W1.cell? ⟨w.heap.size,1,none⟩=some (.slice A ds.length c):=k0'.cell 1;have c3:W1.cell? ⟨w.heap.size+1,1,none⟩=some (.slice A' es.length c'):=k1'.cell 1;have l0:=k0'.lt;have l1:=k1'.lt;have l2:=k2'.lt;go_wp2_with fail
  refine(HN _ Xp).mono ?_;rintro e w2 ⟨A1,c1',rfl,h1,h2,h3⟩;have c0':=(h3.cell l0).trans c0;have k3:=k2'.old h3;clear c0 c1 c3;go_wp2_with fail
  refine(zH _ _ _ _ _).mono ?_;rintro e w3 ⟨rfl,h4⟩;have k4:=k3.old h4;have d0:w3.cell? ⟨w.heap.size+2,0,none⟩=some (.bool false):=k4.cell 0;have d1:w3.cell? ⟨w.heap.size+2,1,none⟩=some (.slice none 0 0):=k4.cell 1;have f0:=k4.frozen 0;have f1:=k4.frozen 1;go_wp2_with fail
  have Ug:=(Gt Xp h3).trans (h4.mono (Gl Xp.size h3.size));exact qo Tryz.results117 rfl rfl ((k4.set_ 0 _).set_ 1 _) Tryz.underlying25 rfl Tryz.sizeInt ⟨A1,c1',rfl,h1,(h2.old h4).store2 k4 (by decide) _ _,(Ug.setCell (Nat.le_add_right _ 2) _).setCell (Nat.le_add_right _ 2) _⟩
 ·have Xi:val ds<val es:=by omega
  obtain⟨e2,e1⟩:=qi1 ng ds es Xi;rw[Sf.out]at e1 e2;have hn:=fun(W:World)(hb:Below w.heap.size w W)=>qfN A' A c' c B es ds W (Gl hB hb.size) h'.cap h.cap UE hm (h'.rd.below (hb.mono hB)) (h.rd.below (hb.mono hB)) h'.dg h.dg (Nat.le_of_lt Xi);unfold qX;rw[e1,e2];clear e1 e2;unfold qbP at hn;clear h h';generalize dig (val es-val ds)=rs at*;have hk:=qkf Xi;generalize zp (val ds) (val es)=kk at*;have HN:=Gh hn;clear hn Vo Xi;go_enter Tryz.func117,Tryz.ntmps117
  go_wp2_with fail
  generalize ((w.alloc (.cells #[.bool ng,.slice A ds.length c] 25)).alloc (.cells #[.bool ng',.slice A' es.length c'] 25)).alloc (.cells #[.bool false,.slice none 0 0] 25)=W at*;obtain⟨Xb,k0,k1,k2,hs⟩:=HX.out;clear hs HX;refine(HC _ Xb).mono ?_;rintro e w1 ⟨rfl,hd⟩;obtain⟨nd,rfl⟩:=hd;have k0':=k0.drewN nd;have k1':=k1.drewN nd;have k2':=k2.drewN nd;have Xp:Below w.heap.size w (W.drewN nd):=Xb.trans ((qt.drewN _ _).below _);clear k0 k1 k2 Xb HC;generalize W.drewN nd=W1 at*;have c1:W1.cell? ⟨w.heap.size,1,none⟩=some (.slice A ds.length c):=k0'.cell 1;have c2:W1.cell? ⟨w.heap.size+1,0,none⟩=some (.bool ng'):=k1'.cell 0;have c3:W1.cell? ⟨w.heap.size+1,1,none⟩=some (.slice A' es.length c'):=k1'.cell 1;have l0:=k0'.lt;have l1:=k1'.lt;have l2:=k2'.lt;go_wp2_with fail
  refine(HN _ Xp).mono ?_;rintro e w2 ⟨A1,c1',rfl,h1,h2,h3⟩;have c0':=(h3.cell l1).trans c2;have k3:=k2'.old h3;clear c1 c2 c3;go_wp2_with fail
  refine(zH _ _ _ _ _).mono ?_;rintro e w3 ⟨rfl,h4⟩;have k4:=k3.old h4;have d0:w3.cell? ⟨w.heap.size+2,0,none⟩=some (.bool false):=k4.cell 0;have d1:w3.cell? ⟨w.heap.size+2,1,none⟩=some (.slice none 0 0):=k4.cell 1;have f0:=k4.frozen 0;have f1:=k4.frozen 1;go_wp2_with fail
  have Ug:=(Gt Xp h3).trans (h4.mono (Gl Xp.size h3.size));exact qo Tryz.results117 rfl rfl ((k4.set_ 0 _).set_ 1 _) Tryz.underlying25 rfl Tryz.sizeInt ⟨A1,c1',rfl,h1,(h2.old h4).store2 k4 (by decide) _ _,(Ug.setCell (Nat.le_add_right _ 2) _).setCell (Nat.le_add_right _ 2) _⟩
theorem qc0(ng ng':Bool)(A A':Oa)(c c' B:Nat)(ds es:List Nat)(w:World)(hB:B<=w.heap.size)(h:qx w B A c ds)(h':qx w B A' c' es)(hm:ds.length<=900000)(UE:es.length<=900000):
 Calls Tryz.prog 117 #[.agg #[.bool ng,.slice A ds.length c],.agg #[.bool ng',.slice A' es.length c']] w (qX (qj ng ds+qj ng' es) w):=by
 by_cases e:ng'=ng
 ·subst e;exact qgf ng' A A' c c' B ds es w hB h h' hm UE
 ·obtain rfl:ng'= !ng:=by cases ng<;>cases ng'<;>simp at e ⊢
  exact qeM ng A A' c c' B ds es w hB h h' hm UE
end Go.Proofs.YtflikmojaidhhaaGreatDoor
namespace Go.Proofs.YtflikmojaidhhaaGreatDoor
open Go.RowKit
inductive RP where
 |mk (lv:Int) (ng:Bool) (ds:List Nat) (ks:List RP)
namespace RP
def lv:RP->Int|mk l _ _ _=>l
def ng:RP->Bool|mk _ g _ _=>g
def ds:RP->List Nat|mk _ _ d _=>d
def ks:RP->List RP|mk _ _ _ k=>k
end RP
theorem qkU{l:List Nat}(h:jg l)(k:Nat):l.getD k 0<4294967296:=by
 rw[List.getD_eq_getElem?_getD]
 cases hk:l[k]? with
 |none=>simp
 |some x=>exact h x (Gk hk)
mutual
def qC:RP->Nat
 | .mk _ _ _ ks=>Jm ks+1
def Jm:List RP->Nat
 |[]=>0
 |t::ts=>max (qC t) (Jm ts)
end
theorem qic{ks:List RP}{t:RP}(h:t∈ks):qC t<=Jm ks:=by
 induction ks with
 |nil=>cases h
 |cons s ks ih=>
  simp only[Jm];rcases List.mem_cons.1 h with rfl|h
  ·omega
  ·have:=ih h;omega
theorem qY{t u:RP}(h:u∈t.ks):qC u<qC t:=by
 cases t with
 |mk l g d ks=>
  have:=qic (show u∈ks from h);simp only[qC];omega
def ju(w:World)(S:Nat->Prop)(size:Nat)(A:Oa)(n:Nat)(xs:List Value):Prop:=
 xs.length=n*size/\(0<n->∃b o,A=some ⟨b,o,none⟩/\S b/\∀j u,xs[j]? =some u->w.cell? ⟨b,o+j,none⟩=some u)
section
variable {w w':World} {S S':Nat->Prop} {size n B:Nat} {A:Oa} {xs:List Value}
theorem ju.keep(h:ju w S size A n xs)(hk:∀b,S b->∀o,w'.cell? ⟨b,o,none⟩=w.cell? ⟨b,o,none⟩):ju w' S size A n xs:=
 ⟨h.1,fun hp=>by obtain⟨b,o,e,hb,hc⟩:=h.2 hp;exact⟨b,o,e,hb,fun j u hu=>(hk b hb _).trans (hc j u hu)⟩⟩
theorem ju.mono(h:ju w S size A n xs)(hS:∀b,S b->S' b):ju w S' size A n xs:=
 ⟨h.1,fun hp=>by obtain⟨b,o,e,hb,hc⟩:=h.2 hp;exact⟨b,o,e,hS b hb,hc⟩⟩
theorem ju.to(h:ju w S size A n xs)(hS:∀b,S b->b<B):qu w B size A n xs:=
 ⟨h.1,fun hp=>by obtain⟨b,o,e,hb,hc⟩:=h.2 hp;exact⟨b,o,e,hS b hb,hc⟩⟩
theorem ju.of(h:qu w B size A n xs)(hS:∀b,b<B->S b):ju w S size A n xs:=
 ⟨h.1,fun hp=>by obtain⟨b,o,e,hb,hc⟩:=h.2 hp;exact⟨b,o,e,hS b hb,hc⟩⟩
end
def qe(t:RP)(A:Oa)(c:Nat)(K:Oa)(kc:Nat):List Value:=[.int .i64 t.lv,.bool t.ng,.slice A t.ds.length c,.slice K t.ks.length kc]
mutual
def RV(w:World)(S:Nat->Prop):RP->List Value->Prop
 | .mk l g ds ks,vs=>∃A c K kc,vs=qe (.mk l g ds ks) A c K kc/\ju w S 1 A ds.length (qp ds)/\jg ds/\ds.length<=c/\ks.length<=kc/\∃rows,ju w S 4 K ks.length rows.flatten/\qG w S ks rows
def qG(w:World)(S:Nat->Prop):List RP->List (List Value)->Prop
 |[],rows=>rows=[]
 |t::ts,rows=>∃r rs,rows=r::rs/\RV w S t r/\qG w S ts rs
end
section
variable {w w':World} {S S':Nat->Prop}
mutual
theorem RV.keep(hk:∀b,S b->∀o,w'.cell? ⟨b,o,none⟩=w.cell? ⟨b,o,none⟩):∀(t:RP)(vs:List Value),RV w S t vs->RV w' S t vs
 | .mk l g ds ks,vs,h=>by
   unfold RV at h ⊢;obtain⟨A,c,K,kc,h1,h2,h3,h4,h5,rows,h6,h7⟩:=h;exact⟨A,c,K,kc,h1,h2.keep hk,h3,h4,h5,rows,h6.keep hk,qG.keep hk ks rows h7⟩
theorem qG.keep(hk:∀b,S b->∀o,w'.cell? ⟨b,o,none⟩=w.cell? ⟨b,o,none⟩):∀(ts:List RP)(rows:List (List Value)),qG w S ts rows->qG w' S ts rows
 |[],rows,h=>by unfold qG at h ⊢; exact h
 |t::ts,rows,h=>by
  unfold qG at h ⊢;obtain⟨r,rs,h1,h2,h3⟩:=h;exact⟨r,rs,h1,RV.keep hk t r h2,qG.keep hk ts rs h3⟩
end
mutual
theorem RV.mono(hS:∀b,S b->S' b):∀(t:RP)(vs:List Value),RV w S t vs->RV w S' t vs
 | .mk l g ds ks,vs,h=>by
   unfold RV at h ⊢;obtain⟨A,c,K,kc,h1,h2,h3,h4,h5,rows,h6,h7⟩:=h;exact⟨A,c,K,kc,h1,h2.mono hS,h3,h4,h5,rows,h6.mono hS,qG.mono hS ks rows h7⟩
theorem qG.mono(hS:∀b,S b->S' b):∀(ts:List RP)(rows:List (List Value)),qG w S ts rows->qG w S' ts rows
 |[],rows,h=>by unfold qG at h ⊢; exact h
 |t::ts,rows,h=>by
  unfold qG at h ⊢;obtain⟨r,rs,h1,h2,h3⟩:=h;exact⟨r,rs,h1,RV.mono hS t r h2,qG.mono hS ts rs h3⟩
end
theorem RV.cells{t:RP}{vs:List Value}(h:RV w S t vs):∃A c K kc,vs=qe t A c K kc:=by
 cases t with
 |mk l g ds ks=>
  unfold RV at h;obtain⟨A,c,K,kc,h1,_⟩:=h;exact⟨A,c,K,kc,h1⟩
theorem RV.four{t:RP}{vs:List Value}(h:RV w S t vs):vs.length=4:=by
 obtain⟨A,c,K,kc,rfl⟩:=h.cells;rfl
theorem qG.at_:∀(ts:List RP)(rows:List (List Value)),qG w S ts rows->(∀r∈rows,r.length=4)/\rows.length=ts.length/\∀(i:Nat)(t:RP),ts[i]? =some t->∃r,rows[i]? =some r/\RV w S t r
 |[],rows,h=>by
  unfold qG at h;subst h;simp
 |t::ts,rows,h=>by
  unfold qG at h;obtain⟨r,rs,rfl,h2,h3⟩:=h;obtain⟨a1,a2,a3⟩:=qG.at_ ts rs h3;refine⟨fun x hx=>?_,by simp[a2],fun i u hu=>?_⟩
  ·rcases List.mem_cons.1 hx with rfl|hx
   ·exact h2.four
   ·exact a1 x hx
  ·cases i with
   |zero=>simp at hu;subst hu;exact⟨r,rfl,h2⟩
   |succ i=>simp at hu;obtain⟨x,hx,hv⟩:=a3 i u hu;exact⟨x,by simpa using hx,hv⟩
theorem Ja:∀(rows:List (List Value))(_:∀r∈rows,r.length=4)(i:Nat)(r:List Value)(_:rows[i]? =some r)(j:Nat)(_:j<4),rows.flatten[i*4+j]? =r[j]?
 |[],_,i,r,h,_,_=>by simp at h
 |x::rows,h4,0,r,h,j,hj=>by
  simp at h;subst h;have:=h4 x List.mem_cons_self;rw[List.flatten_cons,Nat.zero_mul,Nat.zero_add,List.getElem?_append_left (by omega)]
 |x::rows,h4,i+1,r,h,j,hj=>by
  have h1:=h4 x List.mem_cons_self;rw[List.flatten_cons,List.getElem?_append_right (by omega),h1,show(i+1)*4+j-4=i*4+j by omega];exact Ja rows (fun y hy=>h4 y (List.mem_cons_of_mem _ hy)) i r (by simpa using h) j hj
theorem RV.node{t:RP}{A:Oa}{c:Nat}{K:Oa}{kc:Nat}(h:RV w S t (qe t A c K kc)):ju w S 1 A t.ds.length (qp t.ds)/\jg t.ds/\t.ds.length<=c/\t.ks.length<=kc:=by
 cases t with
 |mk l g ds ks=>
  unfold RV at h;obtain⟨A',c',K',kc',h1,h2,h3,h4,h5,_⟩:=h;unfold qe at h1;simp only[List.cons.injEq,Value.slice.injEq,and_true,true_and]at h1;obtain⟨⟨rfl,_,rfl⟩,rfl,_,rfl⟩:=h1;exact⟨h2,h3,h4,h5⟩
theorem RV.kid{t:RP}{A:Oa}{c:Nat}{K:Oa}{kc:Nat}(h:RV w S t (qe t A c K kc)){i:Nat}{u:RP}(hi:t.ks[i]? =some u):
 ∃b o A' c' K' kc',K=some ⟨b,o,none⟩/\S b/\w.cell? ⟨b,o+i*4,none⟩=some (.int .i64 u.lv)/\w.cell? ⟨b,o+i*4+1,none⟩=some (.bool u.ng)/\
  w.cell? ⟨b,o+i*4+2,none⟩=some (.slice A' u.ds.length c')/\w.cell? ⟨b,o+i*4+3,none⟩=some (.slice K' u.ks.length kc')/\RV w S u (qe u A' c' K' kc'):=by
 cases t with
 |mk l g ds ks=>
  unfold RV at h;obtain⟨A1,c1,K1,kc1,h1,_,_,_,_,rows,h6,h7⟩:=h;unfold qe at h1;simp only[List.cons.injEq,Value.slice.injEq,and_true,true_and]at h1;obtain⟨_,rfl,_,rfl⟩:=h1;have EL:ks[i]? =some u:=hi;have hl:i<ks.length:=(Gi.1 EL).1;obtain⟨a1,a2,a3⟩:=qG.at_ ks rows h7;obtain⟨r,hr,hv⟩:=a3 i u EL;obtain⟨A',c',K',kc',rfl⟩:=hv.cells;obtain⟨b,o,hA,hb,hc⟩:=h6.2 (by show 0<ks.length;omega);have f:=fun j hj v (hv:(qe u A' c' K' kc')[j]? =some v)=>hc (i*4+j) v ((Ja rows a1 i _ hr j hj).trans hv);exact⟨b,o,A',c',K',kc',hA,hb,f 0 (by omega) _ rfl,f 1 (by omega) _ rfl,f 2 (by omega) _ rfl,f 3 (by omega) _ rfl,hv⟩
end
theorem RV.below{w w':World}{B:Nat}{t:RP}{vs:List Value}(h:RV w (· <B) t vs)(hb:Below B w w'):RV w' (· <B) t vs:=RV.keep (fun b hS o=>hb.cell (p:=⟨b,o,none⟩) hS) t vs h
theorem RV.more{w:World}{B B':Nat}{t:RP}{vs:List Value}(h:RV w (· <B) t vs)(hB:B<=B'):RV w (· <B') t vs:=RV.mono (fun _ hS=>Gm hS hB) t vs h
theorem RV.natIn{w:World}{B:Nat}{t:RP}{A:Oa}{c:Nat}{K:Oa}{kc:Nat}(h:RV w (· <B) t (qe t A c K kc)):qx w B A c t.ds:=⟨h.node.1.to (fun _ h=>h),h.node.2.1,h.node.2.2.1⟩
abbrev Gx (T:RP)(A:Oa)(c:Nat)(K:Oa)(k:Nat):Array Value:=#[.int .i64 T.lv,.bool T.ng,.slice A T.ds.length c,.slice K T.ks.length k]
end Go.Proofs.YtflikmojaidhhaaGreatDoor
namespace Go.Proofs.YtflikmojaidhhaaGreatDoor
mutual
def jX(dg:Nat):RP->Int->Nat->Int
 | .mk _ _ ds ks,n,deep=>if deep=0 then -1 else if dg<ds.length then -1 else if 12<ks.length then -1 else jx dg ks (n-1) (deep-1)
def jx(dg:Nat):List RP->Int->Nat->Int
 |[],n,_=>n
 |t::ts,n,d=>if n<0 then -1 else jx dg ts (jX dg t n d) d
end
mutual
def jW:RP->Nat
 | .mk _ _ _ ks=>yy ks+1
def yy:List RP->Nat
 |[]=>0
 |t::ts=>jW t+yy ts
end
mutual
def ym(dg:Nat):RP->Prop
 | .mk _ _ ds ks=>ds.length<=dg/\ks.length<=40/\Js dg ks
def Js(dg:Nat):List RP->Prop
 |[]=>True
 |t::ts=>ym dg t/\Js dg ts
end
theorem qfV(dg:Nat)(ts:List RP)(n:Int)(d:Nat)(h:n<0):jx dg ts n d<0:=by
 cases ts with
 |nil=>simp only[jx];exact h
 |cons t ts=>simp only[jx];rw[if_pos h];omega
mutual
theorem YV(dg:Nat):∀(t:RP)(n:Int)(d:Nat),0<=jX dg t n d->(jW t:Int)+jX dg t n d<=n/\qC t<=d/\ym dg t
 | .mk l g ds ks,n,d,h=>by
   simp only[jX]at h ⊢;by_cases h0:d=0
   ·rw[if_pos h0]at h;omega
   ·rw[if_neg h0]at h ⊢;by_cases h1:dg<ds.length
    ·rw[if_pos h1]at h;omega
    ·rw[if_neg h1]at h ⊢;by_cases h2:12<ks.length
     ·rw[if_pos h2]at h;omega
     ·rw[if_neg h2]at h ⊢;obtain⟨a1,a2,a3⟩:=qbs dg ks (n-1) (d-1) h;refine⟨?_,?_,?_⟩
      ·simp only[jW];omega
      ·simp only[qC];omega
      ·simp only[ym];exact⟨by omega,by omega,a3⟩
theorem qbs(dg:Nat):∀(ts:List RP)(n:Int)(d:Nat),0<=jx dg ts n d->(yy ts:Int)+jx dg ts n d<=n/\Jm ts<=d/\Js dg ts
 |[],n,d,h=>by simp[jx,yy,Jm,Js]
 |t::ts,n,d,h=>by
  simp only[jx]at h ⊢;by_cases h0:n<0
  ·rw[if_pos h0]at h;omega
  ·rw[if_neg h0]at h ⊢;have h1:0<=jX dg t n d:=Int.not_lt.1 fun hn=>by have:=qfV dg ts _ d hn;omega
   obtain⟨a1,a2,a3⟩:=YV dg t n d h1;obtain⟨b1,b2,b3⟩:=qbs dg ts _ d h;refine⟨?_,?_,?_⟩
   ·simp only[yy];omega
   ·simp only[Jm];omega
   ·simp only[Js];exact⟨a3,b3⟩
end
theorem QK(dg:Nat)(t:RP)(ts:List RP)(n:Int)(d:Nat):jx dg (t::ts) n d=if n<0 then -1 else jx dg ts (jX dg t n d) d:=by rw[jx]
theorem JL(dg:Nat):∀(ts us:List RP)(n:Int)(d:Nat),jx dg (ts++us) n d=if us=[]then jx dg ts n d else if jx dg ts n d<0 then -1 else jx dg us (jx dg ts n d) d
 |[],us,n,d=>by
  have e:jx dg [] n d=n:=by rw[jx]
  rw[e,List.nil_append]
  cases us with
  |nil=>rw[if_pos rfl,e]
  |cons u us=>
   rw[if_neg (by simp),QK];by_cases h:n<0
   ·rw[if_pos h,if_pos h]
   ·rw[if_neg h,if_neg h]
 |t::ts,us,n,d=>by
  rw[List.cons_append,QK,QK];by_cases h0:n<0
  ·rw[if_pos h0,if_pos h0];simp
  ·rw[if_neg h0,if_neg h0,JL dg ts us]
mutual
theorem qiy(dg:Nat):∀(t:RP)(n:Int)(d:Nat),0<=n->-1<=jX dg t n d/\jX dg t n d<=n
 | .mk l g ds ks,n,d,h=>by
   simp only[jX]
   split
   ·omega
   ·split
    ·omega
    ·split
     ·omega
     ·have:=Z2 dg ks (n-1) (d-1) (by omega);omega
theorem Z2(dg:Nat):∀(ts:List RP)(n:Int)(d:Nat),-1<=n->-1<=jx dg ts n d/\jx dg ts n d<=n
 |[],n,d,h=>by simp only[jx];omega
 |t::ts,n,d,h=>by
  simp only[jx]
  split
  ·omega
  ·have h1:=qiy dg t n d (by omega);have h2:=Z2 dg ts (jX dg t n d) d h1.1;omega
end
theorem qd7{dg:Nat}{ts:List RP}{k:Nat}{u:RP}(h:ts[k]? =some u)(n:Int)(d:Nat)(h0:0<=jx dg (ts.take k) n d):jx dg (ts.take (k+1)) n d=jX dg u (jx dg (ts.take k) n d) d:=by
 have hl:k<ts.length:=(Gi.1 h).1;have e:ts[k]=u:=(Gi.1 h).2;rw[List.take_succ_eq_append_getElem hl,JL,if_neg (by simp),if_neg (by omega),e];simp only[jx];rw[if_neg (by omega)]
theorem qeK{dg:Nat}{ts:List RP}{k:Nat}(hk:k<ts.length)(n:Int)(d:Nat)(h0:jx dg (ts.take k) n d<0):jx dg ts n d=-1:=by
 have:=JL dg (ts.take k) (ts.drop k) n d;rw[List.take_append_drop,if_neg (by intro e;have:=congrArg List.length e;simp at this;omega),if_pos h0]at this;exact this
theorem qhC(dg:Nat)(t:RP)(n:Int)(d:Nat):jX dg t n d=if d=0 then -1 else if dg<t.ds.length then -1 else if 12<t.ks.length then -1 else jx dg t.ks (n-1) (d-1):=by
 cases t
 rw[jX];rfl
abbrev Mo:=Int×Int×Int×Int
abbrev Tm:=Int×Mo
def zD(m:Mo):Bool:=decide (0<=m.1)&&(decide (0<=m.2.1)&&(decide (0<=m.2.2.1)&&decide (0<=m.2.2.2)))
theorem ZC{m:Mo}:zD m=true↔0<=m.1/\0<=m.2.1/\0<=m.2.2.1/\0<=m.2.2.2:=by simp[zD]
def yE(f:Mo->Int):List Tm->Int
 |[]=>0
 |t::l=>(if zD t.2=true then t.1*f t.2 else 0)+yE f l
def cf(l:List Tm)(m:Mo):Int:=yE (fun x=>if x=m then 1 else 0) l
theorem yU(f:Mo->Int)(p q:List Tm):yE f (p++q)=yE f p+yE f q:=by
 induction p with
 |nil=>simp[yE]
 |cons t l ih=>simp only[List.cons_append,yE,ih];omega
theorem Jl(p q:List Tm)(m:Mo):cf (p++q) m=cf p m+cf q m:=yU _ p q
theorem qbO(m:Mo):cf [] m=0:=rfl
theorem jG(t:Tm)(l:List Tm)(m:Mo):cf (t::l) m=(if zD t.2=true/\t.2=m then t.1 else 0)+cf l m:=by
 unfold cf;simp only[yE];by_cases h1:zD t.2=true<;>by_cases h2:t.2=m<;>simp[h1,h2]
theorem qby{f g:Mo->Int}{l:List Tm}(h:∀t∈l,zD t.2=true->f t.2=g t.2):yE f l=yE g l:=by
 induction l with
 |nil=>rfl
 |cons t l ih=>
  simp only[yE];rw[ih fun s hs=>h s (List.mem_cons_of_mem _ hs)];by_cases hv:zD t.2=true
  ·simp only[hv,if_true];rw[h t (List.mem_cons_self) hv]
  ·simp[hv]
theorem qgb(f:Mo->Int)(m:Mo)(l:List Tm):yE f l=f m*cf l m+yE f (l.filter fun t=> !decide (t.2=m)):=by
 induction l with
 |nil=>simp[yE,cf]
 |cons t l ih=>
  rw[jG];by_cases h:t.2=m
  ·subst h;simp only[yE,List.filter_cons,decide_true,Bool.not_true,Bool.false_eq_true,if_false];rw[ih];by_cases hv:zD t.2=true
   ·simp only[hv,if_true,true_and];rw[Int.mul_add,Int.mul_comm t.1];omega
   ·simp[hv]
  ·simp only[yE,List.filter_cons,h,decide_false,Bool.not_false,if_true,and_false,if_false,Int.zero_add];rw[ih];omega
theorem qgS(l:List Tm)(m x:Mo):cf (l.filter fun t=> !decide (t.2=m)) x=if x=m then 0 else cf l x:=by
 induction l with
 |nil=>simp[cf,yE]
 |cons t l ih=>
  rw[jG];by_cases h:t.2=m
  ·simp only[List.filter_cons,h,decide_true,Bool.not_true,Bool.false_eq_true,if_false];rw[ih];by_cases hx:x=m
   ·simp[hx]
   ·simp only[hx,if_false];rw[if_neg (by rintro⟨_,e⟩;exact hx e.symm)];omega
  ·simp only[List.filter_cons,h,decide_false,Bool.not_false,if_true];rw[jG,ih];by_cases hx:x=m
   ·subst hx;simp[h]
   ·simp[hx]
theorem qdc(f:Mo->Int):∀(n:Nat)(l:List Tm),l.length<=n->(∀m,cf l m=0)->yE f l=0:=by
 intro n
 induction n with
 |zero=>
  intro l hl _;obtain rfl:l=[]:=List.eq_nil_of_length_eq_zero (by omega);rfl
 |succ n ih=>
  intro l hl hz
  match l,hl,hz with
  |[],_,_=>rfl
  |t::l,hl,hz=>
   rw[qgb f t.2 (t::l),hz,Int.mul_zero,Int.zero_add];refine ih _ ?_ (fun m=>?_)
   ·simp only[List.filter_cons,decide_true,Bool.not_true,Bool.false_eq_true,if_false];have:=List.length_filter_le (fun s:Tm=> !decide (s.2=t.2)) l;simp only[List.length_cons]at hl;omega
   ·rw[qgS]
    split
    ·rfl
    ·exact hz m
def qkY(l:List Tm):List Tm:=l.map fun t=>(-t.1,t.2)
theorem qe9(f:Mo->Int)(l:List Tm):yE f (qkY l)=-yE f l:=by
 induction l with
 |nil=>rfl
 |cons t l ih=>
  have ih':yE f (l.map fun t=>(-t.1,t.2))=-yE f l:=ih;simp only[qkY,List.map_cons,yE,ih'];by_cases h:zD t.2=true
  ·simp only[h,if_true,Int.neg_mul];omega
  ·simp[h]
theorem qiZ{p q:List Tm}(h:∀m,cf p m=cf q m)(f:Mo->Int):yE f p=yE f q:=by
 have h0:=qdc f _ (p++qkY q) (Gr _) fun m=>by
  rw[Jl,h m];unfold cf;rw[qe9];omega
 rw[yU,qe9]at h0;omega
def zG(a b:Int):Int:=if a<b then -1 else if b<a then 1 else 0
def qbJ(a b:Mo):Int:=
 if zG a.2.2.2 b.2.2.2≠0 then zG a.2.2.2 b.2.2.2 else
 if zG a.2.2.1 b.2.2.1≠0 then zG a.2.2.1 b.2.2.1 else
 if zG a.2.1 b.2.1≠0 then zG a.2.1 b.2.1 else zG a.1 b.1
def Zc(a b:Mo):Prop:=
 a.2.2.2<b.2.2.2∨a.2.2.2=b.2.2.2/\(a.2.2.1<b.2.2.1∨a.2.2.1=b.2.2.1/\(a.2.1<b.2.1∨a.2.1=b.2.1/\a.1<b.1))
instance (a b:Mo):Decidable (Zc a b):=by unfold Zc;infer_instance
theorem zJ(a:Mo):¬Zc a a:=by unfold Zc;omega
theorem Qr{a b c:Mo}(h:Zc a b)(k:Zc b c):Zc a c:=by unfold Zc at *; omega
theorem ZD(a b:Mo):Zc a b∨a=b∨Zc b a:=by
 obtain⟨a0,a1,a2,a3⟩:=a;obtain⟨b0,b1,b2,b3⟩:=b;unfold Zc;simp only[Prod.mk.injEq];omega
theorem qkc(a b:Mo):qbJ a b=if Zc a b then -1 else if Zc b a then 1 else 0:=by
 unfold qbJ Zc zG
 (repeat' split)<;>omega
theorem qkb{a b:Mo}:qbJ a b<0↔Zc a b:=by
 rw[qkc];constructor
 ·intro h
  split at h
  ·assumption
  ·split at h<;>omega
 ·intro h;simp[h]
structure qW (l:List Tm):Prop where
 ne:∀t∈l,t.1≠0
 vl:∀t∈l,zD t.2=true
 so:l.Pairwise fun s t=>Zc t.2 s.2
theorem qW.nil:qW []:=⟨by simp,by simp,List.Pairwise.nil⟩
theorem qW.tail{t:Tm}{l:List Tm}(h:qW (t::l)):qW l:=
 ⟨fun s hs=>h.ne s (List.mem_cons_of_mem _ hs),fun s hs=>h.vl s (List.mem_cons_of_mem _ hs),(List.pairwise_cons.1 h.so).2⟩
theorem qa4{l:List Tm}{m:Mo}(h:∀t∈l,t.2≠m):cf l m=0:=by
 induction l with
 |nil=>rfl
 |cons t l ih=>
  rw[jG,ih fun s hs=>h s (List.mem_cons_of_mem _ hs),if_neg (fun e=>h t List.mem_cons_self e.2)];rfl
theorem qW.head{t:Tm}{l:List Tm}(h:qW (t::l)):cf (t::l) t.2=t.1:=by
 rw[jG,qa4 fun s hs e=>?_,if_pos ⟨h.vl t List.mem_cons_self,rfl⟩]
 ·omega
 ·have:=(List.pairwise_cons.1 h.so).1 s hs;rw[e]at this;exact zJ _ this
theorem qW.above{t:Tm}{l:List Tm}(h:qW (t::l)){m:Mo}(hm:Zc t.2 m):cf (t::l) m=0:=
 qa4 fun s hs e=>by
  subst e;rcases List.mem_cons.1 hs with rfl|hs
  ·exact zJ _ hm
  ·exact zJ _ (Qr hm ((List.pairwise_cons.1 h.so).1 s hs))
theorem qW.cf_mem{l:List Tm}(h:qW l){t:Tm}(ht:t∈l):cf l t.2=t.1:=by
 induction l with
 |nil=>cases ht
 |cons s l ih=>
  rcases List.mem_cons.1 ht with rfl|hm
  ·exact h.head
  ·rw[jG,ih h.tail hm,if_neg]
   ·omega
   ·rintro⟨_,e⟩;have:=(List.pairwise_cons.1 h.so).1 t hm;rw[e]at this;exact zJ _ this
theorem qW.unique{p q:List Tm}(hp:qW p)(hq:qW q)(h:∀m,cf p m=cf q m):p=q:=by
 induction p generalizing q with
 |nil=>
  match q,hq with
  |[],_=>rfl
  |t::q,hq=>exact absurd ((hq.head).symm.trans ((h t.2).symm.trans (qbO _))) (hq.ne t List.mem_cons_self)
 |cons s p ih=>
  match q,hq,h with
  |[],_,h=>exact absurd ((hp.head).symm.trans ((h s.2).trans (qbO _))) (hp.ne s List.mem_cons_self)
  |t::q,hq,h=>
   have e:s.2=t.2:=by
    rcases ZD s.2 t.2 with k|k|k
    ·exact absurd (hq.head.symm.trans ((h t.2).symm.trans (hp.above k))) (hq.ne t List.mem_cons_self)
    ·exact k
    ·exact absurd (hp.head.symm.trans ((h s.2).trans (hq.above k))) (hp.ne s List.mem_cons_self)
   have e1:s.1=t.1:=by rw[<-hp.head,<-hq.head,e];exact h t.2
   have est:s=t:=Prod.ext e1 e;subst est;rw[ih hp.tail hq.tail fun m=>?_];have:=h m;rw[jG,jG]at this;omega
def nrm:List Tm->Nat
 |[]=>0
 |t::l=>t.1.natAbs+nrm l
theorem zQ(p q:List Tm):nrm (p++q)=nrm p+nrm q:=by
 induction p with
 |nil=>simp[nrm]
 |cons t l ih=>simp only[List.cons_append,nrm,ih];omega
theorem Qu{l:List Tm}{t:Tm}(h:t∈l):t.1.natAbs<=nrm l:=by
 induction l with
 |nil=>cases h
 |cons s l ih=>
  simp only[nrm];rcases List.mem_cons.1 h with rfl|h
  ·omega
  ·have:=ih h;omega
theorem qeO(f:Mo->Int)(hf:∀m,(f m).natAbs<=1)(l:List Tm):(yE f l).natAbs<=nrm l:=by
 induction l with
 |nil=>simp[yE]
 |cons t l ih=>
  simp only[yE,nrm];by_cases h:zD t.2=true
  ·simp only[h,if_true];have h1:(t.1*f t.2).natAbs<=t.1.natAbs:=by
    rw[Int.natAbs_mul]
    calc _<=t.1.natAbs*1:=Nat.mul_le_mul_left _ (hf _)
     _=_:=Nat.mul_one _
   omega
  ·simp only[h,Bool.false_eq_true,if_false];omega
def sgI(z:Int):Int:=if z<0 then -1 else 1
theorem qjl(z:Int):z*sgI z=z.natAbs:=by unfold sgI;split<;>omega
theorem qW.lin_sg{q l:List Tm}(hq:qW q)(hl:∀t∈q,t∈l)(hc:qW l):yE (fun m=>sgI (cf l m)) q=nrm q:=by
 induction q with
 |nil=>rfl
 |cons t q ih=>
  simp only[yE,nrm];rw[if_pos (hq.vl t List.mem_cons_self),hc.cf_mem (hl t List.mem_cons_self),qjl,ih hq.tail fun s hs=>hl s (List.mem_cons_of_mem _ hs)];omega
theorem qW.nrm_le{q l:List Tm}(hq:qW q)(h:∀m,cf q m=cf l m):nrm q<=nrm l:=by
 have h1:=hq.lin_sg (fun _ h=>h) hq;rw[qiZ h]at h1;have h2:=qeO (fun m=>sgI (cf q m)) (fun m=>by simp only[sgI];split<;>simp) l;omega
theorem qgv{l:List Tm}{m:Mo}(h:cf l m≠0):∃t∈l,zD t.2=true/\t.2=m:=by
 induction l with
 |nil=>exact absurd rfl h
 |cons t l ih=>
  rw[jG]at h;by_cases ht:zD t.2=true/\t.2=m
  ·exact⟨t,List.mem_cons_self,ht⟩
  ·rw[if_neg ht]at h;obtain⟨s,hs,k⟩:=ih (by omega);exact⟨s,List.mem_cons_of_mem _ hs,k⟩
theorem qW.src{q l:List Tm}(hq:qW q)(h:∀m,cf q m=cf l m){t:Tm}(ht:t∈q):∃s∈l,zD s.2=true/\s.2=t.2:=
 qgv (by rw[<-h,hq.cf_mem ht];exact hq.ne t ht)
structure zB (ts gs:List Tm):Prop where
 nd:(gs.map (·.2)).Nodup
 vl:∀t∈gs,zD t.2=true
 cf:∀m,cf gs m=cf ts m
 len:gs.length<=ts.length
 nrm:nrm gs<=nrm ts
theorem zB.nil:zB [] []:=⟨by simp,by simp,fun _=>rfl,Gr _,Gr _⟩
theorem zB.skip{ts gs:List Tm}(h:zB ts gs){m:Mo}(hv:zD m=false)(c:Int):zB (ts++[(c,m)]) gs where
 nd:=h.nd
 vl:=h.vl
 cf x:=by
  rw[Jl,jG,if_neg (by simp[hv]),h.cf];simp[qbO]
 len:=by have:=h.len;simp;omega
 nrm:=by have:=h.nrm;rw[zQ];omega
theorem zB.new{ts gs:List Tm}(h:zB ts gs){m:Mo}(hv:zD m=true)(ha:∀t∈gs,t.2≠m)(c:Int):zB (ts++[(c,m)]) (gs++[(c,m)]) where
 nd:=by
  rw[List.map_append,List.nodup_append];refine⟨h.nd,by simp,?_⟩;intro a ha' b hb e;simp at hb;subst hb;subst e;obtain⟨t,ht,e⟩:=List.mem_map.1 ha';exact ha t ht e
 vl t ht:=by
  rcases List.mem_append.1 ht with k|k
  ·exact h.vl t k
  ·simp at k;subst k;exact hv
 cf x:=by rw[Jl,Jl,h.cf]
 len:=by have:=h.len;simp;omega
 nrm:=by have:=h.nrm;rw[zQ,zQ];omega
theorem qkL{gs:List Tm}{i:Nat}{a c:Int}{m:Mo}(hi:gs[i]? =some (a,m))(hv:zD m=true)(x:Mo):cf (gs.set i (a+c,m)) x=cf gs x+if m=x then c else 0:=by
 induction gs generalizing i with
 |nil=>simp at hi
 |cons t l ih=>
  match i,hi with
  |0,hi=>
   simp at hi;subst hi;simp only[List.set_cons_zero];rw[jG,jG];simp only[hv,true_and]
   split<;>omega
  |i+1,hi=>
   simp only[List.set_cons_succ];rw[jG,jG,ih (by simpa using hi)];omega
theorem qjM{gs:List Tm}{i:Nat}{a c:Int}{m:Mo}(hi:gs[i]? =some (a,m)):nrm (gs.set i (a+c,m))<=nrm gs+c.natAbs:=by
 induction gs generalizing i with
 |nil=>simp at hi
 |cons t l ih=>
  match i,hi with
  |0,hi=>
   simp at hi;subst hi;simp only[List.set_cons_zero,nrm];omega
  |i+1,hi=>
   simp only[List.set_cons_succ,nrm];have:=ih (i:=i) (by simpa using hi);omega
theorem zB.upd{ts gs:List Tm}(h:zB ts gs){m:Mo}{i:Nat}{a:Int}(hi:gs[i]? =some (a,m))(c:Int):zB (ts++[(c,m)]) (gs.set i (a+c,m)):=by
 have hv:zD m=true:=h.vl _ (Gk hi);have hm:(gs.set i (a+c,m)).map (·.2)=gs.map (·.2):=by
  apply List.ext_getElem?;intro j;simp only[List.getElem?_map,List.getElem?_set]
  split
  ·rename_i e;subst e;rw[hi]
   split<;>simp_all
  ·rfl
 refine⟨by rw[hm];exact h.nd,fun t ht=>?_,fun x=>?_,by have:=h.len;simp;omega,?_⟩
 ·rcases List.mem_or_eq_of_mem_set ht with k|k
  ·exact h.vl t k
  ·subst k;exact hv
 ·rw[qkL hi hv,Jl,jG,h.cf];simp[hv,qbO]
 ·have:=qjM (c:=c) hi;have:=h.nrm;rw[zQ];simp only[Go.Proofs.YtflikmojaidhhaaGreatDoor.nrm];omega
theorem qhj(f:Mo->Int){p q:List Tm}(h:p.Perm q):yE f p=yE f q:=by
 induction h with
 |nil=>rfl
 |cons t _ ih=>simp only[yE,ih]
 |swap s t l=>simp only[yE];omega
 |trans _ _ ih1 ih2=>rw[ih1,ih2]
theorem qi6{p q:List Tm}(h:p.Perm q)(m:Mo):cf p m=cf q m:=qhj _ h
theorem qkE(l:List Tm)(m:Mo):cf (l.filter fun t=> !decide (t.1=0)) m=cf l m:=by
 induction l with
 |nil=>rfl
 |cons t l ih=>
  by_cases h:t.1=0
  ·simp only[List.filter_cons,h,decide_true,Bool.not_true,Bool.false_eq_true,if_false];rw[ih,jG,h]
   split<;>omega
  ·simp only[List.filter_cons,h,decide_false,Bool.not_false,if_true];rw[jG,jG,ih]
theorem zB.canon{ts gs q:List Tm}(h:zB ts gs)(hp:q.Perm (gs.filter fun t=> !decide (t.1=0)))(hs:q.Pairwise fun s t=>¬Zc s.2 t.2):qW q/\(∀m,Go.Proofs.YtflikmojaidhhaaGreatDoor.cf q m=Go.Proofs.YtflikmojaidhhaaGreatDoor.cf ts m)/\q.length<=ts.length:=by
 refine⟨⟨fun t ht=>?_,fun t ht=>?_,?_⟩,fun m=>?_,?_⟩
 ·have:=hp.mem_iff.1 ht;simpa using(List.mem_filter.1 this).2
 ·exact h.vl t (List.mem_filter.1 (hp.mem_iff.1 ht)).1
 ·have Sq:(q.map (·.2)).Nodup:=by
   have h1:(q.map (·.2)).Perm ((gs.filter fun t=> !decide (t.1=0)).map (·.2)):=hp.map _;rw[h1.nodup_iff];exact List.Sublist.nodup (List.filter_sublist.map _) h.nd
  have hnd':q.Pairwise fun s t=>s.2≠t.2:=List.pairwise_map.1 Sq;refine(List.Pairwise.and hs hnd').imp fun{a b} BS=>?_;rcases ZD a.2 b.2 with k|k|k
  ·exact absurd k BS.1
  ·exact absurd k BS.2
  ·exact k
 ·rw[qi6 hp,qkE,h.cf]
 ·rw[hp.length_eq];exact Gl (List.length_filter_le _ _) h.len
theorem zB.mem_nrm{ts gs:List Tm}(h:zB ts gs){t:Tm}(ht:t∈gs):t.1.natAbs<=Go.Proofs.YtflikmojaidhhaaGreatDoor.nrm ts:=Gl (Qu ht) h.nrm
def qI(t:RP):Bool:=decide (t.lv=0)&&decide (t.ds.length=0)
def Zi(ks:List RP):Bool:=
 match ks[ks.length-1]? with
 |some t=> !qI t
 |none=>false
def YC(g:Bool)(ds:List Nat):Bool:=if ds.length=0 then !g else decide (ds.getD (ds.length-1) 0≠0)
mutual
def qv:RP->Bool
 | .mk l g ds ks=>if l=0 then(if 0<ks.length then false else YC g ds)
    else if(decide (1<=l)&&decide (l<=4)&&decide (ds.length=0)&& !g&&decide (2<=ks.length))=false then false
    else if zT l ks=false then false else Zi ks
def zT(l:Int):List RP->Bool
 |[]=>true
 |t::ts=>(decide (t.lv<l)&&qv t)&&zT l ts
end
theorem qbg(l:Int):∀(ts:List RP)(k:Nat)(t:RP),ts[k]? =some t->zT l (ts.take (k+1))=(zT l (ts.take k)&&(decide (t.lv<l)&&qv t))
 |[],k,t,h=>by simp at h
 |s::ts,0,t,h=>by
  simp at h;subst h;simp[zT]
 |s::ts,k+1,t,h=>by
  have:=qbg l ts k t (by simpa using h);simp only[List.take_succ_cons,zT,this,Bool.and_assoc]
theorem qcL(l:Int):∀(ts:List RP)(k:Nat)(t:RP),ts[k]? =some t->(decide (t.lv<l)&&qv t)=false->zT l ts=false
 |[],k,t,h,_=>by simp at h
 |s::ts,0,t,h,hb=>by
  simp at h;subst h;simp[zT,hb]
 |s::ts,k+1,t,h,hb=>by
  have:=qcL l ts k t (by simpa using h) hb;simp[zT,this]
mutual
def zg:RP->RP
 | .mk l g ds ks=>if l=0 then .mk 0 (decide (qj g ds<0)) (dig (val ds)) []else .mk l false [] (cpL ks)
def cpL:List RP->List RP
 |[]=>[]
 |t::ts=>zg t::cpL ts
end
theorem qeY(ts:List RP):cpL ts=ts.map zg:=by
 induction ts with
 |nil=>simp[cpL]
 |cons t ts ih=>simp[cpL,ih]
def jU(m:Mo)(i:Nat)(x:Int):Mo:=
 match i with
 |0=>(x,m.2.1,m.2.2.1,m.2.2.2)
 |1=>(m.1,x,m.2.2.1,m.2.2.2)
 |2=>(m.1,m.2.1,x,m.2.2.2)
 |_=>(m.1,m.2.1,m.2.2.1,x)
def Zn(m:Mo)(i:Nat):Int:=
 match i with
 |0=>m.1
 |1=>m.2.1
 |2=>m.2.2.1
 |_=>m.2.2.2
mutual
def jH:RP->Mo->List ((Bool×List Nat)×Mo)
 | .mk l g ds ks,m=>if l<=0 then[((g,ds),m)]else if 4<l then[]else jo (l.toNat-1) ks m (Zn m (l.toNat-1))
def jo(i:Nat):List RP->Mo->Int->List ((Bool×List Nat)×Mo)
 |[],_,_=>[]
 |t::ts,m,e=>jH t (jU m i e)++jo i ts m (e+1)
end
