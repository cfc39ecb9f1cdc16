import Derived.Deep.MidRow
import Derived.RangeFuncBox
import Derived.Test.YtflikmojaidhhaaGreatDoorPq31
import Derived.Test.YtflikmojaidhhaaGreatDoorPqA
namespace Go.Proofs.YtflikmojaidhhaaGreatDoor
open Go.RowKit
def ZP(c:Int)(w:World)(e:Ending)(w':World):Prop:=e= .returned (.tuple #[.slice none 0 0,.int .i64 c])/\Below w.heap.size w w'
set_option maxHeartbeats 4000000
set_option maxRecDepth 100000
theorem qgt(n:Int)(hn:n<1∨4<n)(x0 x1 x2 x3:Value)(w:World):Calls Tryz.prog 6 #[.agg #[x0,x1,x2,x3],.int .i64 n] w (ZP 1 w):=by
 have Xb:=Gh (Gb w (.cells #[x0,x1,x2,x3] 28));have VB:=Gh (fun(W':World)(hb:Below w.heap.size w W')=>show ZP 1 w (.returned (.tuple #[.slice none 0 0,.int .i64 1])) W' from⟨rfl,hb⟩);by_cases h1:n<1
 ·have e1:decide (n<1)=true:=decide_eq_true h1;clear hn;go_enter Tryz.func6,Tryz.ntmps6
  go_wp2_with fail
  go_ret2
  exact VB _ Xb.out
 ·have h2:4<n:=by omega
  have e1:decide (n<1)=false:=decide_eq_false h1;have e2:decide (4<n)=true:=decide_eq_true h2;clear hn;go_enter Tryz.func6,Tryz.ntmps6
  go_wp2_with fail
  go_ret2
  exact VB _ Xb.out
theorem qdX(n:Int)(hn:n<1∨4<n)(x0 x1 x2 x3 x4 x5 x6:Value)(w:World):Calls Tryz.prog 7 #[.agg #[x0,x1,x2,x3,x4,x5,x6],.int .i64 n] w (ZP 1 w):=by
 obtain⟨Xb,k0,k1,hs⟩:=qR w 32 3 #[x0,x1,x2,x3,x4,x5,x6] #[.int .i64 n];have Xd:=Gh Xb;have c0:=k1.cell 0;have VB:=Gh (fun(W':World)(hb:Below w.heap.size w W')=>show ZP 1 w (.returned (.tuple #[.slice none 0 0,.int .i64 1])) W' from⟨rfl,hb⟩);clear Xb k0 k1 hs;by_cases h1:n<1
 ·have e1:decide (n<1)=true:=decide_eq_true h1;clear hn;go_enter Tryz.func7,Tryz.ntmps7
  go_upto_region 1 with(fail)
  generalize (w.alloc (.cells #[x0,x1,x2,x3,x4,x5,x6] 32)).alloc (.cells #[.int .i64 n] 3)=W at*;go_wp2_with fail
  go_ret2
  exact VB _ Xd.out
 ·have h2:4<n:=by omega
  have e1:decide (n<1)=false:=decide_eq_false h1;have e2:decide (4<n)=true:=decide_eq_true h2;clear hn;go_enter Tryz.func7,Tryz.ntmps7
  go_upto_region 1 with(fail)
  generalize (w.alloc (.cells #[x0,x1,x2,x3,x4,x5,x6] 32)).alloc (.cells #[.int .i64 n] 3)=W at*;go_wp2_with fail
  go_ret2
  exact VB _ Xd.out
theorem qf9(dg:Nat)(Xr:dg<=500)(k:Int)(Xx:0<k)(Xj:k<=4)(t:RP)(hf:yz dg t)(Ul:yz dg (qn t))(hd:2<yr k t∨yr k t<1)(A:Oa)(c:Nat)(K:Oa)(kc B:Nat)(w:World)(hB:B<=w.heap.size)(h:RV w (· <B) t (qe t A c K kc)):
 Calls Tryz.prog 6 #[qm t A c K kc,.int .i64 k] w (ZP (if 2<yr k t then 12 else 0) w):=by
 have Xb:=Gb w (.cells (Gx t A c K kc) 28);have k0:=qf.new w 28 (Gx t A c K kc);have HD:=Gh (fun(W:World)(hW:Below w.heap.size w W)=>yn dg Xr k t hf Ul A c K kc B W (Gl hB hW.size) (h.below (hW.mono hB)));have Xd:=Gh Xb;generalize hx:(if 2<yr k t then(12:Int)else 0)=x;have HX:=Gh hx;clear hx;unfold qm at HD ⊢;have g1:¬k<1:=by omega
 have g4:¬4<k:=by omega
 have q1:decide (k<1)=false:=decide_eq_false g1;have q4:decide (4<k)=false:=decide_eq_false g4;clear h hf Ul hB Xb;generalize yr k t=d at*;go_enter Tryz.func6,Tryz.ntmps6
 go_upto_region 1 with(fail)
 generalize w.alloc (.cells (Gx t A c K kc) 28)=W at*;obtain⟨c0,c1,c2,c3⟩:=G4 k0;clear k0;go_wp2_with fail
 refine(HD W Xd).mono ?_;rintro e w2 ⟨rfl,_,Xf⟩;have Xw:=Gh (Gt Xd Xf);clear c0 c1 c2 c3 Xf HD;rcases hd with h2|h1
 ·have e1:decide (2<d)=true:=decide_eq_true h2;go_wp2_with fail
  go_ret2
  have hx:x=12:=by rw[<-HX,if_pos h2]
  subst hx;exact⟨rfl,Xw⟩
 ·have h2:¬2<d:=by omega
  have e1:decide (2<d)=false:=decide_eq_false h2;have e2:decide (d<1)=true:=decide_eq_true h1;go_wp2_with fail
  go_ret2
  have hx:x=0:=by rw[<-HX,if_neg (by omega)]
  subst hx;exact⟨rfl,Xw⟩
theorem QB.redP{k d m:Nat}(hk:k<4){T:RP}(h:QB ((k:Int)+1) d m T)(hd:d<=300)(hm:m<=5)(SP:0<yr ((k:Int)+1) T)(A:Oa)(c:Nat)(K:Oa)(kc:Nat)(w:World)(hr:RV w (· <w.heap.size) T (qe T A c K kc)):
 Calls Tryz.prog 21 #[qm T A c K kc,.int .i64 ((k:Int)+1)] w (qS (Y8 ((k:Int)+1) T) w):=by
 have Tl:=h.cfs hk;have h2:=qbW hk SP;refine qd2 400 (by omega) ((k:Int)+1) (by omega) (by omega) T h.fit (h.fitc (by omega)) (fun _=>?_) (Gl h.len (by omega)) (fun _=>by omega) A c K kc w.heap.size w (Gr _) hr;obtain⟨a,b,_⟩:=Q8 (k:=(k:Int)+1) (ds:=(qD ((k:Int)+1) T).take ((qD ((k:Int)+1) T).length-1)) (fun u hu=>Tl u (List.mem_of_mem_take hu)) (by have:=h.len;simp;omega);exact⟨a.dep,qN.few (n:=4) (by omega) _ (qN.mono (by omega) (Gr _) _ b),a.cnt⟩
theorem QB.red{k d m:Nat}(hk:k<4){T:RP}(h:QB ((k:Int)+1) d (m+1) T)(hd:d<=300)(hm:1<=m)(AK:m<=4):QB ((k:Int)+1) (d+2) m (Y8 ((k:Int)+1) T):=by
 unfold Y8
 split
 ·have hz:qn qh=qh:=qQ (by decide);refine⟨Qh (d:=0) (by decide) (qN.zero _ _) (by omega),by rw[hz];exact qN.zero _ _,by rw[hz];exact qF.zero,?_⟩;unfold qD;rw[hz,if_pos (by decide)];exact Nat.zero_le _
 ·have hu:∀u∈(qD ((k:Int)+1) T).take ((qD ((k:Int)+1) T).length-1),Vp ((k:Int)+1) (d+1) 3 u:=fun u hu=>h.cfs hk u (List.mem_of_mem_take hu);have TD:=h.len;have SG:((qD ((k:Int)+1) T).take ((qD ((k:Int)+1) T).length-1)).length=(qD ((k:Int)+1) T).length-1:=by simp
  generalize (qD ((k:Int)+1) T).take ((qD ((k:Int)+1) T).length-1)=ds at*;have Uo:ds.length<=m:=by omega
  obtain⟨hf,hw,Xr⟩:=Q8 hu (by omega);have hx:=jS (.mk ((k:Int)+1) false [] ds);have Da:=qc1 hk hu;have Cw:=qeB (d:=d+1) (n:=4) (by omega) (fun x hx i hi=>by
   by_cases e:i=k
   ·subst e;have:=(Da x hx).2;omega
   ·exact(Da x hx).1 i hi e) hw hf Xr
  have CS:qn (qn (.mk ((k:Int)+1) false [] ds))=qn (.mk ((k:Int)+1) false [] ds):=qQ hx.can.1;refine⟨Qh hx.can.1 Cw (by omega),by rw[CS];exact Cw,by rw[CS];exact hx.dig Xr,qaH ?_⟩;rw[CS];have:=qiE (k:=k) (N:=ds.length) (fun x hx=>by have:=(Da x hx).2;omega) (fun _=>by
   rw[qkv (k:=(k:Int)+1) (T:= .mk ((k:Int)+1) false [] ds) rfl];show ds.length-1+1<=_;omega)
  omega
def RoR(d:Int)(T:RP)(w:World)(e:Ending)(w':World):Prop:=∃v Ps,e= .returned (.tuple #[v,.int .i64 (if 2<d then 12 else 0)])/\Ps.length<=3/\QW w' w.heap.size v Ps/\(d=1->∃P:zX,Ps=[P]/\P.kd=2/\P.d.T=T)/\Below w.heap.size w w'
theorem QW.one1{w:World}{base g:Nat}{P:zX}(hg:base<=g)(hk:qf w g 34 P.cs)(hP:PtA w [] P):QW w base (.slice (some ⟨g,0,none⟩) 1 1) [P]:=
 QW.one (rest:=[]) hg (by simpa using hk) (Gr _) (by decide) (by simp[zX.cs]) hP
theorem YT(k:Nat)(hk:k<4)(p:RP)(hp:QB ((k:Int)+1) 3 4 p)(A:Oa)(c:Nat)(K:Oa)(kc:Nat)(w:World)(h:RV w (· <w.heap.size) p (qe p A c K kc)):
 Calls Tryz.prog 6 #[qm p A c K kc,.int .i64 ((k:Int)+1)] w (RoR (yr ((k:Int)+1) p) ((qD ((k:Int)+1) p).getD 1 qh) w):=by
 by_cases hd:2<yr ((k:Int)+1) p∨yr ((k:Int)+1) p<1
 ·refine(qf9 400 (by omega) ((k:Int)+1) (by omega) (by omega) p hp.fit (hp.fitc (by omega)) hd A c K kc w.heap.size w (Gr _) h).mono ?_;rintro e w' ⟨rfl,hb⟩;exact⟨_,[],rfl,by simp,⟨⟨rfl,.inl ⟨rfl,rfl⟩⟩,by simp⟩,fun h1=>by omega,hb⟩
 have hd12:yr ((k:Int)+1) p=1∨yr ((k:Int)+1) p=2:=by omega
 have FI:0<yr ((k:Int)+1) p:=by omega
 clear hd;have Xb:=Gb w (.cells (Gx p A c K kc) 28);have Xd:=Gh Xb;have Xo:=Gh (qf.new w 28 (Gx p A c K kc));have VW:=Gh (fun(V:World)(hb:Below w.heap.size w V)=>show RV V (· <V.heap.size) p (qe p A c K kc)from(h.below hb).more hb.size);have HD:=Gh (fun(V:World)(hb:Below w.heap.size w V)=>yn 400 (by omega) ((k:Int)+1) p hp.fit (hp.fitc (by omega)) A c K kc V.heap.size V (Gr _) (VW V hb));have Uc:=Gh (fun(V:World)(hb:Below w.heap.size w V)=>qbi hk hp 2 (by omega) hb.size (h.below hb));have Dh:=Gh (fun(V:World)(hb:Below w.heap.size w V)=>qiW k hk p hp A c K kc V (VW V hb));have Kx:=Gh (fun(V:World)(hb:Below w.heap.size w V)=>QB.redP hk hp (by omega) (by omega) FI A c K kc V (VW V hb));have Xk:=QB.red (m:=3) hk hp (by omega) (by omega) (by omega);have Sv:=Gh (fun(V:World)(A:Oa)(c:Nat)(K:Oa)(kc:Nat)(hr:RV V (· <V.heap.size) (Y8 ((k:Int)+1) p) (qe (Y8 ((k:Int)+1) p) A c K kc))=>yn 400 (by omega) ((k:Int)+1) (Y8 ((k:Int)+1) p) Xk.fit (Xk.fitc (by omega)) A c K kc V.heap.size V (Gr _) hr);have Nr:=Gh (fun(n:MV6)(hn:QV 5 n.M)(V:World)(hb:Below w.heap.size w V)(hr:RV V (· <V.heap.size) n.M.p (qe n.M.p n.A n.c n.K n.kc))=>qio k hk p hp A c K kc n.M hn n.A n.c n.K n.kc V (VW V hb) hr);rw[show((2:Nat):Int)=2 from rfl]at Uc;generalize (qD ((k:Int)+1) p).getD 1 qh=T1 at*;generalize Y8 ((k:Int)+1) p=R at*;generalize Us:yr ((k:Int)+1) R=dr at*;clear Us;have q1:decide ((k:Int)+1<1)=false:=decide_eq_false (by omega);have q4:decide (4<(k:Int)+1)=false:=decide_eq_false (by omega);generalize yr ((k:Int)+1) p=d at*;unfold qm at HD Uc Dh Kx Sv Nr ⊢;clear hp h Xb Xk FI;go_enter Tryz.func6,Tryz.ntmps6
 go_upto_region 1 with(fail)
 generalize w.alloc (.cells (Gx p A c K kc) 28)=W at*;have KP:=Gh (fun(X:World)(hX:Below W.heap.size W X)=>(⟨(Xo.out.old hX).cell 0,(Xo.out.old hX).cell 1,(Xo.out.old hX).cell 2,(Xo.out.old hX).cell 3⟩:Gc X w.heap.size (.int .i64 p.lv) (.bool p.ng) (.slice A p.ds.length c) (.slice K p.ks.length kc)));obtain⟨c0,c1,c2,c3⟩:=KP.out W (Below.refl _ _);go_wp2_with fail
 refine(HD W Xd).mono ?_;rintro e w2 ⟨rfl,-,Xf⟩;have RE:=Gh Xf;clear c0 c1 c2 c3 HD;obtain⟨c0,c1,c2,c3⟩:=KP.out w2 Xf;clear Xf;rcases hd12 with rfl|rfl
 ·have B7:=Gh (show Calls Tryz.prog 17 #[.agg (Gx p A c K kc),.int .i64 ((k:Int)+1),.agg #[.int .i64 1,.int .i64 0,.int .i64 0,.bool false,.slice none 0 0,.slice none 0 0,.slice none 0 0]] w2 (PtR 2 (fun T=>T=T1) w2)from Nr ⟨tfM true,none,0,none,0,none,0⟩ (QV.tf 5 true) w2 (Gt Xd RE) (RB.zero (base:=0)).rv);clear Uc Dh Kx Sv Nr VW;go_wp2_with fail
  refine B7.out.mono ?_;rintro e w3 ⟨P,EJ,hD,Eu,rfl,Xz⟩;have VF:P.cs.size=24:=rfl;have Um:=Gh (Xd.out.trans ((Gt RE Xz).mono Xd.out.size));have Xc:=Gb w3 (.cells P.cs 34);have XO:=P.one;have Xg:=Gh (show RoR 1 T1 w (.returned (.tuple #[.slice (some ⟨w3.heap.size,0,none⟩) 1 1,.int .i64 0])) (w3.alloc (.cells P.cs 34))from⟨_,[P],rfl,by simp,QW.one1 Um.out.size (qf.new w3 34 P.cs) (Eu.keep (Kp.old Xc)),fun _=>⟨P,rfl,EJ,hD⟩,Gt Um Xc⟩);clear Xc EJ hD Eu Xz B7 c0 c1 c2 c3 KP RE Xd Xo;generalize P.cs=cs at*;go_wp2_with fail
  rw[QX rfl VF];go_ret2
  exact Xg
 ·go_wp2_with fail
  refine(Uc w2 (Gt Xd RE)).mono ?_;rintro e w3 hres;obtain⟨a,hva,rfl,UL,Xz⟩:=hres.v;have ta:=TG.of (gs:=[]) UL (Q6 (V:=w2));have Xc:=Gb w3 (.cells (Gx a.T a.A a.c a.K a.kc) 28);have k7:=qf.new w3 28 (Gx a.T a.A a.c a.K a.kc)
  replace ta:=ta.keep (Kp.old Xc)
  have OQ:=(Gt RE Xz).trans (Xc.mono (Gl RE.out.size Xz.size));clear c0 c1 c2 c3 Xc UL Xz Uc RE hres;go_upto_region 11 with(fail)
  generalize w3.alloc (.cells (Gx a.T a.A a.c a.K a.kc) 28)=W4 at*;generalize w3.heap.size=g7 at*;have XW:=Gh (Gt Xd OQ);have Sh:=Gh k7;have Vd:=Gh (Xo.out.old OQ);have Vt:=Gh ta;have Ea:=Gh hva;obtain⟨c0,c1,c2,c3⟩:=KP.out W4 OQ;clear KP OQ k7 ta hva Xd Xo;go_wp2_with fail
  refine(Dh W4 XW).mono ?_;rintro e w5 ⟨v,Ps,rfl,U6,SJ,XL⟩;have XZ:=Gh XL;have Se:=Gh SJ;have Tr:=Gh U6;have Xg:=Gh (fun(X:World)(hX:Below W4.heap.size W4 X)(hX5:Below w5.heap.size w5 X)=>show RoR 2 T1 w (.returned (.tuple #[v,.int .i64 0])) X from⟨v,Ps,rfl,by have:=Tr.out;omega,(Se.out.old hX5).mono XW.out.size,fun h=>by omega,Gt XW hX⟩);have Tk:=Gh (qeR 400 (by omega) a.T (Ea.out.q (by omega) (by omega) (by omega) (by omega)).fit a.A a.c a.K a.kc w5.heap.size w5 (Gr _) (Vt.out.keep (Kp.old XL)).rv);unfold qm at Tk;have kk:=Sh.out.old XL;obtain⟨e0,e1,e2,e3⟩:=G4 kk;clear c0 c1 c2 c3 XL SJ U6 Dh kk;go_wp2_with fail
  refine Tk.out.mono ?_;rintro e w6 ⟨-,XY,XE⟩;have Fu:=Gh XY;clear XY Tk e0 e1 e2 e3;rcases XE with⟨-,rfl⟩|⟨-,z,A9,c9,-,rfl,-,-⟩
  case inr=>
   have Xc:=Gb w6 (.cells #[.bool (decide (z<0)),.slice A9 (dig z.natAbs).length c9] 25);have hb:=Gt Fu Xc;have CM:=Gh (Xg _ (Gt XZ hb) hb);clear Xc hb Xg Se Kx Sv Nr VW Vt Ea Sh Vd;go_wp2_with fail
   go_ret2
   exact CM
  case inl=>
   have Xc:=Gb w6 (.cells #[.bool false,.slice none 0 0] 25);have C1:=Gh (Gt Fu Xc);have FC:=Gh (Gt XZ C1);clear Xc Fu;go_upto_region 13 with(fail)
   generalize w6.alloc (.cells #[.bool false,.slice none 0 0] 25)=W7 at*;have kk:=Vd.out.old FC.out;obtain⟨e0,e1,e2,e3⟩:=G4 kk;clear kk;go_wp2_with fail
   refine(Kx W7 (Gt XW FC)).mono ?_;rintro e w8 ⟨A8,c8,K8,k8,rfl,LD,Sb⟩;have O7:=Gh (Sv w8 A8 c8 K8 k8 LD.rv);have Kh:=Gh (Gt C1 Sb);have RY:=Gh (Gt FC Sb);clear LD Sb Kx Sv e0 e1 e2 e3 C1 FC;go_wp2_with fail
   refine O7.out.mono ?_;rintro e w9 ⟨rfl,-,To⟩;have HW9:=Gh (Gt Kh To);have FB:=Gh (Gt RY To);clear To O7 Kh RY;by_cases Rh:dr=1
   case neg=>
    have e9:(dr==1)=false:=by simpa using Rh
    have CM:=Gh (Xg w9 FB HW9);clear Rh Xg Se Nr VW Vt Ea Sh Vd;go_wp2_with fail
    go_ret2
    exact CM
   case pos=>
    subst Rh;clear Xg;go_upto_region 14 with(fail)
    have KF:=Gh (fun(X:World)(hX:Below W4.heap.size W4 X)=>(⟨(Vd.out.old hX).cell 0,(Vd.out.old hX).cell 1,(Vd.out.old hX).cell 2,(Vd.out.old hX).cell 3,(Sh.out.old hX).cell 0,(Sh.out.old hX).cell 1,(Sh.out.old hX).cell 2,(Sh.out.old hX).cell 3⟩:Gd X w.heap.size (.int .i64 p.lv) (.bool p.ng) (.slice A p.ds.length c) (.slice K p.ks.length kc) (Gc X g7 (.int .i64 a.T.lv) (.bool a.T.ng) (.slice a.A a.T.ds.length a.c) (.slice a.K a.T.ks.length a.kc))));have Mg:Below w9.heap.size w9 w9.drew:=(qt.drew _).below _;have hz:=Gt FB Mg;have hv:=Gt HW9 Mg;clear Mg;refine wp_region_held_drew (S:=fun w'=>Gd w' w.heap.size (.int .i64 p.lv) (.bool p.ng) (.slice A p.ds.length c) (.slice K p.ks.length kc) (Gc w' g7 (.int .i64 a.T.lv) (.bool a.T.ng) (.slice a.A a.T.ds.length a.c) (.slice a.K a.T.ks.length a.kc))) (by kernel_rfl) (KF _ hz) (fun Xa=>?_);refine tk 0 ?_
    refine tk 1 ?_
    refine tk 2 ?_
    refine tk 3 ?_
    simp only[Act.put,sA,sB,sC];generalize w9.drew=V at*;refine rd1 4 (fun P hP=>?_);go_simp
    go_at_call 22
    refine(Qq (Ea.out.mono (Gr _) (by omega)) (by omega) (by omega) (by omega) 3 (Vt.out.keep (Kp.old hz)).rv).mono ?_;rintro e V1 hres;obtain⟨n,hn,rfl,hr,st⟩:=zM.v hres
    replace hz:=Gt hz st;replace hv:=Gt hv st
    clear st hres;refine hP _ _ (KF _ hz) (fun Xa=>?_);clear hP P
    refine rd1 5 (fun P hP=>?_);go_simp
    go_at_call 17
    refine(Nr n hn V1 (Gt XW hz) hr.rv).mono ?_;rintro e V2 ⟨Q,-,-,Eu,rfl,st⟩
    replace hz:=Gt hz st;replace hv:=Gt hv st
    clear st hr hn;have VF:Q.cs.size=24:=rfl;have XO:=Q.one;obtain⟨cs,XE⟩:∃cs,cs=Q.cs:=⟨_,rfl⟩;rw[<-XE]at VF XO;have Rm:=Gh XE;clear XE;refine hP _ _ (KF _ hz) (fun Xa=>?_);clear hP P
    refine rd1 6 (fun P hP=>?_);rw[<-Rm.out];go_simp
    rw[QX rfl VF];have st:=Gb V2 (.cells cs 34);have Xv:=qu.cells_new V2 cs 34;rw[VF]at Xv;have SJ:=Se.out.old hv;have Xk:=(Se.out.old (Gt hv st)).1;have Vi:=Gh (fun(X:World)(u:Value)(ho:X.ownsRow W4.heap.size 34 24 u (Ps.length+1) ((Ps.flatMap fun P=>P.cs.toList)++Q.cs.toList))(hg:(V2.alloc (.cells cs 34)).grownBy X v.ownBlock)=>SJ.push st (Eu.keep (Kp.old st)) ho hg)
    replace hz:=Gt hz st
    clear st SJ;generalize V2.alloc (.cells cs 34)=V3 at*;generalize V2.heap.size=g8 at*;refine hP _ _ (KF _ hz) (fun Xa=>?_);clear hP P
    refine rd1 7 (fun P hP=>?_);obtain⟨i0,Uw,Sr,Ti,R3⟩:=qO Tryz.infoPoint;have VK:Ps.length+1<=maxLen:=by have:=Tr.out;unfold maxLen;omega
    have VH:(Ps.length+1)*368<=140737488355328:=by have:=Tr.out;omega
    refine yt _ rfl (.tmp 55) (.tmp 61) 37 (by rfl) W4.heap.size 34 i0 _ 24 368 Tryz.underlying37 Uw Sr Ti R3 rfl (by decide) v Ps.length _ (by rfl) Xk (g8+1) (some ⟨g8,0,none⟩) 1 1 cs.toList (by rfl) Xv XO VK VH hz.size ?_;intro v' V4 Xn hg VI;clear VI;rw[Rm.out]at Xn;have hpu:=Vi.out _ _ Xn hg
    replace hz:=zn Xk hg hz hz.size
    refine hP _ _ (KF _ hz) (fun Xa=>?_);clear hP P
    refine tk 8 ?_
    simp only[Act.put,sA,sB,sC];refine wpAnyH_done (by kernel_rfl) ?_ _;have Xg:=Gh (show RoR 2 T1 w (.returned (.tuple #[v',.int .i64 0])) V4 from⟨v',Ps++[Q],rfl,by have:=Tr.out;rw[List.length_append,List.length_singleton];omega,hpu.mono XW.out.size,fun h=>by omega,Gt XW hz⟩);clear Xn hg hpu hz hv Xk Xv XO Nr VW Vt Ea Sh Vd Se Xa KF;go_wp2_with fail
    go_ret2
    exact Xg
end Go.Proofs.YtflikmojaidhhaaGreatDoor
namespace Go.Proofs.YtflikmojaidhhaaGreatDoor
open Go.RowKit Go.Maps
def Ql(P:Program)(ks eb:TypeId)(w:World)(b n:Nat)(f:List UInt8->Option Bool):Prop:=
 ∃D:DataW Unit,w.ownsMap P ks (plainElem P eb) b n D/\IsMap D/\∀s,Maps.has D (.string s)=(f s).isSome/\D.atKey (.string s) (.lit (.bool false))= .lit (.bool ((f s).getD false))
section
variable {P:Program} {ks eb:TypeId} {w w':World} {b n:Nat} {f:List UInt8->Option Bool}
theorem qgW(P:Program)(ks eb:TypeId)(w:World):Ql P ks eb (w.alloc (.map #[] 0)) w.heap.size 0 (fun _=>none):=
 ⟨.map [],World.ownsMap_made w P ks _,isMap_empty,fun _=>⟨rfl,rfl⟩⟩
theorem Ql.kept{row:Option Nat}(h:Ql P ks eb w b n f)(hg:w.grownBy w' row)(Xl:some b≠row):Ql P ks eb w' b n f:=by
 obtain⟨D,h1,h2,h3⟩:=h;exact⟨D,h1.kept hg Xl,h2,h3⟩
theorem Ql.old(h:Ql P ks eb w b n f)(hb:Below w.heap.size w w'):Ql P ks eb w' b n f:=
 h.kept (row:=none) ⟨hb.os,hb.tape,hb.output,hb.size,fun k hk _=>hb.block k hk⟩ (by simp)
theorem QL{H:Type}{e:TypeId}(he:P.underlying e=some .bool){v:Value}{z:DataW H×List MemPlace}(h:plainElem P e v=some z):∃x,v= .bool x/\z=(.lit (.bool x),[]):=by
 unfold plainElem at h;rw[he]at h
 cases v<;>simp at h
 exact⟨_,rfl,h.symm⟩
theorem qfg(hk:P.underlying ks=some .string)(s:List UInt8)(hs:s.length<=maxLen):keyOf P ks (.string ⟨s.toArray⟩)=some (.string s):=by
 have:=WideMaps.keyOf_string_mk (P:=P) (k:=ks) hk (s:=⟨s.toArray⟩) (by simpa[ByteArray.size]using hs);simpa using this
end
section
variable {P:Program} {ks eb:TypeId} (w:World) {ops:Array Oper} {rest:List Oper} {o:Oper} {a:Act} {Q:Exit->Act->World->Prop}
theorem Qg(hg:o.guard=none)(m x:Operand)(t:TypeId)(IL:o.op=Op.lookup t m x false)(ht:P.underlying t=some (.map ks eb))(SN:P.underlying ks=some .string)(LU:P.underlying eb=some .bool)
 (hz:(zeroValue eb).run P w= .ok (.bool false) w)(b n:Nat)(f:List UInt8->Option Bool)(hm:a.eval m= .map (some b))(Xn:Ql P ks eb w b n f)(s:List UInt8)(hs:s.length<=maxLen)(hx:a.eval x= .string ⟨s.toArray⟩)(r:Bool)(hr:(f s).getD false=r)
 (hK:wpList P ops Q rest (a.put o.dst (.bool r)) w):wpList P ops Q (o::rest) a w:=by
 obtain⟨D,h1,h2,h3⟩:=Xn;refine wpList_plain hg fun K' hK'=>?_;obtain⟨v,ps,VO,hv⟩:=h1.lookup (string_keyed SN) ht hz (plainElem_bool LU false) (qfg SN s hs);obtain⟨y,rfl,hy⟩:=QL LU hv;obtain⟨e1,e2⟩:=h3 s;rw[e2]at hy
 injection hy with hy _
 injection hy with hy
 injection hy with hy
 unfold Oper.wp;simp[execOp,IL,hm,hx,VO,Result.andThen];rw[<-hy,hr];exact hK' _ _ hK
theorem Z4(hg:o.guard=none)(m x v:Operand)(t:TypeId)(IL:o.op=Op.mapUpdate t m x v)(ht:P.underlying t=some (.map ks eb))(SN:P.underlying ks=some .string)(LU:P.underlying eb=some .bool)
 (b n:Nat)(f:List UInt8->Option Bool)(hm:a.eval m= .map (some b))(Xn:Ql P ks eb w b n f)(hn:n<maxLen)(s:List UInt8)(hs:s.length<=maxLen)(y:Bool)(hx:a.eval x= .string ⟨s.toArray⟩)(hv:a.eval v= .bool y)
 (hK:∀w',Ql P ks eb w' b (n+1) (fun u=>if u=s then some y else f u)->w.grownBy w' (some b)->wpList P ops Q rest (a.put o.dst undef) w'):wpList P ops Q (o::rest) a w:=by
 obtain⟨D,h1,h2,h3⟩:=Xn;refine wpList_mapUpdate_own w hg m x v t IL ks eb (string_keyed SN) ht (plainElem P eb) b n D hm h1 hn _ _ (.string s) hx hv (qfg SN s hs) (.lit (.bool y)) [] (plainElem_bool LU y) fun w' hw' TE=>hK w' ⟨_,hw',h2.put _ _,fun u=>?_⟩ TE;by_cases hu:u=s
 ·subst hu;have TU:WideAt.IsKeyLit (Lit.string u):=by simp[WideAt.IsKeyLit]
  rw[has_put_same h2 TU,atKey_put_same h2 TU];simp
 ·have Xl:(Lit.string u)≠ .string s:=fun e=>hu (by injection e);rw[has_put_other Xl,atKey_put_other Xl];simp only[if_neg hu];exact h3 u
end
end Go.Proofs.YtflikmojaidhhaaGreatDoor
namespace Go.Proofs.YtflikmojaidhhaaGreatDoor
open Go.RowKit
theorem Tryz.zeroBoolP(w:World):(zeroValue 4).run Tryz.prog w= .ok (.bool false) w:=by kernel_rfl
section
variable {w w' w'':World}
theorem Ql.ne{P:Program}{ks eb:TypeId}{b n g:Nat}{f:List UInt8->Option Bool}{t:TypeId}{cs:Array Value}(hm:Ql P ks eb w b n f)(h:qf w g t cs):g≠b:=by
 obtain⟨D,⟨es,clock,hb,_⟩,_⟩:=hm;rintro rfl;have h':=(show w.heap[g]? =some (.cells cs t (0,0))from h).symm.trans hb
 cases h'
theorem Z0{P:Program}{ks eb:TypeId}{b n:Nat}{f:List UInt8->Option Bool}(h:Ql P ks eb w b n f){base:Nat}{e:TypeId}{size m:Nat}{v:Value}{xs:List Value}(ho:w.ownsRow base e size v m xs):some b≠v.ownBlock:=by
 rcases ho.2 with⟨rfl,_⟩|⟨g',cap,cur,rfl,_,hh,_⟩
 ·simp[Value.ownBlock]
 ·intro he;have:g'=b:=by simpa[Value.ownBlock]using he.symm
  exact h.ne (show qf w g' e cur from hh) this
theorem qec{base:Nat}{e:TypeId}{size n:Nat}{v:Value}{xs:List Value}(h:w.ownsRow base e size v n xs)(hk:∀g cur,v.ownBlock=some g->qf w g e cur->qf w' g e cur):w'.ownsRow base e size v n xs:=by
 refine⟨h.1,?_⟩;rcases h.2 with h|⟨g,cap,cur,h4,h5,h6,h7⟩
 ·exact .inl h
 ·exact .inr ⟨g,cap,cur,h4,h5,hk g cur (by rw[h4];rfl) h6,h7⟩
theorem QW.kp{b:Nat}{v:Value}{Ps:List zX}(h:QW w b v Ps)(hk:Kp w w' [] [])(hr:∀g cur,v.ownBlock=some g->qf w g 34 cur->qf w' g 34 cur):QW w' b v Ps:=⟨qec h.1 hr,fun P hP=>(h.2 P hP).keep hk⟩
theorem qid:∀(Ps:List zX)(j i:Nat)(P:zX)(u:Value),Ps[j]? =some P->P.cs.toList[i]? =some u->(Ps.flatMap fun P=>P.cs.toList)[j*24+i]? =some u
 |[],_,_,_,_,h,_=>by simp at h
 |Q::Ps,0,i,P,u,h,hu=>by
  obtain rfl:Q=P:=by simpa using h
  rw[List.flatMap_cons,Nat.zero_mul,Nat.zero_add,List.getElem?_append_left (Gi.1 hu).1];exact hu
 |Q::Ps,j+1,i,P,u,h,hu=>by
  have hl:Q.cs.toList.length=24:=rfl;rw[List.flatMap_cons,List.getElem?_append_right (by omega),hl,show(j+1)*24+i-24=j*24+i by omega];exact qid Ps j i P u (by simpa using h) hu
theorem QW.sl{b:Nat}{v:Value}{Ps:List zX}(h:QW w b v Ps):∃A c,v= .slice A Ps.length c:=by
 rcases h.1.2 with⟨h1,h0⟩|⟨g,cap,cur,h1,_⟩
 ·exact⟨none,0,by rw[h1,h0]⟩
 ·exact⟨_,cap,h1⟩
theorem qca{B:Nat}{w0:World}{r:Option Nat}(hb:Below B w0 w)(hg:w.grownBy w' r)(hz:B<=w.heap.size)(hr:∀g,r=some g->B<=g):Below B w0 w':=
 ⟨hg.os.trans hb.os,hg.tape.trans hb.tape,hg.output.trans hb.output,Gl hb.size hg.size,fun k hk=>(hg.block k (by omega) (by intro e;have:=hr _ e.symm;omega)).trans (hb.block k hk)⟩
theorem QW.at{b j:Nat}{v:Value}{Ps:List zX}{P:zX}(h:QW w b v Ps)(hj:Ps[j]? =some P):∃gr cap cur,v= .slice (some ⟨gr,0,none⟩) Ps.length cap/\Ps.length<=cap/\qf w gr 34 cur/\w.rangeAt gr (j*24) P.cs.toList/\PtA w [] P:=by
 have Xi:=(Gi.1 hj).1;rcases h.1.2 with⟨_,h0⟩|⟨g,cap,cur,h1,h2,h3,h4,h5,h6,h7⟩
 ·omega
 ·refine⟨g,cap,cur,h1,h4,h3,fun i u hu=>?_,h.2 P (Gk hj)⟩;have hi:i<24:=(Gi.1 hu).1;rw[(show qf w g 34 cur from h3).cell,<-Array.getElem?_toList,<-qid Ps j i P u hj hu,<-h7,List.getElem?_take,if_pos (by omega)]
end
structure YZ (B:Nat) (w:World) (gl gs gx bm n m:Nat) (k:Int) (v:Value):Prop where
 lev:qf w gl 3 #[.int .i64 k]
 sen:qf w gs 59 #[.map (some bm)]
 lst:qf w gx 37 #[v]
 mp:∃f,Ql Tryz.prog 9 4 w bm m f
 row:∃xs,w.ownsRow B 34 24 v n xs
 ge:B<=gx/\B<=bm/\B<=w.heap.size
section
variable {w w' w'':World} {B gl gs gx bm n m:Nat} {k:Int} {v v':Value}
theorem YZ.key(hb:Below w.heap.size w w')(h:YZ B w gl gs gx bm n m k v):YZ B w' gl gs gx bm n m k v:=by
 obtain⟨f,hf⟩:=h.mp;obtain⟨xs,hx⟩:=h.row;exact⟨h.lev.old hb,h.sen.old hb,h.lst.old hb,⟨f,hf.old hb⟩,⟨xs,jB hx hb⟩,h.ge.1,h.ge.2.1,Gl h.ge.2.2 hb.size⟩
theorem zZ{f:List UInt8->Option Bool}(hf:Ql Tryz.prog 9 4 w bm m f)(hg:w.grownBy w' (some bm)){g:Nat}{t:TypeId}{cs:Array Value}(hb:qf w g t cs):qf w' g t cs:=hb.grown hg (fun e=>by injection e with e;exact hf.ne hb e)
theorem YZ.map{f':List UInt8->Option Bool}(h:YZ B w gl gs gx bm n m k v)(OJ:Ql Tryz.prog 9 4 w' bm (m+1) f')(hg:w.grownBy w' (some bm)):YZ B w' gl gs gx bm n (m+1) k v:=by
 obtain⟨f,hf⟩:=h.mp;obtain⟨xs,hx⟩:=h.row;exact⟨zZ hf hg h.lev,zZ hf hg h.sen,zZ hf hg h.lst,⟨f',OJ⟩,⟨xs,qec hx fun _ _ _ hb=>zZ hf hg hb⟩,h.ge.1,h.ge.2.1,Gl h.ge.2.2 hg.size⟩
theorem Kp.mapG{gs':List Nat}{f:List UInt8->Option Bool}(hf:Ql Tryz.prog 9 4 w bm m f)(hg:w.grownBy w' (some bm)):Kp w w' gs' gs':=fun _ _ _ h1 _ h3=>⟨zZ hf hg h3,h1⟩
theorem zV{n:Nat}{xs:List Value}(ho:w.ownsRow B 34 24 v n xs)(hg:w.grownBy w' v.ownBlock){g:Nat}{t:TypeId}{cs:Array Value}(ht:t≠34)(hb:qf w g t cs):qf w' g t cs:=by
 refine hb.grown hg ?_;rcases ho.2 with⟨rfl,_⟩|⟨g',cap,cur,rfl,_,hh,_⟩
 ·simp[Value.ownBlock]
 ·intro e;have e:g=g':=by simpa[Value.ownBlock]using e
  exact jf hb (show qf w g' 34 cur from hh) ht e
theorem YZ.push{xs:List Value}(h:YZ B w gl gs gx bm n m k v)(ho:w'.ownsRow B 34 24 v' (n+1) xs)(hg:w.grownBy w' v.ownBlock):YZ B (w'.setCell ⟨gx,0,none⟩ v') gl gs gx bm (n+1) m k v':=by
 obtain⟨f,hf⟩:=h.mp;obtain⟨ys,hx⟩:=h.row;have hl:=zV hx hg (by decide) h.lst;refine⟨(zV hx hg (by decide) h.lev).far (p:=⟨gx,0,none⟩) (jf (zV hx hg (by decide) h.lev) hl (by decide)) v',(zV hx hg (by decide) h.sen).far (p:=⟨gx,0,none⟩) (jf (zV hx hg (by decide) h.sen) hl (by decide)) v',hl.set_ 0 v',⟨f,?_⟩,⟨xs,qec ho fun g cur _ hb=>hb.far (p:=⟨gx,0,none⟩) (jf hb hl (by decide)) v'⟩,h.ge.1,h.ge.2.1,?_⟩
 ·refine(hf.kept hg (Z0 hf hx)).kept (grownBy_setCell' w' gx v') (fun e=>?_)
  injection e with e
  exact(hf.kept hg (Z0 hf hx)).ne hl e.symm
 ·have:=(grownBy_setCell' w' gx v').size;exact Gl h.ge.2.2 (Gl hg.size this)
end
theorem yF.on{B:Nat}{w w':World}(h:yF B w)(hb:Below B w w')(hB:B<=w'.heap.size):yF w'.heap.size w':=fun X hX=>h X (hb.trans (hX.mono hB))
theorem qkD(P:zX)(w:World)(hP:PtA w [] P)(ht:yF w.heap.size w):Calls Tryz.prog 25 #[.agg P.cs] w (fun e w'=>∃l:List UInt8,e= .returned (.string ⟨l.toArray⟩)/\l.length<=10000000000/\Below w.heap.size w w'):=by
 refine qjp P.kd (by rcases hP.kd with h|h<;>omega) P.a.T P.b.T P.c.T P.d.T hP.ka hP.kb hP.kc hP.kD P.m.M hP.km P.cs rfl w.heap.size w (Gr _) ⟨P.a.A,P.a.c,P.a.K,P.a.kc,rfl,rfl,rfl,rfl,hP.ra.rv⟩ ⟨P.b.A,P.b.c,P.b.K,P.b.kc,rfl,rfl,rfl,rfl,hP.rb.rv⟩ ⟨P.c.A,P.c.c,P.c.K,P.c.kc,rfl,rfl,rfl,rfl,hP.rc.rv⟩ ⟨P.d.A,P.d.c,P.d.K,P.d.kc,rfl,rfl,rfl,rfl,hP.rd.rv⟩ ⟨P.m.A,P.m.c,P.m.K,P.m.kc,P.m.L,P.m.lc,fun j v hj=>?_,hP.rm.rv⟩ ht
 match j,hj with
 |0,hj=>exact hj
 |1,hj=>exact hj
 |2,hj=>exact hj
 |3,hj=>exact hj
 |4,hj=>exact hj
 |5,hj=>exact hj
 |6,hj=>exact hj
 |j+7,hj=>simp[jn]at hj
theorem zX.set0(P:zX)(x:Int):P.cs.setIfInBounds 0 (.int .i64 x)=zX.cs {P with kd:=x}:=rfl
theorem PtA.set0{w:World}{P:zX}(h:PtA w [] P):PtA w [] {P with kd:=3}:=⟨.inr rfl,h.ka,h.kb,h.kc,h.kD,h.km,h.ra,h.rb,h.rc,h.rd,h.rm⟩
set_option maxHeartbeats 4000000
set_option maxRecDepth 100000
theorem qgV(k:Nat)(hk:k<4)(p:RP)(hp:QB ((k:Int)+1) 3 4 p)(A:Oa)(c:Nat)(K:Oa)(kc:Nat)(gv gl gs gx bm B:Nat)(v0:Value)(w:World)(hv:YZ B w gl gs gx bm 1 0 ((k:Int)+1) v0)(ht:yF B w)(h:RV w (· <B) p (qe p A c K kc)):
 Calls Tryz.prog 24 #[.agg #[.int .i64 2,.int .i64 1,.int .i64 p.lv,.bool p.ng,.slice A p.ds.length c,.slice K p.ks.length kc,.slice none 0 0],.pointer (some ⟨gv,0,none⟩),.pointer (some ⟨gl,0,none⟩),.pointer (some ⟨gs,0,none⟩),.pointer (some ⟨gx,0,none⟩)] w (fun e w'=>e= .returned (.tuple #[])/\(∃v',qf w' gx 37 #[v'])/\Below B w w'):=by
 have Xb:=Gb w (.cells #[.int .i64 2,.int .i64 1,.int .i64 p.lv,.bool p.ng,.slice A p.ds.length c,.slice K p.ks.length kc,.slice none 0 0] 32);have k0:=qf.new w 32 #[.int .i64 2,.int .i64 1,.int .i64 p.lv,.bool p.ng,.slice A p.ds.length c,.slice K p.ks.length kc,.slice none 0 0];have Xd:=Gh Xb;have Xo:=Gh k0;have BV:=Gh (hv.key Xb);have RW:=Gh hv.ge;have HR:=Gh (fun(X:World)(hX:Below w.heap.size w X)=>YT k hk p hp A c K kc X ((h.below (hX.mono hv.ge.2.2)).more (Gl hv.ge.2.2 hX.size)));have TF:=Gh (fun(X:World)(hX:Below B w X)=>yF.on ht hX (Gl hv.ge.2.2 hX.size));generalize yr ((k:Int)+1) p=dd at*;generalize (qD ((k:Int)+1) p).getD 1 qh=T1 at*;unfold qm at HR;clear hp Xb hv ht h;go_enter Tryz.func24,Tryz.ntmps24
 go_upto_region 1 with(fail)
 generalize w.alloc (.cells #[.int .i64 2,.int .i64 1,.int .i64 p.lv,.bool p.ng,.slice A p.ds.length c,.slice K p.ks.length kc,.slice none 0 0] 32)=W at*;obtain⟨z0,z1,z2,z3⟩:=G4 k0;have z4:=k0.cell 4;have z5:=k0.cell 5;have z6:=k0.cell 6;have zl:=BV.out.lev.cell 0;clear k0;go_wp2_with fail
 refine(HR W Xd).mono ?_;rintro e w2 ⟨L,Ps,rfl,U6,SJ,-,Xf⟩;generalize (if 2<dd then(12:Int)else 0)=code at*;obtain⟨LA,lc,rfl⟩:=SJ.sl;have Se:=Gh SJ;have Tr:=Gh U6;have Td:=Gh (BV.out.key Xf);have XA:=Gh (Xo.out.old Xf);have Xw:=Gh (Gt Xd Xf);have VL:=Gh (show∀g,(Value.slice LA Ps.length lc).ownBlock=some g->v0.ownBlock≠some g from fun g h1 h2=>by
  obtain⟨xs,hx⟩:=BV.out.row;have q1:=(hx.lt g h2).2;have q2:=(SJ.1.lt g h1).1;omega)
 clear U6 SJ Xf HR BV z0 z1 z2 z3 z4 z5 z6 zl;go_upto_region 12 with(fail)
 have HWS:=Gh (show w.heap.size<=W.heap.size from Xd.out.size);clear Xd Xo;go_loopg [40] Ps.length (fun gn ix wr=>∃(j n m:Nat)(v:Value),j<=Ps.length/\gn=Ps.length-j/\ix= .int .i64 j/\n<=1+j/\m<=j/\YZ B wr gl gs gx bm n m ((k:Int)+1) v/\QW wr W.heap.size (.slice LA Ps.length lc) Ps/\(∀g,(Value.slice LA Ps.length lc).ownBlock=some g->v.ownBlock≠some g)/\qf wr w.heap.size 32 #[.int .i64 2,.int .i64 1,.int .i64 p.lv,.bool p.ng,.slice A p.ds.length c,.slice K p.ks.length kc,.slice none 0 0]/\Below B w wr)
 case atStart=>exact⟨0,1,0,v0,by omega,rfl,rfl,by omega,by omega,Td,Se,VL,XA,Xw.out.mono RW.out.2.2⟩
 case round=>
  obtain⟨j,n,m,v,hj,XI,rfl,hnj,hmj,BD,Ou,Xl,Vb,Xe⟩:=hrel;have SZ:=Gh XI;have Ia:=Gh hnj;have WJ:=Gh hmj;have O2:=Gh BD;have Np:=Gh Ou;have KC:=Gh Xl;have Tj:=Gh Vb;have Xh:=Gh Xe;clear XI hnj hmj BD Ou Xl Vb Xe Td Se VL XA Xw;have B3:=Tr;by_cases Xi:j<Ps.length
  ·obtain⟨P,hP⟩:∃P,Ps[j]? =some P:=⟨_,Gn Xi⟩;obtain⟨gr,cap,cur,hL,UP,Uv,F5,Eu⟩:=Np.out.at hP
   injection hL with hL _ hc
   subst hL;subst hc;have VF:P.cs.size=24:=rfl;have PF:P.cs.toList.length=24:=rfl;have XO:=P.one;have D4:=all_oneCell_toArray XO;rw[Array.toArray_toList]at D4;have h00:P.cs[0]? =some (.int .i64 P.kd):=rfl;have i0:(0:Int)<=(j:Int):=by omega
   have i1:(j:Int)<(Ps.length:Int):=by omega
   have i2:(Ps.length:Int)<=(lc:Int):=by omega
   have e2:IntKind.i64.wrap ((j:Int)+1)=(j:Int)+1:=IntWalk.i64_in _ (by have:=B3.out;omega);have Xs:=zX.set0 P 3;have Fx:=Gh Eu;have Xm:=Gh Uv;obtain⟨P3,Mz⟩:∃P3:zX,P3={P with kd:=3}:=⟨_,rfl⟩;rw[<-Mz]at Xs;have TM:=Gh (fun(X:World)(h:PtA X [] P)=>show PtA X [] P3 by rw[Mz];exact h.set0);clear Eu Uv Mz hP;generalize P.cs=cs at*;go_upto_region 13 with(fail)
   apply wp_region_lit;refine wpList_plain rfl fun K hK=>?_;go_simp
   refine hK _ _ ?_;clear hK K;refine wpList_load_mid rfl 34 _ rfl gr (j*24) rfl cs.toList _ F5 Tryz.underlying34 rfl (by rw[PF];kernel_rfl) ?_;rw[Array.toArray_toList];simp only[Act.put,sA,sB,sC];refine wpList_plain rfl fun K hK=>?_;go_simp
   refine hK _ _ ?_;clear hK K F5 PF;have Xc:=Gb wr (.cells #[.int .i64 0,.int .i64 0,.bool false,.slice none 0 0,.slice none 0 0,.int .i64 0,.bool false,.slice none 0 0,.slice none 0 0,.int .i64 0,.bool false,.slice none 0 0,.slice none 0 0,.int .i64 0,.bool false,.slice none 0 0,.slice none 0 0,.int .i64 0,.int .i64 0,.int .i64 0,.bool false,.slice none 0 0,.slice none 0 0,.slice none 0 0] 34);have kb:=qf.new wr 34 #[.int .i64 0,.int .i64 0,.bool false,.slice none 0 0,.slice none 0 0,.int .i64 0,.bool false,.slice none 0 0,.slice none 0 0,.int .i64 0,.bool false,.slice none 0 0,.slice none 0 0,.int .i64 0,.bool false,.slice none 0 0,.slice none 0 0,.int .i64 0,.int .i64 0,.int .i64 0,.bool false,.slice none 0 0,.slice none 0 0,.slice none 0 0];have k11:qf _ wr.heap.size 34 cs:=setRow_heap _ wr.heap.size _ cs 34 (0,0) kb;have FU:=below_setRow Xc (Gr _) cs;refine wpList_plain rfl fun K hK=>?_;refine wp_store_row 34 _ _ rfl wr.heap.size cs rfl rfl 34 _ kb (by rw[VF];kernel_rfl) (by rw[VF];rfl) D4 ?_;simp only[Act.put];refine hK _ _ ?_;clear hK K kb Xc D4 XO;generalize (wr.alloc (.cells #[.int .i64 0,.int .i64 0,.bool false,.slice none 0 0,.slice none 0 0,.int .i64 0,.bool false,.slice none 0 0,.slice none 0 0,.int .i64 0,.bool false,.slice none 0 0,.slice none 0 0,.int .i64 0,.bool false,.slice none 0 0,.slice none 0 0,.int .i64 0,.int .i64 0,.int .i64 0,.bool false,.slice none 0 0,.slice none 0 0,.slice none 0 0] 34)).setRow wr.heap.size cs=X1 at*;have z1:=(Tj.out.old FU).cell 1;have y0:=(k11.cell 0).trans h00;have f0:=k11.frozen 0;have zl:=k11.lt;go_upto_region 19 with(fail)
   have k12:=k11.set_ 0 (.int .i64 3);have Fd:=FU.setCell (p:=⟨wr.heap.size,0,none⟩) (Gr _) (.int .i64 3);rw[Xs]at k12;clear z1 y0 f0 zl k11 FU Xs VF h00;generalize X1.setCell ⟨wr.heap.size,0,none⟩ (.int .i64 3)=X2 at*;have VF:P3.cs.size=24:=rfl;have XO:=P3.one;have Sy:=Gh O2.out.ge.2.2;have TI:=Gh (qkD P3 X2 (TM X2 (Fx.out.keep (Kp.old Fd))) (TF X2 (Xh.out.trans (Fd.mono Sy))));obtain⟨cs3,XE⟩:∃cs,cs=P3.cs:=⟨_,rfl⟩;rw[<-XE]at VF XO TI k12;have Rm:=Gh XE;clear XE;apply wp_region_lit;refine wpList_load_row rfl _ _ rfl wr.heap.size rfl _ _ (0,0) _ k12 Tryz.underlying34 rfl (by rw[VF];kernel_rfl) ?_;simp only[Act.put,sA,sB,sC];refine wpList_plain rfl fun K hK=>?_;go_simp
   go_at_call 25
   refine TI.out.mono ?_;rintro e X3 ⟨l,rfl,hl,st⟩;refine hK _ _ ?_;clear hK K TI;have Fc:=Gt Fd st;have TQ:=O2.out.key Fc;have Tp:=Gh TQ;have Eo:=Gh Fc;have P5:=Gh (k12.old st);have CH:=Gh (TM X3 (Fx.out.keep (Kp.old Fc)));obtain⟨f,hf⟩:=TQ.mp;have y3:=TQ.sen.cell 0;have Cx:l.length<=maxLen:=by unfold maxLen;omega
   clear hl st Fd k12 Fc TQ UP
   cases hr:(f l).getD false with
   |true=>
    go_wp2_with (at_lookup;refine Qg _ rfl _ _ 59 rfl Tryz.underlying59 Tryz.underlying9 Tryz.underlying4 (Tryz.zeroBoolP _) bm m f rfl hf l Cx rfl true hr ?_)
    go_roundg (Ps.length-(j+1))
    case rel=>exact⟨j+1,n,m,v,by omega,rfl,by go_num,by have:=Ia.out;omega,by have:=WJ.out;omega,Tp,Np.out.old Eo,KC,Tj.out.old Eo,Xh.out.trans (Eo.out.mono Sy)⟩
    case measure=>have:=SZ.out;omega
   |false=>
    have OB:m<maxLen:=by have:=WJ.out;have:=Tr.out;unfold maxLen;omega
    go_wp2_with (first|(at_lookup;refine Qg _ rfl _ _ 59 rfl Tryz.underlying59 Tryz.underlying9 Tryz.underlying4 (Tryz.zeroBoolP _) bm m f rfl hf l Cx rfl false hr ?_)|(at_mapUpdate;refine Z4 _ rfl _ _ _ 59 rfl Tryz.underlying59 Tryz.underlying9 Tryz.underlying4 bm m f rfl hf OB l Cx true rfl rfl ?_;intro X4 hf4 hg4;refine Hid.out ?_))
    refine Gh ?_;have AG:=Tp.out.map hf4 hg4;have Uf:=zZ hf hg4 P5.out;have Pp:=(Np.out.old Eo).kp (Kp.mapG hf hg4) (fun _ _ _ hb=>zZ hf hg4 hb);have PG:=zZ hf hg4 (Tj.out.old Eo);have FS:=qca (Xh.out.trans (Eo.out.mono Sy)) hg4 (Gl Sy Eo.out.size) (fun g e=>by injection e with e;exact e▸RW.out.2.1);have hp4:=CH.out.keep (Kp.mapG (gs':=[]) hf hg4);have y4:=AG.lst.cell 0;obtain⟨xs,Pk⟩:=AG.row;have EU:=Gh AG;have NX:=Gh Pp;have N8:=Gh PG;have Cf:=Gh FS;have HP4:=Gh hp4;clear hf4 hg4 AG Pp PG FS hp4 hr hf y3 CH P5 Eo Tp Np Tj Xh TM Fx O2 OB Cx;go_upto_region 22 with(fail)
    apply wp_region_lit;refine wpList_plain rfl fun K hK=>?_;go_simp
    refine hK _ _ ?_;clear hK K;refine wpList_load_row rfl _ _ rfl wr.heap.size rfl _ _ (0,0) _ Uf Tryz.underlying34 rfl (by rw[VF];kernel_rfl) ?_;simp only[Act.put,sA,sB,sC];refine wpList_plain rfl fun K hK=>?_;go_simp
    rw[QX rfl VF];refine hK _ _ ?_;clear hK K y4;have Xc:=Gb X4 (.cells cs3 34);have Xv:=qu.cells_new X4 cs3 34;rw[VF]at Xv;obtain⟨i0,Uw,Sr,Ti,R3⟩:=qO Tryz.infoPoint;have VK:n+1<=maxLen:=by have:=Ia.out;have:=Tr.out;unfold maxLen;omega
    have VH:(n+1)*368<=140737488355328:=by have:=Ia.out;have:=Tr.out;omega
    have Xk:=jB Pk Xc;have XV:X4.heap.size<(X4.alloc (.cells cs3 34)).heap.size:=(qf.new X4 34 cs3).lt;refine qM _ rfl (.tmp 59) (.tmp 61) 37 rfl B 34 i0 _ 24 368 Tryz.underlying37 Uw Sr Ti R3 rfl (by decide) v n _ rfl Xk (X4.heap.size+1) (some ⟨X4.heap.size,0,none⟩) 1 1 cs3.toList rfl Xv XO VK VH (Gl EU.out.ge.2.2 Xc.size) ?_;intro v' X6 Xn hg6 PP;obtain⟨L6,c6,rfl⟩:=jd Xn;have Mi:=EU.out.key Xc;have lst6:=zV Xk hg6 (by decide) Mi.lst;have D8:=Gh (And.intro (Mi.push Xn hg6) (And.intro ((NX.out.old Xc).kp ((Kp.grownO Xk hg6).trans (Kp.setf lst6 (by unfold Ty3;decide) 0 (.slice L6 (n+1) c6))) (fun g cur hgo hb=>(hb.grown hg6 (fun e=>KC g hgo e.symm)).far (p:=⟨gx,0,none⟩) (jf (hb.grown hg6 (fun e=>KC g hgo e.symm)) lst6 (by decide)) (.slice L6 (n+1) c6))) (And.intro (show∀g,(Value.slice (some ⟨gr,0,none⟩) Ps.length lc).ownBlock=some g->(Value.slice L6 (n+1) c6).ownBlock≠some g from fun g hgo e=>by
     rcases PP with e'|e'
     ·exact KC g hgo (e'▸e)
     ·have h1:=(NX.out.1.lt g hgo).2;rw[e']at e
      injection e with e
      omega) (And.intro ((zV Xk hg6 (by decide) (N8.out.old Xc)).far (p:=⟨gx,0,none⟩) (jf (zV Xk hg6 (by decide) (N8.out.old Xc)) lst6 (by decide)) (.slice L6 (n+1) c6)) ((zn Xk hg6 (Cf.out.trans (Xc.mono EU.out.ge.2.2)) (Gl EU.out.ge.2.2 Xc.size)).setCell (p:=⟨gx,0,none⟩) RW.out.1 (.slice L6 (n+1) c6))))))
    have x0:=lst6.cell 0;have x1:=lst6.frozen 0;have x2:=lst6.lt;clear Xn hg6 PP Mi lst6 Xk Pk Xc Xv XO VF Uf XV NX EU N8 Cf HP4 KC;simp only[Act.put,sA,sB,sC];refine wpList_plain rfl fun K hK=>?_;go_simp
    refine hK _ _ ?_;clear hK K x0 x1 x2;go_wp2_with fail
    go_roundg (Ps.length-(j+1))
    case rel=>exact⟨j+1,n+1,m+1,.slice L6 (n+1) c6,by omega,rfl,by go_num,by have:=Ia.out;omega,by have:=WJ.out;omega,D8.out.1,D8.out.2.1,D8.out.2.2.1,D8.out.2.2.2.1,D8.out.2.2.2.2⟩
    case measure=>have:=SZ.out;omega
  ·obtain rfl:j=Ps.length:=by omega
   have Xg:=Gh (And.intro O2.out.lst Xh);go_wp2_with fail
   go_end0
   exact⟨rfl,⟨v,Xg.out.1⟩,Xg.out.2⟩
def YO(ts:List RP)(w:World)(e:Ending)(w':World):Prop:=∃A c,e= .returned (.slice A ts.length c)/\ts.length<=c/\jT w' w'.heap.size A ts/\Below w.heap.size w w'
theorem jT.of_own1{w:World}{base c:Nat}{A:Oa}{T:RP}{us:List Value}(h:w.ownsRow base 28 4 (.slice A 1 c) 1 us)(hr:RV w (· <w.heap.size) T us):jT w w.heap.size A [T]:=by
 refine⟨[us],ju.of (by simpa using qu.of_own h) (fun _ h=>h),?_⟩;unfold qG;exact⟨us,[],rfl,hr,by unfold qG;rfl⟩
theorem qaU(dg:Nat)(Xr:dg<=500)(r:Int)(t:RP)(hf:yz dg t)(A:Oa)(c:Nat)(K:Oa)(kc B:Nat)(w:World)(hB:B<=w.heap.size)(h:RV w (· <B) t (qe t A c K kc)):
 Calls Tryz.prog 57 #[.slice none 0 0,.agg #[.int .i64 2,.int .i64 r,.int .i64 t.lv,.bool t.ng,.slice A t.ds.length c,.slice K t.ks.length kc,.slice none 0 0]] w (YO [qn t] w):=by
 have Xb:=Gb w (.cells #[.int .i64 2,.int .i64 r,.int .i64 t.lv,.bool t.ng,.slice A t.ds.length c,.slice K t.ks.length kc,.slice none 0 0] 32);have k0:=qf.new w 32 #[.int .i64 2,.int .i64 r,.int .i64 t.lv,.bool t.ng,.slice A t.ds.length c,.slice K t.ks.length kc,.slice none 0 0];have DM:=Gh (fun(x1 x2 x3 x4 x5 x6:Value)(W:World)=>qgX 2 (by omega) (by omega) x1 x2 x3 x4 x5 x6 W);have HN:=Gh (fun(W:World)(hW:Below w.heap.size w W)=>yh dg Xr t hf A c K kc B W (Gl hB hW.size) (h.below (hW.mono hB)));have VB:=Gh (fun(A:Oa)(c:Nat)(W':World)(h1:1<=c)(h2:jT W' W'.heap.size A [qn t])(hb:Below w.heap.size w W')=>show YO [qn t] w (.returned (.slice A 1 c)) W' from⟨A,c,rfl,h1,h2,hb⟩);unfold J0 at HN;unfold qm at HN;have Xd:=Gh Xb;have Xo:=Gh k0;clear h hf hB Xb k0;generalize qn t=T at*;generalize t.ds.length=td at*;generalize t.ks.length=tk at*;generalize t.ng=tg at*;generalize t.lv=tl at*;go_enter Tryz.func57,Tryz.ntmps57
 go_upto_region 1 with(fail)
 generalize w.alloc (.cells #[.int .i64 2,.int .i64 r,.int .i64 tl,.bool tg,.slice A td c,.slice K tk kc,.slice none 0 0] 32)=W at*;obtain⟨c0,c1,c2,c3⟩:=G4 Xo.out;have c4:=Xo.out.cell 4;have c5:=Xo.out.cell 5;have c6:=Xo.out.cell 6;go_wp2_with fail
 refine(DM _ _ _ _ _ _ W).mono ?_;rintro e w2 ⟨rfl,Xf⟩;have Xw:=Gh (Gt Xd Xf);have k2:=Xo.out.old Xf;clear c0 c1 c2 c3 c4 c5 c6 DM Xf;have c2:=k2.cell 2;have c3:=k2.cell 3;have c4:=k2.cell 4;have c5:=k2.cell 5;clear k2;go_wp2_with fail
 refine(HN w2 Xw).mono ?_;rintro e w3 ⟨A3,c3',K3,kc3,rfl,-,UL,Xz⟩;have Um:=Gh (Gt Xw Xz);have UD:RV w3 (· <w3.heap.size) T (qe T A3 c3' K3 kc3):=UL.rv;clear c2 c3 c4 c5 UL Xz HN;obtain⟨i0,Uw,XU,X7,Xy⟩:=qO Tryz.infoRec;have Xc:=Gb w3 (.cells #[.int .i64 T.lv,.bool T.ng,.slice A3 T.ds.length c3',.slice K3 T.ks.length kc3] 28);have Xv:=qu.four_newA w3 [.int .i64 T.lv,.bool T.ng,.slice A3 T.ds.length c3',.slice K3 T.ks.length kc3] rfl 28;have Xk:(w3.alloc (.cells #[.int .i64 T.lv,.bool T.ng,.slice A3 T.ds.length c3',.slice K3 T.ks.length kc3] 28)).ownsRow (w3.heap.size+1) 28 4 (.slice none 0 0) 0 []:=⟨rfl,.inl ⟨rfl,rfl⟩⟩;have Xt:w3.heap.size+1<=(w3.alloc (.cells #[.int .i64 T.lv,.bool T.ng,.slice A3 T.ds.length c3',.slice K3 T.ks.length kc3] 28)).heap.size:=by simp
 have VW:=Gh (UD.below Xc);have XR:=Gh (Um.out.alloc Um.out.size (.cells #[.int .i64 T.lv,.bool T.ng,.slice A3 T.ds.length c3',.slice K3 T.ks.length kc3] 28));clear UD Xc;go_wp2_with (at_builtin;refine qM _ rfl (.tmp 11) (.tmp 15) 26 rfl (w3.heap.size+1) 28 i0 _ 4 64 Tryz.underlying26 Uw XU X7 Xy rfl (by decide) _ 0 [] rfl Xk (w3.heap.size+1) (some ⟨w3.heap.size,0,none⟩) 1 1 [.int .i64 T.lv,.bool T.ng,.slice A3 T.ds.length c3',.slice K3 T.ks.length kc3] rfl Xv (by intro x hx;simp at hx;rcases hx with rfl|rfl|rfl|rfl<;>rfl) (by unfold maxLen;omega) (by omega) Xt ?_;intro v' w4 Ub hg4 Re;refine Hid.out ?_)
 refine Gh ?_;obtain⟨A4,c4,rfl⟩:=jd Ub;have XB:Below w3.heap.size (w3.alloc (.cells #[.int .i64 T.lv,.bool T.ng,.slice A3 T.ds.length c3',.slice K3 T.ks.length kc3] 28)) w4:=⟨hg4.os,hg4.tape,hg4.output,hg4.size,fun k hk=>hg4.block k (by omega) (by intro e;cases e)⟩;have Pj:RV w4 (· <w4.heap.size) T (qe T A3 c3' K3 kc3):=(VW.out.below XB).more (Gl (by simp) XB.size);have UG:=jT.of_own1 (us:=qe T A3 c3' K3 kc3) (show w4.ownsRow (w3.heap.size+1) 28 4 (.slice A4 1 c4) 1 (qe T A3 c3' K3 kc3)from Ub) Pj;have h1c:1<=c4:=by
  rcases Ub.2 with⟨_,h0⟩|⟨g,cap,cur,hv,_,_,hn,_⟩
  ·omega
  ·injection hv with _ _ hv
   omega
 have HF:=Gh (VB A4 c4 w4 h1c UG (XR.out.trans (XB.mono Um.out.size)));clear Ub hg4 Re XB Pj UG h1c Xk Xv Xt XR VW;go_wp2_with fail
 go_ret
 exact HF
theorem qeA(dg:Nat)(Xr:dg<=500)(r:Int)(t:RP)(hf:yz dg t)(A:Oa)(c:Nat)(K:Oa)(kc B:Nat)(w:World)(hB:B<=w.heap.size)(h:RV w (· <B) t (qe t A c K kc)):
 Calls Tryz.prog 23 #[.agg #[.int .i64 2,.int .i64 r,.int .i64 t.lv,.bool t.ng,.slice A t.ds.length c,.slice K t.ks.length kc,.slice none 0 0]] w (YO [qn t] w):=by
 have Xb:=Gb w (.cells #[.int .i64 2,.int .i64 r,.int .i64 t.lv,.bool t.ng,.slice A t.ds.length c,.slice K t.ks.length kc,.slice none 0 0] 32);have k0:=qf.new w 32 #[.int .i64 2,.int .i64 r,.int .i64 t.lv,.bool t.ng,.slice A t.ds.length c,.slice K t.ks.length kc,.slice none 0 0];have HA:=Gh (fun(W:World)(hW:Below w.heap.size w W)=>qaU dg Xr r t hf A c K kc B W (Gl hB hW.size) (h.below (hW.mono hB)));have VB:=Gh (fun(W:World)(hW:Below w.heap.size w W)(e:Ending)(W':World)(hr:YO [qn t] W e W')=>show YO [qn t] w e W' from by
  obtain⟨A,c,h1,h2,h3,h4⟩:=hr;exact⟨A,c,h1,h2,h3,Gt hW h4⟩)
 have Xd:=Gh Xb;clear h hf hB Xb;generalize qn t=T at*;generalize t.ds.length=td at*;generalize t.ks.length=tk at*;generalize t.ng=tg at*;generalize t.lv=tl at*;go_enter Tryz.func23,Tryz.ntmps23
 go_upto_region 1 with(fail)
 generalize w.alloc (.cells #[.int .i64 2,.int .i64 r,.int .i64 tl,.bool tg,.slice A td c,.slice K tk kc,.slice none 0 0] 32)=W at*;obtain⟨c0,c1,c2,c3⟩:=G4 k0;have c4:=k0.cell 4;have c5:=k0.cell 5;have c6:=k0.cell 6;clear k0;go_wp2_with fail
 refine(HA W Xd).mono ?_;intro e w2 hr;have XK:=VB.out W Xd e w2 hr;obtain⟨A2,c2',rfl,h1,h2,h3⟩:=XK;have HF:=Gh (show YO [T] w (.returned (.slice A2 [T].length c2')) w2 from⟨A2,c2',rfl,h1,h2,h3⟩);clear c0 c1 c2 c3 c4 c5 c6 hr h1 h2 h3;go_wp2_with fail
 go_ret
 exact HF
