import Derived.Test.YtflikmojaidhhaaGreatDoorPq32
import Derived.Test.YtflikmojaidhhaaGreatDoorPqA
namespace Go.Proofs.YtflikmojaidhhaaGreatDoor
open Go.RowKit
def qim(d:Int)(w:World)(e:Ending)(w':World):Prop:=(∃v,e= .returned (.tuple #[v,.int .i64 (if 2<d then 12 else 0)]))/\Below w.heap.size w w'
theorem qeC(wr:World)(B gl:Nat)(k:Int)(hB:B<=wr.heap.size)(hl:qf wr gl 3 #[.int .i64 k])(cs:Array Value)(Sc:cs.size=24)(fn:Value):
 YZ B (((((wr.alloc (.cells cs 34)).alloc (.cells #[.slice (some ⟨wr.heap.size,0,none⟩) 1 1] 37)).alloc (.map #[] 0)).alloc (.cells #[.map (some (wr.heap.size+1+1))] 59)).alloc (.cells #[fn] 60)) gl (wr.heap.size+1+1+1) (wr.heap.size+1) (wr.heap.size+1+1) 1 0 k (.slice (some ⟨wr.heap.size,0,none⟩) 1 1)/\Below wr.heap.size wr (((((wr.alloc (.cells cs 34)).alloc (.cells #[.slice (some ⟨wr.heap.size,0,none⟩) 1 1] 37)).alloc (.map #[] 0)).alloc (.cells #[.map (some (wr.heap.size+1+1))] 59)).alloc (.cells #[fn] 60))/\World.cell? (((((wr.alloc (.cells cs 34)).alloc (.cells #[.slice (some ⟨wr.heap.size,0,none⟩) 1 1] 37)).alloc (.map #[] 0)).alloc (.cells #[.map (some (wr.heap.size+1+1))] 59)).alloc (.cells #[fn] 60)) ⟨wr.heap.size+1+1+1+1,0,none⟩=some fn:=by
 have e1:(wr.alloc (.cells cs 34)).heap.size=wr.heap.size+1:=by simp
 have k0:=qf.new wr 34 cs;have Xp:=Gb wr (.cells cs 34);generalize wr.alloc (.cells cs 34)=A1 at*;have e2:(A1.alloc (.cells #[.slice (some ⟨wr.heap.size,0,none⟩) 1 1] 37)).heap.size=wr.heap.size+1+1:=by simp[e1]
 have k1:=qf.new A1 37 #[.slice (some ⟨wr.heap.size,0,none⟩) 1 1];have Xf:=Gb A1 (.cells #[.slice (some ⟨wr.heap.size,0,none⟩) 1 1] 37);generalize A1.alloc (.cells #[.slice (some ⟨wr.heap.size,0,none⟩) 1 1] 37)=A2 at*;have e3:(A2.alloc (.map #[] 0)).heap.size=wr.heap.size+1+1+1:=by simp[e2]
 have k2:=qgW Tryz.prog 9 4 A2;have Xz:=Gb A2 (.map #[] 0);generalize A2.alloc (.map #[] 0)=A3 at*;have e4:(A3.alloc (.cells #[.map (some (wr.heap.size+1+1))] 59)).heap.size=wr.heap.size+1+1+1+1:=by simp[e3]
 have k3:=qf.new A3 59 #[.map (some (wr.heap.size+1+1))];have XB:=Gb A3 (.cells #[.map (some (wr.heap.size+1+1))] 59);generalize A3.alloc (.cells #[.map (some (wr.heap.size+1+1))] 59)=A4 at*;have k4:=qf.new A4 60 #[fn];have XL:=Gb A4 (.cells #[fn] 60);generalize A4.alloc (.cells #[fn] 60)=A5 at*;rw[e1]at k1;rw[e2]at k2;rw[e3]at k3;rw[e4]at k4;have h45:=Gt XB XL;have h35:=Gt Xz h45;have h25:=Gt Xf h35;have Wm:=Gt Xp h25;refine⟨⟨hl.old Wm,k3.old XL,k1.old h35,⟨_,k2.old h45⟩,⟨cs.toList,by simpa using Sc,.inr ⟨wr.heap.size,1,cs,rfl,hB,k0.old h25,Gr _,by decide,by omega,List.take_of_length_le (by rw[Array.length_toList,Sc];exact Gr _)⟩⟩,by omega,by omega,Gl hB Wm.size⟩,Wm,k4.cell 0⟩
set_option maxHeartbeats 4000000
set_option maxRecDepth 100000
theorem qeD(k:Nat)(hk:k<4)(p:RP)(hp:QB ((k:Int)+1) 3 4 p)(A:Oa)(c:Nat)(K:Oa)(kc:Nat)(w:World)(h:RV w (· <w.heap.size) p (qe p A c K kc))(ht:yF w.heap.size w):
 Calls Tryz.prog 7 #[.agg #[.int .i64 2,.int .i64 1,.int .i64 p.lv,.bool p.ng,.slice A p.ds.length c,.slice K p.ks.length kc,.slice none 0 0],.int .i64 ((k:Int)+1)] w (qim (yr ((k:Int)+1) p) w):=by
 obtain⟨Xb,k0,k1,hs⟩:=qR w 32 3 #[.int .i64 2,.int .i64 1,.int .i64 p.lv,.bool p.ng,.slice A p.ds.length c,.slice K p.ks.length kc,.slice none 0 0] #[.int .i64 ((k:Int)+1)];have Xd:=Gh Xb;have Xo:=Gh k0;have Xu:=Gh k1;have DC:yr ((k:Int)+1) (qn p)=yr ((k:Int)+1) p:=by unfold yr;rw[qQ (jS p).can.1]
 have HP:=Gh (fun(X:World)(hX:Below w.heap.size w X)=>qeA 400 (by omega) 1 p hp.fit A c K kc w.heap.size X hX.size (h.below hX));have HD:=Gh (fun(X:World)(A2:Oa)(c2:Nat)(K2:Oa)(k2:Nat)(hr:RV X (· <X.heap.size) (qn p) (qe (qn p) A2 c2 K2 k2))=>by
  have:=yn 400 (by omega) ((k:Int)+1) (qn p) (hp.fitc (by omega)) (by rw[qQ (jS p).can.1];exact hp.fitc (by omega)) A2 c2 K2 k2 X.heap.size X (Gr _) hr;rw[DC]at this;exact this)
 have O0:=Gh (fun(gv gl gs gx bm:Nat)(v0:Value)(X:World)(hX:Below w.heap.size w X)(hv:YZ w.heap.size X gl gs gx bm 1 0 ((k:Int)+1) v0)=>qgV k hk p hp A c K kc gv gl gs gx bm w.heap.size v0 X hv (Lib.TabBelow.on ht hX) (h.below hX));have q1:decide ((k:Int)+1<1)=false:=decide_eq_false (by omega);have q4:decide (4<(k:Int)+1)=false:=decide_eq_false (by omega);generalize yr ((k:Int)+1) p=d at*;unfold qm at HD;clear Xb k0 k1 hs h hp ht DC;go_enter Tryz.func7,Tryz.ntmps7
 go_upto_region 1 with(fail)
 generalize (w.alloc (.cells #[.int .i64 2,.int .i64 1,.int .i64 p.lv,.bool p.ng,.slice A p.ds.length c,.slice K p.ks.length kc,.slice none 0 0] 32)).alloc (.cells #[.int .i64 ((k:Int)+1)] 3)=W at*;obtain⟨z0,z1,z2,z3⟩:=G4 Xo.out;have z4:=Xo.out.cell 4;have z5:=Xo.out.cell 5;have z6:=Xo.out.cell 6;have zl:=Xu.out.cell 0;go_wp2_with fail
 refine(HP W Xd).mono ?_;rintro e w2 ⟨A1,c1,rfl,Es,UG,Xf⟩;obtain⟨b,o,A2,c2,K2,k2,rfl,XX,y0,y1,y2,y3,UD⟩:=UG.kid (i:=0) rfl;have XA:=Gh (Xo.out.old Xf);have Bf:=Gh (Xu.out.old Xf);have Xw:=Gh (Gt Xd Xf);have HY:=Gh (And.intro y0 (And.intro y1 (And.intro y2 y3)));have VW:=Gh UD;have Uq:=Gh XX;have hc1':(1:Int)<=(c1:Int):=by have h:=Es;rw[List.length_singleton]at h;omega
 simp only[List.length_singleton]at*;clear Es UG Xf HP z0 z1 z2 z3 z4 z5 z6 zl y0 y1 y2 y3 UD XX Xd Xo Xu;go_upto_region 4 with(fail)
 go_loopg [20] 1 (fun gn ix wr=>∃j:Nat,j<=1/\gn=1-j/\ix= .int .i64 j/\(j=1->¬2<d)/\Below w2.heap.size w2 wr)
 case atStart=>exact⟨0,by omega,rfl,rfl,fun h=>by omega,Below.refl _ _⟩
 case round=>
  obtain⟨j,hj,XI,rfl,hjd,Xe⟩:=hrel;have SZ:=Gh XI;have HJD:=Gh hjd;have Xh:=Gh Xe;clear XI hjd Xe;by_cases Xi:j<1
  ·obtain rfl:j=0:=by omega
   have y0:=(Xh.out.cell (p:=⟨b,o+0*4,none⟩) Uq).trans HY.out.1;have y1:=(Xh.out.cell (p:=⟨b,o+0*4+1,none⟩) Uq).trans HY.out.2.1;have y2:=(Xh.out.cell (p:=⟨b,o+0*4+2,none⟩) Uq).trans HY.out.2.2.1;have y3:=(Xh.out.cell (p:=⟨b,o+0*4+3,none⟩) Uq).trans HY.out.2.2.2;have Xc:=Gb wr (.cells #[.int .i64 (qn p).lv,.bool (qn p).ng,.slice A2 (qn p).ds.length c2,.slice K2 (qn p).ks.length k2] 28);have XR:=Gh (Gt Xh Xc);have Nw:=Gh (HD _ A2 c2 K2 k2 ((VW.out.below XR).more XR.out.size));have zl:=(Bf.out.old XR).cell 0;simp only[Nat.zero_mul,Nat.add_zero]at y0 y1 y2 y3;clear Xc;go_wp2_with fail
   refine Nw.out.mono ?_;rintro e w5 ⟨rfl,-,XL⟩;have XZ:=Gh (Gt XR XL);clear XL Nw y0 y1 y2 y3 zl XR;by_cases h2:2<d
   ·have e1:decide (2<d)=true:=decide_eq_true h2;have Xg:=Gh (show qim d w (.returned (.tuple #[.slice none 0 0,.int .i64 12])) w5 from⟨⟨_,by rw[if_pos h2]⟩,Gt Xw XZ⟩);clear h2 XZ;go_wp2_with fail
    go_ret2
    exact Xg
   ·have e1:decide (2<d)=false:=decide_eq_false h2;have HH:=Gh h2;clear h2;go_wp2_with fail
    go_roundg 0
    case rel=>exact⟨1,by omega,rfl,rfl,fun _=>HH,XZ⟩
    case measure=>have:=SZ.out;omega
  ·obtain rfl:j=1:=by omega
   have Sa:=HJD.out rfl;have HV:=Gh (XA.out.old Xh);have HL:=Gh (Bf.out.old Xh);have HB:=Gh (Gt Xw Xh);clear HJD Xh VW Uq HY HD XA Bf Xw;have LJ:=@run_makeMap Tryz.prog;go_upto_region 13 with(fail)
   clear LJ;have hvs:=qeC wr w.heap.size (w.heap.size+1) ((k:Int)+1) HB.out.size HL #[.int .i64 1,.int .i64 0,.bool false,.slice none 0 0,.slice none 0 0,.int .i64 0,.bool false,.slice none 0 0,.slice none 0 0,.int .i64 0,.bool false,.slice none 0 0,.slice none 0 0,.int .i64 0,.bool false,.slice none 0 0,.slice none 0 0,.int .i64 1,.int .i64 0,.int .i64 0,.bool false,.slice none 0 0,.slice none 0 0,.slice none 0 0] rfl (.func (.func 24) #[] #[.pointer (some ⟨wr.heap.size+1+1+1+1,0,none⟩),.pointer (some ⟨w.heap.size+1,0,none⟩),.pointer (some ⟨wr.heap.size+1+1+1,0,none⟩),.pointer (some ⟨wr.heap.size+1,0,none⟩)]);generalize ((((wr.alloc (.cells #[.int .i64 1,.int .i64 0,.bool false,.slice none 0 0,.slice none 0 0,.int .i64 0,.bool false,.slice none 0 0,.slice none 0 0,.int .i64 0,.bool false,.slice none 0 0,.slice none 0 0,.int .i64 0,.bool false,.slice none 0 0,.slice none 0 0,.int .i64 1,.int .i64 0,.int .i64 0,.bool false,.slice none 0 0,.slice none 0 0,.slice none 0 0] 34)).alloc (.cells #[.slice (some ⟨wr.heap.size,0,none⟩) 1 1] 37)).alloc (.map #[] 0)).alloc (.cells #[.map (some (wr.heap.size+1+1))] 59)).alloc (.cells #[(.func (.func 24) #[] #[.pointer (some ⟨wr.heap.size+1+1+1+1,0,none⟩),.pointer (some ⟨w.heap.size+1,0,none⟩),.pointer (some ⟨wr.heap.size+1+1+1,0,none⟩),.pointer (some ⟨wr.heap.size+1,0,none⟩)])] 60)=V at*;obtain⟨BD,OR,Ul⟩:=hvs;have HC:=Gh (O0 (wr.heap.size+1+1+1+1) (w.heap.size+1) (wr.heap.size+1+1+1) (wr.heap.size+1) (wr.heap.size+1+1) (.slice (some ⟨wr.heap.size,0,none⟩) 1 1) V (Gt HB OR) BD);have UX:=Gh (Gt HB OR);have kk:=HV.out.old OR;obtain⟨z0,z1,z2,z3⟩:=G4 kk;have z4:=kk.cell 4;have z5:=kk.cell 5;have z6:=kk.cell 6;have Lf:=Gh Sa;clear kk BD OR O0 Sa HV HL HB;go_wp2_with fail
   refine HC.out.mono ?_;rintro e w7 ⟨rfl,⟨v',BL⟩,Ft⟩;have y0:=BL.cell 0;have Xg:=Gh (show qim d w (.returned (.tuple #[v',.int .i64 0])) w7 from⟨⟨v',by rw[if_neg (Int.not_lt.2 Lf)]⟩,UX.out.trans Ft⟩);clear BL Ft HC z0 z1 z2 z3 z4 z5 z6 Ul;go_wp2_with fail
   go_ret2
   exact Xg
mutual
def J7(n:Nat):RP->Bool
 | .mk _ _ _ ks=>decide (ks.length<=n+1)&&qiJ n ks
def qiJ(n:Nat):List RP->Bool
 |[]=>true
 |t::ts=>J7 n t&&qiJ n ts
end
theorem qhr(n:Nat)(ts:List RP):qiJ n ts=ts.all (J7 n):=by
 induction ts with
 |nil=>simp[qiJ]
 |cons t ts ih=>simp[qiJ,ih]
theorem qfF(n:Nat)(t:RP):J7 n t=(decide (t.ks.length<=n+1)&&t.ks.all (J7 n)):=by
 cases t
 rw[J7,qhr];rfl
theorem qeh{d n:Nat}:∀(t:RP),J7 n t=true->(∀e,qN d e t->qN d (n+1) t)
 | .mk l g ds ks,h,e,hw=>by
   rw[qfF,Bool.and_eq_true,decide_eq_true_eq,List.all_eq_true]at h;exact qN.mk hw.at_.1 h.1 (fun u hu=>qeh u (h.2 u hu) e (hw.at_.2.2 u hu))
termination_by t=>qC t
decreasing_by exact qY hu
theorem qhZ{α:Type}{f:α->Bool}{l:List α}{x:α}(h:x∈l)(hf:f x=false):l.all f=false:=by
 rw[List.all_eq_false];exact⟨x,h,by simp[hf]⟩
theorem ZQ{α:Type}{f:α->Bool}{l:List α}{k:Nat}{x:α}(h:l[k]? =some x)(h0:(l.take k).all f=true)(hf:f x=true):(l.take (k+1)).all f=true:=by
 obtain⟨hk,rfl⟩:=Gi.1 h;rw[List.take_succ_eq_append_getElem hk,List.all_append,h0];simp[hf]
theorem qfJ(n:Nat)(hn:n<=1000)(X:Nat)(hX:X<=100000):∀(D:Nat)(t:RP),qC t<=D->yP X t->∀(A:Oa)(c:Nat)(K:Oa)(kc B:Nat)(w:World),B<=w.heap.size->RV w (· <B) t (qe t A c K kc)->
 Calls Tryz.prog 16 #[qm t A c K kc,.int .i64 (n:Int)] w fun e w'=>e= .returned (.bool (J7 n t))/\Below w.heap.size w w'
 |0,t,hD,_,_,_,_,_,_,_,_,_=>by cases t;simp only[qC]at hD;omega
 |D+1,t,hD,Uh,A,c,K,kc,B,w,hB,h=>by
  have IH:=Gh (qfJ n hn X hX D);have Xb:=Gb w (.cells #[.int .i64 t.lv,.bool t.ng,.slice A t.ds.length c,.slice K t.ks.length kc] 28);have Xx:=qf.new w 28 #[.int .i64 t.lv,.bool t.ng,.slice A t.ds.length c,.slice K t.ks.length kc];have Xd:=Gh Xb;have Xo:=Gh Xx;have HR:=Gh (fun(W:World)(hW:Below w.heap.size w W)=>h.below (hW.mono hB));have HB:=Gh hB;have TK:=Gh (fun(u:RP)(hu:u∈t.ks)=>show qC u<=D by have:=qY hu;omega);have Wz:=Gh (fun(u:RP)(hu:u∈t.ks)=>Uh.at_.2.2 u hu);have TU:t.ks.length<=X:=Uh.at_.2.1;have WO:=Gh h.node.2.2.2;have Ut:=Gh (qfF n t);have a3:=Xx.cell 3;unfold qm;generalize Vx:t.ks.length=nk at*;have UB:=Gh Vx;generalize J7 n t=R at*;clear Xb Xx h hB hD Uh Vx;generalize t.ds.length=pd at*;generalize t.ng=pg at*;generalize t.lv=pl at*;have en:IntKind.i64.wrap ((n:Int)+1)=(n:Int)+1:=IntWalk.i64_in _ (by omega);by_cases h1:n+1<nk
  ·have Tq:=Gh (show R=false by rw[Ut.out];simp;intro;omega);have i1:(n:Int)+1<(nk:Int):=by omega
   clear Ut;rw[Tq.out];go_enter Tryz.func16,Tryz.ntmps16
   go_wp2_with fail
   go_ret
   exact⟨rfl,Xd⟩
  ·have Tq:=Gh (show R=t.ks.all (J7 n)by rw[Ut.out];simp;intro;omega);have i1:¬((n:Int)+1<(nk:Int)):=by omega
   clear Ut h1;rw[Tq.out];go_enter Tryz.func16,Tryz.ntmps16
   go_wp2_with fail
   clear a3;go_loopg [5,15] nk (fun gn _ ix wr=>∃j:Nat,j<=nk/\gn=nk-j/\ix= .int .i64 j/\(t.ks.take j).all (J7 n)=true/\Below w.heap.size w wr/\qf wr w.heap.size 28 #[.int .i64 pl,.bool pg,.slice A pd c,.slice K nk kc])
   case atStart=>exact⟨0,Nat.zero_le _,rfl,rfl,by simp,Xd,Xo⟩
   case round=>
    clear Xd Xo;obtain⟨j,hj,XI,rfl,Vg,Xe,X8⟩:=hrel;have HG:=Gh XI;have Ez:=Gh Vg;have RI:=Gh X8;have Xh:=Gh Xe;clear XI;by_cases Xi:j<nk
    ·obtain⟨u,hu⟩:∃u,t.ks[j]? =some u:=⟨_,Gn (by rw[UB.out];exact Xi)⟩;obtain⟨b,o,A1,q1,K1,r1,rfl,Tn,x0,x1,x2,x3,XN⟩:=(HR wr Xe).kid hu;have US:=Gk hu;have HC:=Gh (IH u (TK u US) (Wz u US) A1 q1 K1 r1 B wr (Gl HB Xe.size) XN);have Vn:=Gh (fun hz:J7 n u=false=>show t.ks.all (J7 n)=false from qhZ US hz);have Vu:=Gh (fun hz:J7 n u=true=>ZQ hu Vg hz);unfold qm at HC;have i3:(0:Int)<=(j:Int):=by omega
     have i4:(j:Int)<(nk:Int):=by omega
     have i5:(nk:Int)<=(kc:Int):=by have:=WO.out;omega
     have c3:=X8.cell 3;clear hu US XN Vg Xe X8;generalize J7 n u=cu at*;generalize u.ds.length=td at*;generalize u.ks.length=tk at*;generalize u.ng=tg at*;generalize u.lv=tl at*;go_wp2_with fail
     refine HC.out.mono ?_;rintro e w4 ⟨rfl,XB⟩;have XW:=Gh (Gt Xh XB);have Vd:=Gh (RI.out.old XB);clear XB x0 x1 x2 x3 c3
     cases Ss:cu with
     |false=>
      have Uj:=Gh (Vn Ss);clear Ss Vu Vn;go_wp2_with fail
      go_ret
      exact⟨by rw[Uj.out];rfl,XW⟩
     |true=>
      have Uj:=Gh (Vu Ss);clear Ss Vu Vn;go_wp2_with fail
      go_roundg (nk-(j+1))
      case rel=>exact⟨j+1,by omega,rfl,by go_num,Uj,XW,Vd⟩
      case measure=>have:=HG.out;omega
    ·obtain rfl:j=nk:=by omega
     rw[List.take_of_length_le (by rw[UB.out];exact Gr _)]at Vg;have HO:=Gh Vg;clear Vg Xe X8;go_wp2_with fail
     go_ret
     exact⟨by rw[HO.out];rfl,Xh⟩
def jz(n:Nat)(t:RP):Prop:=0<=jX 2 t 30 6/\jb t (qn t)/\J7 n (qn t)=true
set_option maxHeartbeats 1000000
theorem Jk(n:Nat)(hn:n<=1000)(t:RP)(hsc:jb t (qn t)->0<=jX 2 t 30 6->yP 1000 (qn t))(A:Oa)(c:Nat)(K:Oa)(kc B:Nat)(w:World)(hB:B<=w.heap.size)(h:RV w (· <B) t (qe t A c K kc)):
 Calls Tryz.prog 5 #[qm t A c K kc,.int .i64 (n:Int)] w fun e w'=>∃b,e= .returned (.bool b)/\(b=true->jz n t)/\Below w.heap.size w w':=by
 have Xb:=Gb w (.cells (Gx t A c K kc) 28);have Xx:=qf.new w 28 (Gx t A c K kc);have Xd:=Gh Xb;have Xo:=Gh Xx;have HF:=Gh (fun(W:World)(hW:Below w.heap.size w W)=>qiR t A c K kc B 30 2 W (Gl hB hW.size) (h.below (hW.mono hB)) (by omega) (by omega));have B2:=Gh (fun(hr:0<=jX 2 t 30 6)(W:World)(hW:Below w.heap.size w W)=>yh 2 (by omega) t (by obtain⟨h1,h2,h3⟩:=YV 2 t 30 6 hr;exact⟨by omega,h3,by omega⟩) A c K kc B W (Gl hB hW.size) (h.below (hW.mono hB)));have KG:=Gh (fun(hr:0<=jX 2 t 30 6)(hc:jb t (qn t))(A:Oa)(c:Nat)(K:Oa)(kc BB:Nat)(W:World)(hW:BB<=W.heap.size)(h:RV W (· <BB) (qn t) (qe (qn t) A c K kc))=>qfJ n hn 1000 (by omega) (qC (qn t)) (qn t) (Gr _) (hsc hc hr) A c K kc BB W hW h);unfold J0 qm at B2;unfold qm at HF KG ⊢;clear Xb Xx h hB hsc;obtain⟨a0,a1,a2,a3⟩:=G4 Xo.out;go_enter Tryz.func5,Tryz.ntmps5
 go_wp2_with fail
 generalize w.alloc (.cells (Gx t A c K kc) 28)=W0 at*;refine(HF W0 Xd).mono ?_;rintro e w1 ⟨rfl,Xp⟩;have UK:=Gh (Gt Xd Xp);have Xu:=Gh (Xo.out.old Xp);clear Xp a0 a1 a2 a3;by_cases hr:0<=jX 2 t 30 6
 ·have HRR:=Gh hr;rw[decide_eq_true (show 0<=jX 2 t ((30:Nat):Int) 6 from hr)];have Ts:=Gh (B2 hr w1 UK);obtain⟨a0,a1,a2,a3⟩:=G4 Xu.out;clear hr B2 HF;go_wp2_with fail
  refine Ts.out.mono ?_;rintro e w2 ⟨A2,c2,K2,kc2,rfl,Vz,Uy,Xf⟩;have Xw:=Gh (Gt UK Xf);have UR:=Gh Vz;have B7:=Gh (KG HRR Vz A2 c2 K2 kc2 w2.heap.size w2 (Gr _) Uy.rv);clear Vz Uy Xf a0 a1 a2 a3 Ts KG;have Rl:=Gh (fun(h:J7 n (qn t)=true)=>show jz n t from⟨HRR,UR,h⟩);generalize qn t=T at*;go_wp2_with fail
  refine B7.out.mono ?_;rintro e w3 ⟨rfl,Xz⟩;have Um:=Gh (Gt Xw Xz);clear Xz B7;go_wp2_with fail
  go_ret
  exact⟨J7 n T,rfl,fun h=>Rl h,Um⟩
 ·rw[decide_eq_false (show¬0<=jX 2 t ((30:Nat):Int) 6 from hr)];go_wp2_with fail
  go_ret
  exact⟨false,rfl,fun h=>(by cases h),UK⟩
mutual
theorem qfA{d n:Nat}(hn:1<=n)(k:Int):∀(t:RP),qN d n t->zW k t<=n-1
 | .mk l g ds ks,h=>by
   simp only[qN]at h;simp only[zW]
   split
   ·omega
   ·split
    ·omega
    ·exact qfK hn k ks h.2.2
theorem qfK{d n:Nat}(hn:1<=n)(k:Int):∀(ts:List RP),zO d n ts->JD k ts<=n-1
 |[],_=>by simp[JD]
 |t::ts,h=>by
  simp only[zO]at h;have h1:=qfA hn k t h.1;have h2:=qfK hn k ts h.2;simp only[JD];omega
end
theorem jz.okp{k:Nat}{t:RP}(h:jz 3 t)(hd:qF t):QB ((k:Int)+1) 3 4 t:=by
 have hw:=qeh _ h.2.2 _ (yJ h.1 hd).2;refine⟨(yJ h.1 hd).1,hw,(jS t).dig hd,qaH ?_⟩;have:=qfA (by omega) ((k:Int)+1) _ hw;omega
theorem jz.smq{t:RP}(h:jz 2 t)(hd:qF t):SmQ t:=by
 have hw:=qeh _ h.2.2 _ (yJ h.1 hd).2;exact⟨(yJ h.1 hd).1,Qh (jS t).can.1 (qN.mono (Gr _) (show 2+1<=4 by omega) _ hw) (by omega),hw,(jS t).dig hd⟩
noncomputable def crZ(n:Int)(p:RP):Int:=if n<1∨4<n then 1 else if 2<yr n p then 12 else 0
def qky(c:Int)(w:World)(e:Ending)(w':World):Prop:=∃v,e= .returned (.tuple #[v,.int .i64 c])/\Below w.heap.size w w'
theorem qbR{n:Int}(h:¬(n<1∨4<n)):∃k:Nat,k<4/\n=(k:Int)+1:=⟨(n-1).toNat,by omega,by omega⟩
theorem qhg(p:RP)(hp:jz 3 p)(hd:qF p)(n:Int)(A:Oa)(c:Nat)(K:Oa)(kc:Nat)(w:World)(h:RV w (· <w.heap.size) p (qe p A c K kc)):Calls Tryz.prog 6 #[qm p A c K kc,.int .i64 n] w (qky (crZ n p) w):=by
 unfold crZ;by_cases hn:n<1∨4<n
 ·rw[if_pos hn];refine(qgt n hn _ _ _ _ w).mono ?_;rintro e w' ⟨rfl,hb⟩;exact⟨_,rfl,hb⟩
 ·rw[if_neg hn];obtain⟨k,hk,rfl⟩:=qbR hn;refine(YT k hk p (hp.okp hd) A c K kc w h).mono ?_;rintro e w' ⟨v,_,rfl,-,-,-,hb⟩;exact⟨v,rfl,hb⟩
theorem qgR(p:RP)(hp:jz 3 p)(hd:qF p)(n:Int)(A:Oa)(c:Nat)(K:Oa)(kc:Nat)(w:World)(h:RV w (· <w.heap.size) p (qe p A c K kc))(ht:yF w.heap.size w):Calls Tryz.prog 7 #[.agg #[.int .i64 2,.int .i64 1,.int .i64 p.lv,.bool p.ng,.slice A p.ds.length c,.slice K p.ks.length kc,.slice none 0 0],.int .i64 n] w (qky (crZ n p) w):=by
 unfold crZ;by_cases hn:n<1∨4<n
 ·rw[if_pos hn];refine(qdX n hn _ _ _ _ _ _ _ w).mono ?_;rintro e w' ⟨rfl,hb⟩;exact⟨_,rfl,hb⟩
 ·rw[if_neg hn];obtain⟨k,hk,rfl⟩:=qbR hn;refine(qeD k hk p (hp.okp hd) A c K kc w h ht).mono ?_;rintro e w' ⟨⟨v,rfl⟩,hb⟩;exact⟨v,rfl,hb⟩
noncomputable def qd5(kd:Int):Bool:=decide (kd<1)||decide (3<kd)
noncomputable def qiA(n kd:Int)(qs:List RP):Bool:=qd5 kd||qs.any fun q=>zo n (qn q)
def qlh(n:Int)(bad:Bool)(w:World)(e:Ending)(w':World):Prop:=∃(M:MtV)(c:Int),e= .returned (.tuple #[.agg #[.int .i64 M.kd,.int .i64 M.rl,.int .i64 M.ml,.bool M.mg,.slice M.A M.n M.c,.slice M.K M.k M.kc,.slice M.L M.l M.lc],.int .i64 c])/\
 ((n<1∨4<n)->c=1/\M=⟨0,0,0,false,none,0,0,none,0,0,none,0,0⟩)/\(¬(n<1∨4<n)->(c=1/\bad=true)∨(c=0/\bad=false))/\Below w.heap.size w w'
theorem qh3(p:RP)(hp:jz 3 p)(FI:qF p)(n kd:Int)(pa pb pc pd:RP)(sa:jz 2 pa)(sb:jz 2 pb)(sc:jz 2 pc)(sd:jz 2 pd)(da:qF pa)(db:qF pb)(dc:qF pc)(dd:qF pd)(pcs:Array Value)(Sc:pcs.size=24)(h0:pcs[0]? =some (.int .i64 kd))
 (A:Oa)(c:Nat)(K:Oa)(kc B:Nat)(w:World)(hB:B<=w.heap.size)(h:RV w (· <B) p (qe p A c K kc))(ha:Ju w B pcs 1 pa)(hb:Ju w B pcs 5 pb)(hc:Ju w B pcs 9 pc)(hd:Ju w B pcs 13 pd):
 Calls Tryz.prog 8 #[qm p A c K kc,.int .i64 1,.int .i64 n,.agg pcs] w (qlh n (qiA n kd [pa,pb,pc,pd]) w):=by
 by_cases hn:n<1∨4<n
 ·refine(qgp n 1 hn _ _ _ _ pcs w).mono ?_;rintro e w' ⟨rfl,hb⟩;exact⟨⟨0,0,0,false,none,0,0,none,0,0,none,0,0⟩,1,rfl,fun _=>⟨rfl,rfl⟩,fun h=>absurd hn h,hb⟩
 ·by_cases hk:kd<1∨3<kd
  ·refine(qd0 n 1 kd (by omega) (by omega) hk _ _ _ _ pcs h0 w).mono ?_;rintro e w' ⟨rfl,hb⟩;refine⟨⟨0,0,0,false,none,0,0,none,0,0,none,0,0⟩,1,rfl,fun h=>absurd h hn,fun _=> .inl ⟨rfl,?_⟩,hb⟩;unfold qiA qd5;rcases hk with hk|hk<;>simp[hk]
  ·have UH:qd5 kd=false:=by
    unfold qd5;rw[Bool.or_eq_false_iff,decide_eq_false_iff_not,decide_eq_false_iff_not];omega
   obtain⟨k,Xj,rfl⟩:=qbR hn;refine(qii k Xj p (hp.okp FI) kd (by omega) pa pb pc pd (sa.smq da) (sb.smq db) (sc.smq dc) (sd.smq dd) pcs Sc h0 A c K kc B w hB h ha hb hc hd).mono ?_;rintro e w' ⟨M,cc,rfl,hc,hb⟩;refine⟨M,cc,rfl,fun h=>absurd h hn,fun _=>?_,hb⟩;have o:=fun(q:RP)=>qh6 (k:=(k:Int)+1) (by omega) (by omega) (jS q).can.1;rw[o,o,o,o]at hc;unfold qiA;rw[UH];rcases hc with⟨h1,h2⟩|⟨h1,h2⟩
   ·exact .inl ⟨h1,by simpa using h2⟩
   ·exact .inr ⟨h1,by simpa using h2⟩
def JV:RP:= .mk 0 false [1] []
def yR(i:Int):RP:= .mk i false [] [qh,JV]
theorem qjn:dig 1=[1]:=by decide+kernel
theorem qcC(i:Int)(w:World):Calls Tryz.prog 34 #[.int .i64 i] w fun e w'=>e= .returned (.bool (decide (1<=i)&&decide (i<=4)))/\w'=w:=by
 by_cases h1:1<=i
 ·rw[decide_eq_true h1,Bool.true_and];go_enter Tryz.func34,Tryz.ntmps34
  go_wp2
  go_ret
  exact⟨rfl,rfl⟩
 ·rw[decide_eq_false h1,Bool.false_and];go_enter Tryz.func34,Tryz.ntmps34
  go_wp2
  go_ret
  exact⟨rfl,rfl⟩
theorem qjF{w:World}{base g:Nat}{i:Int}{A1:Oa}{c1:Nat}(hb:base<=g)(hk:qf w g 28 #[.int .i64 0,.bool false,.slice none 0 0,.slice none 0 0,.int .i64 0,.bool false,.slice A1 1 c1,.slice none 0 0])(hn:qL w A1 [1])(hc:1<=c1):
 RB w base (yR i) (qe (yR i) none 0 (some ⟨g,0,none⟩) 2):=by
 refine RB.node (ks:=[qh,JV]) (rows:=[qe qh none 0 none 0,qe JV A1 c1 none 0]) rfl (fun r hr=>?_) hb hk (fun j v hv=>?_) (Gr _) ?_
 ·simp at hr;rcases hr with rfl|rfl<;>rfl
 ·rw[<-hv];simp[qe,qh,JV,RP.lv,RP.ng,RP.ds,RP.ks]
 ·unfold qG;refine⟨_,_,rfl,RT.zero,?_⟩;unfold qG;refine⟨_,_,rfl,RB.const hn (by simp[jg]) hc,?_⟩;unfold qG;rfl
theorem VarFin.mk{w w3:World}{i:Int}{g h:Nat}{cs:Array Value}{A1:Oa}{c1:Nat}(s1:qf w3 g 28 cs)(hn:qL w3 A1 [1])(hb:Below w.heap.size w w3)(hc:[1].length<=c1)(hz:w3.heap.size=h)(hg:w.heap.size<=h):
 qf (w3.alloc (.cells #[.int .i64 0,.bool false,.slice none 0 0,.slice none 0 0,.int .i64 0,.bool false,.slice A1 1 c1,.slice none 0 0] 28)) g 28 cs/\
 RB (w3.alloc (.cells #[.int .i64 0,.bool false,.slice none 0 0,.slice none 0 0,.int .i64 0,.bool false,.slice A1 1 c1,.slice none 0 0] 28)) w.heap.size (yR i) (qe (yR i) none 0 (some ⟨h,0,none⟩) 2)/\
 Below w.heap.size w (w3.alloc (.cells #[.int .i64 0,.bool false,.slice none 0 0,.slice none 0 0,.int .i64 0,.bool false,.slice A1 1 c1,.slice none 0 0] 28)):=by
 subst hz;have ha:=Gb w3 (.cells #[.int .i64 0,.bool false,.slice none 0 0,.slice none 0 0,.int .i64 0,.bool false,.slice A1 1 c1,.slice none 0 0] 28);exact⟨s1.alloc _,qjF hg (qf.new w3 28 _) (hn.old ha) hc,hb.alloc hg _⟩
set_option maxHeartbeats 2000000
theorem qjR(i:Int)(h1:1<=i)(h4:i<=4)(w:World):Calls Tryz.prog 13 #[.int .i64 i] w fun e w'=>
 ∃g,e= .returned (.agg #[.int .i64 i,.bool false,.slice none 0 0,.slice (some ⟨g,0,none⟩) 2 2])/\RB w' w.heap.size (yR i) (qe (yR i) none 0 (some ⟨g,0,none⟩) 2)/\Below w.heap.size w w':=by
 have Xd:=Gh (Gb w (.cells Gz 28));have Xo:=Gh (qf.new w 28 Gz);have HL:=Gh (fun W=>qcC i W);rw[decide_eq_true h1,decide_eq_true h4]at HL;have HO:=Gh (fun W=>Jc 1 (by omega) (by omega) W);clear h1 h4;go_enter Tryz.func13,Tryz.ntmps13
 go_wp2_with fail
 refine(HL _).mono ?_;rintro e w1 ⟨rfl,rfl⟩;go_wp2_with fail
 refine(HO _).mono ?_;rintro e w2 hr;unfold qX at hr;rw[show(1:Int).natAbs=1 from rfl,qjn]at hr;obtain⟨A1,c1,rfl,Es,Ti,Xf⟩:=hr;rw[show decide ((1:Int)<0)=false from rfl];have hk:=Xo.out.old Xf;obtain⟨s1,s2,s3⟩:=jm (k:=0) hk (.int .i64 i) (.bool false) (.slice none 0 0) (.slice (some ⟨w2.heap.size,0,none⟩) 2 2);have Xz:=((((Xd.out.trans (Xf.mono (by simp))).setCell (p:=⟨w.heap.size,0,none⟩) (Gr _) (.int .i64 i)).setCell (p:=⟨w.heap.size,1,none⟩) (Gr _) (.bool false)).setCell (p:=⟨w.heap.size,2,none⟩) (Gr _) (.slice none 0 0)).setCell (p:=⟨w.heap.size,3,none⟩) (Gr _) (.slice (some ⟨w2.heap.size,0,none⟩) 2 2);have Vl:=Gh (VarFin.mk (i:=i) (h:=w2.heap.size) s1 (qL.keep Ti s2) Xz Es (by simp) (Nat.le_of_lt hk.lt));have f0:=hk.frozen 0;have f1:=hk.frozen 1;have f2:=hk.frozen 2;have f3:=hk.frozen 3;obtain⟨d0,d1,d2,d3⟩:=G4 hk;have z0:=hk.lt;clear hk Xf Ti Es s1 s2 s3 Xz;go_wp2_with fail
 obtain⟨k1,k2,k3⟩:=Vl.out;exact qo Tryz.results13 rfl rfl k1 Tryz.underlying28 rfl Tryz.sizeRec ⟨w2.heap.size,rfl,k2,k3⟩
theorem Qc:qv (yR 1)=true:=by simp[yR,qh,JV,qv,zT,YC,Zi,qI,RP.lv,RP.ds]
theorem qeU:qN 1 4 (yR 1):=by simp[yR,qh,JV,qN,zO]
theorem qbQ:qv JV=true:=by simp[JV,qv,YC]
theorem qfh:qI (yR 1)=false:=rfl
theorem qfD:zW 1 (yR 1)=1:=by decide
theorem qi0:yr 1 (yR 1)=1:=by
 unfold yr;rw[qQ Qc,if_neg (by rw[qfh];decide),if_pos (by decide),qfD];rfl
theorem qdl:qD 1 (yR 1)=[qh,JV]:=by
 unfold qD;rw[qQ Qc,if_neg (by rw[qfh];decide),qfD];have e:JS 1 1 (yR 1)=[qh,JV]:=by simp[yR,JS]
 rw[e];simp only[List.map_cons,List.map_nil];rw[qQ (show qv qh=true from rfl),qQ qbQ]
theorem qhR:QB (((0:Nat):Int)+1) 3 4 (yR 1):=by
 have hd:qF (yR 1):=by simp[yR,qh,JV,qF,zd,jg]
 refine⟨Qh Qc (qN.mono (by omega) (Gr _) _ qeU) (show 3<=400 by omega),?_,?_,?_⟩
 ·rw[qQ Qc];exact qN.mono (by omega) (Gr _) _ qeU
 ·rw[qQ Qc];exact hd
 ·rw[show((0:Nat):Int)+1=1 from rfl,qdl];simp
set_option maxHeartbeats 4000000
theorem qgm(w:World):Calls Tryz.prog 4 #[] w (fun e w'=>e= .returned (.bool true)/\Below w.heap.size w w'):=by
 have HV:=Gh (qjR 1 (by omega) (by omega) w);have Ex:=Gh (fun(A:Oa)(c:Nat)(Kp:Oa)(kc:Nat)(V:World)(h:RV V (· <V.heap.size) (yR 1) (qe (yR 1) A c Kp kc))=>show Calls Tryz.prog 6 #[qm (yR 1) A c Kp kc,.int .i64 1] V (RoR 1 JV V)by
  have:=YT 0 (by omega) (yR 1) qhR A c Kp kc V h;rw[show((0:Nat):Int)+1=1 from rfl,qi0,qdl]at this;exact this)
 have Ij:=Gh (fun(A:Oa)(c:Nat)(K:Oa)(kc:Nat)(V:World)(h:RV V (· <V.heap.size) JV (qe JV A c K kc))=>JJ 400 (by omega) JV (Qh qbQ (show qN 1 4 JV by simp[JV,qN,zO]) (by omega)) A c K kc V.heap.size V (Gr _) h);rw[show qI (qn JV)=false by rw[qQ qbQ];rfl]at Ij;unfold qm at Ex Ij;go_enter Tryz.func4,Tryz.ntmps4
 go_wp2_with fail
 refine HV.out.mono ?_;rintro e w1 ⟨gv,rfl,hv,Xp⟩;have Tq:=Gh (Ex none 0 (some ⟨gv,0,none⟩) 2 w1 hv.rv);rw[show(yR 1).lv=1 from rfl,show(yR 1).ng=false from rfl,show(yR 1).ds.length=0 from rfl,show(yR 1).ks.length=2 from rfl]at Tq;have UK:=Gh Xp;clear hv Xp HV Ex;go_wp2_with fail
 refine Tq.out.mono ?_;rintro e w2 ⟨v,Ps,rfl,U6,SJ,h1,Xf⟩;obtain⟨P,rfl,EJ,hPD⟩:=h1 rfl;obtain⟨g,cap,cur,rfl,UP,hk,F5,Eu⟩:=SJ.at (j:=0) rfl;have Xv:=Eu.rd;unfold TG at Xv;have q0:w2.cell? ⟨g,0,none⟩=some (.int .i64 P.kd):=F5 0 _ rfl;have q13:w2.cell? ⟨g,13,none⟩=some (.int .i64 P.d.T.lv):=F5 13 _ rfl;have q14:w2.cell? ⟨g,14,none⟩=some (.bool P.d.T.ng):=F5 14 _ rfl;have q15:w2.cell? ⟨g,15,none⟩=some (.slice P.d.A P.d.T.ds.length P.d.c):=F5 15 _ rfl;have q16:w2.cell? ⟨g,16,none⟩=some (.slice P.d.K P.d.T.ks.length P.d.kc):=F5 16 _ rfl;rw[EJ]at q0;rw[hPD]at q13 q14 q15 q16 Xv;have HZ:=Gh (Ij P.d.A P.d.c P.d.K P.d.kc w2 (RV.mono (fun _ hb=>hb.lt) _ _ Xv));have Xw:=Gh (Gt UK Xf);simp only[List.length_singleton]at UP;generalize P.d.A=A2 at*;generalize P.d.c=c2 at*;generalize P.d.K=K2 at*;generalize P.d.kc=k2 at*;have hcap1:(1:Int)<=(cap:Int):=by omega
 clear U6 SJ h1 EJ hPD hk F5 Eu Xv Xf Tq Ij UK;simp only[List.length_singleton];go_wp2_with fail
 refine HZ.out.mono ?_;rintro e w3 ⟨rfl,_,Xz⟩;have Um:=Gh (Gt Xw Xz);clear Xz HZ Xw q0 q13 q14 q15 q16;go_wp2_with fail
 go_ret
 exact⟨rfl,Um⟩
theorem qkS(k:Int)(t:RP):zo k t=(decide (t.lv=k)||t.ks.any (zo k)):=by
 cases t
 rw[zo,qe8];rfl
theorem qcd{α:Type}{f:α->Bool}{l:List α}{j:Nat}{x:α}(h:l[j]? =some x)(hf:f x=true):l.any f=true:=
 List.any_eq_true.2 ⟨x,Gk h,hf⟩
theorem qaY{α:Type}{f:α->Bool}{l:List α}{k:Nat}{x:α}(h:l[k]? =some x)(h0:(l.take k).any f=false)(hf:f x=false):(l.take (k+1)).any f=false:=by
 rw[List.take_add_one,h,List.any_append,h0];simp[hf]
theorem qat(k:Int)(hk:0<k)(X:Nat)(hX:X<=100000):∀(D:Nat)(t:RP),qC t<=D->yP X t->∀(A:Oa)(c:Nat)(K:Oa)(kc B:Nat)(w:World),B<=w.heap.size->RV w (· <B) t (qe t A c K kc)->
 Calls Tryz.prog 10 #[qm t A c K kc,.int .i64 k] w fun e w'=>e= .returned (.bool (zo k t))/\Below w.heap.size w w'
 |0,t,hD,_,_,_,_,_,_,_,_,_=>by cases t;simp only[qC]at hD;omega
 |D+1,t,hD,Uh,A,c,K,kc,B,w,hB,h=>by
  have IH:=Gh (qat k hk X hX D);have Xb:=Gb w (.cells #[.int .i64 t.lv,.bool t.ng,.slice A t.ds.length c,.slice K t.ks.length kc] 28);have Xx:=qf.new w 28 #[.int .i64 t.lv,.bool t.ng,.slice A t.ds.length c,.slice K t.ks.length kc];have Xd:=Gh Xb;have Xo:=Gh Xx;have HR:=Gh (fun(W:World)(hW:Below w.heap.size w W)=>h.below (hW.mono hB));have HB:=Gh hB;have TK:=Gh (fun(u:RP)(hu:u∈t.ks)=>show qC u<=D by have:=qY hu;omega);have Wz:=Gh (fun(u:RP)(hu:u∈t.ks)=>Uh.at_.2.2 u hu);have TU:t.ks.length<=X:=Uh.at_.2.1;have WO:=Gh h.node.2.2.2;have Ut:=Gh (qkS k t);have a0:=Xx.cell 0;have a2:=Xx.cell 3;unfold qm;generalize Vx:t.ks.length=nk at*;have UB:=Gh Vx;generalize zo k t=R at*;clear Xb Xx h hB hD Uh Vx;generalize t.ds.length=pd at*;generalize t.ng=pg at*;generalize t.lv=pl at*;by_cases h1:pl=k
  ·have Tq:=Gh (show R=true by rw[Ut.out];simp[h1]);subst h1;clear Ut a2;rw[Tq.out];go_enter Tryz.func10,Tryz.ntmps10
   go_wp2_with fail
   go_ret
   exact⟨rfl,Xd⟩
  ·have Tq:=Gh (show R=t.ks.any (zo k)by rw[Ut.out];simp[h1]);have e1:(pl==k)=false:=by simpa using h1
   clear Ut h1;rw[Tq.out];go_enter Tryz.func10,Tryz.ntmps10
   go_wp2_with fail
   clear a0 a2;go_loopg [5,17] nk (fun gn _ ix wr=>∃j:Nat,j<=nk/\gn=nk-j/\ix= .int .i64 j/\(t.ks.take j).any (zo k)=false/\Below w.heap.size w wr/\qf wr w.heap.size 28 #[.int .i64 pl,.bool pg,.slice A pd c,.slice K nk kc])
   case atStart=>exact⟨0,Nat.zero_le _,rfl,rfl,by simp,Xd,Xo⟩
   case round=>
    clear Xd Xo;obtain⟨j,hj,XI,rfl,Vg,Xe,X8⟩:=hrel;have HG:=Gh XI;have Ez:=Gh Vg;have RI:=Gh X8;have Xh:=Gh Xe;clear XI;by_cases Xi:j<nk
    ·obtain⟨u,hu⟩:∃u,t.ks[j]? =some u:=⟨_,Gn (by rw[UB.out];exact Xi)⟩;obtain⟨b,o,A1,q1,K1,r1,rfl,Tn,x0,x1,x2,x3,XN⟩:=(HR wr Xe).kid hu;have US:=Gk hu;have HC:=Gh (IH u (TK u US) (Wz u US) A1 q1 K1 r1 B wr (Gl HB Xe.size) XN);have Vn:=Gh (fun hz:zo k u=true=>show t.ks.any (zo k)=true from qcd hu hz);have Vu:=Gh (fun hz:zo k u=false=>qaY hu Vg hz);unfold qm at HC;have i3:(0:Int)<=(j:Int):=by omega
     have i4:(j:Int)<(nk:Int):=by omega
     have i5:(nk:Int)<=(kc:Int):=by have:=WO.out;omega
     have c3:=X8.cell 3;clear hu US XN Vg Xe X8;generalize zo k u=cu at*;generalize u.ds.length=td at*;generalize u.ks.length=tk at*;generalize u.ng=tg at*;generalize u.lv=tl at*;go_wp2_with fail
     refine HC.out.mono ?_;rintro e w4 ⟨rfl,XB⟩;have XW:=Gh (Gt Xh XB);have Vd:=Gh (RI.out.old XB);clear XB x0 x1 x2 x3 c3
     cases Ss:cu with
     |true=>
      have Uj:=Gh (Vn Ss);clear Ss Vu Vn;go_wp2_with fail
      go_ret
      exact⟨by rw[Uj.out];rfl,XW⟩
     |false=>
      have Uj:=Gh (Vu Ss);clear Ss Vu Vn;go_wp2_with fail
      go_roundg (nk-(j+1))
      case rel=>exact⟨j+1,by omega,rfl,by go_num,Uj,XW,Vd⟩
      case measure=>have:=HG.out;omega
    ·obtain rfl:j=nk:=by omega
     rw[List.take_of_length_le (by rw[UB.out];exact Gr _)]at Vg;have HO:=Gh Vg;clear Vg Xe X8;go_wp2_with fail
     go_ret
     exact⟨by rw[HO.out];rfl,Xh⟩
def Qm(w:World)(e:Ending)(w':World):Prop:=e= .returned (.bool true)/\Below w.heap.size w w'
theorem qci(w:World):Calls Tryz.prog 72 #[.agg #[.bool false,.slice none 0 0],.agg #[.bool false,.slice none 0 0]] w (Qm w):=by
 obtain⟨Xb,k0,k1,hs⟩:=qR w 25 25 #[.bool false,.slice none 0 0] #[.bool false,.slice none 0 0];have VB:=Gh (fun(W':World)(hb:Below w.heap.size w W')=>show Qm w (.returned (.bool true)) W' from⟨rfl,hb⟩);have Xd:=Gh Xb;go_enter Tryz.func72,Tryz.ntmps72
 go_upto_region 1 with(fail)
 generalize (w.alloc (.cells #[.bool false,.slice none 0 0] 25)).alloc (.cells #[.bool false,.slice none 0 0] 25)=W at*;have x0:=k0.cell 0;have x1:=k0.cell 1;have y0:=k1.cell 0;have y1:=k1.cell 1;clear Xb hs k0 k1;go_wp2_with fail
 go_loopg [5,23] 0 (fun gn _ ix wr=>gn=0/\ix= .int .i64 0/\wr=W)
 case atStart=>exact⟨rfl,rfl,rfl⟩
 case round=>
  obtain⟨hg,rfl,rfl⟩:=hrel;go_wp2_with fail
  go_ret
  exact VB _ Xd.out
theorem qaV(w:World):Calls Tryz.prog 29 #[.agg #[.int .i64 0,.bool false,.slice none 0 0,.slice none 0 0],.agg #[.int .i64 0,.bool false,.slice none 0 0,.slice none 0 0]] w (Qm w):=by
 obtain⟨Xb,k0,k1,hs⟩:=qR w 28 28 Gz Gz;have VB:=Gh (fun(W':World)(hb:Below w.heap.size w W')=>show Qm w (.returned (.bool true)) W' from⟨rfl,hb⟩);have Xd:=Gh Xb;have Xo:=Gh k0;have Xu:=Gh k1;have EY:=Gh (fun(W:World)=>qci W);unfold Qm at EY;go_enter Tryz.func29,Tryz.ntmps29
 go_upto_region 1 with(fail)
 generalize (w.alloc (.cells Gz 28)).alloc (.cells Gz 28)=W at*;obtain⟨x0,x1,x2,x3⟩:=G4 k0;obtain⟨y0,y1,y2,y3⟩:=G4 k1;clear Xb hs k0 k1;go_wp2_with fail
 refine(EY W).mono ?_;rintro e w2 ⟨rfl,Xf⟩;have Xw:=Gh (Gt Xd Xf);have x3:=(Xo.out.old Xf).cell 3;clear x0 x1 x2 y0 y1 y2 y3 Xf;go_wp2_with fail
 go_loopg [5,31] 0 (fun gn _ ix wr=>gn=0/\ix= .int .i64 0/\wr=w2)
 case atStart=>exact⟨rfl,rfl,rfl⟩
 case round=>
  obtain⟨hg,rfl,rfl⟩:=hrel;go_wp2_with fail
  go_ret
  exact VB _ Xw.out
theorem qdV(w:World):Calls Tryz.prog 9 #[.agg #[.int .i64 0,.int .i64 0,.int .i64 0,.bool false,.slice none 0 0,.slice none 0 0,.slice none 0 0],.agg #[.int .i64 0,.int .i64 0,.int .i64 0,.bool false,.slice none 0 0,.slice none 0 0,.slice none 0 0]] w (Qm w):=by
 obtain⟨Xb,k0,k1,hs⟩:=qR w 32 32 Gy Gy;have VB:=Gh (fun(W':World)(hb:Below w.heap.size w W')=>show Qm w (.returned (.bool true)) W' from⟨rfl,hb⟩);have Xd:=Gh Xb;have Xo:=Gh k0;have EY:=Gh (fun(W:World)=>qaV W);unfold Qm at EY;go_enter Tryz.func9,Tryz.ntmps9
 go_upto_region 1 with(fail)
 generalize (w.alloc (.cells Gy 32)).alloc (.cells Gy 32)=W at*;obtain⟨x0,x1,x2,x3⟩:=G4 k0;have x4:=k0.cell 4;have x5:=k0.cell 5;have x6:=k0.cell 6;obtain⟨y0,y1,y2,y3⟩:=G4 k1;have y4:=k1.cell 4;have y5:=k1.cell 5;have y6:=k1.cell 6;clear Xb hs k0 k1;go_wp2_with fail
 refine(EY W).mono ?_;rintro e w2 ⟨rfl,Xf⟩;have Xw:=Gh (Gt Xd Xf);have x6:=(Xo.out.old Xf).cell 6;clear x0 x1 x2 x3 x4 x5 y0 y1 y2 y3 y4 y5 y6 Xf;go_wp2_with fail
 go_loopg [5,38] 0 (fun gn _ ix wr=>gn=0/\ix= .int .i64 0/\wr=w2)
 case atStart=>exact⟨rfl,rfl,rfl⟩
 case round=>
  obtain⟨hg,rfl,rfl⟩:=hrel;go_wp2_with fail
  go_ret
  exact VB _ Xw.out
