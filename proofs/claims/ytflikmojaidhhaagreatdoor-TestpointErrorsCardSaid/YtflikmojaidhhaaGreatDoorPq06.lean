import Derived.Test.YtflikmojaidhhaaGreatDoorSortLay
import Derived.Test.YtflikmojaidhhaaGreatDoorPq05
import Derived.Test.YtflikmojaidhhaaGreatDoorPqA
namespace Go.Proofs.YtflikmojaidhhaaGreatDoor
open Go.RowKit
set_option maxHeartbeats 4000000
set_option maxRecDepth 100000
theorem J6(dg:Nat)(Xr:dg<=1000):∀(D:Nat)(t:RP),qC t<=D->ym dg t->∀(A:Oa)(c:Nat)(K:Oa)(kc B base:Nat)(ps:List PT)(v:Value)(m:Mo)(X:Int)(w:World),B<=base->base<=w.heap.size->RV w (· <B) t (qe t A c K kc)->
 w.ownsRow base 127 6 v ps.length (ps.flatMap PT.cells)->ps.length+jW t<=40000->zh m X->X+40*D<=1000000->
 Calls Tryz.prog 76 #[v,qm t A c K kc,.agg (Jv m)] w (ZY t m v ps base B w)
 |0,t,hD,_,_,_,_,_,_,_,_,_,_,_,_,_,_,_,_,_,_,_=>by cases t;simp only[qC]at hD;omega
 |D+1,t,hD,hf,A,c,K,kc,B,base,ps,v,m,X,w,hB,Xt,h,Xn,PM,hm,hX=>by
  have IH:=Gh (J6 dg Xr D);have HD:=Gh (fun(u:RP)(hu:u∈t.ks)=>show qC u<=D by have:=qY hu;omega);have HF:=Gh hf.at_.2.2;have HR:=Gh (fun(W:World)(hW:Below B w W)=>h.below hW);have Nq:=Gh Xn;have HX:=Gh (fun(cs ds:Array Value)=>qR w 28 111 cs ds);have Uo:=hf.at_.1;have TU:=hf.at_.2.1;have HM:=Gh hm;have KV:=Gh (qkk t m);have Tk:=Gh (qb5 t▸PM);show Calls Tryz.prog 76 #[v,.agg #[.int .i64 t.lv,.bool t.ng,.slice A t.ds.length c,.slice K t.ks.length kc],.agg #[.int .i64 m.1,.int .i64 m.2.1,.int .i64 m.2.2.1,.int .i64 m.2.2.2]] w _;have SW:=Gh (h.natIn);clear hD hf h Xn PM hm;generalize Sq:t.ds.length=nd at*;generalize Vx:t.ks.length=nk at*;have RG:=Gh Sq;have UB:=Gh Vx;clear Sq Vx;obtain⟨i0,Uw,XU,X7,Xy⟩:=qO Tryz.infoTerm;by_cases h0:t.lv<=0
  ·have Do:=Gh (show jH t m=[((t.ng,t.ds),m)]by rw[KV,if_pos h0]);obtain⟨Xb,_,_,hs⟩:=HX.out #[.int .i64 t.lv,.bool t.ng,.slice A nd c,.slice K nk kc] #[.int .i64 m.1,.int .i64 m.2.1,.int .i64 m.2.2.1,.int .i64 m.2.2.2];have XJ:=Gh hs;have Xp:=Xb.alloc Xb.size (.cells #[.bool t.ng,.slice A nd c,.int .i64 m.1,.int .i64 m.2.1,.int .i64 m.2.2.1,.int .i64 m.2.2.2] 127);have Xs:=yW.start (B:=B) Nq.out;have XM:=Xs.old Xp (Gl hB Xt);have Xk:=XM.own;rw[List.append_nil]at Xk;have Xv:=qu.six_new ((w.alloc (.cells #[.int .i64 t.lv,.bool t.ng,.slice A nd c,.slice K nk kc] 28)).alloc (.cells #[.int .i64 m.1,.int .i64 m.2.1,.int .i64 m.2.2.1,.int .i64 m.2.2.2] 111)) [.bool t.ng,.slice A nd c,.int .i64 m.1,.int .i64 m.2.1,.int .i64 m.2.2.1,.int .i64 m.2.2.2] rfl 127;rw[hs]at Xv;have NY:=Gh (show∀u∈([.bool t.ng,.slice A nd c,.int .i64 m.1,.int .i64 m.2.1,.int .i64 m.2.2.1,.int .i64 m.2.2.2]:List Value),u.oneCell'=true by
    intro u hu;simp at hu;rcases hu with rfl|rfl|rfl|rfl|rfl|rfl<;>rfl)
   have CK:=Gh (show ps.length<=40000 by have:=Tk.out;omega);have U7:=Gh Xk;have Sv:=Gh Xv;have Ud:=Gh XM;have UK:=Gh Xp;clear Xk Xv XM Xs Xp Xb hs KV;go_enter Tryz.func76,Tryz.ntmps76
   go_wp2_with (first|(at_builtin;refine qM _ rfl (.tmp 14) (.tmp 19) 107 rfl base 127 i0 _ 6 64 Tryz.underlying107 Uw XU X7 Xy rfl (by decide) v ps.length _ rfl U7 (w.heap.size+2+1) (some ⟨w.heap.size+2,0,none⟩) 1 1 [.bool t.ng,.slice A nd c,.int .i64 m.1,.int .i64 m.2.1,.int .i64 m.2.2.1,.int .i64 m.2.2.2] rfl Sv NY (by have:=CK.out;unfold maxLen;omega) (by have:=CK.out;omega) (Gl Xt UK.out.size) ?_;intro v' w15 Ub hg4 Re))
   go_ret
   obtain rfl:=RG.out;refine⟨v',[⟨t.ng,t.ds,A,c,m⟩],rfl,Ud.out.snoc (q:=⟨t.ng,t.ds,A,c,m⟩) ?_ hg4 Re (SW.out.below (UK.out.mono (Gl hB Xt))) hB Xt,by rw[Do.out];rfl⟩;rw[List.append_nil];exact Ub
  ·by_cases h4:4<t.lv
   ·have Do:=Gh (show jH t m=[]by rw[KV,if_neg h0,if_pos h4]);have h0:0<t.lv:=by omega
    go_enter Tryz.func76,Tryz.ntmps76
    go_wp2_with fail
    go_ret
    obtain⟨Xb,_,_,_⟩:=HX.out #[.int .i64 t.lv,.bool t.ng,.slice A nd c,.slice K nk kc] #[.int .i64 m.1,.int .i64 m.2.1,.int .i64 m.2.2.1,.int .i64 m.2.2.2];exact⟨v,[],rfl,(yW.start Nq).old Xb (Gl hB Xt),by rw[Do.out];rfl⟩
   ·obtain⟨i,CY,hi⟩:∃i:Nat,i<4/\t.lv=(i:Int)+1:=⟨t.lv.toNat-1,by omega,by omega⟩;have hli:t.lv-1=(i:Int):=by omega
    have Do:=Gh (show jH t m=jo i t.ks m (Zn m i)by
     rw[KV,if_neg h0,if_neg h4,show t.lv.toNat-1=i by omega])
    have LU:=HM.out.at_ i;have HX12:=Gh (show X+40+40*(D:Int)<=1000000 by omega);have hX0:0<=X:=by omega
    have hX1:X<=1000000:=by omega
    obtain⟨Xb,k0,k1,hs⟩:=HX.out #[.int .i64 t.lv,.bool t.ng,.slice A nd c,.slice K nk kc] #[.int .i64 m.1,.int .i64 m.2.1,.int .i64 m.2.2.1,.int .i64 m.2.2.2];have c5:=(k1.cell i).trans (qfx m i CY);generalize Mv:Zn m i=e0 at*;have HE0:=Gh Mv;clear Mv;have g0:0<t.lv:=by omega
    have g4:t.lv<=4:=by omega
    have j0:(0:Int)<=(i:Int):=by omega
    have j4:(i:Int)<4:=by omega
    have XH:=Gh ((yW.start (B:=B) Nq).old Xb (Gl hB Xt));have Xo:=Gh k0;have Xu:=Gh k1;have XJ:=Gh hs;clear h0 h4 hi KV Xb k0 k1 hs SW hX;go_enter Tryz.func76,Tryz.ntmps76
    go_wp2_with fail
    generalize (w.alloc (.cells #[.int .i64 t.lv,.bool t.ng,.slice A nd c,.slice K nk kc] 28)).alloc (.cells #[.int .i64 m.1,.int .i64 m.2.1,.int .i64 m.2.2.1,.int .i64 m.2.2.2] 111)=W at*;clear HX c5;go_loopg [0,8,9,34] nk (fun gn tv _ _ ix wr=>∃(k:Nat)(qs:List PT)(mk:Mo),k<=nk/\gn=nk-k/\ix= .int .i64 k/\yW w v ps base B wr tv qs/\qs.map PT.key=jo i (t.ks.take k) m e0/\qf wr w.heap.size 28 #[.int .i64 t.lv,.bool t.ng,.slice A nd c,.slice K nk kc]/\qf wr (w.heap.size+1) 111 (Jv mk)/\∀y,jU mk i y=jU m i y)
    case atStart=>exact⟨0,[],m,Nat.zero_le _,rfl,rfl,XH,by simp[jo],Xo,Xu,fun _=>rfl⟩
    case round=>
     clear XH Xo Xu;obtain⟨k,qs,mk,hk,XG,rfl,XM,Tw,FQ,E7,Uz⟩:=hrel;have HG:=Gh XG;clear XG;have Xe:=XM.below Nq hB Xt;have UD:=HR.out wr Xe;have UT:=UD.node.2.2.2;rw[UB.out]at UT;have i5:(nk:Int)<=(kc:Int):=by omega
     have c0:wr.cell? ⟨w.heap.size,0,none⟩=some (.int .i64 t.lv):=FQ.cell 0;have c3:wr.cell? ⟨w.heap.size,3,none⟩=some (.slice K nk kc):=FQ.cell 3;by_cases Xi:k<nk
     ·obtain⟨u,hu⟩:∃u,t.ks[k]? =some u:=⟨_,Gn (by rw[UB.out];exact Xi)⟩;obtain⟨b,o,A',c',K',kc',rfl,Tn,e0',e1,e2,e3,XN⟩:=UD.kid hu;have US:=Gk hu;have PH:=qf6 (i:=i) hu m e0;have LN:IntKind.i64.wrap (e0+(k:Int))=e0+(k:Int):=IntWalk.i64_in _ (by omega);have VY:=HM.out.set i (x:=e0+(k:Int)) (Y:=X+40) (by omega) (by omega) (by omega);have Ml:qs.length<=yy (t.ks.take k):=by
       have:=congrArg List.length Tw;rw[List.length_map]at this;rw[this];exact qaQ _ _ _ _
      have TW:(ps++qs).length+jW u<=40000:=by
       have h1:=qgu hu;have h2:=Tk.out;rw[List.length_append];omega
      have lw:=E7.lt;have lw0:=FQ.lt;have c5:=(E7.cell i).trans (qfx mk i CY);have f5:=E7.frozen i;generalize Zn mk i=ek at*;have Vh:B<=w.heap.size:=Gl hB Xt;have PN:=XM.set E7 (by decide) (by omega) (by omega) i (.int .i64 (e0+(k:Int)));have Cl:=E7.set_ i (.int .i64 (e0+(k:Int)));rw[qjv mk i CY,Uz]at Cl;have Ap:=FQ.far (p:=⟨w.heap.size+1,i,none⟩) (show w.heap.size≠w.heap.size+1 by omega) (.int .i64 (e0+(k:Int)));have XV:(wr.setCell ⟨w.heap.size+1,i,none⟩ (.int .i64 (e0+(k:Int)))).heap.size=wr.heap.size:=by simp
      have Tc:=(Below.refl (wr.setCell ⟨w.heap.size+1,i,none⟩ (.int .i64 (e0+(k:Int)))).heap.size (wr.setCell ⟨w.heap.size+1,i,none⟩ (.int .i64 (e0+(k:Int))))).alloc (Gr _) (.cells #[.int .i64 u.lv,.bool u.ng,.slice A' u.ds.length c',.slice K' u.ks.length kc'] 28);have PO:Below B wr ((wr.setCell ⟨w.heap.size+1,i,none⟩ (.int .i64 (e0+(k:Int)))).alloc (.cells #[.int .i64 u.lv,.bool u.ng,.slice A' u.ds.length c',.slice K' u.ks.length kc'] 28)):=
       ((Below.refl B wr).setCell (p:=⟨w.heap.size+1,i,none⟩) (show B<=w.heap.size+1 by omega) (.int .i64 (e0+(k:Int)))).trans (Tc.mono (by rw[XV];exact Gl Vh XM.gro.size))
      have kx2:=qf.new (wr.setCell ⟨w.heap.size+1,i,none⟩ (.int .i64 (e0+(k:Int)))) 28 #[.int .i64 u.lv,.bool u.ng,.slice A' u.ds.length c',.slice K' u.ks.length kc'];rw[XV]at kx2;have SD:=PN.old Tc (by rw[XV];exact Gl Vh XM.gro.size);have Sl:=Cl.old Tc;have Ao:=Ap.old Tc;have U5:=Gh (IH u (HD u US) (HF u US) A' c' K' kc' B base (ps++qs) u0 (jU m i (e0+(k:Int))) (X+40) _ hB (Gl Xt SD.gro.size) (XN.below PO) SD.own TW VY HX12);unfold ZY qm at U5;have DL:=Gh kx2;have HCL2:=Gh SD;have AD:=Gh Sl;have AC:=Gh Ao;have HKEY:=Gh Tw;have HKCL:=Gh PH;have Id:=Gh (qgF m (e0+(k:Int)));have i3:(0:Int)<=(k:Int):=by omega
      have i4:(k:Int)<(nk:Int):=by omega
      have y0:((wr.setCell ⟨w.heap.size+1,i,none⟩ (.int .i64 (e0+(k:Int)))).alloc (.cells #[.int .i64 u.lv,.bool u.ng,.slice A' u.ds.length c',.slice K' u.ks.length kc'] 28)).cell? ⟨wr.heap.size,0,none⟩=some (.int .i64 u.lv):=kx2.cell 0;have y1:((wr.setCell ⟨w.heap.size+1,i,none⟩ (.int .i64 (e0+(k:Int)))).alloc (.cells #[.int .i64 u.lv,.bool u.ng,.slice A' u.ds.length c',.slice K' u.ks.length kc'] 28)).cell? ⟨wr.heap.size,1,none⟩=some (.bool u.ng):=kx2.cell 1;have y2:((wr.setCell ⟨w.heap.size+1,i,none⟩ (.int .i64 (e0+(k:Int)))).alloc (.cells #[.int .i64 u.lv,.bool u.ng,.slice A' u.ds.length c',.slice K' u.ks.length kc'] 28)).cell? ⟨wr.heap.size,2,none⟩=some (.slice A' u.ds.length c'):=kx2.cell 2;have y3:((wr.setCell ⟨w.heap.size+1,i,none⟩ (.int .i64 (e0+(k:Int)))).alloc (.cells #[.int .i64 u.lv,.bool u.ng,.slice A' u.ds.length c',.slice K' u.ks.length kc'] 28)).cell? ⟨wr.heap.size,3,none⟩=some (.slice K' u.ks.length kc'):=kx2.cell 3;have z0:((wr.setCell ⟨w.heap.size+1,i,none⟩ (.int .i64 (e0+(k:Int)))).alloc (.cells #[.int .i64 u.lv,.bool u.ng,.slice A' u.ds.length c',.slice K' u.ks.length kc'] 28)).cell? ⟨w.heap.size+1,0,none⟩=some (.int .i64 (jU m i (e0+(k:Int))).1):=Sl.cell 0;have z1:((wr.setCell ⟨w.heap.size+1,i,none⟩ (.int .i64 (e0+(k:Int)))).alloc (.cells #[.int .i64 u.lv,.bool u.ng,.slice A' u.ds.length c',.slice K' u.ks.length kc'] 28)).cell? ⟨w.heap.size+1,1,none⟩=some (.int .i64 (jU m i (e0+(k:Int))).2.1):=Sl.cell 1;have z2:((wr.setCell ⟨w.heap.size+1,i,none⟩ (.int .i64 (e0+(k:Int)))).alloc (.cells #[.int .i64 u.lv,.bool u.ng,.slice A' u.ds.length c',.slice K' u.ks.length kc'] 28)).cell? ⟨w.heap.size+1,2,none⟩=some (.int .i64 (jU m i (e0+(k:Int))).2.2.1):=Sl.cell 2;have z3:((wr.setCell ⟨w.heap.size+1,i,none⟩ (.int .i64 (e0+(k:Int)))).alloc (.cells #[.int .i64 u.lv,.bool u.ng,.slice A' u.ds.length c',.slice K' u.ks.length kc'] 28)).cell? ⟨w.heap.size+1,3,none⟩=some (.int .i64 (jU m i (e0+(k:Int))).2.2.2):=Sl.cell 3;clear hu UD XN UT US PH VY Ml TW Tc Cl Ap XV PO PN SD Sl Ao kx2 XM Tw FQ E7 Uz Xe;generalize u.ds.length=ud at*;generalize u.ks.length=uk at*;go_upto_region 10 with(fail)
      generalize (wr.setCell ⟨w.heap.size+1,i,none⟩ (.int .i64 (e0+(k:Int)))).alloc (.cells #[.int .i64 u.lv,.bool u.ng,.slice A' ud c',.slice K' uk kc'] 28)=W2 at*;go_wp2_with fail
      refine U5.out.mono ?_;rintro e w3 ⟨v2,rs,rfl,h2,EK⟩;have SD:=HCL2.out;have Bi:=Gh (SD.trans h2 hB Xt);have CH:=Gh (AC.out.grown h2.gro (yx SD.own AC (by decide)));have MZ:=Gh (AD.out.grown h2.gro (yx SD.own AD (by decide)));have Uk:=Gh (show(qs++rs).map PT.key=jo i (t.ks.take (k+1)) m e0 by rw[List.map_append,HKEY,EK,HKCL.out]);clear h2 EK SD y0 y1 y2 y3 z0 z1 z2 z3 U5;go_wp2_with fail
      go_roundg (nk-(k+1))
      case rel=>exact⟨k+1,qs++rs,_,by omega,rfl,by go_num,Bi,Uk,CH,MZ,fun y=>Id y i⟩
      case measure=>have:=HG.out;omega
     ·obtain rfl:k=nk:=by omega
      have Vl:=Gh (show ZY t m v ps base B w (.returned u0) wr from⟨u0,qs,rfl,XM,by rw[Tw,Do,List.take_of_length_le (by rw[UB.out];exact Gr _)]⟩);clear XM Tw FQ E7 Uz UD UT Xe;go_wp2_with fail
      go_ret
      exact Vl
def jy(z:Int):RP:= .mk 0 (decide (z<0)) (dig z.natAbs) []
def qh:RP:= .mk 0 false [] []
def jJ(f:List Tm->RP)(i:Nat):Nat->List Tm->List RP->List RP
 |0,_,ks=>ks
 |_+1,[],ks=>ks
 |n+1,t::r,ks=>jJ f i n ((t::r).dropWhile fun s=>decide (gt s.2 i=gt t.2 i)) (ks.set (gt t.2 i).toNat (f ((t::r).takeWhile fun s=>decide (gt s.2 i=gt t.2 i))))
def qZ:Nat->List Tm->RP
 |0,[]=>qh
 |0,t::_=>jy t.1
 |_+1,[]=>qh
 |L+1,t::r=>if gt t.2 L=0 then qZ L (t::r)else .mk ((L:Int)+1) false [] (jJ (qZ L) L (t::r).length (t::r) (List.replicate ((gt t.2 L).toNat+1) qh))
theorem yo(L:Nat):qZ L []=qh:=by cases L<;>rfl
def geL:Nat->Mo->Mo->Prop
 |0,_,_=>True
 |L+1,a,b=>gt b L<gt a L∨(gt b L=gt a L/\geL L a b)
theorem qlg{L:Nat}{a b:Mo}(h:geL (L+1) a b):gt b L<=gt a L:=by
 rcases h with h|⟨h,_⟩<;>omega
theorem qkM{L:Nat}{a b:Mo}(h:geL (L+1) a b)(e:gt b L=gt a L):geL L a b:=by
 rcases h with h|⟨_,h⟩
 ·omega
 ·exact h
theorem qlc{a b:Mo}(h:Zc b a):geL 4 a b:=by
 simp only[geL,gt];unfold Zc at h;omega
def Qa(L:Nat)(l:List Tm):Prop:=l.Pairwise fun s t=>geL L s.2 t.2
theorem qW.desc{l:List Tm}(h:qW l):Qa 4 l:=h.so.imp fun h=>qlc h
theorem Qa.sub{L:Nat}{l m:List Tm}(h:Qa L l)(hs:m.Sublist l):Qa L m:=List.Pairwise.sublist hs h
theorem Qa.down{L:Nat}{l:List Tm}(h:Qa (L+1) l){e:Int}(he:∀t∈l,gt t.2 L=e):Qa L l:=
 List.Pairwise.imp_of_mem (fun hs ht h=>qkM h ((he _ ht).trans (he _ hs).symm)) h
theorem Qa.head{L:Nat}{t s:Tm}{r:List Tm}(h:Qa (L+1) (t::r))(hs:s∈t::r):gt s.2 L<=gt t.2 L:=by
 rcases List.mem_cons.1 hs with rfl|hs
 ·exact Int.le_refl _
 ·exact qlg ((List.pairwise_cons.1 h).1 s hs)
theorem qhM{α:Type}(p:α->Bool):∀(l:List α)(j:Nat),(∀x∈l.take j,p x=true)->j<=l.length->(∀y,l[j]? =some y->p y=false)->l.takeWhile p=l.take j/\l.dropWhile p=l.drop j
 |[],j,_,hj,_=>by simp
 |x::l,0,_,_,h=>by
  have:=h x rfl;simp[this]
 |x::l,j+1,h1,hj,h2=>by
  have hx:=h1 x (by simp);obtain⟨a,b⟩:=qhM p l j (fun y hy=>h1 y (by simp[hy])) (by simpa using hj) (fun y hy=>h2 y (by simpa using hy));simp[hx,a,b]
theorem qe1{rows:List (List Value)}(h4:∀r∈rows,r.length=4){cur:Array Value}{e:Nat}(he:e<rows.length)(hs:rows.length*4<=cur.size)(hc:∀(j:Nat)(v:Value),rows.flatten[j]? =some v->cur[j]? =some v)(a b c d:Value):
 ∀(j:Nat)(v:Value),(rows.set e [a,b,c,d]).flatten[j]? =some v->((((cur.setIfInBounds (e*4) a).setIfInBounds (e*4+1) b).setIfInBounds (e*4+2) c).setIfInBounds (e*4+3) d)[j]? =some v:=by
 intro j v hv;have Wl:∀r∈rows.set e [a,b,c,d],r.length=4:=fun r hr=>by
  rcases List.mem_or_eq_of_mem_set hr with h|h
  ·exact h4 r h
  ·rw[h];rfl
 have hl:=jt Wl;rw[List.length_set]at hl;have hj:j<rows.length*4:=by have:=(Gi.1 hv).1;omega
 obtain⟨k,i,hi,rfl⟩:∃k i,i<4/\j=k*4+i:=⟨j/4,j%4,Nat.mod_lt _ (by omega),by omega⟩;have hk:k<rows.length:=by omega
 by_cases LN:k=e
 ·subst LN;rw[Ja _ Wl k [a,b,c,d] (by rw[List.getElem?_set_self hk]) i hi]at hv;rcases(by omega:i=0∨i=1∨i=2∨i=3)with rfl|rfl|rfl|rfl
  ·rw[Array.getElem?_setIfInBounds_ne (by omega),Array.getElem?_setIfInBounds_ne (by omega),Array.getElem?_setIfInBounds_ne (by omega),Nat.add_zero,Array.getElem?_setIfInBounds_self_of_lt (by omega)];simpa using hv
  ·rw[Array.getElem?_setIfInBounds_ne (by omega),Array.getElem?_setIfInBounds_ne (by omega),Array.getElem?_setIfInBounds_self_of_lt (by simp;omega)];simpa using hv
  ·rw[Array.getElem?_setIfInBounds_ne (by omega),Array.getElem?_setIfInBounds_self_of_lt (by simp;omega)];simpa using hv
  ·rw[Array.getElem?_setIfInBounds_self_of_lt (by simp;omega)];simpa using hv
 ·obtain⟨r,hr⟩:∃r,rows[k]? =some r:=⟨_,Gn hk⟩;rw[Ja _ Wl k r (by rw[List.getElem?_set_ne (Ne.symm LN)];exact hr) i hi]at hv;rw[Array.getElem?_setIfInBounds_ne (by omega),Array.getElem?_setIfInBounds_ne (by omega),Array.getElem?_setIfInBounds_ne (by omega),Array.getElem?_setIfInBounds_ne (by omega)];exact hc _ v ((Ja rows h4 k r hr i hi).trans hv)
theorem qG.put{w:World}{S:Nat->Prop}:∀{ts:List RP} {rows:List (List Value)} (e:Nat){t:RP} {r:List Value},qG w S ts rows->RV w S t r->qG w S (ts.set e t) (rows.set e r)
 |[],rows,e,t,r,h,_=>by
  unfold qG at h;subst h;simp[qG]
 |s::ts,rows,e,t,r,h,hr=>by
  unfold qG at h;obtain⟨x,xs,rfl,h2,h3⟩:=h
  cases e with
  |zero=>simp only[List.set_cons_zero,qG];exact⟨r,xs,rfl,hr,h3⟩
  |succ e=>simp only[List.set_cons_succ,qG];exact⟨x,xs.set e r,rfl,h2,qG.put e h3 hr⟩
theorem RT.zero{w:World}{S:Nat->Prop}:RV w S qh (qe qh none 0 none 0):=by
 unfold qh RV;exact⟨none,0,none,0,rfl,⟨rfl,fun hp=>absurd hp (Nat.lt_irrefl 0)⟩,by simp[jg],Nat.zero_le _,Nat.zero_le _,[],⟨rfl,fun hp=>absurd hp (Nat.lt_irrefl 0)⟩,by unfold qG;rfl⟩
theorem qG.zeros{w:World}{S:Nat->Prop}:∀n:Nat,qG w S (List.replicate n qh) (List.replicate n (qe qh none 0 none 0))
 |0=>by simp[qG]
 |n+1=>by
  simp only[List.replicate_succ,qG];exact⟨_,_,rfl,RT.zero,qG.zeros n⟩
theorem Ym(z:Array Value)(n j:Nat)(h:j<n):(madeCells z n)[j]? =some (z[j%z.size]!):=by
 unfold madeCells;rw[Array.getElem?_map,Array.getElem?_range,if_pos h];rfl
structure qb6 (w:World) (g n:Nat) (W:World) (ks:List RP) (cur:Array Value) (rows:List (List Value)):Prop where
 row:qf W g 28 cur
 siz:cur.size=n*4
 kl:ks.length=n
 len:rows.length=n
 four:∀r∈rows,r.length=4
 at_:∀(j:Nat)(v:Value),rows.flatten[j]? =some v->cur[j]? =some v
 kids:qG W (yB W (g+1)) ks rows
 bel:Below w.heap.size w W
 res:qf W w.heap.size 28 #[.int .i64 0,.bool false,.slice none 0 0,.slice none 0 0]
theorem qb6.start{w W:World}{g n:Nat}(hk:qf W g 28 (madeCells #[.int .i64 0,.bool false,.slice none 0 0,.slice none 0 0] (n*4)))(hb:Below w.heap.size w W)(hr:qf W w.heap.size 28 #[.int .i64 0,.bool false,.slice none 0 0,.slice none 0 0]):
 qb6 w g n W (List.replicate n qh) (madeCells #[.int .i64 0,.bool false,.slice none 0 0,.slice none 0 0] (n*4)) (List.replicate n (qe qh none 0 none 0)):=by
 have h4:∀r∈List.replicate n (qe qh none 0 none 0),r.length=4:=fun r hr=>by rw[(List.mem_replicate.1 hr).2];rfl
 refine⟨hk,size_madeCells _ _,by simp,by simp,h4,fun j v hv=>?_,qG.zeros n,hb,hr⟩;have hl:=jt h4;rw[List.length_replicate]at hl;have hj:j<n*4:=by have:=(Gi.1 hv).1;omega
 rw[Ym _ _ _ hj];obtain⟨k,i,hi,rfl⟩:∃k i,i<4/\j=k*4+i:=⟨j/4,j%4,Nat.mod_lt _ (by omega),by omega⟩;rw[Ja _ h4 k (qe qh none 0 none 0) (by rw[List.getElem?_replicate,if_pos (by omega)]) i hi]at hv;rcases(by omega:i=0∨i=1∨i=2∨i=3)with rfl|rfl|rfl|rfl
 all_goals
  rw[<-hv];simp[qe,qh,RP.lv,RP.ng,RP.ds,RP.ks,Nat.mul_add_mod_self_right]
theorem qb6.put{w:World}{g n:Nat}{W W2:World}{ks:List RP}{cur:Array Value}{rows:List (List Value)}(h:qb6 w g n W ks cur rows){e:Nat}(he:e<n)(hg:w.heap.size<g){t:RP}{A K:Oa}{c kc:Nat}
 (h2:RB W2 W.heap.size t (qe t A c K kc))(h3:Below W.heap.size W W2):
 ∃cur',qb6 w g n ((((W2.setCell ⟨g,e*4,none⟩ (.int .i64 t.lv)).setCell ⟨g,e*4+1,none⟩ (.bool t.ng)).setCell ⟨g,e*4+2,none⟩ (.slice A t.ds.length c)).setCell ⟨g,e*4+3,none⟩ (.slice K t.ks.length kc)) (ks.set e t) cur' (rows.set e (qe t A c K kc)):=by
 have Ua:=h.row.old h3;have VT:g+1<=W.heap.size:=h.row.lt;obtain⟨s1,s2,s3⟩:=jm (k:=e*4) Ua (.int .i64 t.lv) (.bool t.ng) (.slice A t.ds.length c) (.slice K t.ks.length kc);refine⟨_,s1,by simp[h.siz],by rw[List.length_set];exact h.kl,by rw[List.length_set];exact h.len,fun r hr=>?_,qe1 h.four (by rw[h.len];exact he) (by rw[h.siz,h.len];exact Gr _) h.at_ _ _ _ _,?_,?_,?_⟩
 ·rcases List.mem_or_eq_of_mem_set hr with k|k
  ·exact h.four r k
  ·rw[k];rfl
 ·exact qG.put e (RBs.keep h.kids (fun j ds hj=>s2 _ _ (hj.old h3)) (fun j ds EO hj=>s3 _ _ EO (hj.old h3)) (Gr _)) (RB.keep (RB.mono h2 VT) s2 s3 (Gr _))
 ·exact((((Gt h.bel h3).setCell (show w.heap.size<=g by omega) _).setCell (show w.heap.size<=g by omega) _).setCell (show w.heap.size<=g by omega) _).setCell (show w.heap.size<=g by omega) _
 ·exact((((h.res.old h3).far (show w.heap.size≠g by omega) _).far (show w.heap.size≠g by omega) _).far (show w.heap.size≠g by omega) _).far (show w.heap.size≠g by omega) _
theorem qb6.fin{w:World}{g n:Nat}{W:World}{ks:List RP}{cur:Array Value}{rows:List (List Value)}(h:qb6 w g n W ks cur rows)(hg:w.heap.size<g)(l:Int):
 RB ((((W.setCell ⟨w.heap.size,0,none⟩ (.int .i64 l)).setCell ⟨w.heap.size,1,none⟩ (.bool false)).setCell ⟨w.heap.size,2,none⟩ (.slice none 0 0)).setCell ⟨w.heap.size,3,none⟩ (.slice (some ⟨g,0,none⟩) n n)) w.heap.size (.mk l false [] ks) (qe (.mk l false [] ks) none 0 (some ⟨g,0,none⟩) n):=by
 obtain⟨s1,s2,s3⟩:=jm (k:=0) h.res (.int .i64 l) (.bool false) (.slice none 0 0) (.slice (some ⟨g,0,none⟩) n n);have hr:=RBs.keep (base':=w.heap.size+1) h.kids s2 (fun j ds EO hj=>s3 j ds (by omega) hj) (by omega);have Ua:qf ((((W.setCell ⟨w.heap.size,0,none⟩ (.int .i64 l)).setCell ⟨w.heap.size,1,none⟩ (.bool false)).setCell ⟨w.heap.size,2,none⟩ (.slice none 0 0)).setCell ⟨w.heap.size,3,none⟩ (.slice (some ⟨g,0,none⟩) n n)) g 28 cur:=s3 g cur (by omega) h.row;exact RB.mono (RB.node (l:=l) (kc:=n) (base:=w.heap.size+1) (by rw[h.len,h.kl]) h.four (by omega) Ua h.at_ (by rw[h.kl];exact Gr _) hr) (by omega)
theorem yI.open{w:World}{B:Nat}{A:Oa}{ps:List PT}(h:yI w B A ps)(hn:0<ps.length):∃b o,A=some ⟨b,o,none⟩/\b<B/\∀(k:Nat)(p:PT)(j:Nat)(v:Value),ps[k]? =some p->j<6->p.cells[j]? =some v->w.cell? ⟨b,o+(k*6+j),none⟩=some v:=by
 obtain⟨b,o,e,hb,hc⟩:=h.rd.2 hn;exact⟨b,o,e,hb,fun k p j v hk hj hv=>hc (k*6+j) v ((yq ps k j p hk hj).trans hv)⟩
theorem qf7(p:PT)(i:Nat)(hi:i<4):p.cells[2+i]? =some (.int .i64 (gt p.m i)):=by
 rcases(by omega:i=0∨i=1∨i=2∨i=3)with rfl|rfl|rfl|rfl<;>rfl
theorem qbp(ps:List PT):(ps.flatMap PT.cells).length=ps.length*6:=by
 induction ps with
 |nil=>rfl
 |cons p ps ih=>
  rw[List.flatMap_cons,List.length_append,ih,List.length_cons,show p.cells.length=6 from rfl];omega
theorem yI.sub{w:World}{B b o:Nat}{ps:List PT}(h:yI w B (some ⟨b,o,none⟩) ps)(s j:Nat)(hj:s+j<=ps.length)(Mt:0<j):yI w B (some ⟨b,o+s*6,none⟩) ((ps.drop s).take j):=by
 obtain⟨b',o',e,hb,hc⟩:=h.open (by omega)
 injection e with e
 injection e with e1 e2
 subst e1;subst e2;have hl:((ps.drop s).take j).length=j:=by rw[List.length_take,List.length_drop];omega
 refine⟨⟨by rw[qbp],fun _=>⟨b,o+s*6,rfl,hb,fun x v hv=>?_⟩⟩,fun p hp=>h.nt p (List.mem_of_mem_drop (List.mem_of_mem_take hp))⟩;obtain⟨k,i,hi,rfl⟩:∃k i,i<6/\x=k*6+i:=⟨x/6,x%6,Nat.mod_lt _ (by omega),by omega⟩;have hx:k*6+i<j*6:=by
  have:=(Gi.1 hv).1;rw[qbp,hl]at this;exact this
 have hk:k<j:=by omega
 obtain⟨p,hp⟩:∃p,((ps.drop s).take j)[k]? =some p:=⟨_,Gn (by omega)⟩;have Du:ps[s+k]? =some p:=by
  rw[List.getElem?_take,if_pos hk,List.getElem?_drop]at hp;exact hp
 rw[yq _ k i p hp hi]at hv;have:=hc (s+k) p i v Du hi hv;rw[show o+s*6+(k*6+i)=o+((s+k)*6+i)by omega];exact this
theorem qgE{i:Nat}{ts:List Tm}{t:Tm}(h:ts[0]? =some t)(h0:gt t.2 i=0):qZ i ts=qZ (i+1) ts:=by
 cases ts with
 |nil=>simp at h
 |cons s r=>
  simp at h;subst h;rw[qZ,if_pos h0]
theorem qgx{i:Nat}{ts:List Tm}{t:Tm}(h:ts[0]? =some t)(h0:gt t.2 i≠0):qZ (i+1) ts= .mk ((i:Int)+1) false [] (jJ (qZ i) i ts.length ts (List.replicate ((gt t.2 i).toNat+1) qh)):=by
 cases ts with
 |nil=>simp at h
 |cons s r=>
  simp at h;subst h;rw[qZ,if_neg h0]
theorem qfR{ts:List Tm}{t:Tm}(h:ts[0]? =some t):qZ 0 ts=jy t.1:=by
 cases ts with
 |nil=>simp at h
 |cons s r=>
  simp at h;subst h;rw[qZ]
theorem Qa.zero{i:Nat}{ts:List Tm}{t:Tm}(h:Qa (i+1) ts)(ht:ts[0]? =some t)(h0:gt t.2 i=0)(hp:∀s∈ts,0<=gt s.2 i):Qa i ts:=by
 cases ts with
 |nil=>simp at ht
 |cons s r=>
  simp at ht;subst ht;refine h.down (e:=0) fun x hx=>?_;have h1:=h.head hx;have h2:=hp x hx;omega
theorem Qa.first{i:Nat}{ts:List Tm}{t s:Tm}(h:Qa (i+1) ts)(ht:ts[0]? =some t)(hs:s∈ts):gt s.2 i<=gt t.2 i:=by
 cases ts with
 |nil=>simp at ht
 |cons x r=>
  simp at ht;subst ht;exact h.head hs
theorem qbB{f:List Tm->RP}{i n s j:Nat}{ts:List Tm}{ks:List RP}{t:Tm}(ht:ts[s]? =some t)(hn:(ts.drop s).length<=n)(hj:s+j<=ts.length)(h1:∀x∈(ts.drop s).take j,gt x.2 i=gt t.2 i)(h2:∀y,ts[s+j]? =some y->gt y.2 i≠gt t.2 i):
 0<j/\∃m,(ts.drop (s+j)).length<=m/\jJ f i n (ts.drop s) ks=jJ f i m (ts.drop (s+j)) (ks.set (gt t.2 i).toNat (f ((ts.drop s).take j))):=by
 have hl:s<ts.length:=(Gi.1 ht).1;have e:ts[s]=t:=(Gi.1 ht).2;have Mt:0<j:=Nat.pos_of_ne_zero fun e0=>h2 t (by rw[e0,Nat.add_zero];exact ht) rfl;refine⟨Mt,?_⟩;have hd:ts.drop s=t::ts.drop (s+1):=by rw[List.drop_eq_getElem_cons hl,e]
 obtain⟨a,b⟩:=qhM (fun x:Tm=>decide (gt x.2 i=gt t.2 i)) (ts.drop s) j (fun x hx=>decide_eq_true (h1 x hx)) (by rw[List.length_drop];omega) (fun y hy=>decide_eq_false (h2 y (by rwa[List.getElem?_drop]at hy)));rw[List.length_drop]at hn;obtain⟨m,rfl⟩:∃m,n=m+1:=⟨n-1,by omega⟩;refine⟨m,by rw[List.length_drop];omega,?_⟩;rw[<-a,show ts.drop (s+j)=(ts.drop s).drop j by rw[List.drop_drop],<-b,hd];rw[jJ]
def ZS(t:RP)(w:World)(e:Ending)(w':World):Prop:=∃A c K kc,e= .returned (qm t A c K kc)/\RB w' w.heap.size t (qe t A c K kc)/\Below w.heap.size w w'
set_option maxHeartbeats 8000000
theorem Y6:∀(M L:Nat),L<M->L<=4->∀(ps:List PT)(A:Oa)(c B:Nat)(w:World),B<=w.heap.size->yI w B A ps->Qa L (ps.map PT.tm)->(∀p∈ps,Cn p)->(∀p∈ps,∀i,i<4->0<=gt p.m i/\gt p.m i<=1000)->ps.length<=c->ps.length<=40000->(∀p∈ps,qL w p.A p.ds/\p.ds.length<=p.c)->
 Calls Tryz.prog 74 #[.slice A ps.length c,.int .i64 (L:Int)] w (ZS (qZ L (ps.map PT.tm)) w)
 |0,L,hM,_,_,_,_,_,_,_,_,_,_,_,_,_,_=>by omega
 |M+1,L,hM,hL,ps,A,c,B,w,hB,hp,IX,TW,Da,UP,XC,Vy=>by
  have UV:=Gh Vy;clear Vy;have IH:=Gh (Y6 M);have HP:=Gh (fun(W:World)(hW:Below B w W)=>hp.below hW);have UU:=Gb w (.cells Gz 28);have kbx:=qf.new w 28 Gz;by_cases hn:ps.length=0
  ·obtain rfl:ps=[]:=List.length_eq_zero_iff.1 hn;have HS:=Gh kbx;have Up:=Gh UU;have HZ:=Gh (yo L);clear hp IX TW Da UP XC hn UU kbx HP IH hM hL;go_enter Tryz.func74,Tryz.ntmps74
   go_wp2_with fail
   refine qo Tryz.results74 rfl rfl HS Tryz.underlying28 rfl Tryz.sizeRec ?_;refine⟨none,0,none,0,by rw[List.map_nil,HZ.out];rfl,by rw[List.map_nil,HZ.out];exact RT.zero,?_⟩;exact Up
  ·obtain⟨p0,Ow⟩:∃p0,ps[0]? =some p0:=⟨_,Gn (by omega)⟩;obtain⟨b,o,rfl,Tn,hc⟩:=hp.open (by omega);have HC:=Gh (fun(W:World)(hW:Below B w W)(k:Nat)(p:PT)(j:Nat)(v:Value)(h1:ps[k]? =some p)(h2:j<6)(h3:p.cells[j]? =some v)=>show W.cell? ⟨b,o+(k*6+j),none⟩=some v from(hW.cell (p:=⟨b,o+(k*6+j),none⟩) Tn).trans (hc k p j v h1 h2 h3));have Ko:=Gh (show(ps.map PT.tm)[0]? =some p0.tm by rw[List.getElem?_map,Ow];rfl);have HE0:=Gh (Da p0 (Gk Ow));have Nu:=Gh Da;have Tk:=Gh TW;have C9:=Gh hp;have Le:=Gh IX;have MS:=Gh Ow;have DH:=Gh (show(ps.map PT.tm).length=ps.length by simp);have UW:=Gh kbx;have Up:=Gh UU;have HB:=Gh hB;have Vh:Below B w (w.alloc (.cells Gz 28)):=UU.mono hB;have HBw:=Gh Vh;have Mh:=kbx.lt;have hz:((ps.length:Int)==0)=false:=Qk _ hn;have g1:(0:Int)<(ps.length:Int):=by omega
   have g2:(ps.length:Int)<=(c:Int):=by omega
   clear hp IX TW Da hn hc Ow UU kbx Vh;generalize SK:ps.length=n at*;have UO:=Gh SK;clear SK;go_enter Tryz.func74,Tryz.ntmps74
   go_wp2_with fail
   generalize hW1:w.alloc (.cells Gz 28)=W1 at*;have Pg:W1.heap.size=w.heap.size+1:=by rw[<-hW1];simp
   have HSZ1:=Gh Pg;clear hW1 Pg;go_loopg [1] L (fun gn lv wr=>∃l:Nat,gn=l/\l<=L/\lv= .int .i64 (l:Int)/\qZ l (ps.map PT.tm)=qZ L (ps.map PT.tm)/\Qa l (ps.map PT.tm)/\W1=wr)
   case atStart=>exact⟨L,rfl,Gr _,rfl,rfl,Le,rfl⟩
   case round=>
    obtain⟨l,VT,hlL,rfl,XX,Uo,rfl⟩:=hrel;have HG:=Gh VT;have Uq:=Gh XX;have DP:=Gh Uo;clear VT XX Uo;by_cases Fo:l=0
    ·subst Fo;have d0:=HC.out _ HBw 0 p0 0 _ MS (by omega) rfl;have d1:=HC.out _ HBw 0 p0 1 _ MS (by omega) rfl;simp only[Nat.zero_mul,Nat.zero_add,Nat.add_zero]at d0 d1;have Rm:=Gh (show qZ L (ps.map PT.tm)=jy p0.tm.1 by rw[<-Uq.out];exact qfR Ko);obtain⟨z,XU⟩:=Tk.out p0 (Gk MS);have Ba:=Gh (show jy p0.tm.1= .mk 0 p0.ng p0.ds []by
      rw[XU,JK];rfl)
     have SL:=(C9.out.nt p0 (Gk MS));have SW:=Gh SL.dg;have HS:=Gh (jm (k:=0) UW (.int .i64 0) (.bool p0.ng) (.slice p0.A p0.ds.length p0.c) (.slice none 0 0)).1;have RR:=Gh (jm (k:=0) UW (.int .i64 0) (.bool p0.ng) (.slice p0.A p0.ds.length p0.c) (.slice none 0 0)).2.1;have f0:=UW.out.frozen 0;have f1:=UW.out.frozen 1;have f2:=UW.out.frozen 2;have f3:=UW.out.frozen 3;have q0:W1.cell? ⟨w.heap.size,0,none⟩=some (.int .i64 0):=UW.out.cell 0;have q1:W1.cell? ⟨w.heap.size,1,none⟩=some (.bool false):=UW.out.cell 1;have q2:W1.cell? ⟨w.heap.size,2,none⟩=some (.slice none 0 0):=UW.out.cell 2;have q3:W1.cell? ⟨w.heap.size,3,none⟩=some (.slice none 0 0):=UW.out.cell 3;clear XU SL;go_wp2_with fail
     refine qo Tryz.results74 rfl rfl HS Tryz.underlying28 rfl Tryz.sizeRec ?_;have XB:=(((Up.out.setCell (p:=⟨w.heap.size,0,none⟩) (Gr _) (.int .i64 0)).setCell (p:=⟨w.heap.size,1,none⟩) (Gr _) (.bool p0.ng)).setCell (p:=⟨w.heap.size,2,none⟩) (Gr _) (.slice p0.A p0.ds.length p0.c)).setCell (p:=⟨w.heap.size,3,none⟩) (Gr _) (.slice none 0 0);refine⟨p0.A,p0.c,none,0,by rw[Rm,Ba.out];rfl,?_,XB⟩;rw[Rm,Ba.out];have Vy:=UV.out p0 (Gk MS);exact RB.const ((Vy.1.old Up).keep RR) SW Vy.2
    ·obtain⟨i,rfl⟩:∃i,l=i+1:=⟨l-1,by omega⟩;have CY:i<4:=by omega
     have hli:((i+1:Nat):Int)-1=(i:Int):=by omega
     have g3:(0:Int)<((i+1:Nat):Int):=by omega
     have j0:(0:Int)<=(i:Int):=by omega
     have j4:(i:Int)<4:=by omega
     have S2:=Gh (fun(W:World)(hW:Below B w W)(k:Nat)(p:PT)(h:ps[k]? =some p)=>show W.cell? ⟨b,o+k*6+2+i,none⟩=some (.int .i64 (gt p.m i))by
      have:=HC.out W hW k p (2+i) _ h (by omega) (qf7 p i CY);rwa[show o+(k*6+(2+i))=o+k*6+2+i by omega]at this)
     have ce:=S2.out _ HBw 0 p0 MS.out;simp only[Nat.zero_mul,Nat.add_zero]at ce;have Mv:=HE0.out i CY;by_cases XU:gt p0.m i=0
     ·have KO:=Gh (show qZ i (ps.map PT.tm)=qZ L (ps.map PT.tm)from(qgE Ko XU).trans Uq);have HDZ:=Gh (show Qa i (ps.map PT.tm)from DP.out.zero Ko XU (fun s hs=>by
       obtain⟨p,hp,rfl⟩:=List.mem_map.1 hs;exact(Nu p hp i CY).1))
      rw[XU]at ce;clear XU Fo Mv;go_wp2_with fail
      go_roundg i
      case rel=>exact⟨i,rfl,by omega,rfl,KO,HDZ,rfl⟩
      case measure=>have:=HG.out;omega
     ·obtain⟨e0,he⟩:∃e0:Nat,gt p0.m i=(e0:Int):=⟨(gt p0.m i).toNat,by omega⟩;have RG:=Gh (show qZ L (ps.map PT.tm)= .mk ((i:Int)+1) false [] (jJ (qZ i) i (ps.map PT.tm).length (ps.map PT.tm) (List.replicate (e0+1) qh))by
       rw[<-Uq,qgx Ko XU,show(gt p0.tm.2 i).toNat=e0 by show(gt p0.m i).toNat=e0;omega])
      have Ik:=Gh (fun(s:Tm)(hs:s∈ps.map PT.tm)=>show gt s.2 i<=(e0:Int)by rw[<-he];exact DP.out.first Ko hs);rw[he]at ce XU Mv;have F3:((e0:Int)==0)=false:=Qk _ (by omega);have Vo:(e0:Int)<=1073741824:=by omega
      have hle2:e0<=1000:=by omega
      have Uz:=fun(W:World)=>Tryz.make_rec (e0+1) (by omega) W;have BQ:(e0:Int)+1=((e0+1:Nat):Int):=by omega
      have BT:=Gh XU;clear XU he Fo Mv;generalize AY:e0+1=N at*;have VL:=Gh AY;clear AY;go_wp2_with fail
      have FA:=Gh (qb6.start (w:=w) (n:=N) (qf.new W1 28 (madeCells Gz (N*4))) (Up.out.alloc Up.out.size _) (UW.out.alloc _));have hg:w.heap.size<W1.heap.size:=by have:=HSZ1.out;omega
      generalize W1.alloc (.cells (madeCells Gz (N*4)) 28)=W2 at*;generalize W1.heap.size=g at*;generalize PQ:jJ (qZ i) i (ps.map PT.tm).length (ps.map PT.tm) (List.replicate N qh)=TOT at*;have HTOT:=Gh PQ;clear PQ Uz F3 Vo BQ ce;go_loopg [6,7,8] n (fun gn sv _ _ wr=>∃(s:Nat)(ks:List RP)(cur:Array Value)(rows:List (List Value))(m:Nat),s<=n/\gn=n-s/\sv= .int .i64 (s:Int)/\qb6 w g N wr ks cur rows/\((ps.map PT.tm).drop s).length<=m/\jJ (qZ i) i m ((ps.map PT.tm).drop s) ks=TOT)
      case atStart=>exact⟨0,_,_,_,(ps.map PT.tm).length,Nat.zero_le _,rfl,rfl,FA,by simp,by rw[List.drop_zero];exact HTOT⟩
      case round=>
       clear FA;obtain⟨s,ks,cur,rows,m,hs,UA,rfl,Dd,Fn,OI⟩:=hrel;have M8:=Gh UA;have FA:=Gh Dd;have CI:=Gh Fn;have HFL:=Gh OI;have Xe:Below B w wr:=Dd.bel.mono HB.out;have Mb:=Gh Xe;clear UA Fn OI;by_cases LB:s<n
       ·obtain⟨p,hp⟩:∃p,ps[s]? =some p:=⟨_,Gn (by rw[UO.out];exact LB)⟩;have U4:=Gk hp;have cp:=S2.out wr Xe s p hp;have hep:=Nu.out p U4 i CY;obtain⟨e,he⟩:∃e:Nat,gt p.m i=(e:Int):=⟨(gt p.m i).toNat,by omega⟩;have hee:=Ik.out p.tm (List.mem_map.2 ⟨p,U4,rfl⟩);have hee':gt p.m i<=(e0:Int):=hee;have Ni:=Gh (show(ps.map PT.tm)[s]? =some p.tm by rw[List.getElem?_map,hp];rfl);have MR:=Gh (show gt p.tm.2 i=(e:Int)from he);have hen:e<N:=by have:=VL.out;omega
        rw[he]at cp;have k0:(0:Int)<=(s:Int):=by omega
        have k1:(s:Int)<(n:Int):=by omega
        clear hee hee' hep he hp U4 Dd Xe;go_wp2_with fail
        go_loopg [8] (n-s) (fun gn ev wq=>∃j:Nat,s+j<=n/\gn=n-s-j/\ev= .int .i64 ((s+j:Nat):Int)/\(∀x∈((ps.map PT.tm).drop s).take j,gt x.2 i=(e:Int))/\wr=wq)
        case atStart=>exact⟨0,by omega,rfl,rfl,by simp,rfl⟩
        case round=>
         obtain⟨j,hj,XI,rfl,VO,rfl⟩:=hrel;have SZ:=Gh XI;have D7:=Gh VO;clear XI VO;by_cases AO:s+j<n
         ·obtain⟨q,hq⟩:∃q,ps[s+j]? =some q:=⟨_,Gn (by rw[UO.out];exact AO)⟩;have BH:=Gk hq;have cq:=S2.out wr Mb (s+j) q hq;have OK:=Nu.out q BH i CY;obtain⟨f,hf⟩:∃f:Nat,gt q.m i=(f:Int):=⟨(gt q.m i).toNat,by omega⟩;have HTQ:=Gh (show(ps.map PT.tm)[s+j]? =some q.tm by rw[List.getElem?_map,hq];rfl);have HQF:=Gh (show gt q.tm.2 i=(f:Int)from hf);rw[hf]at cq;have k2:(0:Int)<=((s+j:Nat):Int):=by omega
          have k3:((s+j:Nat):Int)<(n:Int):=by omega
          clear OK hf hq BH;by_cases hfe:f=e
          ·subst hfe;have Tq:=Gh (show∀x∈((ps.map PT.tm).drop s).take (j+1),gt x.2 i=(f:Int)by
            intro x hx;have hl:j<((ps.map PT.tm).drop s).length:=by rw[List.length_drop,DH.out];omega
            rw[List.take_succ_eq_append_getElem hl]at hx;rcases List.mem_append.1 hx with hx|hx
            ·exact D7 x hx
            ·rw[List.mem_singleton]at hx;have h2:=HTQ.out;rw[<-List.getElem?_drop,Gn hl]at h2
             injection h2 with h2
             rw[hx,h2];exact HQF)
           go_wp2_with fail
           go_roundg (n-s-(j+1))
           case rel=>exact⟨j+1,by omega,rfl,by rw[show((s+(j+1):Nat):Int)=(s:Int)+(j:Int)+1 by omega],Tq,rfl⟩
           case measure=>have:=SZ.out;omega
          ·have hfe':((f:Int)==(e:Int))=false:=by
            have:¬(f:Int)=(e:Int):=by omega
            simpa using this
           have Vn:=Gh (show∀y,(ps.map PT.tm)[s+j]? =some y->gt y.2 i≠(e:Int)by
            intro y hy;rw[HTQ.out]at hy
            injection hy with hy
            rw[<-hy,HQF.out];omega)
           clear hfe;obtain⟨Mt,m',TC,VY⟩:=qbB (f:=qZ i) (ks:=ks) Ni CI (by rw[DH.out];exact hj) (fun x hx=>(D7 x hx).trans MR.out.symm) (fun y hy=>by rw[MR.out];exact Vn y hy);rw[HFL,MR,Int.toNat_natCast]at VY;have EE:((ps.drop s).take j).length=j:=by rw[List.length_take,List.length_drop,UO.out];omega
           have E6:((ps.drop s).take j).map PT.tm=((ps.map PT.tm).drop s).take j:=by rw[List.map_take,List.map_drop]
           have Vm:∀x∈(ps.drop s).take j,x∈ps:=fun x hx=>List.mem_of_mem_drop (List.mem_of_mem_take hx);have SE:=IH.out i (by omega) (by omega) ((ps.drop s).take j) (some ⟨b,o+s*6,none⟩) (c-s) B wr (Gl HB FA.out.bel.size) ((C9.out.below Mb).sub s j (by rw[UO.out];exact hj) Mt)
            (by rw[E6];exact(DP.out.sub ((List.take_sublist _ _).trans (List.drop_sublist _ _))).down D7)
            (fun x hx=>Tk x (Vm x hx)) (fun x hx=>Nu x (Vm x hx)) (by rw[EE];omega) (by rw[EE];omega) (fun x hx=>⟨(UV x (Vm x hx)).1.old FA.out.bel,(UV x (Vm x hx)).2⟩)
           rw[EE,E6]at SE;unfold ZS qm at SE;generalize hT:qZ i (((ps.map PT.tm).drop s).take j)=T at*;clear hT;have U5:=Gh SE;have Eg:=Gh TC;have Fy:=Gh VY.symm;have D9:=Gh (fun(W2:World)(A K:Oa)(c kc:Nat)(h2:RB W2 wr.heap.size T (qe T A c K kc))(h3:Below wr.heap.size wr W2)=>FA.out.put hen hg h2 h3);clear SE TC VY EE E6 Vm;go_wp2_with fail
           refine U5.out.mono ?_;rintro e' w3 ⟨A2,c2,K2,kc2,rfl,h2,h3⟩;have kk:=FA.out.row.old h3;have hz:=FA.out.siz;have ex:∀x,x<4->∃v,cur[e*4+x]? =some v:=fun x hx=>⟨_,Array.getElem?_eq_getElem (by omega)⟩;obtain⟨v0,q0⟩:=ex 0 (by omega);obtain⟨v1,q1⟩:=ex 1 (by omega);obtain⟨v2,q2⟩:=ex 2 (by omega);obtain⟨v3,q3⟩:=ex 3 (by omega);have d0:w3.cell? ⟨g,e*4,none⟩=some v0:=(kk.cell _).trans q0;have d1:w3.cell? ⟨g,e*4+1,none⟩=some v1:=(kk.cell _).trans q1;have d2:w3.cell? ⟨g,e*4+2,none⟩=some v2:=(kk.cell _).trans q2;have d3:w3.cell? ⟨g,e*4+3,none⟩=some v3:=(kk.cell _).trans q3;have f0:=kk.frozen (e*4);have f1:=kk.frozen (e*4+1);have f2:=kk.frozen (e*4+2);have f3:=kk.frozen (e*4+3);have z0:=kk.lt;have k4:(0:Int)<=(e:Int):=by omega
           have k5:(e:Int)<(N:Int):=by omega
           have RH:=Gh (D9 w3 A2 K2 c2 kc2 h2 h3);clear kk hz ex q0 q1 q2 q3 h2 h3 U5 D9;generalize T.lv=xl at*;generalize T.ng=xg at*;generalize T.ds.length=xd at*;generalize T.ks.length=xk at*;go_wp2_with fail
           obtain⟨cur',hn⟩:=RH.out;go_roundg (n-(s+j))
           case rel=>exact⟨s+j,ks.set e T,cur',_,m',hj,rfl,by rw[show((s+j:Nat):Int)=(s:Int)+(j:Int)by omega],hn,Eg,Fy⟩
           case measure=>have:=M8.out;omega
         ·have hjn':s+j=n:=by omega
          have Vn:=Gh (show∀y,(ps.map PT.tm)[s+j]? =some y->gt y.2 i≠(e:Int)by
           intro y hy;rw[List.getElem?_eq_none (by rw[DH.out];omega)]at hy
           cases hy)
          have k3:(n:Int)<=((s+j:Nat):Int):=by omega
          clear hjn';obtain⟨Mt,m',TC,VY⟩:=qbB (f:=qZ i) (ks:=ks) Ni CI (by rw[DH.out];exact hj) (fun x hx=>(D7 x hx).trans MR.out.symm) (fun y hy=>by rw[MR.out];exact Vn y hy);rw[HFL,MR,Int.toNat_natCast]at VY;have EE:((ps.drop s).take j).length=j:=by rw[List.length_take,List.length_drop,UO.out];omega
          have E6:((ps.drop s).take j).map PT.tm=((ps.map PT.tm).drop s).take j:=by rw[List.map_take,List.map_drop]
          have Vm:∀x∈(ps.drop s).take j,x∈ps:=fun x hx=>List.mem_of_mem_drop (List.mem_of_mem_take hx);have SE:=IH.out i (by omega) (by omega) ((ps.drop s).take j) (some ⟨b,o+s*6,none⟩) (c-s) B wr (Gl HB FA.out.bel.size) ((C9.out.below Mb).sub s j (by rw[UO.out];exact hj) Mt)
           (by rw[E6];exact(DP.out.sub ((List.take_sublist _ _).trans (List.drop_sublist _ _))).down D7)
           (fun x hx=>Tk x (Vm x hx)) (fun x hx=>Nu x (Vm x hx)) (by rw[EE];omega) (by rw[EE];omega) (fun x hx=>⟨(UV x (Vm x hx)).1.old FA.out.bel,(UV x (Vm x hx)).2⟩)
          rw[EE,E6]at SE;unfold ZS qm at SE;generalize hT:qZ i (((ps.map PT.tm).drop s).take j)=T at*;clear hT;have U5:=Gh SE;have Eg:=Gh TC;have Fy:=Gh VY.symm;have D9:=Gh (fun(W2:World)(A K:Oa)(c kc:Nat)(h2:RB W2 wr.heap.size T (qe T A c K kc))(h3:Below wr.heap.size wr W2)=>FA.out.put hen hg h2 h3);clear SE TC VY EE E6 Vm;go_wp2_with fail
          refine U5.out.mono ?_;rintro e' w3 ⟨A2,c2,K2,kc2,rfl,h2,h3⟩;have kk:=FA.out.row.old h3;have hz:=FA.out.siz;have ex:∀x,x<4->∃v,cur[e*4+x]? =some v:=fun x hx=>⟨_,Array.getElem?_eq_getElem (by omega)⟩;obtain⟨v0,q0⟩:=ex 0 (by omega);obtain⟨v1,q1⟩:=ex 1 (by omega);obtain⟨v2,q2⟩:=ex 2 (by omega);obtain⟨v3,q3⟩:=ex 3 (by omega);have d0:w3.cell? ⟨g,e*4,none⟩=some v0:=(kk.cell _).trans q0;have d1:w3.cell? ⟨g,e*4+1,none⟩=some v1:=(kk.cell _).trans q1;have d2:w3.cell? ⟨g,e*4+2,none⟩=some v2:=(kk.cell _).trans q2;have d3:w3.cell? ⟨g,e*4+3,none⟩=some v3:=(kk.cell _).trans q3;have f0:=kk.frozen (e*4);have f1:=kk.frozen (e*4+1);have f2:=kk.frozen (e*4+2);have f3:=kk.frozen (e*4+3);have z0:=kk.lt;have k4:(0:Int)<=(e:Int):=by omega
          have k5:(e:Int)<(N:Int):=by omega
          have RH:=Gh (D9 w3 A2 K2 c2 kc2 h2 h3);clear kk hz ex q0 q1 q2 q3 h2 h3 U5 D9;generalize T.lv=xl at*;generalize T.ng=xg at*;generalize T.ds.length=xd at*;generalize T.ks.length=xk at*;go_wp2_with fail
          obtain⟨cur',hn⟩:=RH.out;go_roundg (n-(s+j))
          case rel=>exact⟨s+j,ks.set e T,cur',_,m',hj,rfl,by rw[show((s+j:Nat):Int)=(s:Int)+(j:Int)by omega],hn,Eg,Fy⟩
          case measure=>have:=M8.out;omega
       ·obtain rfl:s=n:=by omega
        have SN:ks=TOT:=by
         have h:=HFL.out;rw[List.drop_of_length_le (by rw[DH.out];exact Gr _)]at h;rw[<-h]
         cases m<;>rfl
        subst SN;have q0:wr.cell? ⟨w.heap.size,0,none⟩=some (.int .i64 0):=Dd.res.cell 0;have q1:wr.cell? ⟨w.heap.size,1,none⟩=some (.bool false):=Dd.res.cell 1;have q2:wr.cell? ⟨w.heap.size,2,none⟩=some (.slice none 0 0):=Dd.res.cell 2;have q3:wr.cell? ⟨w.heap.size,3,none⟩=some (.slice none 0 0):=Dd.res.cell 3;obtain⟨f0,f1,f2,f3,z0⟩:=G5 Dd.res;have LR:((i+1:Nat):Int)=(i:Int)+1:=by omega
        have Xg:=Gh (Dd.fin hg ((i:Int)+1));have HS:=Gh (jm (k:=0) Dd.res (.int .i64 ((i:Int)+1)) (.bool false) (.slice none 0 0) (.slice (some ⟨g,0,none⟩) N N)).1;have WU:=Gh Dd.kl;clear Dd Xe;go_wp2_with fail
        refine qo Tryz.results74 rfl rfl HS Tryz.underlying28 rfl Tryz.sizeRec ?_;refine⟨none,0,some ⟨g,0,none⟩,N,?_,by rw[RG.out];exact Xg,?_⟩
        ·rw[RG.out];unfold qm;show _=Ending.returned (.agg #[.int .i64 ((i:Int)+1),.bool false,.slice none 0 0,.slice (some ⟨g,0,none⟩) ks.length N]);rw[WU.out];rfl
        ·exact(((FA.out.bel.setCell (Gr _) _).setCell (Gr _) _).setCell (Gr _) _).setCell (Gr _) _
structure yl (w:World) (base:Nat) (v:Value) (ps:List PT):Prop where
 row:w.ownsRow base 127 6 v ps.length (ps.flatMap PT.cells)
 dg:∀p∈ps,qL w p.A p.ds/\p.ds.length<=p.c
 cn:∀p∈ps,Cn p
theorem yl.nil(w:World)(base:Nat):yl w base (.slice none 0 0) []:=⟨⟨rfl,.inl ⟨rfl,rfl⟩⟩,fun _ h=>by simp at h,fun _ h=>by simp at h⟩
theorem yl.old{w w':World}{base:Nat}{v:Value}{ps:List PT}(h:yl w base v ps)(hb:Below w.heap.size w w'):yl w' base v ps:=⟨jB h.row hb,fun p hp=>⟨(h.dg p hp).1.old hb,(h.dg p hp).2⟩,h.cn⟩
theorem yl.mono{w:World}{base base':Nat}{v:Value}{ps:List PT}(h:yl w base v ps)(hb:base'<=base):yl w base' v ps:=⟨⟨h.row.1,h.row.2.imp id fun⟨g,cap,cur,h1,h2,h3⟩=>⟨g,cap,cur,h1,Gl hb h2,h3⟩⟩,h.dg,h.cn⟩
theorem yl.nin{w:World}{base:Nat}{v:Value}{ps:List PT}(h:yl w base v ps){p:PT}(hp:p∈ps):qx w w.heap.size p.A p.c p.ds:=by
 obtain⟨h1,h2⟩:=h.dg p hp;have e:=(h.cn p hp).ds;exact⟨h1.reads,by rw[e];exact qA _,h2⟩
theorem yl.polyIn{w:World}{base c n:Nat}{A:Oa}{ps:List PT}(h:yl w base (.slice A n c) ps):yI w w.heap.size A ps:=by
 refine⟨?_,fun p hp=>h.nin hp⟩;obtain⟨A',c',e⟩:=jd h.row
 injection e with e1 e2 e3
 subst e1;subst e2;subst e3;exact qu.of_own h.row
def ZE(F:Mo->Int)(N:Nat)(w:World)(e:Ending)(w':World):Prop:=
 ∃A c ps,e= .returned (.slice A ps.length c)/\yl w' w.heap.size (.slice A ps.length c) ps/\qW (ps.map PT.tm)/\(∀m,cf (ps.map PT.tm) m=F m)/\ps.length<=N/\Below w.heap.size w w'
def qht(p:PT):Bool:= !decide (p.tm.1=0)
def Z5(ps:List PT)(k:Nat):List PT:=(ps.take k).filter qht
theorem qki{ps:List PT}{k:Nat}{p:PT}(hk:ps[k]? =some p)(h:p.tm.1≠0):Z5 ps (k+1)=Z5 ps k++[p]:=by
 have hl:k<ps.length:=(Gi.1 hk).1;have e:ps[k]=p:=(Gi.1 hk).2;unfold Z5;rw[List.take_succ_eq_append_getElem hl,List.filter_append,e];simp[qht,h]
theorem qla{ps:List PT}{k:Nat}{p:PT}(hk:ps[k]? =some p)(h:p.tm.1=0):Z5 ps (k+1)=Z5 ps k:=by
 have hl:k<ps.length:=(Gi.1 hk).1;have e:ps[k]=p:=(Gi.1 hk).2;unfold Z5;rw[List.take_succ_eq_append_getElem hl,List.filter_append,e];simp[qht,h]
theorem qjG(ps:List PT)(k:Nat):(Z5 ps k).length<=k:=Gl (List.length_filter_le _ _) (by simp;omega)
end Go.Proofs.YtflikmojaidhhaaGreatDoor
namespace Go.Proofs.YtflikmojaidhhaaGreatDoor
open Go.RowKit Go.Sort Go.Shelf Go.Lib
def cfT(x y:PT):Int:=qbJ y.m x.m
theorem ltT(x y:PT):ltOf cfT x y=decide (Zc y.m x.m):=by
 unfold ltOf cfT;rw[decide_eq_decide];exact qkb
theorem qlm:SWO (ltOf cfT) where
 irrefl x:=by rw[ltT];simp[zJ]
 trans x y z h1 h2:=by
  rw[ltT]at*;simp only[decide_eq_true_eq]at*;exact Qr h2 h1
 ntrans x y z h1 h2:=by
  rw[ltT]at*;simp only[decide_eq_false_iff_not]at*;intro h;rcases ZD y.m x.m with k|k|k
  ·exact h1 k
  ·rw[k]at h2;exact h2 h
  ·exact h2 (Qr h k)
set_option maxHeartbeats 1000000
theorem qjK(p q:PT)(W:World):Calls Tryz.prog 119 #[.agg p.cells.toArray,.agg q.cells.toArray] W fun e w'=>e= .returned (.int .i64 (cfT p q))/\∃k os',w'=grow (W.drewN k) os':=by
 have hc:=fun W'=>qgj q.m p.m W';have hl:yV W ((W.alloc (.cells p.cells.toArray 127)).alloc (.cells q.cells.toArray 127)):=((yV.refl W).alloc _).alloc _;unfold Jv at hc;unfold cfT;generalize qbJ q.m p.m=r at*;have HC:=Gh hc;have HL:=Gh hl;clear hc hl;simp only[PT.cells]at*;generalize p.m.1=p0 at*;generalize p.m.2.1=p1 at*;generalize p.m.2.2.1=p2 at*;generalize p.m.2.2.2=p3 at*;generalize q.m.1=q0 at*;generalize q.m.2.1=q1 at*;generalize q.m.2.2.1=q2 at*;generalize q.m.2.2.2=q3 at*;go_enter Tryz.func119,Tryz.ntmps119
 go_wp2_with (first|(go_at_call 120;refine(HC _).mono ?_;rintro e w' ⟨rfl,EI⟩))
 go_ret
 exact⟨rfl,HL.out.trans EI⟩
theorem qgZ(blk off size:Nat)(w:World):CmpLays Tryz.prog 119 #[] PT.cells 6 cfT blk off size w:=
 fun _ _ _ _ x y=>qjK x y _
theorem qbj(x:PT):x.cells.length=6:=rfl
theorem qaf(x:PT):∀v∈x.cells,v.oneCell'=true:=by
 intro u hp;simp[PT.cells]at hp;rcases hp with rfl|rfl|rfl|rfl|rfl|rfl<;>rfl
set_option maxHeartbeats 2000000
set_option maxRecDepth 100000
theorem qgn(blk cap:Nat)(d:Array PT)(w:World)(hH:HoldsK PT.cells 6 w blk 0 d)(U1:blk<w.heap.size)(XV:d.size<1000000):
 Calls Tryz.prog 118 #[.slice (some ⟨blk,0,none⟩) d.size cap,.func (.func 119) #[] #[]] w fun e w'=>
  e= .returned (.tuple #[])/\∃d' n os,PermIn 0 d.size d d'/\SortedIn (ltOf cfT) 0 d.size d'/\w'=sortWorldK PT.cells 6 w blk 0 n d' os:=by
 have eg:∀args w,(callFunc 119 args).run Tryz.prog w= .ok (.enter 119 args) w:=enters_of Tryz.func119 (by kernel_rfl) rfl;have PE:Lib.bitLen d.size<4611686018427387904:=Nat.lt_of_le_of_lt (Lib.bitLen_le d.size 62 (by omega) (by omega)) (by omega);have hp:=AnyQ.pdqsortCmpFunc_all (P:=Tryz.prog) (ρ:=Tryz.pdqT_ren) Tryz.pdqT 6 Tryz.isAgg127 Tryz.sizeOf127 PT.cells cfT 119 #[] qlm blk 0 cap d w eg (qgZ blk 0 d.size w) ⟨qbj,qaf,hH,U1⟩ (d.size+1) 0 d.size (Lib.bitLen d.size) d w (by omega) rfl (SWK.start hH) (Nat.zero_le _) (Gr _) (by omega) PE (Or.inl rfl);have hl:Calls Tryz.prog 136 #[.int .u64 (d.size:Int)] w fun e w'=>e= .returned (.int .i64 (Lib.bitLen d.size:Nat))/\w'=w:=by
  have h:=Any.bits_Len (SlLaysF0.n15.bits (P:=Tryz.prog) (ρ:=Tryz.pdqT_ren) {Tryz.pdqT with}) (d.size:Int) w (by omega) (by omega);rwa[Int.toNat_natCast]at h
 have hq:=pdq_sorts (ltOf cfT) qlm d 0 d.size (Lib.bitLen d.size) true true (Nat.zero_le _) (Gr _) (Or.inl rfl);change Calls Tryz.prog 135 _ _ _ at hp;have wr:IntKind.u64.wrap (d.size:Int)=d.size:=by simp[IntKind.wrap,IntKind.bits,IntKind.signed];omega
 have HP:=Gh hp;have HL:=Gh hl;have HQ:=Gh hq;clear hH hp hl hq PE;go_enter Tryz.func118,Tryz.ntmps118
 go_wp2_with (first|(go_at_call 136;refine HL.out.mono ?_;rintro e w' ⟨rfl,rfl⟩)|(go_at_call 135;refine HP.out.mono ?_;rintro e w' ⟨rfl,n,os,rfl⟩))
 go_end0
 exact⟨rfl,_,n,os,HQ.out.1,HQ.out.2,rfl⟩
theorem qct(ps:List PT):(flatK PT.cells 6 ps.toArray).toList=ps.flatMap PT.cells:=by
 apply List.ext_getElem?;intro t;by_cases h:t<ps.length*6
 ·have Xi:t/6<ps.length:=by omega
  have h1:=get_flatK PT.cells 6 ps.toArray t (by simpa using h);have hp:ps[t/6]? =some ps[t/6]:=Gn Xi;have h2:=yq ps (t/6) (t%6) _ hp (by omega);have e:t/6*6+t%6=t:=by omega
  rw[e]at h2;rw[h2];have hs:t<(flatK PT.cells 6 ps.toArray).size:=by simpa using h
  rw[Array.getElem?_toList,Array.getElem?_eq_getElem hs];rw[getElem!_pos _ t hs]at h1;rw[h1];have e2:ps.toArray[t/6]! =ps[t/6]:=by simp[Xi]
  rw[e2];have hl:t%6<ps[t/6].cells.length:=by rw[qbj];omega
  rw[Gn hl,getElem!_pos _ (t%6) hl]
 ·rw[List.getElem?_eq_none (by simp;omega),List.getElem?_eq_none (by rw[qcD];omega)]
theorem qei{w:World}{g n:Nat}{os:Array Obj}{e:TypeId}{cur:Array Value}(ps:List PT)(hb:qf w g e cur):qf (sortWorldK PT.cells 6 w g 0 n ps.toArray os) g e (putCells id 0 (flatK PT.cells 6 ps.toArray) cur):=by
 have hl:=hb.lt;unfold qf at*;unfold sortWorldK putRowK putRow;rw[heap_grow_old _ _ (by simpa[mapBlock,ahead]using hl)];simp[mapBlock,Array.getElem?_modify,hb,onCells]
theorem qbv{w:World}{g n k:Nat}{os:Array Obj}(ps:List PT)(hk:k<w.heap.size)(Xl:k≠g):(sortWorldK PT.cells 6 w g 0 n ps.toArray os).heap[k]? =w.heap[k]?:=by
 unfold sortWorldK putRowK putRow;rw[heap_grow_old _ _ (by simpa[mapBlock,ahead]using hk)];have:g≠k:=fun e=>Xl e.symm;simp[mapBlock,Array.getElem?_modify,this]
theorem qeN(w:World)(g n:Nat)(os:Array Obj)(ps:List PT):w.heap.size<=(sortWorldK PT.cells 6 w g 0 n ps.toArray os).heap.size:=by
 unfold sortWorldK putRowK putRow;rw[size_grow];simp[mapBlock]
theorem qc4{w:World}{base g n:Nat}{os:Array Obj}(ps:List PT)(hb:base<=w.heap.size)(hg:base<=g):RowKit.Below base w (sortWorldK PT.cells 6 w g 0 n ps.toArray os):=
 ⟨rfl,rfl,rfl,qeN ..,fun _ hk=>qbv ps (by omega) (by omega)⟩
theorem qfW(cur:Array Value)(F:Array Value)(h:F.size<=cur.size):(putCells id 0 F cur).toList.take F.size=F.toList:=by
 apply List.ext_getElem?;intro j;by_cases hj:j<F.size
 ·rw[List.getElem?_take_of_lt hj,Array.getElem?_toList];simp[putCells,hj,show j<cur.size by omega]
 ·rw[List.getElem?_take_eq_none (by omega),List.getElem?_eq_none (by simp;omega)]
theorem qgT{w:World}{base g cap n:Nat}{os:Array Obj}{ps ps':List PT}(hl:ps'.length=ps.length)(h:w.ownsRow base 127 6 (.slice (some ⟨g,0,none⟩) ps.length cap) ps.length (ps.flatMap PT.cells)):
 (sortWorldK PT.cells 6 w g 0 n ps'.toArray os).ownsRow base 127 6 (.slice (some ⟨g,0,none⟩) ps'.length cap) ps'.length (ps'.flatMap PT.cells):=by
 obtain⟨h0,h⟩:=h;rcases h with⟨h,_⟩|⟨g',cap',cur,hv,hb,hh,h1,h2,h3,h4⟩
 ·cases h
 ·injection hv with hv _ hc
  injection hv with hv
  injection hv with hv
  subst hv;subst hc;have hF:(flatK PT.cells 6 ps'.toArray).size=ps'.length*6:=by simp
  refine⟨qcD ps',.inr ⟨g,cap,_,rfl,hb,qei ps' hh,by omega,h2,by simp[putCells,h3],?_⟩⟩;have Vo:ps'.length*6<=cap*6:=by rw[hl];exact Nat.mul_le_mul_right 6 h1
  rw[<-qct,<-hF];exact qfW cur _ (by rw[hF,h3];exact Vo)
theorem qgh{w:World}{base g cap:Nat}{ps:List PT}(h:w.ownsRow base 127 6 (.slice (some ⟨g,0,none⟩) ps.length cap) ps.length (ps.flatMap PT.cells)):HoldsK PT.cells 6 w g 0 ps.toArray:=by
 obtain⟨cur,hk,_,_,hc⟩:=own_blk h;intro j hj;have hs:j<(flatK PT.cells 6 ps.toArray).size:=hj;refine⟨?_,hk.frozen _⟩;rw[hk.cell,Nat.zero_add];refine hc j _ ?_;rw[<-qct,Array.getElem?_toList,Array.getElem?_eq_getElem hs,id_eq,getElem!_pos _ j hs]
theorem qj3{ps:List PT}{d':Array PT}(h:PermIn 0 ps.toArray.size ps.toArray d'):d'.toList.Perm ps/\d'.size=ps.length:=by
 obtain⟨h1,_,h3⟩:=h;refine⟨?_,by simpa using h1⟩;have e1:(d'.extract 0 ps.toArray.size).toList=d'.toList:=by rw[<-h1];simp
 have e2:(ps.toArray.extract 0 ps.toArray.size).toList=ps:=by simp
 rw[e1,e2]at h3;exact h3
theorem qgO{ps:List PT}{d':Array PT}(hs:d'.size=ps.length)(h:SortedIn (ltOf cfT) 0 ps.toArray.size d'):(d'.toList.map PT.tm).Pairwise fun s t=>¬Zc s.2 t.2:=by
 rw[List.pairwise_iff_getElem];intro i j hi hj CA;have EL:i<d'.size:=by simpa using hi
 have Fp:j<d'.size:=by simpa using hj
 have:=h i j (Nat.zero_le _) CA (by simp;omega);rw[ltT,getElem!_pos _ i EL,getElem!_pos _ j Fp]at this;simp only[decide_eq_false_iff_not]at this;simpa[PT.tm]using this
