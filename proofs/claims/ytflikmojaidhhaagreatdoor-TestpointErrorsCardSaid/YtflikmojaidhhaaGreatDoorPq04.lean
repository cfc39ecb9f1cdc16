import Derived.IntWalk
import Derived.Sort.Grow
import Derived.Test.YtflikmojaidhhaaGreatDoorPq03
import Derived.Test.YtflikmojaidhhaaGreatDoorPqA
namespace Go.Proofs.YtflikmojaidhhaaGreatDoor
open Go.RowKit
abbrev qm(t:RP)(A:Oa)(c:Nat)(K:Oa)(kc:Nat):Value:= .agg #[.int .i64 t.lv,.bool t.ng,.slice A t.ds.length c,.slice K t.ks.length kc]
set_option maxHeartbeats 2000000
set_option maxRecDepth 100000
theorem qcG(dg:Nat)(Xr:dg<=1000):∀(D:Nat)(t:RP),qC t<=D->∀(A:Oa)(c:Nat)(K:Oa)(kc B:Nat)(n:Int)(d:Nat)(w:World),B<=w.heap.size->RV w (· <B) t (qe t A c K kc)->0<=n->n<=1000000->d<=1000->
 Calls Tryz.prog 37 #[qm t A c K kc,.int .i64 n,.int .i64 (d:Int),.int .i64 (dg:Int)] w fun e w'=>e= .returned (.int .i64 (jX dg t n d))/\Below w.heap.size w w'
 |0,t,hD,_,_,_,_,_,_,_,_,_,_,_,_,_=>by cases t;simp only[qC]at hD;omega
 |D+1,t,hD,A,c,K,kc,B,n,d,w,hB,h,Sr,Ti,hd=>by
  have IH:=Gh (qcG dg Xr D);have HR:=Gh (fun(W:World)(hW:Below w.heap.size w W)=>h.below (hW.mono hB));have HD:=Gh (fun(u:RP)(hu:u∈t.ks)=>show qC u<=D by have:=qY hu;omega);have HB:=Gh hB;have UU:=Gb w (.cells (Gx t A c K kc) 28);have kbx:=qf.new w 28 (Gx t A c K kc);have Up:=Gh UU;have DL:=Gh kbx;rw[qhC];have hm:IntKind.i64.wrap (n-1)=n-1:=IntWalk.i64_in _ (by omega);clear h hD UU kbx hB;by_cases h0:d=0
  ·subst h0;rw[if_pos rfl];go_enter Tryz.func37,Tryz.ntmps37
   go_wp2_with fail
   go_ret
   exact⟨rfl,Up⟩
  ·rw[if_neg h0];have i0:((d:Int)==0)=false:=by simp;omega
   by_cases h1:dg<t.ds.length
   ·rw[if_pos h1];clear h0;go_enter Tryz.func37,Tryz.ntmps37
    go_wp2_with fail
    go_ret
    exact⟨rfl,Up⟩
   ·rw[if_neg h1];have h1:t.ds.length<=dg:=by omega
    by_cases h2:12<t.ks.length
    ·rw[if_pos h2];have i2:(12:Int)<(t.ks.length:Int):=by omega
     clear h0 h2;go_enter Tryz.func37,Tryz.ntmps37
     go_wp2_with fail
     go_ret
     exact⟨rfl,Up⟩
    ·rw[if_neg h2];have i2:(t.ks.length:Int)<=12:=by omega
     have HN:=Gh Sr;have Ts:=Gh Ti;have H0:=Gh h0;have Rh:(d:Int)-1=((d-1:Nat):Int):=by omega
     have F4:IntKind.i64.wrap ((d-1:Nat):Int)=((d-1:Nat):Int):=IntWalk.i64_in _ (by omega);have TK:=Gh (show d-1<=1000 by omega);clear h0 h2;generalize d-1=d' at*;go_enter Tryz.func37,Tryz.ntmps37
     go_wp2_with fail
     generalize VA:w.alloc (.cells (Gx t A c K kc) 28)=w1 at*;clear VA;go_loopg [1,9,31] t.ks.length (fun gn nv _ ix wr=>∃k:Nat,k<=t.ks.length/\gn=t.ks.length-k/\ix= .int .i64 k/\nv= .int .i64 (jx dg (t.ks.take k) (n-1) d')/\Below w.heap.size w wr/\qf wr w.heap.size 28 (Gx t A c K kc))
     case atStart=>exact⟨0,Nat.zero_le _,rfl,rfl,by simp[jx],Up,DL⟩
     case round=>
      obtain⟨k,hk,XG,rfl,rfl,Xe,VS⟩:=hrel;have HG:=Gh XG;clear XG;have Et:=Z2 dg (t.ks.take k) (n-1) d' (by have:=HN.out;omega);have MM:=Gh (fun u (hu:t.ks[k]? =some u) h0=>qd7 (dg:=dg) hu (n-1) d' h0);have XH:=Gh (fun(hk:k<t.ks.length) h0=>qeK (dg:=dg) hk (n-1) d' h0);have Vl:=Gh (show t.ks.length<=k->jx dg (t.ks.take k) (n-1) d'=jx dg t.ks (n-1) d' from fun h=>by rw[List.take_of_length_le h]);generalize jx dg (t.ks.take k) (n-1) d'=v at*;have c0:wr.cell? ⟨w.heap.size,0,none⟩=some (.int .i64 t.lv):=VS.cell 0;have c1:wr.cell? ⟨w.heap.size,1,none⟩=some (.bool t.ng):=VS.cell 1;have c2:wr.cell? ⟨w.heap.size,2,none⟩=some (.slice A t.ds.length c):=VS.cell 2;have c3:wr.cell? ⟨w.heap.size,3,none⟩=some (.slice K t.ks.length kc):=VS.cell 3;by_cases Xi:k<t.ks.length
      ·by_cases hv:v<0
       ·clear hm Rh F4;go_wp2_with fail
        go_ret
        exact⟨by rw[XH Xi hv];rfl,Xe⟩
       ·obtain⟨u,hu⟩:∃u,t.ks[k]? =some u:=⟨_,Gn Xi⟩;have UD:=HR.out wr Xe;obtain⟨b,o,A',c',K',kc',rfl,Tn,e0,e1,e2,e3,XN⟩:=UD.kid hu;have UT:=UD.node.2.2.2;have U5:=Gh (IH u (HD u (Gk hu)) A' c' K' kc' wr.heap.size v d' wr (Gr _) (XN.more (Gl HB Xe.size)) (by omega) (by have:=Ts.out;omega) TK);have Vu:=Gh (MM u hu (by omega));have i3:(0:Int)<=(k:Int):=by omega
        have i4:(k:Int)<(t.ks.length:Int):=by omega
        have i5:(t.ks.length:Int)<=(kc:Int):=by omega
        have Xh:=Gh Xe;have UW:=Gh VS;have Iy:0<=v:=by omega
        clear hu UD XN UT Xe VS hv;go_wp2_with fail
        refine U5.out.mono ?_;rintro e w2 ⟨rfl,Xf⟩;have Xw:=Gh (Gt Xh Xf);have XA:=Gh (UW.out.old Xf);clear Xf U5 Xh UW;go_wp2_with fail
        go_roundg (t.ks.length-(k+1))
        case rel=>exact⟨k+1,by omega,rfl,by go_num,by rw[Vu.out],Xw,XA⟩
        case measure=>have:=HG.out;omega
      ·obtain rfl:k=t.ks.length:=by omega
       clear hm Rh F4;go_wp2_with fail
       go_ret
       exact⟨by rw[<-Vl (Gr _)];rfl,Xe⟩
theorem qiR(t:RP)(A:Oa)(c:Nat)(K:Oa)(kc B n dg:Nat)(w:World)(hB:B<=w.heap.size)(h:RV w (· <B) t (qe t A c K kc))(hn:n<=1000000)(Xr:dg<=1000):
 Calls Tryz.prog 15 #[qm t A c K kc,.int .i64 (n:Int),.int .i64 (dg:Int)] w fun e w'=>e= .returned (.bool (decide (0<=jX dg t n 6)))/\Below w.heap.size w w':=by
 have UU:=Gb w (.cells (Gx t A c K kc) 28);have HR:=Gh (qcG dg Xr (qC t) t (Gr _) A c K kc B n 6 _ (Gl hB UU.size) (h.below (UU.mono hB)) (by omega) (by omega) (by omega));have Up:=Gh UU;clear UU h hB;generalize jX dg t n 6=r at*;go_enter Tryz.func15,Tryz.ntmps15
 go_wp2_with fail
 refine HR.out.mono ?_;rintro e w2 ⟨rfl,hb⟩;go_wp2_with fail
 go_ret
 exact⟨rfl,Gt Up hb⟩
theorem qhB(l:Int)(w:World):Calls Tryz.prog 34 #[.int .i64 l] w fun e w'=>e= .returned (.bool (decide (1<=l)&&decide (l<=4)))/\w=w':=by
 by_cases h1:1<=l
 ·by_cases h2:l<=4
  ·have e:(decide (1<=l)&&decide (l<=4))=true:=by simp[h1,h2]
   rw[e];go_enter Tryz.func34,Tryz.ntmps34
   go_wp2
   go_ret
   exact⟨by simp,rfl⟩
  ·have e:(decide (1<=l)&&decide (l<=4))=false:=by simp[h2]
   rw[e];go_enter Tryz.func34,Tryz.ntmps34
   go_wp2
   go_ret
   exact⟨by simp,rfl⟩
 ·have e:(decide (1<=l)&&decide (l<=4))=false:=by simp[h1]
  rw[e];go_enter Tryz.func34,Tryz.ntmps34
  go_wp2
  go_ret
  exact⟨by simp,rfl⟩
theorem zf(t:RP)(A:Oa)(c:Nat)(K:Oa)(kc:Nat)(w:World):
 Calls Tryz.prog 36 #[qm t A c K kc] w fun e w'=>e= .returned (.bool (qI t))/\Below w.heap.size w w':=by
 have UU:=Gb w (.cells (Gx t A c K kc) 28);have Up:=Gh UU;clear UU;unfold qI;by_cases h0:t.lv=0
 ·have e0:(t.lv==0)=true:=by simp[h0]
  have e1:decide (t.lv=0)=true:=by simp[h0]
  rw[e1];clear h0 e1;have HE:=Gh (show((t.ds.length:Int)==0)=(true&&decide (t.ds.length=0))by
   by_cases h:t.ds.length=0
   ·simp[h]
   ·have:¬((t.ds.length:Int)=0):=by omega
    simp[h])
  go_enter Tryz.func36,Tryz.ntmps36
  go_wp2_with fail
  go_ret
  exact⟨by rw[<-HE.out];rfl,Up⟩
 ·have e0:(t.lv==0)=false:=by simp[h0]
  have e1:decide (t.lv=0)=false:=by simp[h0]
  rw[e1];clear h0 e1;go_enter Tryz.func36,Tryz.ntmps36
  go_wp2_with fail
  go_ret
  exact⟨rfl,Up⟩
theorem Qk(x:Nat)(h:x≠0):((x:Int)==0)=false:=by
 have:¬(x:Int)=0:=by omega
 simpa using this
theorem qiC(x:Nat):((x:Int) != 0)=decide (x≠0):=by
 by_cases h:x=0
 ·subst h;rfl
 ·rw[decide_eq_true h];simpa using h
theorem Js.mem{dg:Nat}{ts:List RP}(h:Js dg ts){u:RP}(hu:u∈ts):ym dg u:=by
 induction ts with
 |nil=>cases hu
 |cons t ts ih=>
  simp only[Js]at h;rcases List.mem_cons.1 hu with rfl|hu
  ·exact h.1
  ·exact ih h.2 hu
theorem ym.at_{dg:Nat}{t:RP}(h:ym dg t):t.ds.length<=dg/\t.ks.length<=40/\∀u∈t.ks,ym dg u:=by
 cases t
 simp only[ym]at h;exact⟨h.1,h.2.1,fun u hu=>h.2.2.mem hu⟩
theorem qj0(t:RP):qv t=if t.lv=0 then(if 0<t.ks.length then false else YC t.ng t.ds)
 else if(decide (1<=t.lv)&&decide (t.lv<=4)&&decide (t.ds.length=0)&& !t.ng&&decide (2<=t.ks.length))=false then false
 else if zT t.lv t.ks=false then false else Zi t.ks:=by
 cases t
 rw[qv];rfl
set_option maxHeartbeats 4000000
theorem qa7(dg:Nat)(Xr:dg<=1000):∀(D:Nat)(t:RP),qC t<=D->ym dg t->∀(A:Oa)(c:Nat)(K:Oa)(kc B:Nat)(w:World),B<=w.heap.size->RV w (· <B) t (qe t A c K kc)->
 Calls Tryz.prog 73 #[qm t A c K kc] w fun e w'=>e= .returned (.bool (qv t))/\Below w.heap.size w w'
 |0,t,hD,_,_,_,_,_,_,_,_,_=>by cases t;simp only[qC]at hD;omega
 |D+1,t,hD,hf,A,c,K,kc,B,w,hB,h=>by
  have IH:=Gh (qa7 dg Xr D);have HR:=Gh (fun(W:World)(hW:Below w.heap.size w W)=>h.below (hW.mono hB));have HD:=Gh (fun(u:RP)(hu:u∈t.ks)=>show qC u<=D by have:=qY hu;omega);have HF:=Gh hf.at_.2.2;have HB:=Gh hB;have UU:=Gb w (.cells #[.int .i64 t.lv,.bool t.ng,.slice A t.ds.length c,.slice K t.ks.length kc] 28);have kbx:=qf.new w 28 #[.int .i64 t.lv,.bool t.ng,.slice A t.ds.length c,.slice K t.ks.length kc];have Up:=Gh (fun(cs:Array Value)=>Gb w (.cells cs 28));have DL:=Gh kbx;have Uo:=hf.at_.1;have TU:=hf.at_.2.1;have XP:=qj0 t;unfold YC at XP;show Calls Tryz.prog 73 #[.agg #[.int .i64 t.lv,.bool t.ng,.slice A t.ds.length c,.slice K t.ks.length kc]] w _;clear h hD hB hf;generalize Sq:t.ds.length=nd at*;generalize Vx:t.ks.length=nk at*;have RG:=Gh Sq;have UB:=Gh Vx;clear Sq Vx;by_cases h0:t.lv=0
  ·rw[if_pos h0]at XP;have e0:(t.lv==0)=true:=by simp[h0]
   clear h0;by_cases h1:0<nk
   ·rw[if_pos h1]at XP;have i1:(0:Int)<(nk:Int):=by omega
    have HV:=Gh XP;clear XP;go_enter Tryz.func73,Tryz.ntmps73
    go_wp2_with fail
    go_ret
    exact⟨by rw[HV.out];rfl,Up _⟩
   ·rw[if_neg h1]at XP;have h1:nk=0:=by omega
    have i1:(nk:Int)<=0:=by omega
    have Xo:=Gh h1;clear h1;by_cases h2:nd=0
    ·rw[if_pos h2]at XP;have e2:((nd:Int)==0)=true:=by simp[h2]
     have i2:(nd:Int)<=0:=by omega
     clear h2;have HV:=Gh XP;clear XP;go_enter Tryz.func73,Tryz.ntmps73
     go_wp2_with fail
     all_goals
      go_ret
      exact⟨by rw[HV.out];simp[*],Up _⟩
    ·rw[if_neg h2]at XP;obtain⟨m,hm⟩:∃m,nd=m+1:=⟨nd-1,by omega⟩;have UD:=HR.out _ UU;obtain⟨b,o,rfl,Tn,c0⟩:=jA (ds:=t.ds) UD.natIn.rd (k:=m) (by rw[RG,hm];exact Nat.lt_succ_self m);have LJ:nd-1=m:=by omega
     rw[LJ]at XP;have e2:((nd:Int)==0)=false:=Qk _ h2;have i2:(0:Int)<(nd:Int):=by omega
     have i3:(nd:Int)-1=(m:Int):=by omega
     have i4:(0:Int)<=(m:Int):=by omega
     have i5:(m:Int)<(nd:Int):=by omega
     have hx:=qkU UD.node.2.1 m;have HE:=Gh (qiC (t.ds.getD m 0));generalize t.ds.getD m 0=x at*;clear hm LJ h2 UD;have HV:=Gh XP;clear XP;go_enter Tryz.func73,Tryz.ntmps73
     go_wp2_with fail
     go_ret
     exact⟨by rw[HV,<-HE.out];rfl,Up _⟩
  ·rw[if_neg h0]at XP;have e0:(t.lv==0)=false:=by simp[h0]
   have HL:=Gh (fun(W:World)=>qhB t.lv W);have HZR:=Gh (fun(u:RP)(A:Oa)(c:Nat)(K:Oa)(kc:Nat)(W:World)=>zf u A c K kc W);clear h0;by_cases hl:(decide (1<=t.lv)&&decide (t.lv<=4))=true
   ·rw[hl]at HL XP;have AM:1<=t.lv/\t.lv<=4:=by simpa using hl
    clear hl;by_cases h2:nd=0
    ·subst h2;have x2:decide ((0:Nat)=0)=true:=rfl;rw[x2]at XP;clear x2;by_cases h3:t.ng=true
     ·rw[h3]at XP;have HV:=Gh XP;clear XP;go_enter Tryz.func73,Tryz.ntmps73
      go_wp2_with fail
      refine(HL _).mono ?_;rintro e w2 ⟨rfl,rfl⟩;go_wp2_with fail
      go_ret
      exact⟨by rw[HV.out];rfl,Up _⟩
     ·have h3:t.ng=false:=by simpa using h3
      rw[h3]at XP;by_cases h4:2<=nk
      ·have x4:decide (2<=nk)=true:=decide_eq_true h4;rw[x4,if_neg (by decide)]at XP;have i4:(2:Int)<=(nk:Int):=by omega
       clear x4;have HV:=Gh XP;clear XP;go_enter Tryz.func73,Tryz.ntmps73
       go_wp2_with fail
       refine(HL _).mono ?_;rintro e w2 ⟨rfl,rfl⟩;go_wp2_with fail
       have Ii:=Gh (fun(cs:Array Value)=>qf.new w 28 cs);clear h3 DL;have HNL:=Gh (show nk<=40 from TU);go_loopg [6,63] nk (fun gn _ ix wr=>∃k:Nat,k<=nk/\gn=nk-k/\ix= .int .i64 k/\zT t.lv (t.ks.take k)=true/\Below w.heap.size w wr/\qf wr w.heap.size 28 #[.int .i64 t.lv,.bool false,.slice A 0 c,.slice K nk kc])
       case atStart=>exact⟨0,Nat.zero_le _,rfl,rfl,by simp[zT],Up _,Ii _⟩
       case round=>
        obtain⟨k,hk,XG,rfl,XM,Xe,VS⟩:=hrel;have HG:=Gh XG;have Ud:=Gh XM;clear XG XM;have c0:wr.cell? ⟨w.heap.size,0,none⟩=some (.int .i64 t.lv):=VS.cell 0;have c3:wr.cell? ⟨w.heap.size,3,none⟩=some (.slice K nk kc):=VS.cell 3;have UD:=HR.out wr Xe;have UT:=UD.node.2.2.2;rw[UB.out]at UT;have i5:(nk:Int)<=(kc:Int):=by omega
        have lw:=VS.lt;by_cases Xi:k<nk
        ·obtain⟨u,hu⟩:∃u,t.ks[k]? =some u:=⟨_,Gn (by rw[UB.out];exact Xi)⟩;obtain⟨b,o,A',c',K',kc',rfl,Tn,e0,e1,e2,e3,XN⟩:=UD.kid hu;have US:=Gk hu;have U5:=Gh (fun(W:World)(hW:Below wr.heap.size wr W)=>IH u (HD u US) (HF u US) A' c' K' kc' wr.heap.size W hW.size ((XN.more (Gl HB Xe.size)).below hW));have MM:=Gh (qbg t.lv t.ks k u hu);have Mc:=Gh (qcL t.lv t.ks k u hu);have i3:(0:Int)<=(k:Int):=by omega
         have i4:(k:Int)<(nk:Int):=by omega
         have Xh:=Gh Xe;have UW:=Gh VS;clear hu UD XN UT Xe VS US;unfold qm at U5;generalize u.ds.length=ud at*;generalize u.ks.length=uk at*;generalize u.ng=ug at*;have Ue:=Gh (fun(cs:Array Value)=>Gb wr (.cells cs 28));by_cases SM:t.lv<=u.lv
         ·have hb:(decide (u.lv<t.lv)&&qv u)=false:=by rw[decide_eq_false (by omega)];rfl
          have HF0:=Gh (Mc hb);clear hb;go_wp2_with fail
          go_ret
          exact⟨by rw[HV,HF0.out];rfl,Xh.out.trans ((Ue _).mono Xh.out.size)⟩
         ·have hd:decide (u.lv<t.lv)=true:=decide_eq_true (by omega);have SM:u.lv<t.lv:=by omega
          rw[hd,Bool.true_and]at MM Mc;clear hd;have TZ:=Gh (U5 _ (Ue #[.int .i64 u.lv,.bool ug,.slice A' ud c',.slice K' uk kc']));go_wp2_with fail
          refine TZ.out.mono ?_;rintro e w2 ⟨rfl,Xf⟩;have hb:=(Ue #[.int .i64 u.lv,.bool ug,.slice A' ud c',.slice K' uk kc']).trans (Xf.mono (Ue _).size);have Um:=Gh (Gt Xh hb);have Uk:=Gh (UW.out.old hb);clear hb Xf TZ U5 Ue Xh UW;generalize XP:qv u=cb at*;clear XP
          cases cb with
          |false=>
           have HF0:=Gh (Mc rfl);go_wp2_with fail
           go_ret
           exact⟨by rw[HV,HF0.out];rfl,Um⟩
          |true=>
           go_wp2_with fail
           go_roundg (nk-(k+1))
           case rel=>exact⟨k+1,by omega,rfl,by go_num,by rw[MM,Ud.out];rfl,Um,Uk⟩
           case measure=>have:=HG.out;omega
        ·obtain rfl:k=nk:=by omega
         obtain⟨m,hm⟩:∃m,k=m+1:=⟨k-1,by omega⟩;have Vb:(k:Int)-1=(m:Int):=by omega
         obtain⟨u,hu⟩:∃u,t.ks[m]? =some u:=⟨_,Gn (by rw[UB.out];omega)⟩;obtain⟨b,o,A',c',K',kc',rfl,Tn,e0,e1,e2,e3,XN⟩:=UD.kid hu;have i3:(0:Int)<=(m:Int):=by omega
         have i4:(m:Int)<(k:Int):=by omega
         have KE:=Gh (show(if zT t.lv t.ks=false then false else Zi t.ks)= !qI u by
          have hc:=Ud.out;rw[List.take_of_length_le (by rw[UB.out];exact Gr _)]at hc;rw[hc,if_neg (by decide)];unfold Zi;rw[UB,hm,Nat.add_sub_cancel,hu])
         have Vc:=Gh (HZR u A' c' K' kc' wr);unfold qm at Vc;have Xh:=Gh Xe;clear hu UD XN UT Xe VS hm;generalize u.ds.length=ud at*;generalize u.ks.length=uk at*;generalize u.ng=ug at*;go_wp2_with fail
         refine Vc.out.mono ?_;rintro e w2 ⟨rfl,Xf⟩;go_wp2_with fail
         go_ret
         exact⟨by rw[HV,KE.out];rfl,Gt Xh Xf⟩
      ·have x4:decide (2<=nk)=false:=decide_eq_false h4;have i4:(nk:Int)<2:=by omega
       rw[x4]at XP;clear x4 h4;have HV:=Gh XP;clear XP;go_enter Tryz.func73,Tryz.ntmps73
       go_wp2_with fail
       refine(HL _).mono ?_;rintro e w2 ⟨rfl,rfl⟩;go_wp2_with fail
       go_ret
       exact⟨by rw[HV.out];rfl,Up _⟩
    ·have x2:decide (nd=0)=false:=decide_eq_false h2;have i2:(0:Int)<(nd:Int):=by omega
     rw[x2]at XP;clear x2 h2;have HV:=Gh XP;clear XP;go_enter Tryz.func73,Tryz.ntmps73
     go_wp2_with fail
     refine(HL _).mono ?_;rintro e w2 ⟨rfl,rfl⟩;go_wp2_with fail
     go_ret
     exact⟨by rw[HV.out];rfl,Up _⟩
   ·have hl:(decide (1<=t.lv)&&decide (t.lv<=4))=false:=by simpa using hl
    rw[hl]at HL XP;clear hl;have HV:=Gh XP;clear XP;go_enter Tryz.func73,Tryz.ntmps73
    go_wp2_with fail
    refine(HL _).mono ?_;rintro e w2 ⟨rfl,rfl⟩;go_wp2_with fail
    go_ret
    exact⟨by rw[HV.out];rfl,Up _⟩
def yB(w:World)(base:Nat)(b:Nat):Prop:=(∃cs,qf w b 123 cs)∨(base<=b/\∃cs,qf w b 28 cs)
def RB(w:World)(base:Nat)(t:RP)(vs:List Value):Prop:=RV w (yB w base) t vs
theorem yB.lt{w:World}{base b:Nat}(h:yB w base b):b<w.heap.size:=by
 rcases h with⟨cs,h⟩|⟨_,cs,h⟩<;>exact h.lt
theorem yB.mono{w:World}{base base' b:Nat}(h:yB w base b)(hb:base'<=base):yB w base' b:=h.imp id fun⟨h1,h2⟩=>⟨Gl hb h1,h2⟩
theorem qf.cell_eq{w w':World}{g:Nat}{t:TypeId}{cs:Array Value}(h:qf w g t cs)(h':qf w' g t cs)(o:Nat):w'.cell? ⟨g,o,none⟩=w.cell? ⟨g,o,none⟩:=(h'.cell o).trans (h.cell o).symm
theorem yB.keep{w w':World}{base base':Nat}(hu:∀g cs,qf w g 123 cs->qf w' g 123 cs)(hr:∀g cs,base<=g->qf w g 28 cs->qf w' g 28 cs)(hb:base'<=base):
 (∀b,yB w base b->∀o,w'.cell? ⟨b,o,none⟩=w.cell? ⟨b,o,none⟩)/\∀b,yB w base b->yB w' base' b:=by
 refine⟨fun b h o=>?_,fun b h=>?_⟩
 ·rcases h with⟨cs,h⟩|⟨h0,cs,h⟩
  ·exact h.cell_eq (hu b cs h) o
  ·exact h.cell_eq (hr b cs h0 h) o
 ·rcases h with⟨cs,h⟩|⟨h0,cs,h⟩
  ·exact .inl ⟨cs,hu b cs h⟩
  ·exact .inr ⟨Gl hb h0,cs,hr b cs h0 h⟩
theorem RB.keep{w w':World}{base base':Nat}{t:RP}{vs:List Value}(h:RB w base t vs)(hu:∀g cs,qf w g 123 cs->qf w' g 123 cs)(hr:∀g cs,base<=g->qf w g 28 cs->qf w' g 28 cs)(hb:base'<=base):RB w' base' t vs:=by
 obtain⟨h1,h2⟩:=yB.keep hu hr hb;exact RV.mono h2 t vs (RV.keep h1 t vs h)
theorem RBs.keep{w w':World}{base base':Nat}{ts:List RP}{rows:List (List Value)}(h:qG w (yB w base) ts rows)(hu:∀g cs,qf w g 123 cs->qf w' g 123 cs)(hr:∀g cs,base<=g->qf w g 28 cs->qf w' g 28 cs)(hb:base'<=base):qG w' (yB w' base') ts rows:=by
 obtain⟨h1,h2⟩:=yB.keep hu hr hb;exact qG.mono h2 ts rows (qG.keep h1 ts rows h)
theorem RB.old{w w':World}{base:Nat}{t:RP}{vs:List Value}(h:RB w base t vs)(hb:Below w.heap.size w w'):RB w' base t vs:=RB.keep h (fun _ _ k=>k.old hb) (fun _ _ _ k=>k.old hb) (Gr _)
theorem RB.mono{w:World}{base base':Nat}{t:RP}{vs:List Value}(h:RB w base t vs)(hb:base'<=base):RB w base' t vs:=RB.keep h (fun _ _ k=>k) (fun _ _ _ k=>k) hb
theorem RB.rv{w:World}{base:Nat}{t:RP}{vs:List Value}(h:RB w base t vs):RV w (· <w.heap.size) t vs:=RV.mono (fun _ hb=>hb.lt) t vs h
theorem Qy{w:World}{g o:Nat}{cs:Array Value}{u:Value}(h:qf w g 28 cs):(∀k ds,qf w k 123 ds->qf (w.setCell ⟨g,o,none⟩ u) k 123 ds)/\∀k ds,g+1<=k->qf w k 28 ds->qf (w.setCell ⟨g,o,none⟩ u) k 28 ds:=by
 refine⟨fun k ds hk=>hk.far (fun e=>?_) u,fun k ds h0 hk=>hk.far (show k≠g by omega) u⟩;have e:k=g:=e;subst e;unfold qf at hk h;rw[hk]at h
 injection h with h
 injection h with _ h2
 exact absurd h2 (by decide)
theorem qL.readsS{w:World}{base:Nat}{A:Oa}{ds:List Nat}(h:qL w A ds):ju w (yB w base) 1 A ds.length (qp ds):=by
 rcases h with rfl|⟨g,zs,rfl,hb,hd⟩
 ·exact⟨rfl,fun hp=>absurd hp (Nat.lt_irrefl 0)⟩
 ·refine⟨by simp[qp],fun _=>⟨g,0,rfl,.inl ⟨_,hb⟩,fun j u hu=>?_⟩⟩;rw[Nat.zero_add,hb.cell];rw[hd]at hu;simp[qp,List.getElem?_take]at hu ⊢;exact hu.2
theorem RB.const{w:World}{base:Nat}{g:Bool}{ds:List Nat}{A:Oa}{c:Nat}(h:qL w A ds)(hd:jg ds)(hc:ds.length<=c):RB w base (.mk 0 g ds []) (qe (.mk 0 g ds []) A c none 0):=by
 unfold RB RV;exact⟨A,c,none,0,rfl,h.readsS,hd,hc,Nat.zero_le _,[],⟨rfl,fun hp=>absurd hp (Nat.lt_irrefl 0)⟩,by unfold qG;rfl⟩
theorem RB.node{w:World}{base:Nat}{l:Int}{ks:List RP}{g:Nat}{kc:Nat}{rows:List (List Value)}{cur:Array Value}(hl:rows.length=ks.length)(h4:∀r∈rows,r.length=4)(hb:base<=g)(hk:qf w g 28 cur)(hc:∀(j:Nat)(v:Value),rows.flatten[j]? =some v->cur[j]? =some v)(UT:ks.length<=kc)(hr:qG w (yB w base) ks rows):
 RB w base (.mk l false [] ks) (qe (.mk l false [] ks) none 0 (some ⟨g,0,none⟩) kc):=by
 unfold RB RV;refine⟨none,0,some ⟨g,0,none⟩,kc,rfl,⟨rfl,fun hp=>absurd hp (Nat.lt_irrefl 0)⟩,by simp[jg],Nat.zero_le _,UT,rows,⟨?_,fun _=>⟨g,0,rfl,.inr ⟨hb,cur,hk⟩,fun j u hu=>?_⟩⟩,hr⟩
 ·rw[List.length_flatten,<-hl];clear hl hc hr
  induction rows with
  |nil=>rfl
  |cons r rs ih=>
   have:=ih fun x hx=>h4 x (List.mem_cons_of_mem _ hx);have:=h4 r List.mem_cons_self;simp only[List.map_cons,List.sum_cons,List.length_cons];omega
 ·rw[Nat.zero_add];exact(hk.cell j).trans (hc j u hu)
theorem qG.snoc{w:World}{S:Nat->Prop}:∀{ts:List RP} {rows:List (List Value)} {t:RP} {r:List Value},qG w S ts rows->RV w S t r->qG w S (ts++[t]) (rows++[r])
 |[],rows,t,r,h,hr=>by
  unfold qG at h;subst h;simp only[List.nil_append,qG];exact⟨r,[],rfl,hr,rfl⟩
 |s::ts,rows,t,r,h,hr=>by
  unfold qG at h;obtain⟨x,xs,rfl,h2,h3⟩:=h;simp only[List.cons_append,qG];exact⟨x,xs++[r],rfl,h2,qG.snoc h3 hr⟩
theorem jt{rows:List (List Value)}(h4:∀r∈rows,r.length=4):rows.flatten.length=rows.length*4:=by
 induction rows with
 |nil=>rfl
 |cons r rs ih=>
  have h1:=ih fun x hx=>h4 x (List.mem_cons_of_mem _ hx);have h2:=h4 r List.mem_cons_self;rw[List.flatten_cons,List.length_append,List.length_cons,h1,h2];omega
theorem qkl{rows:List (List Value)}(h4:∀r∈rows,r.length=4){cur:Array Value}{k:Nat}(hk:rows.length=k)(hs:k*4+4<=cur.size)(hc:∀(j:Nat)(v:Value),rows.flatten[j]? =some v->cur[j]? =some v)(a b c d:Value):
 ∀(j:Nat)(v:Value),(rows++[[a,b,c,d]]).flatten[j]? =some v->((((cur.setIfInBounds (k*4) a).setIfInBounds (k*4+1) b).setIfInBounds (k*4+2) c).setIfInBounds (k*4+3) d)[j]? =some v:=by
 intro j v hv;have hl:=jt h4;rw[hk]at hl;rw[List.flatten_append]at hv;by_cases hj:j<k*4
 ·rw[List.getElem?_append_left (by omega)]at hv;rw[Array.getElem?_setIfInBounds_ne (by omega),Array.getElem?_setIfInBounds_ne (by omega),Array.getElem?_setIfInBounds_ne (by omega),Array.getElem?_setIfInBounds_ne (by omega)];exact hc j v hv
 ·rw[List.getElem?_append_right (by omega),hl]at hv;obtain⟨i,rfl⟩:∃i,j=k*4+i:=⟨j-k*4,by omega⟩;rw[Nat.add_sub_cancel_left]at hv;rcases(by omega:i=0∨i=1∨i=2∨i=3∨4<=i)with rfl|rfl|rfl|rfl|hi
  ·rw[Array.getElem?_setIfInBounds_ne (by omega),Array.getElem?_setIfInBounds_ne (by omega),Array.getElem?_setIfInBounds_ne (by omega),Nat.add_zero,Array.getElem?_setIfInBounds_self_of_lt (by omega)];simpa using hv
  ·rw[Array.getElem?_setIfInBounds_ne (by omega),Array.getElem?_setIfInBounds_ne (by omega),Array.getElem?_setIfInBounds_self_of_lt (by simp;omega)];simpa using hv
  ·rw[Array.getElem?_setIfInBounds_ne (by omega),Array.getElem?_setIfInBounds_self_of_lt (by simp;omega)];simpa using hv
  ·rw[Array.getElem?_setIfInBounds_self_of_lt (by simp;omega)];simpa using hv
  ·rw[List.getElem?_eq_none (by simp;omega)]at hv
   cases hv
theorem qeP(t:RP):zg t=if t.lv=0 then .mk 0 (decide (qj t.ng t.ds<0)) (dig (val t.ds)) []else .mk t.lv false [] (t.ks.map zg):=by
 cases t
 rw[zg,qeY];rfl
theorem Tryz.sizeRec:(Tryz.prog.info? 28).map (·.size)=some 4:=by kernel_rfl
theorem Tryz.infoRec:(Tryz.prog.info? 28).map (fun i=>(i.zero,i.size,i.bytes))=some (some (.agg #[.int .i64 0,.bool false,.slice none 0 0,.slice none 0 0]),4,64):=by kernel_rfl
theorem Tryz.make_rec(n:Nat)(hn:n<=1000000)(w:World):(Instr.makeSlice 26 (.int .i64 (n:Int)) (.int .i64 (n:Int))).run Tryz.prog w= .ok (.slice (some ⟨w.heap.size,0,none⟩) n n) (w.alloc (.cells (madeCells #[.int .i64 0,.bool false,.slice none 0 0,.slice none 0 0] (n*4)) 28)):=by
 obtain⟨i0,Uw,XU,X7,Xy⟩:=qO Tryz.infoRec;have hr:=run_make (P:=Tryz.prog) w 26 28 i0 _ Tryz.underlying26 Uw XU .i64 .i64 n n (by omega) (by omega) (by rw[Xy];omega) (by omega);simp only[Int.toNat_natCast,X7,Value.cells]at hr;exact hr
mutual
def yP(X:Nat):RP->Prop
 | .mk _ _ ds ks=>ds.length<=X/\ks.length<=X/\SmL X ks
def SmL(X:Nat):List RP->Prop
 |[]=>True
 |t::ts=>yP X t/\SmL X ts
end
theorem SmL.mem{X:Nat}{ts:List RP}:SmL X ts↔∀u∈ts,yP X u:=by
 induction ts with
 |nil=>simp[SmL]
 |cons t ts ih=>simp[SmL,ih]
theorem yP.at_{X:Nat}{t:RP}(h:yP X t):t.ds.length<=X/\t.ks.length<=X/\∀u∈t.ks,yP X u:=by
 cases t
 simp only[yP]at h;exact⟨h.1,h.2.1,SmL.mem.1 h.2.2⟩
theorem yP.mk{X:Nat}{l:Int}{g:Bool}{ds:List Nat}{ks:List RP}(h1:ds.length<=X)(h2:ks.length<=X)(h3:∀u∈ks,yP X u):yP X (.mk l g ds ks):=by
 simp only[yP];exact⟨h1,h2,SmL.mem.2 h3⟩
mutual
theorem ym.sm{dg X:Nat}(h1:dg<=X)(h2:40<=X):∀(t:RP),ym dg t->yP X t
 | .mk l g ds ks,h=>by
   simp only[ym]at h;simp only[yP];exact⟨by omega,by omega,Js.sm h1 h2 ks h.2.2⟩
theorem Js.sm{dg X:Nat}(h1:dg<=X)(h2:40<=X):∀(ts:List RP),Js dg ts->SmL X ts
 |[],_=>by simp[SmL]
 |t::ts,h=>by
  simp only[Js]at h;simp only[SmL];exact⟨ym.sm h1 h2 t h.1,Js.sm h1 h2 ts h.2⟩
end
theorem jm{w:World}{g k:Nat}{cur:Array Value}(h:qf w g 28 cur)(a b c d:Value):
 qf ((((w.setCell ⟨g,k,none⟩ a).setCell ⟨g,k+1,none⟩ b).setCell ⟨g,k+2,none⟩ c).setCell ⟨g,k+3,none⟩ d) g 28 ((((cur.setIfInBounds k a).setIfInBounds (k+1) b).setIfInBounds (k+2) c).setIfInBounds (k+3) d)/\
  (∀j ds,qf w j 123 ds->qf ((((w.setCell ⟨g,k,none⟩ a).setCell ⟨g,k+1,none⟩ b).setCell ⟨g,k+2,none⟩ c).setCell ⟨g,k+3,none⟩ d) j 123 ds)/\
  (∀j ds,g+1<=j->qf w j 28 ds->qf ((((w.setCell ⟨g,k,none⟩ a).setCell ⟨g,k+1,none⟩ b).setCell ⟨g,k+2,none⟩ c).setCell ⟨g,k+3,none⟩ d) j 28 ds):=by
 have h1:=h.set_ k a;have h2:=h1.set_ (k+1) b;have h3:=h2.set_ (k+2) c;obtain⟨u0,r0⟩:=Qy (o:=k) (u:=a) h;obtain⟨u1,r1⟩:=Qy (o:=k+1) (u:=b) h1;obtain⟨u2,r2⟩:=Qy (o:=k+2) (u:=c) h2;obtain⟨u3,r3⟩:=Qy (o:=k+3) (u:=d) h3;exact⟨h3.set_ (k+3) d,fun j ds hj=>u3 _ _ (u2 _ _ (u1 _ _ (u0 _ _ hj))),fun j ds hg hj=>r3 _ _ hg (r2 _ _ hg (r1 _ _ hg (r0 _ _ hg hj)))⟩
def Zu(t:RP)(w:World)(e:Ending)(w':World):Prop:=∃A c K kc,e= .returned (qm (zg t) A c K kc)/\RB w' w.heap.size (zg t) (qe (zg t) A c K kc)/\Below w.heap.size w w'
structure qeL (w:World) (t:RP) (g nk k:Nat) (bx:Array Value) (W:World) (cur:Array Value) (rows:List (List Value)):Prop where
 row:qf W g 28 cur
 siz:cur.size=nk*4
 len:rows.length=k
 four:∀r∈rows,r.length=4
 at_:∀(j:Nat)(v:Value),rows.flatten[j]? =some v->cur[j]? =some v
 kids:qG W (yB W (g+1)) ((t.ks.take k).map zg) rows
 bel:Below w.heap.size w W
 par:qf W w.heap.size 28 bx
 res:qf W (w.heap.size+1) 28 #[.int .i64 0,.bool false,.slice none 0 0,.slice none 0 0]
theorem qeL.next{w:World}{t u:RP}{g nk k:Nat}{bx:Array Value}{W W1 W2:World}{cur:Array Value}{rows:List (List Value)}{A K:Oa}{c kc:Nat}(h:qeL w t g nk k bx W cur rows)(hk:k<nk)(hg:w.heap.size+1<g)(hu:t.ks[k]? =some u)
 (h1:Below W.heap.size W W1)(h2:RB W2 W1.heap.size (zg u) (qe (zg u) A c K kc))(h3:Below W1.heap.size W1 W2):
 ∃cur',qeL w t g nk (k+1) bx ((((W2.setCell ⟨g,k*4,none⟩ (.int .i64 (zg u).lv)).setCell ⟨g,k*4+1,none⟩ (.bool (zg u).ng)).setCell ⟨g,k*4+2,none⟩ (.slice A (zg u).ds.length c)).setCell ⟨g,k*4+3,none⟩ (.slice K (zg u).ks.length kc)) cur' (rows++[qe (zg u) A c K kc]):=by
 have hb:Below W.heap.size W W2:=Gt h1 h3;have Ua:=h.row.old hb;obtain⟨s1,s2,s3⟩:=jm (k:=k*4) Ua (.int .i64 (zg u).lv) (.bool (zg u).ng) (.slice A (zg u).ds.length c) (.slice K (zg u).ks.length kc);refine⟨_,s1,by simp[h.siz],by simp[h.len],fun r hr=>?_,qkl h.four h.len (by rw[h.siz];omega) h.at_ _ _ _ _,?_,?_,?_,?_⟩
 ·rcases List.mem_append.1 hr with hr|hr
  ·exact h.four r hr
  ·rw[List.mem_singleton]at hr;rw[hr];rfl
 ·have hl:k<t.ks.length:=(Gi.1 hu).1;have e:t.ks[k]=u:=(Gi.1 hu).2;rw[List.take_succ_eq_append_getElem hl,List.map_append,e];refine qG.snoc (RBs.keep h.kids (fun j ds hj=>s2 _ _ (hj.old hb)) (fun j ds EO hj=>s3 _ _ EO (hj.old hb)) (Gr _)) ?_;have VT:g+1<=W1.heap.size:=Gl h.row.lt h1.size;exact RB.keep (RB.mono h2 VT) s2 s3 (Gr _)
 ·exact((((Gt h.bel hb).setCell (show w.heap.size<=g by omega) _).setCell (show w.heap.size<=g by omega) _).setCell (show w.heap.size<=g by omega) _).setCell (show w.heap.size<=g by omega) _
 ·exact((((h.par.old hb).far (show w.heap.size≠g by omega) _).far (show w.heap.size≠g by omega) _).far (show w.heap.size≠g by omega) _).far (show w.heap.size≠g by omega) _
 ·exact((((h.res.old hb).far (show w.heap.size+1≠g by omega) _).far (show w.heap.size+1≠g by omega) _).far (show w.heap.size+1≠g by omega) _).far (show w.heap.size+1≠g by omega) _
theorem qeL.fin{w:World}{t:RP}{g nk:Nat}{bx:Array Value}{W:World}{cur:Array Value}{rows:List (List Value)}(h:qeL w t g nk nk bx W cur rows)(hg:w.heap.size+1<g)(hn:t.ks.length=nk)(h0:t.lv≠0):
 RB ((((W.setCell ⟨w.heap.size+1,0,none⟩ (.int .i64 t.lv)).setCell ⟨w.heap.size+1,1,none⟩ (.bool false)).setCell ⟨w.heap.size+1,2,none⟩ (.slice none 0 0)).setCell ⟨w.heap.size+1,3,none⟩ (.slice (some ⟨g,0,none⟩) nk nk)) w.heap.size (zg t) (qe (zg t) none 0 (some ⟨g,0,none⟩) nk):=by
 obtain⟨s1,s2,s3⟩:=jm (k:=0) h.res (.int .i64 t.lv) (.bool false) (.slice none 0 0) (.slice (some ⟨g,0,none⟩) nk nk);have hk:=h.kids;rw[List.take_of_length_le (by omega)]at hk;have hr:=RBs.keep (base':=w.heap.size+1+1) hk s2 (fun j ds EO hj=>s3 j ds (by omega) hj) (by omega);have Ua:qf ((((W.setCell ⟨w.heap.size+1,0,none⟩ (.int .i64 t.lv)).setCell ⟨w.heap.size+1,1,none⟩ (.bool false)).setCell ⟨w.heap.size+1,2,none⟩ (.slice none 0 0)).setCell ⟨w.heap.size+1,3,none⟩ (.slice (some ⟨g,0,none⟩) nk nk)) g 28 cur:=s3 g cur (by omega) h.row;rw[qeP,if_neg h0];have:=RB.node (l:=t.lv) (ks:=t.ks.map zg) (kc:=nk) (base:=w.heap.size+1+1) (by rw[h.len,List.length_map,hn]) h.four (by omega) Ua h.at_ (by rw[List.length_map,hn];exact Gr _) hr;exact RB.mono this (by omega)
theorem qgI{t:RP}(h:t.lv=0):zg t= .mk 0 (decide (qj t.ng t.ds<0)) (dig (val t.ds)) []:=by rw[qeP,if_pos h]
theorem qhE{t:RP}(h:t.lv≠0):zg t= .mk t.lv false [] (t.ks.map zg):=by rw[qeP,if_neg h]
theorem QY(X:Nat)(hX:X<=100000):∀(D:Nat)(t:RP),qC t<=D->yP X t->∀(A:Oa)(c:Nat)(K:Oa)(kc B:Nat)(w:World),B<=w.heap.size->RV w (· <B) t (qe t A c K kc)->
 Calls Tryz.prog 30 #[qm t A c K kc] w (Zu t w)
 |0,t,hD,_,_,_,_,_,_,_,_,_=>by cases t;simp only[qC]at hD;omega
 |D+1,t,hD,hf,A,c,K,kc,B,w,hB,h=>by
  have IH:=Gh (QY X hX D);have HR:=Gh (fun(W:World)(hW:Below w.heap.size w W)=>h.below (hW.mono hB));have HD:=Gh (fun(u:RP)(hu:u∈t.ks)=>show qC u<=D by have:=qY hu;omega);have HF:=Gh hf.at_.2.2;have HB:=Gh hB;have HX:=Gh (fun(cs ds:Array Value)=>qR w 28 28 cs ds);have Uo:=hf.at_.1;have TU:=hf.at_.2.1;show Calls Tryz.prog 30 #[.agg #[.int .i64 t.lv,.bool t.ng,.slice A t.ds.length c,.slice K t.ks.length kc]] w _;clear hD hB hf;have SW:=Gh (fun(W:World)(hW:Below w.heap.size w W)=>yZ t.ng A c B t.ds W (Gl HB hW.size) (h.below (hW.mono HB)).natIn (by omega));unfold qX at SW;rw[je]at SW;clear h;generalize Sq:t.ds.length=nd at*;generalize Vx:t.ks.length=nk at*;have RG:=Gh Sq;have UB:=Gh Vx;clear Sq Vx;by_cases h0:t.lv=0
  ·have e0:(t.lv==0)=true:=by simp[h0]
   have HC:=Gh (qgI h0);clear h0;go_enter Tryz.func30,Tryz.ntmps30
   go_wp2_with fail
   obtain⟨Xb,k0,k1,hs⟩:=HX.out #[.int .i64 t.lv,.bool t.ng,.slice A nd c,.slice K nk kc] Gz;generalize (w.alloc (.cells #[.int .i64 t.lv,.bool t.ng,.slice A nd c,.slice K nk kc] 28)).alloc (.cells Gz 28)=W at*;have Ts:=Gh (SW W Xb);have Xd:=Gh Xb;have Xu:=Gh k1;clear HX SW Xb k1 k0 hs;refine Ts.out.mono ?_;rintro e w2 ⟨A2,c2,rfl,h1,h2,h3⟩;have kk:=Xu.out.old h3;have Xe:=Gt Xd h3;have d0:w2.cell? ⟨w.heap.size+1,0,none⟩=some (.int .i64 0):=kk.cell 0;have d1:w2.cell? ⟨w.heap.size+1,1,none⟩=some (.bool false):=kk.cell 1;have d2:w2.cell? ⟨w.heap.size+1,2,none⟩=some (.slice none 0 0):=kk.cell 2;have d3:w2.cell? ⟨w.heap.size+1,3,none⟩=some (.slice none 0 0):=kk.cell 3;obtain⟨f0,f1,f2,f3,z0⟩:=G5 kk;have Tt:=Gh (jm (k:=0) kk (.int .i64 0) (.bool (decide (qj t.ng t.ds<0))) (.slice A2 (dig (val t.ds)).length c2) (.slice none 0 0));have RH:=Gh h2;have FP:=Gh h1;have Xh:=Gh Xe;clear kk Xe h1 h2 h3 Ts Xd Xu;go_wp2_with fail
   obtain⟨s1,s2,s3⟩:=Tt.out;refine qo Tryz.results30 rfl rfl s1 Tryz.underlying28 rfl Tryz.sizeRec ?_;refine⟨A2,c2,none,0,by rw[HC.out];rfl,?_,?_⟩
   ·rw[HC.out];exact RB.const (RH.out.keep s2) (qA _) FP.out
   ·exact(((Xh.out.setCell (Nat.le_add_right _ 1) _).setCell (Nat.le_add_right _ 1) _).setCell (Nat.le_add_right _ 1) _).setCell (Nat.le_add_right _ 1) _
  ·have e0:(t.lv==0)=false:=by simp[h0]
   have H0:=Gh h0;have Uz:=fun(W:World)=>Tryz.make_rec nk (by omega) W;clear h0;go_enter Tryz.func30,Tryz.ntmps30
   go_wp2_with fail
   have Kf:=Gh (jN w 28 28 28 #[.int .i64 t.lv,.bool t.ng,.slice A nd c,.slice K nk kc] Gz (madeCells Gz (nk*4)));generalize ((w.alloc (.cells #[.int .i64 t.lv,.bool t.ng,.slice A nd c,.slice K nk kc] 28)).alloc (.cells Gz 28)).alloc (.cells (madeCells Gz (nk*4)) 28)=W at*;obtain⟨Xb,k0,k1,k2,hs⟩:=Kf.out;have KL:=Gh (show qeL w t (w.heap.size+1+1) nk 0 #[.int .i64 t.lv,.bool t.ng,.slice A nd c,.slice K nk kc] W (madeCells Gz (nk*4)) []from
    ⟨k2,size_madeCells _ _,rfl,by simp,by simp,by simp[qG],Xb,k0,k1⟩)
   have hg:w.heap.size+1<w.heap.size+1+1:=Nat.lt_succ_self _;clear HX Kf Xb k0 k1 k2 hs Uz SW;generalize w.heap.size+1+1=g at*;go_loopg [4,5,20] nk (fun gn _ _ ix wr=>∃(k:Nat)(cur:Array Value)(rows:List (List Value)),k<=nk/\gn=nk-k/\ix= .int .i64 k/\qeL w t g nk k #[.int .i64 t.lv,.bool t.ng,.slice A nd c,.slice K nk kc] wr cur rows)
   case atStart=>exact⟨0,_,[],Nat.zero_le _,rfl,rfl,KL⟩
   case round=>
    clear KL;obtain⟨k,cur,rows,hk,XG,rfl,hi⟩:=hrel;have HG:=Gh XG;have HI:=Gh hi;clear XG;have UD:=HR.out wr hi.bel;have UT:=UD.node.2.2.2;rw[UB.out]at UT;have i5:(nk:Int)<=(kc:Int):=by omega
    have c0:wr.cell? ⟨w.heap.size,0,none⟩=some (.int .i64 t.lv):=hi.par.cell 0;have c3:wr.cell? ⟨w.heap.size,3,none⟩=some (.slice K nk kc):=hi.par.cell 3;by_cases Xi:k<nk
    ·obtain⟨u,hu⟩:∃u,t.ks[k]? =some u:=⟨_,Gn (by rw[UB.out];exact Xi)⟩;obtain⟨b,o,A',c',K',kc',rfl,Tn,e0',e1,e2,e3,XN⟩:=UD.kid hu;have US:=Gk hu;have U5:=Gh (fun(W:World)(hW:Below wr.heap.size wr W)=>IH u (HD u US) (HF u US) A' c' K' kc' wr.heap.size W hW.size ((XN.more (Gl HB hi.bel.size)).below hW));unfold Zu at U5;have Vu:=Gh (fun(W1 W2:World)(A K:Oa)(c kc:Nat) h1 h2 h3=>hi.next (u:=u) (W1:=W1) (W2:=W2) (A:=A) (K:=K) (c:=c) (kc:=kc) Xi hg hu h1 h2 h3);have PV:=Gh hi.row;have XJ:=Gh hi.siz;have i3:(0:Int)<=(k:Int):=by omega
     have i4:(k:Int)<(nk:Int):=by omega
     have Ue:=Gh (fun(cs:Array Value)=>Gb wr (.cells cs 28));clear hu UD XN UT US hi HI;unfold qm at U5;generalize u.ds.length=ud at*;generalize u.ks.length=uk at*;generalize u.ng=ug at*;generalize u.lv=ul at*;have TZ:=Gh (U5 _ (Ue #[.int .i64 ul,.bool ug,.slice A' ud c',.slice K' uk kc']));go_wp2_with fail
     refine TZ.out.mono ?_;rintro e w2 ⟨A2,c2,K2,kc2,rfl,h2,h3⟩;have hb:=(Ue #[.int .i64 ul,.bool ug,.slice A' ud c',.slice K' uk kc']).trans (h3.mono (Ue _).size);have kk:=PV.out.old hb;have hz:=XJ.out;have ex:∀i,i<4->∃v,cur[k*4+i]? =some v:=fun i hi=>⟨_,Array.getElem?_eq_getElem (by omega)⟩;obtain⟨v0,q0⟩:=ex 0 (by omega);obtain⟨v1,q1⟩:=ex 1 (by omega);obtain⟨v2,q2⟩:=ex 2 (by omega);obtain⟨v3,q3⟩:=ex 3 (by omega);have d0:w2.cell? ⟨g,k*4,none⟩=some v0:=(kk.cell _).trans q0;have d1:w2.cell? ⟨g,k*4+1,none⟩=some v1:=(kk.cell _).trans q1;have d2:w2.cell? ⟨g,k*4+2,none⟩=some v2:=(kk.cell _).trans q2;have d3:w2.cell? ⟨g,k*4+3,none⟩=some v3:=(kk.cell _).trans q3;have f0:=kk.frozen (k*4);have f1:=kk.frozen (k*4+1);have f2:=kk.frozen (k*4+2);have f3:=kk.frozen (k*4+3);have z0:=kk.lt;have RH:=Gh (Vu _ w2 A2 K2 c2 kc2 (Ue #[.int .i64 ul,.bool ug,.slice A' ud c',.slice K' uk kc']) h2 h3);clear hb kk hz ex q0 q1 q2 q3 h2 h3 TZ U5 Vu PV XJ Ue;generalize (zg u).lv=xl at*;generalize (zg u).ng=xg at*;generalize (zg u).ds.length=xd at*;generalize (zg u).ks.length=xk at*;go_wp2_with fail
     obtain⟨cur',hn⟩:=RH.out;go_roundg (nk-(k+1))
     case rel=>exact⟨k+1,cur',_,by omega,rfl,by go_num,hn⟩
     case measure=>have:=HG.out;omega
    ·obtain rfl:k=nk:=by omega
     have d0:wr.cell? ⟨w.heap.size+1,0,none⟩=some (.int .i64 0):=hi.res.cell 0;have d1:wr.cell? ⟨w.heap.size+1,1,none⟩=some (.bool false):=hi.res.cell 1;have d2:wr.cell? ⟨w.heap.size+1,2,none⟩=some (.slice none 0 0):=hi.res.cell 2;have d3:wr.cell? ⟨w.heap.size+1,3,none⟩=some (.slice none 0 0):=hi.res.cell 3;obtain⟨f0,f1,f2,f3,z0⟩:=G5 hi.res;have Xg:=Gh (hi.fin hg UB H0);have HS:=Gh (jm (k:=0) hi.res (.int .i64 t.lv) (.bool false) (.slice none 0 0) (.slice (some ⟨g,0,none⟩) k k)).1;have Xh:=Gh hi.bel;have HC:=Gh (qhE H0);clear hi HI UD UT;go_wp2_with fail
     refine qo Tryz.results30 rfl rfl HS Tryz.underlying28 rfl Tryz.sizeRec ?_;refine⟨none,0,some ⟨g,0,none⟩,k,?_,Xg,?_⟩
     ·rw[HC.out];unfold qm;show _=Ending.returned (.agg #[.int .i64 t.lv,.bool false,.slice none 0 0,.slice (some ⟨g,0,none⟩) (t.ks.map zg).length k]);rw[List.length_map,UB.out];rfl
     ·exact(((Xh.out.setCell (Nat.le_add_right _ 1) _).setCell (Nat.le_add_right _ 1) _).setCell (Nat.le_add_right _ 1) _).setCell (Nat.le_add_right _ 1) _
end Go.Proofs.YtflikmojaidhhaaGreatDoor
namespace Go.Proofs.YtflikmojaidhhaaGreatDoor
open Go.RowKit Go.Sort
def yV(w w':World):Prop:=∃q os,w'=grow (w.drewN q) os
theorem yV.refl(w:World):yV w w:=⟨0,#[],(grow_empty w).symm⟩
theorem yV.drewN{w w':World}(h:yV w w')(n:Nat):yV w (w'.drewN n):=by
 obtain⟨q,os,rfl⟩:=h;exact⟨q+n,os,by rw[<-World.drewN_drewN];rfl⟩
theorem yV.alloc{w w':World}(h:yV w w')(o:Obj):yV w (w'.alloc o):=by
 obtain⟨q,os,rfl⟩:=h;exact⟨q,os++#[o],by rw[alloc_eq_grow,grow_grow]⟩
theorem yV.trans{a b c:World}(h:yV a b)(k:yV b c):yV a c:=by
 obtain⟨q,os,rfl⟩:=k;have:=h.drewN q;obtain⟨q',os',e⟩:=this;exact⟨q',os'++os,by rw[e,grow_grow]⟩
theorem yV.drawn{a b c:World}(h:yV a b)(k:qt b c):yV a c:=by obtain⟨n,rfl⟩:=k;exact h.drewN n
theorem yV.below{w w':World}(h:yV w w'):Below w.heap.size w w':=by
 obtain⟨q,os,rfl⟩:=h;exact⟨rfl,rfl,rfl,by rw[size_grow];exact Nat.le_add_right _ _,fun k hk=>heap_grow_old _ _ hk⟩
theorem YU(a:Int)(w:World):Calls Tryz.prog 162 #[.int .i64 a] w fun e w'=>e= .returned (.bool false)/\w=w':=by
 go_enter Tryz.func162,Tryz.ntmps162
 go_wp2
 go_ret
 exact⟨by simp,rfl⟩
theorem qag(a b:Int)(w:World):Calls Tryz.prog 137 #[.int .i64 a,.int .i64 b] w fun e w'=>e= .returned (.int .i64 (zG a b))/\w=w':=by
 rcases Int.lt_trichotomy a b with h|h|h
 ·have e:zG a b=-1:=by simp[zG,h]
  rw[e];clear e;go_enter Tryz.func137,Tryz.ntmps137
  go_wp2_with (first|(go_at_call 162;refine(YU _ _).mono ?_;rintro e w' ⟨rfl,rfl⟩))
  go_ret
  exact⟨rfl,rfl⟩
 ·subst h;have e:zG a a=0:=by simp[zG]
  rw[e];clear e;go_enter Tryz.func137,Tryz.ntmps137
  go_wp2_with (first|(go_at_call 162;refine(YU _ _).mono ?_;rintro e w' ⟨rfl,rfl⟩))
  go_ret
  exact⟨rfl,rfl⟩
 ·have e:zG a b=1:=by
   have:¬a<b:=by omega
   simp[zG,h,this]
  have h':¬a<b:=by omega
  rw[e];clear e;go_enter Tryz.func137,Tryz.ntmps137
  go_wp2_with (first|(go_at_call 162;refine(YU _ _).mono ?_;rintro e w' ⟨rfl,rfl⟩))
  go_ret
  exact⟨rfl,rfl⟩
def gt(m:Mo):Nat->Int
 |0=>m.1
 |1=>m.2.1
 |2=>m.2.2.1
 |_=>m.2.2.2
def Jv(m:Mo):Array Value:=#[.int .i64 m.1,.int .i64 m.2.1,.int .i64 m.2.2.1,.int .i64 m.2.2.2]
theorem qd6(m:Mo){j:Nat}(h:j<4):(Jv m)[j]? =some (.int .i64 (gt m j)):=by
 match j,h with
 |0,_=>rfl
 |1,_=>rfl
 |2,_=>rfl
 |3,_=>rfl
def Yx(a b:Mo):Nat->Int
 |0=>0
 |k+1=>if zG (gt a k) (gt b k)≠0 then zG (gt a k) (gt b k)else Yx a b k
theorem qeq(a b:Mo):Yx a b 4=qbJ a b:=by
 simp only[Yx,qbJ,gt];by_cases h:zG a.1 b.1=0<;>simp[h]
theorem qiX{a b:Mo}{k:Nat}(h:zG (gt a k) (gt b k)≠0):Yx a b (k+1)=zG (gt a k) (gt b k):=by simp[Yx,h]
theorem qib{a b:Mo}{k:Nat}(h:zG (gt a k) (gt b k)=0):Yx a b (k+1)=Yx a b k:=by simp[Yx,h]
set_option maxHeartbeats 1000000
theorem qgj(a b:Mo)(w:World):Calls Tryz.prog 120 #[.agg (Jv a),.agg (Jv b)] w fun e w'=>e= .returned (.int .i64 (qbJ a b))/\yV w w':=by
 obtain⟨Xb,k0,k1,hs⟩:=qR w 111 111 (Jv a) (Jv b);have hl:yV w ((w.alloc (.cells (Jv a) 111)).alloc (.cells (Jv b) 111)):=((yV.refl w).alloc _).alloc _;have HS:=Gh hs;clear hs;have HC:=Gh (qeq a b);generalize qbJ a b=r at*;go_enter Tryz.func120,Tryz.ntmps120
 go_wp2
 generalize (w.alloc (.cells (Jv a) 111)).alloc (.cells (Jv b) 111)=W at*;go_loopg [5] 4 (fun gn i wr=>∃(k:Nat),k<=4/\gn=k/\i= .int .i64 ((k:Int)-1)/\Yx a b k=r/\qt W wr)
 case atStart=>exact⟨4,Gr _,rfl,rfl,HC,qt.refl _⟩
 case round=>
  obtain⟨k,hk,XG,rfl,hr,hd⟩:=hrel;have HG:=Gh XG;clear XG;have HR:=Gh hr;clear hr;by_cases h0:0<k
  ·obtain⟨j,rfl⟩:∃j,k=j+1:=⟨k-1,by omega⟩;have c0:wr.cell? ⟨w.heap.size,j,none⟩=some (.int .i64 (gt a j)):=((k0.drawn hd).cell j).trans (qd6 a (by omega));have c1:wr.cell? ⟨w.heap.size+1,j,none⟩=some (.int .i64 (gt b j)):=((k1.drawn hd).cell j).trans (qd6 b (by omega));have Dy:((j+1:Nat):Int)-1=(j:Int):=by omega
   rw[Dy];have i0:(0:Int)<=(j:Int):=by omega
   have i1:(j:Int)<4:=by omega
   by_cases hz:zG (gt a j) (gt b j)=0
   ·have WD:=Gh ((qib hz).symm.trans HR);have HQ:Hid (∀W',Calls Tryz.prog 137 #[.int .i64 (gt a j),.int .i64 (gt b j)] W' fun e w'=>e= .returned (.int .i64 0)/\W'=w'):=Gh (fun W'=>by have:=qag (gt a j) (gt b j) W';rwa[hz]at this);clear hz HR Dy;generalize gt a j=x at*;generalize gt b j=y at*;go_wp2
    go_quiet ((go_at_call 137;exact qt.quiet ((HQ _).mono fun _ _ ⟨he,hw⟩=>⟨he,hw▸qt.refl _⟩)))
    go_wp2
    go_roundg j
    case rel=>exact⟨j,by omega,rfl,rfl,WD,hd.trans (.drewN _ _)⟩
    case measure=>have:=HG.out;omega
   ·have WD:=Gh ((qiX hz).symm.trans HR);have HQ:=Gh (fun W'=>qag (gt a j) (gt b j) W');generalize zG (gt a j) (gt b j)=z at*;have XD:(z != 0)=true:=by simpa using hz
    clear Dy HR hz;generalize gt a j=x at*;generalize gt b j=y at*;go_wp2
    go_quiet ((go_at_call 137;exact qt.quiet ((HQ _).mono fun _ _ ⟨he,hw⟩=>⟨he,hw▸qt.refl _⟩)))
    go_wp2
    go_ret
    exact⟨by rw[WD.out];rfl,(hl.drawn hd).drewN _⟩
  ·obtain rfl:k=0:=by omega
   go_wp2
   go_ret
   exact⟨by rw[<-HR.out];rfl,hl.drawn hd⟩
def ZR(m:Mo):Nat->Bool
 |0=>true
 |k+1=>ZR m k&&decide (0<=gt m k)
theorem qet(m:Mo):ZR m 4=zD m:=by simp only[ZR,zD,gt,Bool.true_and,Bool.and_assoc]
theorem qgY{m:Mo}{k:Nat}(h:ZR m k=true)(hx:0<=gt m k):ZR m (k+1)=true:=by simp[ZR,h,hx]
theorem qj7{m:Mo}{k:Nat}(h:k<4)(hx:gt m k<0):zD m=false:=by
 rcases(by omega:k=0∨k=1∨k=2∨k=3)with rfl|rfl|rfl|rfl<;>simp only[gt]at hx<;>simp[zD]<;>omega
theorem Tryz.index_mono(m:Mo)(j:Nat)(hj:j<4)(w:World):(Instr.index 111 (.agg (Jv m)) (.int .i64 (j:Int))).run Tryz.prog w= .ok (.int .i64 (gt m j)) w:=by
 have h3:=qd6 m hj;simp[Instr.index,run_underlying Tryz.underlying111,asIntOf,go_sem,hj,h3,Tryz.sizeOf3,Tryz.isAgg3]
set_option maxHeartbeats 2000000
set_option maxRecDepth 100000
theorem qcn(m:Mo)(w:World):Calls Tryz.prog 116 #[.agg (Jv m)] w fun e w'=>e= .returned (.bool (!zD m))/\yV w w':=by
 have hl:yV w (w.alloc (.cells (Jv m) 111)):=(yV.refl w).alloc _;have HB:=Gh (fun(k:Nat)=>@qj7 m k);have HO:=Gh (fun(k:Nat)=>@qgY m k);have HF:=Gh (qet m);have E4:=Gh (show gt m 0=m.1/\gt m 1=m.2.1/\gt m 2=m.2.2.1/\gt m 3=m.2.2.2 from⟨rfl,rfl,rfl,rfl⟩);have x0:∀W,(Instr.index 111 (.agg #[.int .i64 m.1,.int .i64 m.2.1,.int .i64 m.2.2.1,.int .i64 m.2.2.2]) (.int .i64 0)).run Tryz.prog W= .ok (.int .i64 m.1) W:=fun W=>Tryz.index_mono m 0 (by decide) W;have x1:∀W,(Instr.index 111 (.agg #[.int .i64 m.1,.int .i64 m.2.1,.int .i64 m.2.2.1,.int .i64 m.2.2.2]) (.int .i64 1)).run Tryz.prog W= .ok (.int .i64 m.2.1) W:=fun W=>Tryz.index_mono m 1 (by decide) W;have x2:∀W,(Instr.index 111 (.agg #[.int .i64 m.1,.int .i64 m.2.1,.int .i64 m.2.2.1,.int .i64 m.2.2.2]) (.int .i64 2)).run Tryz.prog W= .ok (.int .i64 m.2.2.1) W:=fun W=>Tryz.index_mono m 2 (by decide) W;have x3:∀W,(Instr.index 111 (.agg #[.int .i64 m.1,.int .i64 m.2.1,.int .i64 m.2.2.1,.int .i64 m.2.2.2]) (.int .i64 3)).run Tryz.prog W= .ok (.int .i64 m.2.2.2) W:=fun W=>Tryz.index_mono m 3 (by decide) W;unfold Jv at*;generalize zD m=v at*;generalize m.1=m0 at*;generalize m.2.1=m1 at*;generalize m.2.2.1=m2 at*;generalize m.2.2.2=m3 at*;go_enter Tryz.func116,Tryz.ntmps116
 go_wp2
 generalize w.alloc (.cells #[.int .i64 m0,.int .i64 m1,.int .i64 m2,.int .i64 m3] 111)=W at*;go_loopg [4,6] 4 (fun gn _ i wr=>∃(k:Nat)(z:Int),k<=4/\z=k/\gn=4-k/\i= .int .i64 z/\ZR m k=true/\W=wr)
 case atStart=>exact⟨0,0,by omega,rfl,rfl,rfl,rfl,rfl⟩
 case round=>
  obtain⟨k,z,hk,hz,XG,rfl,hv,rfl⟩:=hrel;have HG:=Gh XG;clear XG;have HV:=Gh hv;clear hv;by_cases Xi:k<4
  ·by_cases hx:gt m k<0
   ·have HE:=Gh (HB k Xi hx);have HX:=Gh hx;clear hx;rcases(by omega:k=0∨k=1∨k=2∨k=3)with rfl|rfl|rfl|rfl
    ·have hx:=HX.out;rw[E4.out.1]at hx;obtain rfl:z=0:=hz;clear HB HO;go_wp2
     go_ret
     exact⟨by rw[HE.out];rfl,hl⟩
    ·have hx:=HX.out;rw[E4.out.2.1]at hx;obtain rfl:z=1:=hz;clear HB HO;go_wp2
     go_ret
     exact⟨by rw[HE.out];rfl,hl⟩
    ·have hx:=HX.out;rw[E4.out.2.2.1]at hx;obtain rfl:z=2:=hz;clear HB HO;go_wp2
     go_ret
     exact⟨by rw[HE.out];rfl,hl⟩
    ·have hx:=HX.out;rw[E4.out.2.2.2]at hx;obtain rfl:z=3:=hz;clear HB HO;go_wp2
     go_ret
     exact⟨by rw[HE.out];rfl,hl⟩
   ·have HE:=Gh (HO k HV (by omega));have HX:=Gh hx;clear hx;rcases(by omega:k=0∨k=1∨k=2∨k=3)with rfl|rfl|rfl|rfl
    ·have hx:=HX.out;rw[E4.out.1]at hx;obtain rfl:z=0:=hz;clear HB HO;go_wp2
     go_roundg 3
     case rel=>exact⟨1,1,by omega,rfl,rfl,rfl,HE,rfl⟩
     case measure=>have:=HG.out;omega
    ·have hx:=HX.out;rw[E4.out.2.1]at hx;obtain rfl:z=1:=hz;clear HB HO;go_wp2
     go_roundg 2
     case rel=>exact⟨2,2,by omega,rfl,rfl,rfl,HE,rfl⟩
     case measure=>have:=HG.out;omega
    ·have hx:=HX.out;rw[E4.out.2.2.1]at hx;obtain rfl:z=2:=hz;clear HB HO;go_wp2
     go_roundg 1
     case rel=>exact⟨3,3,by omega,rfl,rfl,rfl,HE,rfl⟩
     case measure=>have:=HG.out;omega
    ·have hx:=HX.out;rw[E4.out.2.2.2]at hx;obtain rfl:z=3:=hz;clear HB HO;go_wp2
     go_roundg 0
     case rel=>exact⟨4,4,by omega,rfl,rfl,rfl,HE,rfl⟩
     case measure=>have:=HG.out;omega
  ·obtain rfl:k=4:=by omega
   obtain rfl:z=4:=hz;go_wp2
   go_ret
   exact⟨by rw[<-HF,HV.out];rfl,hl⟩
