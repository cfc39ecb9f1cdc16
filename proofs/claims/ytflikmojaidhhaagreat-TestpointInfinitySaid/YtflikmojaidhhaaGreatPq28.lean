import Derived.Test.YtflikmojaidhhaaGreatRows
import Derived.ProofKit
import Derived.OpenShut
import Derived.ChangeOld
import Derived.Deep.Slices
import Derived.Deep.Fields
import Derived.ChangeSame
import Derived.Deep.DeepHandedRow
import Derived.Stop.LaidErr
import Derived.Test.YtflikmojaidhhaaGreatPq27
namespace Go.Proofs.YtflikmojaidhhaaGreat
open Go.RowKit
theorem qa4:∀(l:List Value)(k:Nat)(zs:Array Value),zs.size=k+l.length→List.foldl (fun cs x=>cs.setIfInBounds x.2 x.1) zs (l.zipIdx k)=(zs.toList.take k++l).toArray
 |[],k,zs,h=>by
  obtain⟨zl⟩:=zs;have h':zl.length=k:=by simpa using h
  simp[←h']
 |a::l,k,zs,h=>by
  obtain⟨zl⟩:=zs;have h':zl.length=k+(l.length+1):=by simpa using h
  rw[List.zipIdx_cons,List.foldl_cons,qa4 l (k+1) _ (by simp;omega)]
  congr 1
  simp only[List.setIfInBounds_toArray,List.take_add_one,List.getElem?_set_self (show k<zl.length by omega),List.take_set_of_le (Nat.le_refl k)];simp
theorem qhp{cs zs:Array Value}(hz:zs.size=24)(hc:cs.size=24):Array.foldl (fun cs x=>cs.setIfInBounds x.2 x.1) zs cs.zipIdx 0 24=cs:=by
 obtain⟨l⟩:=cs;have hl:l.length=24:=hc;have e:({toList:=l}:Array Value).zipIdx=(l.zipIdx 0).toArray:=by simp
 rw[e,List.foldl_toArray' _ _ _ (by simp[hl]),qa4 l 0 zs (by rw[hz,hl])];simp
def qdK(w:World)(e:Ending)(w':World):Prop:=∃(g:Nat)(cs:Array Value)(A:Option Addr)(c:Nat)(K:Option Addr)(k:Nat),e= .returned (.tuple #[.slice (some ⟨g,0,none⟩) 1 1,.int .i64 0])∧qd w' g 46 cs∧cs[0]? =some (.int .i64 2)∧
 cs[13]? =some (.int .i64 qA.lv)∧cs[14]? =some (.bool qA.ng)∧cs[15]? =some (.slice A qA.ds.length c)∧cs[16]? =some (.slice K qA.ks.length k)∧RV w' (· <w'.heap.size) qA (qc qA A c K k)∧Below w.heap.size w w'
set_option maxHeartbeats 1000000
set_option maxRecDepth 100000
theorem qgB(A:Option Addr)(c:Nat)(Kp:Option Addr)(kc B:Nat)(w:World)(hB:B≤w.heap.size)(h:RV w (· <B) (jB 1) (qc (jB 1) A c Kp kc)):
 Calls Tryz.prog 11 #[qn (jB 1) A c Kp kc,.int .i64 1] w (qdK w):=by
 have hrv:qn (jB 1) A c Kp kc= .agg #[.int .i64 1,.bool false,.slice A 0 c,.slice Kp 2 kc]:=rfl;have hb0:=(Below.refl w.heap.size w).alloc (Nat.le_refl _) (.cells #[.int .i64 1,.bool false,.slice A 0 c,.slice Kp 2 kc] 28);have k0:=qd.new w 28 #[.int .i64 1,.bool false,.slice A 0 c,.slice Kp 2 kc];have HD:=Lib.hid (qdZ 400 (by omega) 1 (jB 1) qaa qbK A c Kp kc B _ (Nat.le_trans hB hb0.size) (h.below (hb0.mono hB)));rw[qjt]at HD;have HL:=Lib.hid (fun(V:World)(hV:Below w.heap.size w V)=>qeR A c Kp kc B V (Nat.le_trans hB hV.size) (h.below (hV.mono hB)));have HB0:=Lib.hid hb0;have HK0:=Lib.hid k0;have htr:zM=#[.int .i64 1,.int .i64 0,.int .i64 0,.bool false,.slice none 0 0,.slice none 0 0,.slice none 0 0]:=rfl;rw[hrv]at HD HL ⊢;have c0:=k0.cell 0;have c1:=k0.cell 1;have c2:=k0.cell 2;have c3:=k0.cell 3;clear h hrv hb0 k0 hB htr;unfold qim at HL;go_enter Tryz.func11,Tryz.ntmps11
 go_upto_region 1 with(fail)
 generalize w.alloc (.cells #[.int .i64 1,.bool false,.slice A 0 c,.slice Kp 2 kc] 28)=W at*;go_wp2_with fail
 refine HD.out.mono ?_;rintro e w1 ⟨rfl,_,hb1⟩;have HB1:=Lib.hid (HB0.out.trans (hb1.mono HB0.out.size));have k1:=HK0.out.old hb1;have d0:=k1.cell 0;have d1:=k1.cell 1;have d2:=k1.cell 2;have d3:=k1.cell 3;have HL1:=Lib.hid (HL.out w1 HB1.out);clear hb1 k1 c0 c1 c2 c3 HD HB0 HK0 HL;go_wp2_with fail
 refine HL1.out.mono ?_;rintro e w2 ⟨cs,A2,c2,K2,k2,hsz,rfl,hone,e0,e13,e14,e15,e16,hr,hb2⟩;have HB2:=Lib.hid (HB1.out.trans (hb2.mono HB1.out.size));have HR:=Lib.hid hr;have HE:=Lib.hid (And.intro e0 (And.intro e13 (And.intro e14 (And.intro e15 e16))));clear hr hb2 e0 e13 e14 e15 e16 HL1 HB1 d0 d1 d2 d3;have HSZ:=Lib.hid hsz;clear hone;go_wp2_with fail
 rw[qhp rfl HSZ.out];go_ret2
 obtain⟨e0,e13,e14,e15,e16⟩:=HE.out;have hal:=(Below.refl w2.heap.size w2).alloc (Nat.le_refl _) (.cells cs 46);exact⟨w2.heap.size,cs,A2,c2,K2,k2,rfl,qd.new w2 46 cs,e0,e13,e14,e15,e16,(HR.out.below hal).more hal.size,HB2.out.trans (hal.mono HB2.out.size)⟩
theorem qgS(w:World):Calls Tryz.prog 4 #[] w (fun e w'=>e= .returned (.bool true)∧Below w.heap.size w w'):=by
 have HV:=Lib.hid (qko 1 (by omega) (by omega) w);have HRT:=Lib.hid (fun(A:Option Addr)(c:Nat)(Kp:Option Addr)(kc:Nat)(V:World)(h:RV V (· <V.heap.size) (jB 1) (qc (jB 1) A c Kp kc))=>qgB A c Kp kc V.heap.size V (Nat.le_refl _) h);have HIZ:=Lib.hid (fun(A:Option Addr)(c:Nat)(K:Option Addr)(kc:Nat)(V:World)(h:RV V (· <V.heap.size) qA (qc qA A c K kc))=>qcK 400 (by omega) qA qfs A c K kc V.heap.size V (Nat.le_refl _) h);rw[show qW (qq qA)=false by rw[qw Yk];rfl]at HIZ;unfold qdK qn at HRT;unfold qn at HIZ;go_enter Tryz.func4,Tryz.ntmps4
 go_wp2_with fail
 refine HV.out.mono ?_;rintro e w1 ⟨gv,rfl,hv,hb1⟩;have HR1:=Lib.hid (HRT.out none 0 (some ⟨gv,0,none⟩) 2 w1 hv.rv);rw[show(jB 1).lv=1 from rfl,show(jB 1).ng=false from rfl,show(jB 1).ds.length=0 from rfl,show(jB 1).ks.length=2 from rfl]at HR1;have HB1:=Lib.hid hb1;clear hv hb1 HV HRT;go_wp2_with fail
 refine HR1.out.mono ?_;rintro e w2 ⟨g,cs,A2,c2,K2,k2,rfl,hk,e0,e13,e14,e15,e16,hr,hb2⟩;have HZ:=Lib.hid (HIZ.out A2 c2 K2 k2 w2 hr);have HB2:=Lib.hid (HB1.out.trans (hb2.mono HB1.out.size));have q0:=(hk.cell 0).trans e0;have q13:=(hk.cell 13).trans e13;have q14:=(hk.cell 14).trans e14;have q15:=(hk.cell 15).trans e15;have q16:=(hk.cell 16).trans e16;clear hk e0 e13 e14 e15 e16 hr hb2 HR1 HIZ HB1;go_wp2_with fail
 refine HZ.out.mono ?_;rintro e w3 ⟨rfl,_,hb3⟩;have HB3:=Lib.hid (HB2.out.trans (hb3.mono HB2.out.size));clear hb3 HZ HB2 q0 q13 q14 q15 q16;go_wp2_with fail
 go_ret
 exact⟨rfl,HB3.out⟩
mutual
def Qe(n:Nat):RP→Bool
 | .mk _ _ _ ks=>decide (ks.length≤n+1)&&qhH n ks
def qhH(n:Nat):List RP→Bool
 |[]=>true
 |t::ts=>Qe n t&&qhH n ts
end
theorem qiG(n:Nat)(ts:List RP):qhH n ts=ts.all (Qe n):=by
 induction ts with
 |nil=>simp[qhH]
 |cons t ts ih=>simp[qhH,ih]
theorem qe7(n:Nat)(t:RP):Qe n t=(decide (t.ks.length≤n+1)&&t.ks.all (Qe n)):=by
 cases t
 rw[Qe,qiG];rfl
theorem qb1{d n:Nat}:∀(t:RP),Qe n t=true→(∀e,qM d e t→qM d (n+1) t)
 | .mk l g ds ks,h,e,hw=>by
   rw[qe7,Bool.and_eq_true,decide_eq_true_eq,List.all_eq_true]at h;exact qM.mk hw.at_.1 h.1 (fun u hu=>qb1 u (h.2 u hu) e (hw.at_.2.2 u hu))
termination_by t=>qv t
decreasing_by exact qD hu
theorem qdg{α:Type}{f:α→Bool}{l:List α}{x:α}(h:x∈l)(hf:f x=false):l.all f=false:=by
 rw[List.all_eq_false];exact⟨x,h,by simp[hf]⟩
theorem Qk{α:Type}{f:α→Bool}{l:List α}{k:Nat}{x:α}(h:l[k]? =some x)(h0:(l.take k).all f=true)(hf:f x=true):(l.take (k+1)).all f=true:=by
 obtain⟨hk,rfl⟩:=List.getElem?_eq_some_iff.1 h;rw[List.take_succ_eq_append_getElem hk,List.all_append,h0];simp[hf]
set_option maxHeartbeats 4000000
theorem qff(n:Nat)(hn:n≤1000)(X:Nat)(hX:X≤100000):∀(D:Nat)(t:RP),qv t≤D→yf X t→∀(A:Option Addr)(c:Nat)(K:Option Addr)(kc B:Nat)(w:World),B≤w.heap.size→RV w (· <B) t (qc t A c K kc)→
 Calls Tryz.prog 15 #[qn t A c K kc,.int .i64 (n:Int)] w fun e w'=>e= .returned (.bool (Qe n t))∧Below w.heap.size w w'
 |0,t,hD,_,_,_,_,_,_,_,_,_=>by cases t;simp only[qv]at hD;omega
 |D+1,t,hD,hsm,A,c,K,kc,B,w,hB,h=>by
  have IH:=Lib.hid (qff n hn X hX D);have hb0:=(Below.refl w.heap.size w).alloc (Nat.le_refl _) (.cells #[.int .i64 t.lv,.bool t.ng,.slice A t.ds.length c,.slice K t.ks.length kc] 28);have hk0:=qd.new w 28 #[.int .i64 t.lv,.bool t.ng,.slice A t.ds.length c,.slice K t.ks.length kc];have HB0:=Lib.hid hb0;have HK0:=Lib.hid hk0;have HR:=Lib.hid (fun(W:World)(hW:Below w.heap.size w W)=>h.below (hW.mono hB));have HB:=Lib.hid hB;have HDD:=Lib.hid (fun(u:RP)(hu:u∈t.ks)=>show qv u≤D by have:=qD hu;omega);have HSS:=Lib.hid (fun(u:RP)(hu:u∈t.ks)=>hsm.at_.2.2 u hu);have hkl:t.ks.length≤X:=hsm.at_.2.1;have HLC:=Lib.hid h.node.2.2.2;have HEQ:=Lib.hid (qe7 n t);have a3:=hk0.cell 3;unfold qn;generalize hnk:t.ks.length=nk at*;have HNK:=Lib.hid hnk;generalize Qe n t=R at*;clear hb0 hk0 h hB hD hsm hnk;generalize t.ds.length=pd at*;generalize t.ng=pg at*;generalize t.lv=pl at*;have en:IntKind.i64.wrap ((n:Int)+1)=(n:Int)+1:=IntWalk.i64_in _ (by omega);by_cases h1:n+1<nk
  ·have HR1:=Lib.hid (show R=false by rw[HEQ.out];simp;intro;omega);have i1:(n:Int)+1<(nk:Int):=by omega
   clear HEQ;rw[HR1.out];go_enter Tryz.func15,Tryz.ntmps15
   go_wp2_with fail
   go_ret
   exact⟨rfl,HB0.out⟩
  ·have HR1:=Lib.hid (show R=t.ks.all (Qe n)by rw[HEQ.out];simp;intro;omega);have i1:¬((n:Int)+1<(nk:Int)):=by omega
   clear HEQ h1;rw[HR1.out];go_enter Tryz.func15,Tryz.ntmps15
   go_wp2_with fail
   clear a3;go_loopg [5,15] nk (fun gn _ ix wr=>∃j:Nat,j≤nk∧gn=nk-j∧ix= .int .i64 j∧(t.ks.take j).all (Qe n)=true∧Below w.heap.size w wr∧qd wr w.heap.size 28 #[.int .i64 pl,.bool pg,.slice A pd c,.slice K nk kc])
   case atStart=>exact⟨0,Nat.zero_le _,rfl,rfl,by simp,HB0.out,HK0.out⟩
   case round=>
    clear HB0 HK0;obtain⟨j,hj,hgj,rfl,hok,hbw,hkw⟩:=hrel;have HG:=Lib.hid hgj;have HOK:=Lib.hid hok;have HKW:=Lib.hid hkw;have HBW:=Lib.hid hbw;clear hgj;by_cases hlt:j<nk
    ·obtain⟨u,hu⟩:∃u,t.ks[j]? =some u:=⟨_,List.getElem?_eq_getElem (by rw[HNK.out];exact hlt)⟩;obtain⟨b,o,A1,q1,K1,r1,rfl,hbB,x0,x1,x2,x3,hku⟩:=(HR.out wr hbw).kid hu;have hum:=List.mem_of_getElem? hu;have HC:=Lib.hid (IH.out u (HDD.out u hum) (HSS.out u hum) A1 q1 K1 r1 B wr (Nat.le_trans HB.out hbw.size) hku);have HSTOP:=Lib.hid (fun hz:Qe n u=false=>show t.ks.all (Qe n)=false from qdg hum hz);have HNX:=Lib.hid (fun hz:Qe n u=true=>Qk hu hok hz);unfold qn at HC;have i3:(0:Int)≤(j:Int):=by omega
     have i4:(j:Int)<(nk:Int):=by omega
     have i5:(nk:Int)≤(kc:Int):=by have:=HLC.out;omega
     have c3:=hkw.cell 3;clear hu hum hku hok hbw hkw;generalize Qe n u=cu at*;generalize u.ds.length=td at*;generalize u.ks.length=tk at*;generalize u.ng=tg at*;generalize u.lv=tl at*;go_wp2_with fail
     refine HC.out.mono ?_;rintro e w4 ⟨rfl,hb4⟩;have HB4:=Lib.hid (HBW.out.trans (hb4.mono HBW.out.size));have HK4:=Lib.hid (HKW.out.old hb4);clear hb4 x0 x1 x2 x3 c3
     cases hcu:cu with
     |false=>
      have HS1:=Lib.hid (HSTOP.out hcu);clear hcu HNX HSTOP;go_wp2_with fail
      go_ret
      exact⟨by rw[HS1.out];rfl,HB4.out⟩
     |true=>
      have HS1:=Lib.hid (HNX.out hcu);clear hcu HNX HSTOP;go_wp2_with fail
      go_roundg (nk-(j+1))
      case rel=>exact⟨j+1,by omega,rfl,by go_num,HS1.out,HB4.out,HK4.out⟩
      case measure=>have:=HG.out;omega
    ·obtain rfl:j=nk:=by omega
     rw[List.take_of_length_le (by rw[HNK.out];exact Nat.le_refl _)]at hok;have HO:=Lib.hid hok;clear hok hbw hkw;go_wp2_with fail
     go_ret
     exact⟨by rw[HO.out];rfl,HBW.out⟩
set_option maxHeartbeats 1000000
theorem qgU(x:QT)(w:World):Calls Tryz.prog 40 #[x.v] w fun e w'=>e= .returned (.bool (decide (x.ds.length≤3)&&decide (x.es.length≤3)))∧Below w.heap.size w w':=by
 have hb0:=(Below.refl w.heap.size w).alloc (Nat.le_refl _) (.cells #[.bool x.ng,.slice x.A x.ds.length x.c,.slice x.D x.es.length x.cd] 30);have hk0:=qd.new w 30 #[.bool x.ng,.slice x.A x.ds.length x.c,.slice x.D x.es.length x.cd];have HB0:=Lib.hid hb0;have c1:=hk0.cell 1;have c2:=hk0.cell 2;clear hb0 hk0;unfold QT.v;generalize x.ds.length=a at*;generalize x.es.length=b at*;by_cases h1:a≤3
 ·have e1:(a:Int)≤3:=by omega
  by_cases h2:b≤3
  ·have e2:(b:Int)≤3:=by omega
   rw[decide_eq_true h1,decide_eq_true h2];clear h1 h2;go_enter Tryz.func40,Tryz.ntmps40
   go_wp2_with fail
   go_ret
   exact⟨rfl,HB0.out⟩
  ·have e2:¬(b:Int)≤3:=by omega
   rw[decide_eq_true h1,decide_eq_false h2];clear h1 h2;go_enter Tryz.func40,Tryz.ntmps40
   go_wp2_with fail
   go_ret
   exact⟨rfl,HB0.out⟩
 ·have e1:¬(a:Int)≤3:=by omega
  rw[decide_eq_false h1];clear h1;go_enter Tryz.func40,Tryz.ntmps40
  go_wp2_with fail
  go_ret
  exact⟨rfl,HB0.out⟩
def JZ(x:QT):Bool:=decide (x.ds.length≤3)&&decide (x.es.length≤3)
theorem qgP(A:Option Addr)(c B:Nat)(vs:List QT)(hv:vs.length≤8)(hc:vs.length≤c)(w:World)(hB:B≤w.heap.size)(h:jM w B A vs):
 Calls Tryz.prog 17 #[.slice A vs.length c] w fun e w'=>e= .returned (.bool (vs.all JZ))∧Below w.heap.size w w':=by
 have HR:=Lib.hid (fun(W:World)(hW:Below w.heap.size w W)=>h.below (hW.mono hB));have HSH:=Lib.hid (fun(x:QT)(W:World)=>qgU x W);clear h;generalize hn:vs.length=n at*;have HN:=Lib.hid hn;clear hn;go_enter Tryz.func17,Tryz.ntmps17
 go_wp2_with fail
 go_loopg [3,6] n (fun gn _ ix wr=>∃j:Nat,j≤n∧gn=n-j∧ix= .int .i64 j∧(vs.take j).all JZ=true∧Below w.heap.size w wr)
 case atStart=>exact⟨0,Nat.zero_le _,rfl,rfl,by simp,Below.refl _ _⟩
 case round=>
  obtain⟨j,hj,hgj,rfl,hok,hbw⟩:=hrel;have HG:=Lib.hid hgj;have HBW:=Lib.hid hbw;clear hgj;by_cases hlt:j<n
  ·obtain⟨x,hx⟩:∃x,vs[j]? =some x:=⟨_,List.getElem?_eq_getElem (by rw[HN.out];exact hlt)⟩;obtain⟨b,o,rfl,hbB,x0,x1,x2⟩:=(HR.out wr hbw).at_ hx;have hxm:=List.mem_of_getElem? hx;have HC:=Lib.hid (HSH.out x wr);have HSTOP:=Lib.hid (fun hz:JZ x=false=>show vs.all JZ=false from qdg hxm hz);have HNX:=Lib.hid (fun hz:JZ x=true=>Qk hx hok hz);have HEX:=Lib.hid (show(decide (x.ds.length≤3)&&decide (x.es.length≤3))=JZ x from rfl);have i3:(0:Int)≤(j:Int):=by omega
   have i4:(j:Int)<(n:Int):=by omega
   have i5:(n:Int)≤(c:Int):=by omega
   have i8:¬(8:Int)≤(j:Int):=by omega
   unfold QT.v at HC;rw[HEX.out]at HC;clear hx hxm hok hbw;generalize JZ x=z at*;generalize x.ds.length=xd at*;generalize x.es.length=xe at*;clear HEX;go_wp2_with fail
   refine HC.out.mono ?_;rintro e w2 ⟨rfl,hb2⟩;have HB2:=Lib.hid (HBW.out.trans (hb2.mono HBW.out.size));clear hb2 x0 x1 x2
   cases z
   ·have HF:=Lib.hid (HSTOP.out rfl);go_wp2_with fail
    go_ret
    exact⟨by rw[HF.out];rfl,HB2.out⟩
   ·have HNN:=Lib.hid (HNX.out rfl);go_wp2_with fail
    go_roundg (n-(j+1))
    case rel=>exact⟨j+1,by omega,rfl,by go_num,HNN.out,HB2.out⟩
    case measure=>have:=HG.out;omega
  ·obtain rfl:n=j:=by omega
   have HF:=Lib.hid (show vs.all JZ=true by rw[List.take_of_length_le (by rw[HN.out];exact Nat.le_refl _)]at hok;exact hok);clear hbw hok;go_wp2_with fail
   go_ret
   exact⟨by rw[HF.out];rfl,HBW.out⟩
def ZQ(n:Nat)(t:RP):Prop:=0≤jU 2 t 30 6∧jg t (qq t)∧Qe n (qq t)=true
theorem qgb(n:Nat)(hn:n≤1000)(t:RP)(hsc:jg t (qq t)→0≤jU 2 t 30 6→yf 1000 (qq t))(A:Option Addr)(c:Nat)(K:Option Addr)(kc B:Nat)(w:World)(hB:B≤w.heap.size)(h:RV w (· <B) t (qc t A c K kc)):
 Calls Tryz.prog 5 #[qn t A c K kc,.int .i64 (n:Int)] w fun e w'=>∃b,e= .returned (.bool b)∧(b=true→ZQ n t)∧Below w.heap.size w w':=by
 have hb0:=(Below.refl w.heap.size w).alloc (Nat.le_refl _) (.cells #[.int .i64 t.lv,.bool t.ng,.slice A t.ds.length c,.slice K t.ks.length kc] 28);have hk0:=qd.new w 28 #[.int .i64 t.lv,.bool t.ng,.slice A t.ds.length c,.slice K t.ks.length kc];have HB0:=Lib.hid hb0;have HK0:=Lib.hid hk0;have HF:=Lib.hid (fun(W:World)(hW:Below w.heap.size w W)=>qi9 t A c K kc B 30 2 W (Nat.le_trans hB hW.size) (h.below (hW.mono hB)) (by omega) (by omega));have HNM:=Lib.hid (fun(hr:0≤jU 2 t 30 6)(W:World)(hW:Below w.heap.size w W)=>zT 2 (by omega) t (by obtain⟨h1,h2,h3⟩:=YQ 2 t 30 6 hr;exact⟨by omega,h3,by omega⟩) A c K kc B W (Nat.le_trans hB hW.size) (h.below (hW.mono hB)));have HLO:=Lib.hid (fun(hr:0≤jU 2 t 30 6)(hc:jg t (qq t))(A:Option Addr)(c:Nat)(K:Option Addr)(kc BB:Nat)(W:World)(hW:BB≤W.heap.size)(h:RV W (· <BB) (qq t) (qc (qq t) A c K kc))=>qff n hn 1000 (by omega) (qv (qq t)) (qq t) (Nat.le_refl _) (hsc hc hr) A c K kc BB W hW h);unfold Ya qn at HNM;unfold qn at HF HLO ⊢;clear hb0 hk0 h hB hsc;have a0:=HK0.out.cell 0;have a1:=HK0.out.cell 1;have a2:=HK0.out.cell 2;have a3:=HK0.out.cell 3;go_enter Tryz.func5,Tryz.ntmps5
 go_wp2_with fail
 generalize w.alloc (.cells #[.int .i64 t.lv,.bool t.ng,.slice A t.ds.length c,.slice K t.ks.length kc] 28)=W0 at*;refine(HF.out W0 HB0.out).mono ?_;rintro e w1 ⟨rfl,hb1⟩;have HB1:=Lib.hid (HB0.out.trans (hb1.mono HB0.out.size));have HK1:=Lib.hid (HK0.out.old hb1);clear hb1 a0 a1 a2 a3;by_cases hr:0≤jU 2 t 30 6
 ·have HRR:=Lib.hid hr;rw[decide_eq_true (show 0≤jU 2 t ((30:Nat):Int) 6 from hr)];have HN1:=Lib.hid (HNM.out hr w1 HB1.out);have a0:=HK1.out.cell 0;have a1:=HK1.out.cell 1;have a2:=HK1.out.cell 2;have a3:=HK1.out.cell 3;clear hr HNM HF;go_wp2_with fail
  refine HN1.out.mono ?_;rintro e w2 ⟨A2,c2,K2,kc2,rfl,hct,hrb,hb2⟩;have HB2:=Lib.hid (HB1.out.trans (hb2.mono HB1.out.size));have HCT:=Lib.hid hct;have HL1:=Lib.hid (HLO.out HRR.out hct A2 c2 K2 kc2 w2.heap.size w2 (Nat.le_refl _) hrb.rv);clear hct hrb hb2 a0 a1 a2 a3 HN1 HLO;have HIN:=Lib.hid (fun(h:Qe n (qq t)=true)=>show ZQ n t from⟨HRR.out,HCT.out,h⟩);generalize qq t=T at*;go_wp2_with fail
  refine HL1.out.mono ?_;rintro e w3 ⟨rfl,hb3⟩;have HB3:=Lib.hid (HB2.out.trans (hb3.mono HB2.out.size));clear hb3 HL1;go_wp2_with fail
  go_ret
  exact⟨Qe n T,rfl,fun h=>HIN.out h,HB3.out⟩
 ·rw[decide_eq_false (show¬0≤jU 2 t ((30:Nat):Int) 6 from hr)];go_wp2_with fail
  go_ret
  exact⟨false,rfl,fun h=>(by cases h),HB1.out⟩
theorem qkt{c:RP}(hw:qM 2 12 c)(hf:yz 2 c)(hd:qG c)(hn:yj c≤1000)(hdp:qv c≤6):qM 3 73 (qq c):=by
 rcases jJ c with⟨_,e⟩|⟨_,P,hP,hcf,e⟩
 ·rw[e];exact qM.mono (by omega) (by omega) _ hw
 ·rw[e];refine qap (by omega) 4 _ (by omega) fun s hs=>?_;refine⟨zK ?_,fun i hi=>?_⟩
  ·have h2:=Qs hs;have h3:=hP.nrm_le hcf;have h4:nrm (jY c)≤1000*pw 2:=by
    refine Nat.le_trans (Jn _ (pw 2) fun t ht=>?_) (Nat.mul_le_mul_right _ ?_)
    ·obtain⟨x,hx,rfl⟩:=List.mem_map.1 (show t∈(ji c (0,0,0,0)).map zH from ht);have h1:=(Jt c (0,0,0,0) 0 hf (by simp[zm]) x hx).1;show(qb x.1.1 x.1.2).natAbs≤_;rw[qz];exact Nat.le_of_lt (Q1 (Ye c _ hd x hx) h1)
    ·rw[zL,List.length_map];exact Nat.le_trans (Qa c _) hn
   have h5:=J5 2;rw[show pw (2+1)=pw 3 from rfl]at h5;omega
  ·obtain⟨x,hx,e⟩:=QS hP hcf hs;have h1:=(Jt c (0,0,0,0) 0 hf (by simp[zm]) x hx).2;have h2:=(h1.at_ i).2;rw[JI _ hi]at h2;rw[←e];omega
theorem zJ{t:RP}(h:0≤jU 2 t 30 6)(hd:qG t):zU 400 t∧qM 3 73 (qq t):=by
 obtain⟨h1,h2,h3⟩:=YQ 2 t 30 6 h;have hw:=qcJ _ h3;exact⟨⟨by omega,qM.few (n:=12) (by omega) _ (qM.mono (by omega) (Nat.le_refl _) _ hw),by omega⟩,qkt hw h3 hd (by omega) h2⟩
theorem qf7(n:Nat)(hn:n<256)(w:World):Calls Tryz.prog 7 #[.int .u8 (n:Int)] w fun e w'=>e= .returned (.int .i64 (((n%4:Nat):Int)+1))∧w'=w:=by
 have h1:IntKind.i64.wrap (1+((n:Int)%4))=((n%4:Nat):Int)+1:=by rw[IntWalk.i64_in _ (by omega)];omega
 have h2:(n:Int).tmod 4=(n:Int)%4:=Int.tmod_eq_emod_of_nonneg (by omega);have h3:IntKind.u8.wrap ((n:Int)%4)=(n:Int)%4:=by simp[IntKind.wrap,IntKind.signed,IntKind.bits];omega
 have h4:IntKind.i64.wrap ((n:Int)%4)=(n:Int)%4:=IntWalk.i64_in _ (by omega);go_enter Tryz.func7,Tryz.ntmps7
 go_wp2_with fail
 go_ret
 exact⟨by rw[show((n%4:Nat):Int)=(n:Int)%4 by omega];rfl,rfl⟩
structure PtA (w:World) (B:Nat) (vs:List QT):Prop where
 nn:∀x∈vs,qh w B x.A x.c x.ds
 nd:∀x∈vs,qh w B x.D x.cd x.es
theorem PtA.below{w w':World}{B:Nat}{vs:List QT}(h:PtA w B vs)(hb:Below B w w'):PtA w' B vs:=⟨fun x hx=>(h.nn x hx).below hb,fun x hx=>(h.nd x hx).below hb⟩
theorem PtA.ptIn{w:World}{B:Nat}{vs:List QT}(h:PtA w B vs)(hs:vs.all JZ=true):YC w B vs:=by
 rw[List.all_eq_true]at hs;refine⟨fun x hx=>⟨h.nn x hx,?_⟩,fun x hx=>⟨h.nd x hx,?_⟩⟩
 ·have:=hs x hx;simp[JZ]at this;exact this.1
 ·have:=hs x hx;simp[JZ]at this;exact this.2
theorem PtA.rats{w:World}{B g:Nat}{t:TypeId}{x0 x1 x2 x3:QT}(hk:qd w g t (xc4 x0 x1 x2 x3))(hg:g<B)(hp:PtA w B [x0,x1,x2,x3]):jM w B (some ⟨g,0,none⟩) [x0,x1,x2,x3]:=by
 refine⟨⟨rfl,fun _=>⟨g,0,rfl,hg,fun j u hu=>?_⟩⟩,hp.nn,hp.nd⟩;rw[Nat.zero_add,hk.cell,qaV];simpa using hu
theorem qhE(x0 x1 x2 x3:QT)(B:Nat)(w:World)(hB:B≤w.heap.size)(hp:PtA w B [x0,x1,x2,x3]):
 Calls Tryz.prog 6 #[.agg (xc4 x0 x1 x2 x3)] w fun e w'=>e= .returned (.bool ([x0,x1,x2,x3].all JZ))∧Below w.heap.size w w':=by
 have hb0:=(Below.refl w.heap.size w).alloc (Nat.le_refl _) (.cells (xc4 x0 x1 x2 x3) 31);have k0:=qd.new w 31 (xc4 x0 x1 x2 x3);have hq:=hp.below (hb0.mono hB);have HF:=Lib.hid (qgP (some ⟨w.heap.size,0,none⟩) 4 _ [x0,x1,x2,x3] (by simp) (by simp) _ (Nat.le_refl _) (PtA.rats k0 k0.lt ⟨fun x hx=>(hq.nn x hx).more (Nat.le_trans hB hb0.size),fun x hx=>(hq.nd x hx).more (Nat.le_trans hB hb0.size)⟩));have HB0:=Lib.hid hb0;rw[show[x0,x1,x2,x3].length=4 from rfl]at HF;clear hp hb0 k0 hB hq;generalize [x0,x1,x2,x3].all JZ=b at*;generalize xc4 x0 x1 x2 x3=cx at*;go_enter Tryz.func6,Tryz.ntmps6
 go_upto_region 1 with(fail)
 generalize w.alloc (.cells cx 31)=W at*;go_wp2_with fail
 refine HF.out.mono ?_;rintro e w1 ⟨rfl,hb1⟩;have HB1:=Lib.hid (HB0.out.trans (hb1.mono HB0.out.size));clear hb1 HF HB0;go_wp2_with fail
 go_ret
 exact⟨rfl,HB1.out⟩
theorem qlk{d:Nat}{T:RP}(hw:qM d 5 T)(hd:qG T):(JK T).length≤6∧∀v∈JK T,(dig v.natAbs).length≤d:=by
 refine⟨?_,fun v hv=>?_⟩
 ·unfold JK Qz;refine Nat.le_trans (List.length_take_le' _ _) ?_
  split
  ·simp
  ·rw[List.length_map];exact Nat.le_trans hw.at_.2.1 (by omega)
 ·have hv:=List.mem_of_mem_take hv;unfold Qz at hv
  split at hv
  ·rw[List.mem_singleton]at hv;subst hv;rw[qz];exact Nat.le_trans (qo hd.at_.1) hw.at_.1
  ·obtain⟨u,hu,rfl⟩:=List.mem_map.1 hv;rw[qz];exact Nat.le_trans (qo (hd.at_.2 u hu).at_.1) (hw.at_.2.2 u hu).at_.1
theorem qic{vs:List Int}{w0 w:World}{g:Nat}{zs:List ZT}(hc:yB w0 w g vs zs)(hn:vs.length≤6)(hl:∀v∈vs,(dig v.natAbs).length≤1000):
 Calls Tryz.prog 8 #[.slice (some ⟨g,0,none⟩) vs.length vs.length,.bool true] w fun e w'=>e= .returned (.int .i64 (zy (JC vs)))∧Below w.heap.size w w':=by
 have hlen:=hc.len;have hz:yV zs=vs:=hc.eq;have:=qhY zs (by omega) (fun x hx=>by rw[hc.cn x hx];exact Nat.le_trans (hl x.z (by rw[←hc.eq];exact List.mem_map_of_mem hx)) (by omega)) (some ⟨g,0,none⟩) vs.length w.heap.size w (Nat.le_refl _) hc.ints (by omega) (by simp);rw[hz,hlen,←qjb]at this;exact this
theorem qeF(t:RP)(A:Option Addr)(c:Nat)(K:Option Addr)(kc:Nat)(n:Nat)(hn:n<256)(x0 x1 x2 x3:QT)(B:Nat)(w:World)(hB:B≤w.heap.size)(h:RV w (· <B) t (qc t A c K kc))(hp:PtA w B [x0,x1,x2,x3]):
 Calls Tryz.prog 3 #[qn t A c K kc,.int .u8 (n:Int),.agg (xc4 x0 x1 x2 x3)] w fun e w'=>e= .returned (.bool true)∧Below w.heap.size w w':=by
 obtain⟨hb0,k0,k1,hs⟩:=qK w 28 31 #[.int .i64 t.lv,.bool t.ng,.slice A t.ds.length c,.slice K t.ks.length kc] (xc4 x0 x1 x2 x3);have HB0:=Lib.hid hb0;have HK0:=Lib.hid k0;have HK1:=Lib.hid k1;have hdt:qG t:=RV.digT _ _ h;have hdc:qG (qq t):=(jJ t).dig hdt;have HAW:=Lib.hid qgS;have HSM:=Lib.hid (fun(W:World)(hW:Below w.heap.size w W)=>qgb 4 (by omega) t (fun _ hr=>(zJ hr hdt).2.sm (by omega) (by omega)) A c K kc B W (Nat.le_trans hB hW.size) (h.below (hW.mono hB)));have HVL:=Lib.hid (fun(W:World)(hW:Below w.heap.size w W)=>qhE x0 x1 x2 x3 B W (Nat.le_trans hB hW.size) (hp.below (hW.mono hB)));have HLV:=Lib.hid (fun(W:World)=>qf7 n hn W);have hk:n%4<4:=Nat.mod_lt _ (by decide);generalize n%4=k at*;have HAT:=Lib.hid (fun(hS:ZQ 4 t)(hs:[x0,x1,x2,x3].all JZ=true)(W:World)(hW:Below w.heap.size w W)=>qg9 k hk t (zJ hS.1 hdt).1 3 (by omega) (qb1 _ hS.2.2 _ (zJ hS.1 hdt).2) x0 x1 x2 x3 A c K kc B W (Nat.le_trans hB hW.size) (h.below (hW.mono hB)) ((hp.below (hW.mono hB)).ptIn hs));have HSE:=Lib.hid (fun(hS:ZQ 4 t)(hs:[x0,x1,x2,x3].all JZ=true)=>by
  have hq:=(hp.ptIn hs).rl;have HQ0:=StQ.start k (yy [x0,x1,x2,x3]) (zJ hS.1 hdt).1 (qb1 _ hS.2.2 _ (zJ hS.1 hdt).2) hdc;have HQ4:=(((HQ0.next (by omega) (hq 0) (by omega)).next (by omega) (hq 1) (by omega)).next (by omega) (hq 2) (by omega)).next (by omega) (hq 3) (by omega)
  have hu:=qlk HQ4.lw HQ4.dig;exact(⟨qiN hk HQ4,hu.1,fun v hv=>Nat.le_trans (hu.2 v hv) (by omega)⟩:zy (JC (JK (qq (zP k (yy [x0,x1,x2,x3]) t 4))))=zy ((jS ((k:Int)+1) t).map (vT (yy [x0,x1,x2,x3])))∧(JK (qq (zP k (yy [x0,x1,x2,x3]) t 4))).length≤6∧∀v∈JK (qq (zP k (yy [x0,x1,x2,x3]) t 4)),(dig v.natAbs).length≤1000))
 have HTD:=Lib.hid (fun(r:Nat)(s:Int)(hs0:s=zy ((jS ((k:Int)+1) t).map (vT (yy [x0,x1,x2,x3]))))(hS:ZQ 4 t)(hs:[x0,x1,x2,x3].all JZ=true)(W:World)(hW:Below w.heap.size w W)=>qhD k hk r s t (zJ hS.1 hdt).1 3 (by omega) (qb1 _ hS.2.2 _ (zJ hS.1 hdt).2) x0 x1 x2 x3 hs0 A c K kc B W (Nat.le_trans hB hW.size) (h.below (hW.mono hB)) ((hp.below (hW.mono hB)).ptIn hs));clear h hp hdt hdc hb0 k0 k1 hs hB;generalize JK (qq (zP k (yy [x0,x1,x2,x3]) t 4))=uv at*;generalize zy ((jS ((k:Int)+1) t).map (vT (yy [x0,x1,x2,x3])))=sg at*;have HSH:=Lib.hid (fun(b:Bool)(hb:[x0,x1,x2,x3].all JZ=b)=>hb);generalize [x0,x1,x2,x3].all JZ=bs at*;unfold xc4 qn at*;generalize Value.bool x0.ng=y0 at*;generalize Value.slice x0.A x0.ds.length x0.c=y1 at*;generalize Value.slice x0.D x0.es.length x0.cd=y2 at*;generalize Value.bool x1.ng=y3 at*;generalize Value.slice x1.A x1.ds.length x1.c=y4 at*;generalize Value.slice x1.D x1.es.length x1.cd=y5 at*;generalize Value.bool x2.ng=y6 at*;generalize Value.slice x2.A x2.ds.length x2.c=y7 at*;generalize Value.slice x2.D x2.es.length x2.cd=y8 at*;generalize Value.bool x3.ng=y9 at*;generalize Value.slice x3.A x3.ds.length x3.c=y10 at*;generalize Value.slice x3.D x3.es.length x3.cd=y11 at*;unfold jI at HAT;go_enter Tryz.func3,Tryz.ntmps3
 go_upto_region 1 with(fail)
 generalize (w.alloc (.cells #[.int .i64 t.lv,.bool t.ng,.slice A t.ds.length c,.slice K t.ks.length kc] 28)).alloc (.cells #[y0,y1,y2,y3,y4,y5,y6,y7,y8,y9,y10,y11] 31)=W at*;have KF:=Lib.hid (fun(V:World)(hV:Below W.heap.size W V)=>(⟨(HK0.out.old hV).cell 0,(HK0.out.old hV).cell 1,(HK0.out.old hV).cell 2,(HK0.out.old hV).cell 3,(HK1.out.old hV).cell 0,(HK1.out.old hV).cell 1,(HK1.out.old hV).cell 2,(HK1.out.old hV).cell 3,(HK1.out.old hV).cell 4,(HK1.out.old hV).cell 5,(HK1.out.old hV).cell 6,(HK1.out.old hV).cell 7,(HK1.out.old hV).cell 8,(HK1.out.old hV).cell 9,(HK1.out.old hV).cell 10,(HK1.out.old hV).cell 11⟩:V.cell? ⟨w.heap.size,0,none⟩=some (.int .i64 t.lv)∧V.cell? ⟨w.heap.size,1,none⟩=some (.bool t.ng)∧V.cell? ⟨w.heap.size,2,none⟩=some (.slice A t.ds.length c)∧V.cell? ⟨w.heap.size,3,none⟩=some (.slice K t.ks.length kc)∧V.cell? ⟨w.heap.size+1,0,none⟩=some (y0)∧V.cell? ⟨w.heap.size+1,1,none⟩=some (y1)∧V.cell? ⟨w.heap.size+1,2,none⟩=some (y2)∧V.cell? ⟨w.heap.size+1,3,none⟩=some (y3)∧V.cell? ⟨w.heap.size+1,4,none⟩=some (y4)∧V.cell? ⟨w.heap.size+1,5,none⟩=some (y5)∧V.cell? ⟨w.heap.size+1,6,none⟩=some (y6)∧V.cell? ⟨w.heap.size+1,7,none⟩=some (y7)∧V.cell? ⟨w.heap.size+1,8,none⟩=some (y8)∧V.cell? ⟨w.heap.size+1,9,none⟩=some (y9)∧V.cell? ⟨w.heap.size+1,10,none⟩=some (y10)∧V.cell? ⟨w.heap.size+1,11,none⟩=some (y11)));have HT:=Lib.hid (fun(V:World)(hV:Below W.heap.size W V)=>show Below w.heap.size w V from HB0.out.trans (hV.mono HB0.out.size));clear HB0 HK0 HK1;go_wp2_with fail
 refine(HAW.out _).mono ?_;rintro e w1 ⟨rfl,hb1⟩;have HB1:=Lib.hid hb1;have HS1:=Lib.hid (HSM.out w1 (HT.out w1 hb1));obtain⟨d0,d1,d2,d3,z0,z1,z2,z3,z4,z5,z6,z7,z8,z9,z10,z11⟩:=KF.out _ hb1;clear hb1 HSM;go_wp2_with fail
 refine HS1.out.mono ?_;rintro e w2 ⟨b,rfl,hsp,hb2⟩;have HSP:=Lib.hid hsp;have hbw:=HB1.out.trans (hb2.mono HB1.out.size);have HB2:=Lib.hid hbw;clear hsp hb2 HS1 HB1 d0 d1 d2 d3 z0 z1 z2 z3 z4 z5 z6 z7 z8 z9 z10 z11
 cases b with
 |false=>
  clear hbw;go_wp2_with fail
  refine(HAW.out _).mono ?_;rintro e w3 ⟨rfl,hb3⟩;have HB3:=Lib.hid (HT.out w3 (HB2.out.trans (hb3.mono HB2.out.size)));clear hb3 HB2 KF HT;go_wp2_with fail
  go_ret
  exact⟨rfl,HB3.out⟩
 |true=>
  have HV2:=Lib.hid (HVL.out w2 (HT.out w2 hbw));obtain⟨d0,d1,d2,d3,z0,z1,z2,z3,z4,z5,z6,z7,z8,z9,z10,z11⟩:=KF.out _ hbw;clear hbw HVL;go_wp2_with fail
  refine HV2.out.mono ?_;rintro e w3 ⟨rfl,hb3⟩;have hbw:=HB2.out.trans (hb3.mono HB2.out.size);have HB3:=Lib.hid hbw;clear hb3 HV2 HB2 d0 d1 d2 d3 z0 z1 z2 z3 z4 z5 z6 z7 z8 z9 z10 z11
  cases bs with
  |false=>
   clear hbw;go_wp2_with fail
   refine(HAW.out _).mono ?_;rintro e w4 ⟨rfl,hb4⟩;have HB4:=Lib.hid (HT.out w4 (HB3.out.trans (hb4.mono HB3.out.size)));clear hb4 HB3 KF HT;go_wp2_with fail
   go_ret
   exact⟨rfl,HB4.out⟩
  |true=>
   clear hbw;go_wp2_with fail
   refine(HLV.out _).mono ?_;rintro e w4 ⟨rfl,rfl⟩;have hbw:=HB3.out;have HA4:=Lib.hid (HAT.out (HSP.out (by trivial)) (by trivial) _ (HT.out _ hbw));have HE4:=Lib.hid (HSE.out (HSP.out (by trivial)) (by trivial));have HD4:=Lib.hid (fun(r:Nat)(W':World)(hW:Below W.heap.size W W')=>HTD.out r sg rfl (HSP.out (by trivial)) (by trivial) W' (HT.out W' hW));obtain⟨d0,d1,d2,d3,z0,z1,z2,z3,z4,z5,z6,z7,z8,z9,z10,z11⟩:=KF.out _ hbw;clear hbw HAT HSE HTD HLV;go_wp2_with fail
   refine HA4.out.mono ?_;rintro e w5 ⟨g,zs,rfl,hci⟩;have hb5:=HB3.out.trans (hci.bel.mono HB3.out.size);have HB5:=Lib.hid hb5;have HS5:=Lib.hid (qic hci HE4.out.2.1 HE4.out.2.2);rw[HE4.out.1]at HS5;clear hci hb5 HA4 HE4 HB3 d0 d1 d2 d3 z0 z1 z2 z3 z4 z5 z6 z7 z8 z9 z10 z11;generalize uv.length=ul at*;go_wp2_with fail
   refine HS5.out.mono ?_;rintro e w6 ⟨rfl,hb6⟩;have HB6:=Lib.hid (HB5.out.trans (hb6.mono HB5.out.size));clear hb6 HS5 HB5;go_wp2_with fail
   go_loopg [9] 8 (fun gn rv wr=>∃r:Nat,r≤8∧gn=8-r∧rv= .int .i64 r∧Below W.heap.size W wr)
   case atStart=>exact⟨0,by omega,rfl,rfl,HB6.out⟩
   case round=>
    clear HB6;obtain⟨r,hr,hgr,rfl,hbw⟩:=hrel;have HG:=Lib.hid hgr;have HBW:=Lib.hid hbw;clear hgr;by_cases hlt:r<8
    ·have HD5:=Lib.hid (HD4.out r wr hbw);obtain⟨d0,d1,d2,d3,z0,z1,z2,z3,z4,z5,z6,z7,z8,z9,z10,z11⟩:=KF.out _ hbw;clear hbw;have i3:(r:Int)≤7:=by omega
     go_wp2_with fail
     refine HD5.out.mono ?_;rintro e w7 ⟨rfl,hb7⟩;have HB7:=Lib.hid (HBW.out.trans (hb7.mono HBW.out.size));clear hb7 HD5 HBW d0 d1 d2 d3 z0 z1 z2 z3 z4 z5 z6 z7 z8 z9 z10 z11;go_wp2_with fail
     go_roundg (8-(r+1))
     case rel=>exact⟨r+1,by omega,rfl,by go_num,HB7.out⟩
     case measure=>have:=HG.out;omega
    ·obtain rfl:r=8:=by omega
     clear hbw;go_wp2_with fail
     go_ret
     exact⟨rfl,HT.out _ HBW.out⟩
end Go.Proofs.YtflikmojaidhhaaGreat
namespace Go.Proofs.YtflikmojaidhhaaGreat
open Go.ChangeShapes Go.WideShapes Go.ChangeAt Go.RowKit Go.Deep
theorem qlE{x:Int}(h:(Lit.int .u32 x).wf=true):0≤x∧x<4294967296:=by
 simp[Lit.wf,IntKind.min,IntKind.max,IntKind.signed,IntKind.bits]at h;omega
theorem Tryz.cellsInt:Tryz.prog.cellsOf 25=2:=by kernel_rfl
theorem Tryz.cellsNat:Tryz.prog.cellsOf 23=1:=by kernel_rfl
theorem Tryz.cellsBool:Tryz.prog.cellsOf 4=1:=by kernel_rfl
theorem Tryz.cellsU32:Tryz.prog.cellsOf 134=1:=by kernel_rfl
section
variable {H:Type} {enc:TypeId×Value→H} {W:World}
theorem qdx{fuel:Nat}{v:Value}{y:DataW H×List MemPlace}(h:DataW.trod enc Tryz.prog W 0 (fun _=>true) true fuel 23 [v]=some y):
 ∃(ds:List Nat)(A:Option Addr)(c:Nat),v= .slice A ds.length c∧qh W W.heap.size A c ds:=by
 rcases open_ints Tryz.underlying23 Tryz.underlying134 Tryz.cellsU32 h with⟨hcs,_⟩|⟨x,l,c,zs,hcs,_,hl,hm,hz,_,hcell,hwz⟩
 ·simp at hcs;subst hcs;exact⟨[],none,0,rfl,qi.none_,by simp[qP],Nat.le_refl _⟩
 ·simp at hcs;subst hcs;simp at hz;have hnn:∀z∈zs,0≤z∧z<4294967296:=fun z hzm=>qlE (hwz z hzm);have hlen:((zs.take l).map Int.toNat).length=l:=by rw[List.length_map,List.length_take,hz];omega
  refine⟨(zs.take l).map Int.toNat,some x,c,by rw[hlen],⟨?_,fun d hd=>?_,by rw[hlen];exact hl⟩⟩
  ·rw[hlen];refine⟨by rw[qf,List.length_map,hlen,Nat.mul_one],fun hpos=>?_⟩;obtain⟨b,o,spot⟩:=x;have hspot:spot=none:=by simpa[Addr.add]using World.cell?_spot (hcell 0 (by omega))
   subst hspot;have h0:=hcell 0 (by omega);refine⟨b,o,rfl,World.block_lt_of_cell? W ⟨b,o,none⟩ h0,fun j u hu=>?_⟩;have hj:j<l:=by have:=(List.getElem?_eq_some_iff.1 hu).1;simp[qf]at this;omega
   have hjz:j<zs.length:=by omega
   have:=hcell j hjz;rw[Addr.add_lit]at this;rw[this,←hu];have e1:zs.getD j 0=zs[j]:=by simp[List.getElem?_eq_getElem hjz]
   have e2:(zs[j].toNat:Int)=zs[j]:=by have:=hnn _ (List.getElem_mem hjz);omega
   simp[qf,hj,List.getElem?_eq_getElem hjz,e2]
  ·obtain⟨z,hz1,rfl⟩:=List.mem_map.1 hd;have:=hnn z (List.mem_of_mem_take hz1);omega
theorem qf4{fuel:Nat}{x0 x1:Value}{y:DataW H×List MemPlace}(h:DataW.trod enc Tryz.prog W 0 (fun _=>true) true fuel 25 [x0,x1]=some y):
 ∃(ng:Bool)(ds:List Nat)(A:Option Addr)(c:Nat),x0= .bool ng∧x1= .slice A ds.length c∧qh W W.heap.size A c ds:=by
 obtain⟨xs,n,_,_,_,hxl,hf⟩:=DataW.trod_struct Tryz.underlying25 h;have f0:DataW.trod enc Tryz.prog W 0 (fun _=>true) true n 4 ((([x0,x1]:List Value).drop 0).take (Tryz.prog.cellsOf 4))=xs[0]?:=hf 0 _ rfl;have f1:DataW.trod enc Tryz.prog W 0 (fun _=>true) true n 23 ((([x0,x1]:List Value).drop 1).take (Tryz.prog.cellsOf 23))=xs[1]?:=hf 1 _ rfl;rw[Tryz.cellsBool]at f0;rw[Tryz.cellsNat]at f1;change DataW.trod enc Tryz.prog W 0 (fun _=>true) true n 4 [x0]=xs[0]? at f0;change DataW.trod enc Tryz.prog W 0 (fun _=>true) true n 23 [x1]=xs[1]? at f1;have l0:xs[0]? =some (xs[0]'(by simp at hxl;omega)):=List.getElem?_eq_getElem _;have l1:xs[1]? =some (xs[1]'(by simp at hxl;omega)):=List.getElem?_eq_getElem _;rw[l0]at f0;rw[l1]at f1;obtain⟨b,hb,_⟩:=DataW.trod_bool Tryz.underlying4 f0;obtain⟨ds,A,c,rfl,hn⟩:=qdx f1;simp at hb;exact⟨b,ds,A,c,hb,rfl,hn⟩
end
theorem own:ownKnob Tryz.prog.godebug=none:=by kernel_rfl
theorem laidOut:laidOutB Tryz.prog=true:=by kernel_rfl
theorem Tryz.cellsRat:Tryz.prog.cellsOf 30=3:=by kernel_rfl
section
variable {H:Type} {enc:TypeId×Value→H} {W:World}
theorem Yw{fuel:Nat}{cs:List Value}{y:DataW H×List MemPlace}(hl:cs.length=3)(h:DataW.trod enc Tryz.prog W 0 (fun _=>true) true fuel 30 cs=some y):
 ∃p:QT,cs=p.cells∧qh W W.heap.size p.A p.c p.ds∧qh W W.heap.size p.D p.cd p.es:=by
 match cs,hl,h with
 |[x0,x1,x2],_,h=>
  obtain⟨xs,n,_,_,_,hxl,hf⟩:=DataW.trod_struct Tryz.underlying30 h;have f0:DataW.trod enc Tryz.prog W 0 (fun _=>true) true n 25 ((([x0,x1,x2]:List Value).drop 0).take (Tryz.prog.cellsOf 25))=xs[0]?:=hf 0 _ rfl;have f1:DataW.trod enc Tryz.prog W 0 (fun _=>true) true n 23 ((([x0,x1,x2]:List Value).drop 2).take (Tryz.prog.cellsOf 23))=xs[1]?:=hf 1 _ rfl;rw[Tryz.cellsInt]at f0;rw[Tryz.cellsNat]at f1;change DataW.trod enc Tryz.prog W 0 (fun _=>true) true n 25 [x0,x1]=xs[0]? at f0;change DataW.trod enc Tryz.prog W 0 (fun _=>true) true n 23 [x2]=xs[1]? at f1;have l0:xs[0]? =some (xs[0]'(by simp at hxl;omega)):=List.getElem?_eq_getElem _;have l1:xs[1]? =some (xs[1]'(by simp at hxl;omega)):=List.getElem?_eq_getElem _;rw[l0]at f0;rw[l1]at f1;obtain⟨ng,ds,A,c,rfl,rfl,hn⟩:=qf4 f0;obtain⟨es,D,cd,rfl,hd⟩:=qdx f1;exact⟨⟨ng,ds,A,c,es,D,cd⟩,rfl,hn,hd⟩
end
theorem qb3{α:Type}(d:α){p:Nat→α→Prop}(n:Nat)(h:∀k,k<n→∃a,p k a):∃l:List α,l.length=n∧∀k,k<n→p k (l.getD k d):=by
 induction n with
 |zero=>exact⟨[],rfl,fun k hk=>absurd hk (by omega)⟩
 |succ n ih=>
  obtain⟨l,hl,hp⟩:=ih fun k hk=>h k (by omega);obtain⟨a,ha⟩:=h n (by omega);refine⟨l++[a],by simp[hl],fun k hk=>?_⟩;by_cases hkn:k<n
  ·have e:(l++[a]).getD k d=l.getD k d:=by rw[List.getD_eq_getElem?_getD,List.getElem?_append_left (by omega),List.getD_eq_getElem?_getD]
   rw[e];exact hp k hkn
  ·have hke:k=l.length:=by omega
   have e:(l++[a]).getD k d=a:=by rw[hke];simp
   rw[e,show k=n by omega];exact ha
theorem qde{P:Program}{w:World}{r:Reach}{base:Nat}{t e:TypeId}{n:Nat}{v:Value}(ht:P.underlying t=some (.array n e))(h:Value.okWide P w r base t v):∃cs,v= .agg cs∧cs.size=P.cellsOf t:=by
 simp only[Value.okWide,ht]at h;obtain⟨cs,h1,h2,_⟩:=h;exact⟨cs,h1,h2⟩
theorem qjv{x:Int}(h:(Lit.int .u32 x).wf=true):0≤x∧x<4294967296:=by
 simp[Lit.wf,IntKind.min,IntKind.max,IntKind.signed,IntKind.bits]at h;omega
theorem qH.of_pairs{w:World}{S:Nat→Prop}:∀(l:List (RP×List Value)),(∀x∈l,RV w S x.1 x.2)→qH w S (l.map (·.1)) (l.map (·.2))
 |[],_=>by simp[qH]
 |x::l,h=>by
  simp only[List.map_cons];unfold qH;exact⟨_,_,rfl,h x (by simp),qH.of_pairs l fun y hy=>h y (by simp[hy])⟩
section
variable {H:Type} {enc:TypeId×Value→H} {W:World}
theorem qg6{fuel:Nat}{v:Value}{y:DataW H×List MemPlace}(h:DataW.trod enc Tryz.prog W 0 (fun _=>true) true fuel 23 [v]=some y):
 ∃(ds:List Nat)(A:Option Addr)(c:Nat),v= .slice A ds.length c∧jd W (· <W.heap.size) 1 A ds.length (qf ds)∧qP ds∧ds.length≤c:=by
 rcases open_ints Tryz.underlying23 Tryz.underlying134 (by kernel_rfl) h with⟨hcs,_⟩|⟨x,l,c,zs,hcs,_,hl,hm,hz,_,hcell,hwz⟩
 ·simp at hcs;subst hcs;exact⟨[],none,0,rfl,jd.of qi.none_ (fun _ h=>h),by simp[qP],Nat.le_refl _⟩
 ·simp at hcs;subst hcs;simp at hz;have hnn:∀z∈zs,0≤z∧z<4294967296:=fun z hzm=>qjv (hwz z hzm);have hlen:((zs.take l).map Int.toNat).length=l:=by rw[List.length_map,List.length_take,hz];omega
  refine⟨(zs.take l).map Int.toNat,some x,c,by rw[hlen],?_,fun d hd=>?_,by rw[hlen];exact hl⟩
  ·rw[hlen];refine⟨by rw[qf,List.length_map,hlen,Nat.mul_one],fun hpos=>?_⟩;obtain⟨b,o,spot⟩:=x;have hspot:spot=none:=by simpa[Addr.add]using World.cell?_spot (hcell 0 (by omega))
   subst hspot;have h0:=hcell 0 (by omega);refine⟨b,o,rfl,World.block_lt_of_cell? W ⟨b,o,none⟩ h0,fun j u hu=>?_⟩;have hj:j<l:=by have:=(List.getElem?_eq_some_iff.1 hu).1;simp[qf]at this;omega
   have hjz:j<zs.length:=by omega
   have:=hcell j hjz;rw[Addr.add_lit]at this;rw[this,←hu];have e1:zs.getD j 0=zs[j]:=by simp[List.getElem?_eq_getElem hjz]
   have e2:(zs[j].toNat:Int)=zs[j]:=by have:=hnn _ (List.getElem_mem hjz);omega
   simp[qf,hj,List.getElem?_eq_getElem hjz,e2]
  ·obtain⟨z,hz1,rfl⟩:=List.mem_map.1 hd;have:=hnn z (List.mem_of_mem_take hz1);omega
theorem qa1{fuel:Nat}{x0 x1:Value}{y:DataW H×List MemPlace}(h:DataW.trod enc Tryz.prog W 0 (fun _=>true) true fuel 25 [x0,x1]=some y):
 ∃(ng:Bool)(ds:List Nat)(A:Option Addr)(c:Nat),x0= .bool ng∧x1= .slice A ds.length c∧jd W (· <W.heap.size) 1 A ds.length (qf ds)∧qP ds∧ds.length≤c:=by
 obtain⟨xs,n,_,_,_,hxl,hf⟩:=DataW.trod_struct Tryz.underlying25 h;have f0:DataW.trod enc Tryz.prog W 0 (fun _=>true) true n 4 ((([x0,x1]:List Value).drop 0).take (Tryz.prog.cellsOf 4))=xs[0]?:=hf 0 _ rfl;have f1:DataW.trod enc Tryz.prog W 0 (fun _=>true) true n 23 ((([x0,x1]:List Value).drop 1).take (Tryz.prog.cellsOf 23))=xs[1]?:=hf 1 _ rfl;rw[show Tryz.prog.cellsOf 4=1 by kernel_rfl]at f0;rw[show Tryz.prog.cellsOf 23=1 by kernel_rfl]at f1;change DataW.trod enc Tryz.prog W 0 (fun _=>true) true n 4 [x0]=xs[0]? at f0;change DataW.trod enc Tryz.prog W 0 (fun _=>true) true n 23 [x1]=xs[1]? at f1;have l0:xs[0]? =some (xs[0]'(by simp at hxl;omega)):=List.getElem?_eq_getElem _;have l1:xs[1]? =some (xs[1]'(by simp at hxl;omega)):=List.getElem?_eq_getElem _;rw[l0]at f0;rw[l1]at f1;obtain⟨b,hb,_⟩:=DataW.trod_bool Tryz.underlying4 f0;obtain⟨ds,A,c,rfl,hn⟩:=qg6 f1;simp at hb;exact⟨b,ds,A,c,hb,rfl,hn⟩
theorem qaL{fuel:Nat}(IH:∀(n:Nat)(cs:List Value)(y:DataW H×List MemPlace),n<fuel→cs.length=4→DataW.trod enc Tryz.prog W 0 (fun _=>true) true n 28 cs=some y→∃t:RP,RV W (· <W.heap.size) t cs)
 {cs0:List Value}{y:DataW H×List MemPlace}(h:DataW.trod enc Tryz.prog W 0 (fun _=>true) true fuel 26 cs0=some y):
 ∃(ks:List RP)(K:Option Addr)(kc:Nat),cs0=[.slice K ks.length kc]∧ks.length≤kc∧kc≤maxLen∧∃rows,jd W (· <W.heap.size) 4 K ks.length rows.flatten∧qH W (· <W.heap.size) ks rows:=by
 rcases DataW.trod_slice Tryz.underlying26 h with⟨hcs,_⟩|⟨a,len,cap,elems,rest,n,hn,hcs,_,_,hl,hm,hlen,hel,_,_⟩
 ·subst hcs;exact⟨[],none,0,rfl,Nat.le_refl _,by unfold maxLen;omega,[],jd.of qi.none_ (fun _ h=>h),by simp[qH]⟩
 ·subst hcs;have each:∀k,k<len→∃x:RP×List Value,(∀j u,x.2[j]? =some u→W.cell? (a.add (k*4+j))=some u)∧RV W (· <W.heap.size) x.1 x.2:=fun k hk=>by
   have h1:=hel k hk;rw[show Tryz.prog.cellsOf 28=4 by kernel_rfl,List.getElem?_eq_getElem (by omega)]at h1;obtain⟨cs',hc,ht⟩:=Option.bind_eq_some_iff.1 h1;obtain⟨_,hcl,hat⟩:=World.cells?_some hc;obtain⟨t,hrv⟩:=IH n cs' _ (by omega) hcl ht;refine⟨(t,cs'),fun j u hu=>?_,hrv⟩;have hj:j<4:=by have h9:j<cs'.length:=(List.getElem?_eq_some_iff.1 hu).1;omega
   rw[←Go.Deep.add_add,hat j hj];exact hu
  obtain⟨l,hll,hp⟩:=qb3 ((.mk 0 false [] [],[]):RP×List Value) len each;have hat:∀k x,l[k]? =some x→(∀j u,x.2[j]? =some u→W.cell? (a.add (k*4+j))=some u)∧RV W (· <W.heap.size) x.1 x.2:=fun k x hx=>by
   have hk:k<l.length:=(List.getElem?_eq_some_iff.1 hx).1;have:=hp k (by omega);rw[List.getD_eq_getElem?_getD,hx]at this;exact this
  have hrvs:=qH.of_pairs (w:=W) (S:=(· <W.heap.size)) l fun x hx=>by
   obtain⟨k,hk⟩:=List.mem_iff_getElem?.1 hx;exact(hat k x hk).2
  have h4:∀r∈l.map (·.2),r.length=4:=(qH.at_ _ _ hrvs).1;refine⟨l.map (·.1),some a,cap,by rw[List.length_map,hll],by rw[List.length_map,hll];exact hl,hm,l.map (·.2),⟨by rw[jq h4,List.length_map,List.length_map],fun h0=>?_⟩,hrvs⟩;rw[List.length_map]at h0;obtain⟨b,o,spot⟩:=a;obtain⟨x0,hx0⟩:∃x,l[0]? =some x:=⟨_,List.getElem?_eq_getElem h0⟩;have h04:x0.2.length=4:=(hat 0 x0 hx0).2.four;have c0:=(hat 0 x0 hx0).1 0 _ (List.getElem?_eq_getElem (by omega));have hspot:spot=none:=by simpa[Addr.add]using World.cell?_spot c0
  subst hspot;refine⟨b,o,rfl,World.block_lt_of_cell? W _ c0,fun j u hu=>?_⟩;have hj:j<l.length*4:=by have:=(List.getElem?_eq_some_iff.1 hu).1;rwa[jq h4,List.length_map]at this
  obtain⟨x,hx⟩:∃x,l[j/4]? =some x:=⟨_,List.getElem?_eq_getElem (by omega)⟩;have e:=Je _ h4 (j/4) x.2 (by rw[List.getElem?_map,hx];rfl) (j%4) (by omega);have ej:j/4*4+j%4=j:=by omega
  rw[ej]at e;rw[e]at hu;have:=(hat _ _ hx).1 _ u hu;rw[ej,Addr.add_lit]at this;exact this
theorem qh0:∀(fuel:Nat)(cs:List Value)(y:DataW H×List MemPlace),cs.length=4→DataW.trod enc Tryz.prog W 0 (fun _=>true) true fuel 28 cs=some y→∃t:RP,RV W (· <W.heap.size) t cs:=by
 intro fuel
 induction fuel using Nat.strongRecOn with
 |ind fuel IH=>
 intro cs y hl h
 match cs,hl,h with
 |[x0,x1,x2,x3],_,h=>
  obtain⟨xs,n,hn,_,_,hxl,hf⟩:=DataW.trod_struct Tryz.underlying28 h;have f0:DataW.trod enc Tryz.prog W 0 (fun _=>true) true n 3 ((([x0,x1,x2,x3]:List Value).drop 0).take (Tryz.prog.cellsOf 3))=xs[0]?:=hf 0 _ rfl;have f1:DataW.trod enc Tryz.prog W 0 (fun _=>true) true n 25 ((([x0,x1,x2,x3]:List Value).drop 1).take (Tryz.prog.cellsOf 25))=xs[1]?:=hf 1 _ rfl;have f2:DataW.trod enc Tryz.prog W 0 (fun _=>true) true n 26 ((([x0,x1,x2,x3]:List Value).drop 3).take (Tryz.prog.cellsOf 26))=xs[2]?:=hf 2 _ rfl;rw[show Tryz.prog.cellsOf 3=1 by kernel_rfl]at f0;rw[show Tryz.prog.cellsOf 25=2 by kernel_rfl]at f1;rw[show Tryz.prog.cellsOf 26=1 by kernel_rfl]at f2;change DataW.trod enc Tryz.prog W 0 (fun _=>true) true n 3 [x0]=xs[0]? at f0;change DataW.trod enc Tryz.prog W 0 (fun _=>true) true n 25 [x1,x2]=xs[1]? at f1;change DataW.trod enc Tryz.prog W 0 (fun _=>true) true n 26 [x3]=xs[2]? at f2;have l0:xs[0]? =some (xs[0]'(by simp at hxl;omega)):=List.getElem?_eq_getElem _;have l1:xs[1]? =some (xs[1]'(by simp at hxl;omega)):=List.getElem?_eq_getElem _;have l2:xs[2]? =some (xs[2]'(by simp at hxl;omega)):=List.getElem?_eq_getElem _;rw[l0]at f0;rw[l1]at f1;rw[l2]at f2;obtain⟨z,hz,_,_⟩:=DataW.trod_int Tryz.underlying3 f0;simp at hz;subst hz;obtain⟨ng,ds,A,c,rfl,rfl,hr,hd,hc⟩:=qa1 f1;obtain⟨ks,K,kc,hcs,hkc,_,rows,hrr,hrv⟩:=qaL (fuel:=n) (fun m cs y hm hl h=>IH m (by omega) cs y hl h) f2;simp at hcs;subst hcs;refine⟨.mk z ng ds ks,?_⟩;unfold RV;exact⟨A,c,K,kc,rfl,hr,hd,hc,hkc,rows,hrr,hrv⟩
theorem Tryz.cellsRecR:Tryz.prog.cellsOf 28=4:=by kernel_rfl
theorem Tryz.cellsArrR:Tryz.prog.cellsOf 31=12:=by kernel_rfl
set_option maxRecDepth 100000
theorem qgA{base:Nat}{v:Value}{d:DataW H}{p:List MemPlace}(hv:Value.okWide Tryz.prog W .any base 28 v)(h:DataW.Trod enc Tryz.prog W 0 (fun _=>true) true 28 v d p):
 ∃(t:RP)(A:Option Addr)(c:Nat)(K:Option Addr)(kc:Nat),v=qn t A c K kc∧RV W (· <W.heap.size) t (qc t A c K kc):=by
 obtain⟨cs,rfl,hs⟩:=okWide_struct Tryz.underlying28 hv;rw[Tryz.cellsRecR]at hs;obtain⟨fuel,hf⟩:=h;obtain⟨cl⟩:=cs;simp only[Value.cells]at hf;obtain⟨t,ht⟩:=qh0 fuel cl _ (by simpa using hs) hf;obtain⟨A,c,K,kc,e⟩:=ht.cells;subst e;exact⟨t,A,c,K,kc,rfl,ht⟩
theorem qkp{base:Nat}{v:Value}{d:DataW H}{p:List MemPlace}(hv:Value.okWide Tryz.prog W .any base 31 v)(h:DataW.Trod enc Tryz.prog W 0 (fun _=>true) true 31 v d p):
 ∃x0 x1 x2 x3:QT,v= .agg (xc4 x0 x1 x2 x3)∧PtA W W.heap.size [x0,x1,x2,x3]:=by
 obtain⟨cs,rfl,hs⟩:=qde Tryz.underlying31 hv;rw[Tryz.cellsArrR]at hs;obtain⟨fuel,hf⟩:=h;obtain⟨cl⟩:=cs
 match cl,hs,hf with
 |[a0,a1,a2,a3,a4,a5,a6,a7,a8,a9,a10,a11],_,hf=>
  simp only[Value.cells]at hf;obtain⟨xs,n,_,_,_,hxl,hi⟩:=DataW.trod_array Tryz.underlying31 hf;have f0:=hi 0 (by omega);have f1:=hi 1 (by omega);have f2:=hi 2 (by omega);have f3:=hi 3 (by omega);rw[Tryz.cellsRat,List.getElem?_eq_getElem (by omega)]at f0 f1 f2 f3;change DataW.trod enc Tryz.prog W 0 (fun _=>true) true n 30 [a0,a1,a2]=_ at f0;change DataW.trod enc Tryz.prog W 0 (fun _=>true) true n 30 [a3,a4,a5]=_ at f1;change DataW.trod enc Tryz.prog W 0 (fun _=>true) true n 30 [a6,a7,a8]=_ at f2;change DataW.trod enc Tryz.prog W 0 (fun _=>true) true n 30 [a9,a10,a11]=_ at f3;obtain⟨x0,e0,n0,d0⟩:=Yw rfl f0;obtain⟨x1,e1,n1,d1⟩:=Yw rfl f1;obtain⟨x2,e2,n2,d2⟩:=Yw rfl f2;obtain⟨x3,e3,n3,d3⟩:=Yw rfl f3;simp only[QT.cells,List.cons.injEq,and_true]at e0 e1 e2 e3;obtain⟨rfl,rfl,rfl⟩:=e0;obtain⟨rfl,rfl,rfl⟩:=e1;obtain⟨rfl,rfl,rfl⟩:=e2;obtain⟨rfl,rfl,rfl⟩:=e3;exact⟨x0,x1,x2,x3,rfl,⟨by simp only[List.mem_cons,List.not_mem_nil,or_false];rintro x (rfl|rfl|rfl|rfl)<;>assumption,by simp only[List.mem_cons,List.not_mem_nil,or_false];rintro x (rfl|rfl|rfl|rfl)<;>assumption⟩⟩
end
