import Derived.StillTailTactics
import Derived.WalkMore
import Derived.Test.YtflikmojaidhhaaGreatPq07
namespace Go.Proofs.YtflikmojaidhhaaGreat
open Go.RowKit
def YR(x y:Nat)(w:World)(e:Ending)(w':World):Prop:=
 ∃Aq cq Ar cr,e= .returned (.tuple #[.slice Aq (dig (x/y)).length cq,.slice Ar (dig (x%y)).length cr])∧(dig (x/y)).length≤cq∧(dig (x%y)).length≤cr∧qk w' Aq (dig (x/y))∧qk w' Ar (dig (x%y))∧Below w.heap.size w w'
theorem Jr{y x:Nat}(h:y≤x):(dig y).length≤(dig x).length:=qC (by
 have:=qT (qu x);rw[qp]at this;omega)
theorem Wr.of_drawn{g:Nat}{w w':World}(h:qm w w'):Wr g w w':=by obtain⟨n,rfl⟩:=h;exact⟨rfl,rfl,rfl,Nat.le_refl _,fun _ _ _=>rfl⟩
theorem Wr.cell_{g:Nat}{w w':World}(h:Wr g w w'){b o:Nat}{u:Value}(hb:b<w.heap.size)(hn:b≠g)(hc:w.cell? ⟨b,o,none⟩=some u):w'.cell? ⟨b,o,none⟩=some u:=by
 have:=h.block b hb (fun e=>hn (by injection e));rw[←hc];unfold World.cell?;simp only[this]
theorem qd.wr{g k:Nat}{w w':World}{t:TypeId}{cs:Array Value}(h:qd w k t cs)(hw:Wr g w w')(hn:k≠g):qd w' k t cs:=(hw.block k h.lt (fun e=>hn (by injection e))).trans h
theorem Zp(l:List Nat)(i x:Nat)(h:i<l.length):(qf (l.set i x)).toArray[i]? =some (.int .u32 (x:Int)):=by
 rw[jn _ i (by rw[List.length_set];exact h),List.getD_eq_getElem?_getD,List.getElem?_set_self h];rfl
theorem qeL{zv dv pv V:Nat}(he:zv+dv=pv)(h:pv-dv<V):zv<V:=by omega
theorem qdT{u q v zs:List Nat}{n i A d:Nat}(h:∀(d:Nat)(zs:List Nat),d<4294967296→qP zs→zs.length=n+1→val zs+d*val v=val (jz u n i)→val zs<val v→Yh (u.take i++(zs++u.drop (i+n+1))) (q.set i d) n i A (val v))(hd:d<4294967296)(hz:qP zs)(hzl:zs.length=n+1)(he:val zs+d*val v=val (jz u n i))(hlt:val zs<val v):
 Yh (u.take i++(zs++u.drop (i+(n+1)))) (q.set i d) n i A (val v):=h d zs hd hz hzl he hlt
theorem qjQ{d V:Nat}(d':Nat)(h:d=d'+1):d*V=d'*V+V:=by rw[h,Nat.add_mul,Nat.one_mul]
theorem qjI{us zs:List Nat}{i n:Nat}(h1:qP us)(h2:qP zs):qP (us.take i++(zs++us.drop (i+n))):=fun d hd=>by
 rcases List.mem_append.1 hd with hd|hd
 ·exact h1 d (List.mem_of_mem_take hd)
 ·rcases List.mem_append.1 hd with hd|hd
  ·exact h2 d hd
  ·exact h1 d (List.mem_of_mem_drop hd)
set_option maxHeartbeats 4000000
set_option maxRecDepth 100000
theorem Z1(A A':Option Addr)(c c' B:Nat)(a b:List Nat)(w:World)(hB:B≤w.heap.size)(hc:a.length≤c)(hc':b.length≤c')(la:a.length≤400000)(lb:b.length≤400000)
 (r1:qi w B 1 A a.length (qf a))(r2:qi w B 1 A' b.length (qf b))(g1:qP a)(g2:qP b)(hy:val b≠0):
 Calls Tryz.prog 146 #[.slice A a.length c,.slice A' b.length c'] w (YR (val a) (val b) w):=by
 have HNB:=Lib.hid (yq A' c' B b w hB hc' (by omega) r2 g2);have HNA:=Lib.hid (fun(W:World)(hW:Below w.heap.size w W)=>yq A c B a W (Nat.le_trans hB hW.size) hc (by omega) (r1.below (hW.mono hB)) g1);have HSA:=Lib.hid (fun(s:Nat)(hs:s≤31)(W:World)(hW:Below w.heap.size w W)=>qfH A c B s a W (Nat.le_trans hB hW.size) hc (by omega) hs (r1.below (hW.mono hB)) g1);have HDS:=Lib.hid (fun(d:Nat)(h0:0<d)(h1:d<4294967296)(W:World)(hW:Below w.heap.size w W)=>qbP A c B a d W (Nat.le_trans hB hW.size) hc (by omega) h0 h1 (r1.below (hW.mono hB)) g1);have HCM:=Lib.hid (fun(W:World)(hW:Below w.heap.size w W)(Ab:Option Addr)(cb:Nat)(hcb:(dig (val b)).length≤cb)(hn:qk W Ab (dig (val b)))=>qcE A Ab c cb W.heap.size a (dig (val b)) W hc hcb (by omega) (by have:=qo g2;omega) ((r1.below (hW.mono hB)).more (Nat.le_trans hB hW.size)) hn.reads g1 (qu _));have HLA:=Lib.hid (show(dig (val a)).length≤400000 by have:=qo g1;omega);have HLB:=Lib.hid (show(dig (val b)).length≤400000 by have:=qo g2;omega);clear r1 r2 g1 g2 lb;generalize val b=y at*;generalize val a=x at*;rw[qp]at HCM;unfold jT at HNB HNA HSA;unfold qig at HDS;go_enter Tryz.func146,Tryz.ntmps146
 go_wp2_with fail
 go_step3
 go_wp2_with fail
 refine HNB.out.mono ?_;rintro e w1 ⟨Ab,cb,rfl,hcb,hnb,hb1⟩;have HC1:=Lib.hid (HCM.out w1 hb1 Ab cb hcb hnb);clear HNB HCM;go_wp2_with fail
 refine HC1.out.mono ?_;rintro e w2 ⟨rfl,hdr⟩;have hb2:=hb1.trans ((hdr.below w1.heap.size).mono hb1.size);have hnb2:=hnb.old (hdr.below w1.heap.size);clear hb1 hnb hdr HC1;by_cases hlt:x<y
 ·have hcm:Jy x y=-1:=by unfold Jy;rw[if_pos hlt]
  rw[hcm];have HN1:=Lib.hid (HNA.out w2 hb2);have HQ:=Lib.hid (Nat.div_eq_of_lt hlt);have HR:=Lib.hid (Nat.mod_eq_of_lt hlt);clear hcm hlt;go_wp2_with fail
  refine HN1.out.mono ?_;rintro e w3 ⟨Ar,cr,rfl,hcr,hnr,hb3⟩;have HB3:=Lib.hid (hb2.trans (hb3.mono hb2.size));clear hb3 hb2;go_wp2_with fail
  rw[Exit.noGoto_ret];go_ret2
  refine⟨none,0,Ar,cr,?_,?_,?_,?_,?_,HB3.out⟩
  ·rw[HQ.out,HR.out,qt];rfl
  ·rw[HQ.out,qt];exact Nat.le_refl _
  ·rw[HR.out];exact hcr
  ·rw[HQ.out];exact .inl qt
  ·rw[HR.out];exact hnr
 ·have hcm:¬(Jy x y<0):=by
   unfold Jy;rw[if_neg hlt]
   split<;>decide
  generalize Jy x y=cxy at*;by_cases hone:(dig y).length=1
  ·obtain⟨y1,y2,y3⟩:=qey hone;obtain⟨b1,o1,rfl,q1,c1⟩:=jj hnb2.reads (k:=0) (by omega);rw[y1,Nat.add_zero]at c1;have HD1:=Lib.hid (HDS.out y y2 y3 w2 hb2);have HYM:=Lib.hid (Nat.lt_trans (Nat.mod_lt x y2) y3);rw[hone]at*;have hi0:(0:Int)<(1:Int):=by decide
   have HOF:=Lib.hid (fun W=>qcm (x%y) (by have:=HYM.out;omega) W);obtain⟨rm,hrm⟩:∃rm,rm=x%y:=⟨_,rfl⟩;rw[←hrm]at HD1 HYM HOF;have HR:=Lib.hid hrm;clear hrm;have hbb:=hb2.size;clear y1 hone hlt HNA HSA HDS hcb;go_wp2_with fail
   refine HD1.out.mono ?_;rintro e w3 ⟨Aq,cq,rfl,hcq,hnq,hb3⟩;have HB3:=Lib.hid (hb2.trans (hb3.mono hb2.size));clear hb3;have hwr:=JJ (n:=rm) (by have:=HYM.out;omega);go_wp2_with fail
   refine(HOF.out w3).mono ?_;rintro e w4 ⟨Ar,cr,rfl,hcr,hnr,hb4⟩;go_wp2_with fail
   rw[Exit.noGoto_ret];go_ret2
   have hr:=HR.out;exact⟨Aq,cq,Ar,cr,by rw[←hr];rfl,hcq,by rw[←hr];exact hcr,hnq.old hb4,by rw[←hr];exact hnr,HB3.out.trans (hb4.mono HB3.out.size)⟩
  ·obtain⟨m,hm⟩:∃m,(dig y).length=m+2:=⟨(dig y).length-2,by
    have:=@jw y;omega⟩
   have ht0:=qfn hm;have ht1:=jR (qu y) (m+1);have hyx:y≤x:=by omega
   obtain⟨s,hs,hz,hn1,hn2⟩:=qlS ht0 ht1;obtain⟨hv1,hv2⟩:=qkG hm hn1 hn2;obtain⟨hx1,hx2⟩:=qka x s hs;obtain⟨b1,o1,rfl,q1,c1⟩:=jj hnb2.reads (k:=m+1) (by omega);obtain⟨n,hn⟩:∃n,n=m+2:=⟨_,rfl⟩;obtain⟨n1,hnn⟩:∃n1,n1=m+1:=⟨_,rfl⟩;have hv2:(dig (y*2^s)).length=n:=by rw[hn];exact hv2
   rw[←hn]at hm;have HSV:=Lib.hid (qfH (some ⟨b1,o1,none⟩) cb w2.heap.size s (dig y) w2 (Nat.le_refl _) hcb (by have:=HLB.out;omega) hs hnb2.reads (qu y));unfold jT at HSV;rw[qp,hm,hv2]at HSV;have HLZ:=Lib.hid (fun W=>qiY _ s W ht1 hz);have HSA2:=Lib.hid (HSA.out s hs);have HV1:=Lib.hid hv1;have HX1:=Lib.hid hx1;have HX2:=Lib.hid hx2;have HV2:=Lib.hid hv2;have HEQ:=Lib.hid (qg1 x y s);have HER:=Lib.hid (qgQ x y s);have HLX:=Lib.hid (show n≤(dig x).length by rw[←hm];exact Jr hyx);have hnb:n≤400000:=by have:=HLB.out;omega
   have hsb:(s:Int)≤31:=by omega
   have HS:=Lib.hid hs;rw[←hnn]at ht1 c1 HLZ;generalize (dig y).getD n1 0=t at*;have hkk:(n:Int)-1=(n1:Int):=by omega
   have i1:(n1:Int)<(n:Int):=by omega
   have hno:((n:Int)==1)=false:=by
    have:¬(n:Int)=1:=by omega
    simp[this]
   have HN:=Lib.hid hn;have HNN:=Lib.hid hnn;have hbb:=hb2.size;rw[hm];clear hx1 hx2 hv1 hv2 hn1 hn2 hz ht0 hyx hlt HSA HDS hone hcb hs hnb2 hm HLB hn hnn ht1 hc' hB hc hy;obtain⟨V,hV⟩:∃V,V=y*2^s:=⟨_,rfl⟩;obtain⟨X,hX⟩:∃X,X=x*2^s:=⟨_,rfl⟩;rw[←hV]at HSV HV1 HV2 HEQ HER;rw[←hX]at HSA2 HX1 HX2 HEQ HER;clear hV hX;obtain⟨l,hl⟩:∃l,l=(dig x).length:=⟨_,rfl⟩;rw[←hl]at HX1 HX2 HLX HLA HNA;have hlb:l≤400000:=HLA.out;clear hl HLA;go_wp2_with fail
   refine(HLZ.out _).mono ?_;rintro e w3 ⟨rfl,rfl⟩;clear HLZ c1 hkk i1;go_wp2_with fail
   refine HSV.out.mono ?_;rintro e wv ⟨Av,cv,rfl,hcv,hnv,hb3⟩;have hB3:=hb2.trans (hb3.mono hbb);clear HSV hb3 hb2 hbb q1;have HN1:=Lib.hid (HNA.out wv hB3);go_wp2_with fail
   refine HN1.out.mono ?_;rintro e w4 ⟨An,cn,rfl,hcn,hna,hb4⟩;have hB4:=hB3.trans (hb4.mono hB3.size);have hnv4:=hnv.old hb4;clear HNA HN1 hB3 hb4 hnv hcn hna hcv;have hmk:∀(W:World),(Instr.makeSlice 23 (.int .i64 ((l:Int)+1)) (.int .i64 ((l:Int)+1))).run Tryz.prog W= .ok (.slice (some ⟨W.heap.size,0,none⟩) (l+1) (l+1)) (W.alloc (.cells (qf (List.replicate (l+1) 0)).toArray 134)):=fun(W:World)=>Tryz.make_u32 (l+1) (by omega) W;obtain⟨k,hk⟩:∃k,k+n=l+1:=⟨l+1-n,by have:=HLX.out;omega⟩;have hki:(l:Int)+1-(n:Int)=(k:Int):=by omega
   have hmk2:∀(W:World),(Instr.makeSlice 23 (.int .i64 (k:Int)) (.int .i64 (k:Int))).run Tryz.prog W= .ok (.slice (some ⟨W.heap.size,0,none⟩) k k) (W.alloc (.cells (qf (List.replicate k 0)).toArray 134)):=fun(W:World)=>Tryz.make_u32 k (by omega) W;have hkb:k≤400001:=by omega
   have HB5:=Lib.hid (hB4.alloc hB4.size (.cells (qf (List.replicate (l+1) 0)).toArray 134));have HW5:=Lib.hid ((Below.refl w4.heap.size w4).alloc (Nat.le_refl _) (.cells (qf (List.replicate (l+1) 0)).toArray 134));have HU5:=Lib.hid (qd.new w4 134 (qf (List.replicate (l+1) 0)).toArray);have HS5:=Lib.hid (HSA2.out _ HB5.out);have HKK:=Lib.hid hk;have HNV:=Lib.hid hnv4;have HBW:=Lib.hid hB4;clear hk hB4 hnv4 HB5 HSA2;go_wp2_with fail
   refine HS5.out.mono ?_;rintro e w6 ⟨As,cs,rfl,hcs,hns,hb6⟩;have HW6:=Lib.hid (HW5.out.trans (hb6.mono HW5.out.size));have HU6:=Lib.hid (HU5.out.old hb6);clear HW5 HU5 HS5 hb6 hmk;have hcl:(qf (dig X)).length=Nat.min (dig X).length (l+1):=by
    have:=HX1.out;exact(show(qf (dig X)).length=(dig X).length by simp[qf]).trans (Nat.min_eq_left this).symm
   have hsrc:0<(qf (dig X)).length→∃ad,As=some ad∧∀j v,(qf (dig X))[j]? =some v→w6.cell? (ad.add j)=some v:=fun hp=>by
    obtain⟨b,o,e,_,hcl⟩:=hns.reads.2 (by simpa[qf]using hp);refine⟨⟨b,o,none⟩,e,fun j v hv=>?_⟩;have h1:=hcl j v hv;have e3:(⟨b,o,none⟩:Addr).add j=⟨b,o+j,none⟩:=by simp[Addr.add]
    rw[e3];exact h1
   have hfit:0+(qf (dig X)).length≤(qf (List.replicate (l+1) 0)).length:=by
    have:=HX1.out;simp[qf];omega
   have HCL:=Lib.hid hcl;have HSRC:=Lib.hid hsrc;have HFIT:=Lib.hid hfit;clear hcl hsrc hfit hcs;go_wp2_with (first|(guard_target =~ wpList _ _ _ (Oper.mk (some 60) _ _ _ _ _::_) _ _;refine wpList_copy_splice (o:=⟨some 60,_,_,_,_,_⟩) rfl (.tmp 56) (.tmp 59) 23 23 rfl 134 Tryz.underlying23 Tryz.size_u32 _ _ (l+1) (l+1) (dig X).length cs rfl rfl w4.heap.size 0 _ 134 HU6.out (qf (dig X)) HCL.out (fun hp=>⟨rfl,HSRC.out hp⟩) HFIT.out (Qc _) w4.heap.size w6 (Below.refl _ _) (Nat.le_refl _) ?_;intro w7 hg7 hb7))
   have HU7:=Lib.hid (show qd w7 w4.heap.size 134 (qf (dig X++List.replicate (l+1-(dig X).length) 0)).toArray by
    have:=hg7.out;rwa[qeZ]at this)
   have HW7:=Lib.hid (HW6.out.trans hb7);clear HU6 HW6 hg7 hb7 HCL HSRC HFIT hns hmk2;have HDI:=Lib.hid (show Yh (dig X++List.replicate (l+1-(dig X).length) 0) (List.replicate k 0) n k X (val (dig V))by
    have h1:=HX1.out;have h2:=HX2.out;have h3:=HV1.out;have h4:=HKK.out;have h5:=HN.out;subst h5;have:=Yh.start (u:=dig X++List.replicate (l+1-(dig X).length) 0) (n:=m+2) (t:=k) (V:=V) qjK (by rw[List.length_append,List.length_replicate];omega) (by omega) (by rw[qfI,show k+(m+2)-1=l by omega];exact h2) h3;rwa[qfI,←qp V]at this)
   have HUL:=Lib.hid (show(dig X++List.replicate (l+1-(dig X).length) 0).length=l+1 by
    have h1:=HX1.out;rw[List.length_append,List.length_replicate];omega)
   generalize dig X++List.replicate (l+1-(dig X).length) 0=us0 at*;have HU8:=Lib.hid (HU7.out.alloc (.cells (qf (List.replicate k 0)).toArray 134));have HQ8:=Lib.hid (qd.new w7 134 (qf (List.replicate k 0)).toArray);have HW8:=Lib.hid (HW7.out.alloc HW7.out.size (.cells (qf (List.replicate k 0)).toArray 134));have HGQ:=Lib.hid HU7.out.lt;have HRV:=Lib.hid (fun(W:World)(hW:Below w4.heap.size w4 W)=>show qi W w4.heap.size 1 Av n (qf (dig V))by
    have:=HNV.out.reads.below hW;rwa[HV2.out]at this)
   have HVD:=Lib.hid (qu V);have HVV:=Lib.hid (show 1≤(dig V).getD n1 0 by
    have h1:=HV2.out;have h2:=HN.out;rw[HNN.out];exact qfn (by omega))
   obtain⟨bv,ov,hAv,q1,_⟩:=jj (ds:=dig V) (by rw[HV2.out];exact HRV.out w4 (Below.refl _ _)) (k:=0) (by rw[HV2.out,HN.out];omega);have HVC:=Lib.hid (fun(W:World)(hW:Below w4.heap.size w4 W)(j:Nat)(hj:j<n)=>show W.cell? ⟨bv,ov+j,none⟩=some (.int .u32 (((dig V).getD j 0:Nat):Int))by
    obtain⟨b2,o2,e,_,c2⟩:=jj (ds:=dig V) (by rw[HV2.out];exact HRV.out w4 (Below.refl _ _)) (k:=j) (by rw[HV2.out];exact hj);rw[hAv]at e
    injection e with e
    injection e with e1 e2
    subst e1;subst e2;exact(hW.cell (p:=⟨bv,ov+j,none⟩) q1).trans c2)
   subst hAv;have HGW:=Lib.hid HBW.out.size;have HBV:=Lib.hid q1;clear HU7 HW7 HX1 HX2 HV1 HLX q1 HNV;go_step3
   go_wp2_with fail
   generalize w7.heap.size=gq at*;generalize w7.alloc (.cells (qf (List.replicate k 0)).toArray 134)=w8 at*;generalize w4.heap.size=gu at*;go_loopg [13,14] k (fun gn jv _ wr=>∃(j:Nat)(us qs:List Nat),j≤k∧gn=j∧jv= .int .i64 ((j:Int)-1)∧Yh us qs n j X (val (dig V))∧us.length=l+1∧qs.length=k∧qd wr gu 134 (qf us).toArray∧qd wr gq 134 (qf qs).toArray∧Below gu w4 wr)
   case atStart=>exact⟨k,us0,_,Nat.le_refl _,rfl,by go_num,HDI.out,HUL.out,by simp,HU8.out,HQ8.out,HW8.out⟩
   case round=>
    clear HU8 HQ8 HW8 HUL HDI;obtain⟨j,us,qs,hj,hgj,rfl,hdi,hul,hql,hub,hqb,hbw⟩:=hrel;have HG:=Lib.hid hgj;clear hgj
    cases j with
    |zero=>
     obtain⟨hq,hr⟩:=hdi.done;have hkk:=HKK.out;have HQ:=Lib.hid hq;have HR:=Lib.hid hr;have r1:=hqb.reads k (by omega);have r2:=hub.reads (l+1) (by omega);rw[List.take_of_length_le (by omega)]at r1;rw[List.take_of_length_le (by omega)]at r2;have HNQ:=Lib.hid (yq (some ⟨gq,0,none⟩) k wr.heap.size qs wr (Nat.le_refl _) (by omega) (by omega) (by rw[hql];exact r1) hdi.dq);have HSH:=Lib.hid (fun(W:World)(hW:Below wr.heap.size wr W)=>qkD (some ⟨gu,0,none⟩) (l+1) wr.heap.size s us W hW.size (by omega) (by omega) HS.out (by rw[hul];exact r2.below hW) hdi.du);unfold jT at HNQ HSH;rw[hql,hq,qp V,HEQ.out]at HNQ;rw[hul,hr,qp V,HER.out]at HSH;have HBX:=Lib.hid (HBW.out.trans (hbw.mono HGW.out));clear hq hr r1 r2 hdi hql hul hub hqb hbw hkk;go_wp2_with fail
     refine HNQ.out.mono ?_;rintro e wn ⟨Aq,cq,rfl,hcq,hnq,hbq⟩;have HSH2:=Lib.hid (HSH.out wn hbq);have HBQ:=Lib.hid hbq;clear hbq;go_wp2_with fail
     refine HSH2.out.mono ?_;rintro e wm ⟨Ar,cr,rfl,hcr,hnr,hbr⟩;go_wp2_with fail
     rw[Exit.noGoto_ret];go_ret2
     exact⟨Aq,cq,Ar,cr,rfl,hcq,hcr,hnq.old hbr,hnr,(HBX.out.trans (HBQ.out.mono HBX.out.size)).trans (hbr.mono (Nat.le_trans HBX.out.size HBQ.out.size))⟩
    |succ i=>
     have hnm:=HN.out;have hn1m:=HNN.out;obtain⟨p1,p2,p3,p4,p5⟩:=hdi.part HVD.out HV2.out (by omega);have htop:us.getD (i+n) 0≤(dig V).getD n1 0:=by
      have:=qgp (m:=m) HVD.out (by rw[p1,hnm]) (by rw[HV2.out,hnm]) p5;rw[←hnm,←hn1m,Jv (by omega)]at this;exact this
     have hest:=qgr (u:=gU (jz us n i) m) (w:=gV (dig V) m) (by
      have:=HVV.out;rw[hn1m]at this;unfold gV;omega)
     have hnear:=qes (m:=m) p2 HVD.out (by rw[p1,hnm]) (by rw[HV2.out,hnm]) p5 (by have:=HVV.out;rwa[hn1m]at this) hest;have hgd:min 4294967295 (gU (jz us n i) m/gV (dig V) m)=qas (us.getD (i+n) 0) (us.getD (i+n1) 0) (us.getD (i+m) 0) ((dig V).getD n1 0) ((dig V).getD m 0):=by
      unfold qas gU gV;rw[Jv (by omega),Jv (by omega),Jv (by omega),←hnm,←hn1m]
     rw[hgd]at hnear;have HST:=Lib.hid (fun(d:Nat)(zs:List Nat)(hd:d<4294967296)(hz:qP zs)(hzl:zs.length=n+1) he hlt=>hdi.step (zs:=zs) (d:=d) HVD.out HV2.out (by omega) hd hz hzl he hlt);have hu2:=QB hdi.du (i+n);have hu1:=QB hdi.du (i+n1);have hu0:=QB hdi.du (i+m);have hv1:=QB HVD.out n1;have hv0:=QB HVD.out m;have HUD:=Lib.hid hdi.du;have hkk:=HKK.out;have c2:wr.cell? ⟨gu,i+n,none⟩=some (.int .u32 ((us.getD (i+n) 0:Nat):Int)):=(hub.cell _).trans (jn _ _ (by omega));have c1:wr.cell? ⟨gu,i+n1,none⟩=some (.int .u32 ((us.getD (i+n1) 0:Nat):Int)):=(hub.cell _).trans (jn _ _ (by omega));have c0:wr.cell? ⟨gu,i+m,none⟩=some (.int .u32 ((us.getD (i+m) 0:Nat):Int)):=(hub.cell _).trans (jn _ _ (by omega));have d1:=HVC.out wr hbw n1 (by omega);have d0:=HVC.out wr hbw m (by omega);have cq:wr.cell? ⟨gq,i,none⟩=some (.int .u32 ((qs.getD i 0:Nat):Int)):=(hqb.cell _).trans (jn _ _ (by omega));have HES:=Lib.hid (fun W=>qcD _ _ _ _ _ W hu1 hu0 hv1 hv0 htop (by have:=HVV.out;omega));have hdl:=qiU (us.getD (i+n) 0) (us.getD (i+n1) 0) (us.getD (i+m) 0) ((dig V).getD n1 0) ((dig V).getD m 0);generalize qas (us.getD (i+n) 0) (us.getD (i+n1) 0) (us.getD (i+m) 0) ((dig V).getD n1 0) ((dig V).getD m 0)=d at*;generalize us.getD (i+n) 0=u2 at*;generalize us.getD (i+n1) 0=u1 at*;generalize us.getD (i+m) 0=u0 at*;generalize (dig V).getD n1 0=v1 at*;generalize (dig V).getD m 0=v0 at*;generalize qs.getD i 0=q0 at*;have HNE:=Lib.hid hnear;have HPL:=Lib.hid p1;have hgq:gu<gq:=HGQ.out;have hbv:bv<gu:=HBV.out;have lu:=hub.lt;have lq:=hqb.lt;have hWd:Wr gq wr wr.drew:=Wr.of_drawn (qm.drew _);have KF:=Lib.hid (fun(W:World)(hW:Wr gq wr W)=>show Wr gq wr W∧W.cell? ⟨gu,i+n,none⟩=some (.int .u32 (u2:Int))∧W.cell? ⟨gu,i+n1,none⟩=some (.int .u32 (u1:Int))∧W.cell? ⟨gu,i+m,none⟩=some (.int .u32 (u0:Int))∧W.cell? ⟨bv,ov+n1,none⟩=some (.int .u32 (v1:Int))∧W.cell? ⟨bv,ov+m,none⟩=some (.int .u32 (v0:Int))from
      ⟨hW,hW.cell_ lu (by omega) c2,hW.cell_ lu (by omega) c1,hW.cell_ lu (by omega) c0,hW.cell_ (by omega) (by omega) d1,hW.cell_ (by omega) (by omega) d0⟩)
     have KQ:=Lib.hid (fun(W:World)(hW:qm wr.drew W)=>show Wr gq wr W∧qd W gq 134 (qf qs).toArray∧W.cell? ⟨gq,i,none⟩=some (.int .u32 (q0:Int))∧W.frozen? ⟨gq,i,none⟩=false∧gq<W.heap.size from by
      have h1:qd W gq 134 (qf qs).toArray:=qd.drawn (w:=wr.drew) hqb hW;exact⟨hWd.trans (Wr.of_drawn hW),h1,(h1.cell _).trans ((hqb.cell _).symm.trans cq),h1.frozen _,h1.lt⟩)
     have i1:((i+1:Nat):Int)-1=(i:Int):=by omega
     have i0:(0:Int)≤(i:Int):=by omega
     have i2:(i:Int)+(n:Int)+1≤(l:Int)+1:=by omega
     have i3:(i:Int)<(k:Int):=by omega
     have HI:=Lib.hid (show i<k by omega);obtain⟨N,hN⟩:∃N,N=n+1:=⟨_,rfl⟩;have e1:(n:Int)-1=(n1:Int):=by omega
     have e2:(n:Int)-2=(m:Int):=by omega
     have j1:(n:Int)<(N:Int):=by omega
     have j2:(n1:Int)<(N:Int):=by omega
     have j3:(m:Int)<(N:Int):=by omega
     have j4:(n1:Int)<(n:Int):=by omega
     have j5:(m:Int)<(n:Int):=by omega
     have b3:-9223372036854775808≤(n:Int)-1∧(n:Int)-1≤9223372036854775807:=by omega
     have b4:-9223372036854775808≤(n:Int)-2∧(n:Int)-2≤9223372036854775807:=by omega
     have b5:-9223372036854775808≤(n1:Int)∧(n1:Int)≤9223372036854775807:=by omega
     have b6:-9223372036854775808≤(m:Int)∧(m:Int)≤9223372036854775807:=by omega
     have HE:=Lib.hid (And.intro b3 (And.intro b4 (And.intro b5 b6)));clear b3 b4 b5 b6;have HUB:=Lib.hid hub;have HBW2:=Lib.hid hbw;have HJJ:=Lib.hid hj;have HUL2:=Lib.hid hul;have HQL:=Lib.hid hql;clear hest hgd hnear htop p1 p2 p3 p4 p5 hdi hu2 hu1 hu0 hv1 hv0 c2 c1 c0 d1 d0 cq hnm hn1m hkk hub hqb hbw lu hj hul hql hgq hbv;have HLQ:=Lib.hid lq;clear lq;rw[i1];clear i1;go_wp2_with fail
     rw[show i+n+1-i=N by omega];have HNU:=Lib.hid hN;clear hN;obtain⟨b3,b4,b5,b6⟩:=HE.out;have e3:IntKind.i64.wrap ((n:Int)-1)=(n:Int)-1:=IntWalk.i64_in _ b3;have e4:IntKind.i64.wrap ((n:Int)-2)=(n:Int)-2:=IntWalk.i64_in _ b4;have e5:wrap64 (n1:Int)=(n1:Int):=IntWalk.wrap64_in _ b5;have e6:wrap64 (m:Int)=(m:Int):=IntWalk.wrap64_in _ b6;have e7:IntKind.i64.wrap (n1:Int)=(n1:Int):=IntWalk.i64_in _ b5;have e8:IntKind.i64.wrap (m:Int)=(m:Int):=IntWalk.i64_in _ b6;clear b3 b4 b5 b6 HE;have HALL:=Lib.hid (And.intro HNE (And.intro HPL (And.intro HST (And.intro HUD (And.intro HUB (And.intro HBW2 (And.intro HJJ (And.intro HUL2 (And.intro HQL (And.intro HNU (And.intro HVD (And.intro HV2 (And.intro HRV (And.intro HGQ (And.intro HI (And.intro HN (And.intro HNN (And.intro HG (And.intro HKK (And.intro HBV HLQ))))))))))))))))))));clear HLQ HNE HPL HST HUD HUB HBW2 HJJ HUL2 HQL HNU HVC HRV HER HEQ HV2 HN HNN HKK HBW HGW HBV HGQ HVD HG HS HVV HI;go_region_held3 (fun w'=>Wr gq wr w'∧w'.cell? ⟨gu,i+n,none⟩=some (.int .u32 (u2:Int))∧w'.cell? ⟨gu,i+n1,none⟩=some (.int .u32 (u1:Int))∧w'.cell? ⟨gu,i+m,none⟩=some (.int .u32 (u0:Int))∧w'.cell? ⟨bv,ov+n1,none⟩=some (.int .u32 (v1:Int))∧w'.cell? ⟨bv,ov+m,none⟩=some (.int .u32 (v0:Int)))
      ((refine KF.out _ ?_;first|(with_reducible exact hWd)|(with_reducible exact hb1)|(with_reducible exact hb2)))
      ((go_at_call 171;refine(HES.out _).mono ?_;rintro e w9 ⟨rfl,hdr⟩;obtain⟨hb1,hq9,cq9,fq9,zq9⟩:=KQ.out _ hdr;have hb2:=hb1.trans (Wr.set_ (g:=gq) w9 i (.int .u32 (d:Int)))))
     obtain⟨HNE,HPL,HST,HUD,HUB,HBW2,HJJ,HUL2,HQL,HNU,HVD,HV2,HRV,HGQ,HI,HN,HNN,HG,HKK,HBV,HLQ⟩:=HALL.out;have hq10:qd (w9.setCell ⟨gq,i,none⟩ (.int .u32 (d:Int))) gq 134 (qf (qs.set i d)).toArray:=by
      rw[←je];exact hq9.set_ i _
     have hu10:qd (w9.setCell ⟨gq,i,none⟩ (.int .u32 (d:Int))) gu 134 (qf us).toArray:=HUB.out.wr hb2 (by have:=HGQ.out;omega);have hw10:Below gu w4 (w9.setCell ⟨gq,i,none⟩ (.int .u32 (d:Int))):=HBW2.out.trans ((hb2.below HLQ.out).mono (by have:=HGQ.out;omega));rename_i hH;clear hH hb1 hb2 hq9 cq9 fq9 zq9 hdr KF KQ hWd HES HALL e3 e4 e5 e6 e7 e8 HUB HBW2;generalize w9.setCell ⟨gq,i,none⟩ (.int .u32 (d:Int))=wa at*;have cq:wa.cell? ⟨gq,i,none⟩=some (.int .u32 (d:Int)):=(hq10.cell i).trans (Zp qs i d (by rw[HQL.out];exact HI.out));have hjn:i+n+1≤us.length:=by have:=HUL2.out;have:=HKK.out;have:=HI.out;omega
     have hl9:us.length≤900000:=by have:=HUL2.out;omega
     have HSM:=Lib.hid (qew (some ⟨bv,ov,none⟩) cv (l+1-i) gu gu i n d us (dig V) wa (Nat.le_refl _) hu10 hl9 hjn HUD.out (HRV.out wa hw10) HV2.out HVD.out hdl);have HJN:=Lib.hid hjn;have HL9:=Lib.hid hl9;have HW10:=Lib.hid hw10;have HQ10:=Lib.hid hq10;unfold qfN at HSM;rw[←HNU.out]at HSM;have fq:=hq10.frozen i;have zq:=hq10.lt;clear hjn hl9 hw10 hq10 hu10;rcases HNE.out with⟨hn1,hn2⟩|⟨hn1,hn2,hn3,hn4⟩
     ·have HA:=Lib.hid hn1;have HB2:=Lib.hid hn2;clear hn1 hn2;go_wp2_with fail
      refine HSM.out.mono ?_;rintro e wb ⟨zs,b,hb,rfl,hzl,hzd,hsum,hub,hwr⟩;have hzk:val zs<4294967296^N:=by rw[←hzl];exact qT hzd
      obtain⟨hb0,he⟩:=qjW hzk hb hsum HA.out;have hbf:(b != 0)=false:=by rw[hb0];rfl
      have hzV:val zs<val (dig V):=qeL he HB2.out;rw[hbf];have HNX:=Lib.hid (qdT HST.out hdl hzd (hzl.trans HNU.out) he hzV);rw[HNU.out]at hub;have HU2:=Lib.hid hub;have HQ2:=Lib.hid (HQ10.out.wr hwr (by have:=HGQ.out;omega));have HW2:=Lib.hid (HW10.out.trans (hwr.below (Nat.lt_trans HGQ.out zq)));have HML:=Lib.hid (Yc (us:=us) (zs:=zs) (j:=i) (hzl.trans HNU.out) HJN.out);clear hzk hb0 he hbf hzV hub hwr hsum hb hzl hzd;go_wp2_with fail
      go_roundg i
      case rel=>exact⟨i,_,qs.set i d,Nat.le_of_lt HI.out,rfl,rfl,HNX.out,HML.out.trans HUL2.out,by rw[List.length_set];exact HQL.out,HU2.out,HQ2.out,HW2.out⟩
      case measure=>have:=HG.out;omega
     ·obtain⟨d',hd'⟩:∃d',d=d'+1:=⟨d-1,by omega⟩;rw[show d-1=d' by omega]at hn3 hn4;have HA:=Lib.hid hn1;have HB2:=Lib.hid hn3;have HB3:=Lib.hid hn4;have hz1:(d:Int)-1=(d':Int):=by omega
      have hdl':d'<4294967296:=by omega
      have HD:=Lib.hid hd';clear hn1 hn2 hn3 hn4 hd';go_wp2_with fail
      refine HSM.out.mono ?_;rintro e wb ⟨zs,b,hb,rfl,hzl,hzd,hsum,hub,hwr⟩;have hb1:=qjj hb hsum HA.out;have hbf:(b != 0)=true:=by rw[hb1];rfl
      rw[hbf];rw[hb1,Nat.mul_one,qjQ d' HD.out]at hsum;have HSUM:=Lib.hid hsum;have hq2:=HQ10.out.wr hwr (Nat.ne_of_gt HGQ.out);have cqb:wb.cell? ⟨gq,i,none⟩=some (.int .u32 (d:Int)):=(hq2.cell i).trans (Zp qs i d (by rw[HQL.out];exact HI.out));have fqb:=hq2.frozen i;have zqb:=hq2.lt;have HQ2:Hid (qd (wb.setCell ⟨gq,i,none⟩ (.int .u32 (d':Int))) gq 134 (qf (qs.set i d')).toArray):=Lib.hid (by
       have:=hq2.set_ i (.int .u32 (d':Int));rwa[je,List.set_set]at this)
      have hws:=Wr.set_ (g:=gq) wb i (.int .u32 (d':Int));rw[HNU.out]at hub;have hub2:qd (wb.setCell ⟨gq,i,none⟩ (.int .u32 (d':Int))) gu 134 (qf (us.take i++(zs++us.drop (i+(n+1))))).toArray:=hub.wr hws (Nat.ne_of_lt HGQ.out);have hw2:Below gu w4 (wb.setCell ⟨gq,i,none⟩ (.int .u32 (d':Int))):=(HW10.out.trans (hwr.below (Nat.lt_trans HGQ.out zq))).trans ((hws.below zqb).mono (Nat.le_of_lt HGQ.out));have hzl':=hzl.trans HNU.out;have hml:=Yc (us:=us) (zs:=zs) (j:=i) hzl' HJN.out;have HAB:=Lib.hid (qcP (some ⟨bv,ov,none⟩) cv (l+1-i) gu gu i n _ (dig V) _ (Nat.le_refl _) hub2 (by rw[hml];exact HL9.out) (by rw[hml];exact HJN.out) (qjI HUD.out hzd) (HRV.out _ hw2) HV2.out HVD.out);have HZL:=Lib.hid hzl';have HML:=Lib.hid hml;have HW2:=Lib.hid hw2;unfold qfq at HAB;rw[qhh hzl' (Nat.le_trans (Nat.le_of_lt (Nat.lt_of_lt_of_le (Nat.lt_succ_of_le (Nat.le_add_right i n)) HJN.out)) (Nat.le_refl _)),←HNU.out]at HAB;clear hb1 hbf hq2 hws hub hub2 hw2 hzl' hml hwr hsum hb hzl hzd cq fq zq;go_wp2_with fail
      refine HAB.out.mono ?_;rintro e wd ⟨zt,b2,hb2,⟨u,rfl⟩,htl,htd,hsum2,hub3,hwr3⟩;have hzk:val zt<4294967296^N:=by rw[←htl];exact qT htd
      obtain⟨he,hzV⟩:=qkd hb2 hzk HSUM.out hsum2 HB2.out HB3.out;have HNX:=Lib.hid (qdT HST.out hdl' htd (htl.trans HNU.out) he hzV);rw[HNU.out,qkf HZL.out (Nat.le_of_lt (Nat.lt_of_lt_of_le (Nat.lt_succ_of_le (Nat.le_add_right i n)) HJN.out))]at hub3;have HU3:=Lib.hid hub3;have HQ3:=Lib.hid (HQ2.out.wr hwr3 (Nat.ne_of_gt HGQ.out));have HW3:=Lib.hid (HW2.out.trans (hwr3.below (Nat.lt_trans HGQ.out HQ2.out.lt)));have HMT:=Lib.hid (Yc (us:=us) (zs:=zt) (j:=i) (htl.trans HNU.out) HJN.out);clear hzk he hzV hub3 hwr3 hsum2 hb2 htl htd;go_wp2_with fail
      go_roundg i
      case rel=>exact⟨i,_,qs.set i d',Nat.le_of_lt HI.out,rfl,rfl,HNX.out,HMT.out.trans HUL2.out,by rw[List.length_set];exact HQL.out,HU3.out,HQ3.out,HW3.out⟩
      case measure=>have:=HG.out;omega
end Go.Proofs.YtflikmojaidhhaaGreat
namespace Go.Proofs.YtflikmojaidhhaaGreat
open Go.RowKit
def qlp(x:Nat)(w:World)(e:Ending)(w':World):Prop:=
 ((x<18446744073709551616∧e= .returned (.tuple #[.int .u64 (x:Int),.bool true]))∨(18446744073709551616≤x∧e= .returned (.tuple #[.int .u64 0,.bool false])))∧qm w w'
set_option maxHeartbeats 1000000
theorem qeN(A:Option Addr)(c B:Nat)(ds:List Nat)(w:World)(hc:ds.length≤c)(hm:ds.length≤900000)(hr:qi w B 1 A ds.length (qf ds))(hd:qP ds):
 Calls Tryz.prog 147 #[.slice A ds.length c] w (qlp (val ds) w):=by
 have h1:=qU A c B ds w hc (by omega) hr hd;have r1:=jo hr hd;have g1:=qu (val ds);have t1:=qaD (val ds);have v1:=qp (val ds);have l1:=qo hd;generalize val ds=x at*;generalize dig x=a at*;have H1:=Lib.hid h1;clear h1 hr hd;subst v1
 match a,g1,t1,r1,H1,l1 with
 |[],g1,t1,r1,H1,l1=>
  clear g1 t1 r1;go_enter Tryz.func147,Tryz.ntmps147
  go_wp2_with fail
  refine(H1.out).mono ?_;rintro e w1 ⟨rfl,rfl⟩;go_wp2_with fail
  go_ret2
  exact⟨.inl ⟨by simp[val],rfl⟩,qm.refl _⟩
 |[d0],g1,t1,r1,H1,l1=>
  obtain⟨b1,o1,rfl,q1,c1⟩:=jj r1 (k:=0) (by simp);have h0:d0<4294967296:=g1 d0 (by simp);have HV:=Lib.hid (show val [d0]=d0 by simp[val]);simp only[List.getD_cons_zero,Nat.add_zero]at c1;clear g1 t1 r1;go_enter Tryz.func147,Tryz.ntmps147
  go_wp2_with fail
  refine(H1.out).mono ?_;rintro e w1 ⟨rfl,rfl⟩;go_wp2_with fail
  go_ret2
  exact⟨.inl ⟨by rw[HV.out];omega,by rw[HV.out];rfl⟩,qm.refl _⟩
 |[d0,d1],g1,t1,r1,H1,l1=>
  obtain⟨b1,o1,rfl,q1,c1⟩:=jj r1 (k:=0) (by simp);obtain⟨b2,o2,e2,q2,c2⟩:=jj r1 (k:=1) (by simp)
  injection e2 with e2
  injection e2 with x1 x2
  subst x1;subst x2;have h0:d0<4294967296:=g1 d0 (by simp);have h1:d1<4294967296:=g1 d1 (by simp);have hor:=qfk d1 d0 h1 h0;have HV:=Lib.hid (show val [d0,d1]=d1*4294967296+d0 by simp[val];omega);have hlt:d1*4294967296+d0<18446744073709551616:=by omega
  simp only[List.getD_cons_zero,List.getD_cons_succ,Nat.add_zero]at c1 c2;generalize d1*4294967296+d0=y at*;clear g1 t1 r1;go_enter Tryz.func147,Tryz.ntmps147
  go_wp2_with fail
  refine(H1.out).mono ?_;rintro e w1 ⟨rfl,rfl⟩;go_wp2_with fail
  go_quiet (fail)
  go_wp2_with fail
  go_ret2
  exact⟨.inl ⟨by rw[HV.out];omega,by rw[HV.out];rfl⟩,qm.drewN _ _⟩
 |d0::d1::d2::l,g1,t1,r1,H1,l1=>
  have HV:=Lib.hid (show 18446744073709551616≤val (d0::d1::d2::l)by
   have h2:val (d2::l)≠0:=JW (fun hn=>by have:=t1 (by simp);simpa using this) (by simp);simp only[val]at*;omega)
  have i0:((d0::d1::d2::l).length==0)=false:=rfl;have e0:(((d0::d1::d2::l).length:Int)==0)=false:=by simp;omega
  have e1:(((d0::d1::d2::l).length:Int)==1)=false:=by simp;omega
  have e2:(((d0::d1::d2::l).length:Int)==2)=false:=by simp;omega
  generalize (d0::d1::d2::l).length=n at*;generalize val (d0::d1::d2::l)=y at*;clear g1 t1 r1 i0;go_enter Tryz.func147,Tryz.ntmps147
  go_wp2_with fail
  refine(H1.out).mono ?_;rintro e w1 ⟨rfl,rfl⟩;go_wp2_with fail
  go_ret2
  exact⟨.inr ⟨HV.out,rfl⟩,qm.refl _⟩
open Go.RowKit
theorem YH(g c:Nat)(A:Option Addr)(w:World)(hc:(dig g).length≤c)(hm:(dig g).length≤1000000)(h:qk w A (dig g)):
 Calls Tryz.prog 78 #[.bool false,.slice A (dig g).length c] w fun e w'=>∃A c,e= .returned (.agg #[.bool false,.slice A (dig g).length c])∧(dig g).length≤c∧qk w' A (dig g)∧Below w.heap.size w w':=by
 refine(J7 false A c w.heap.size (dig g) w (Nat.le_refl _) hc hm h.reads (qu g)).mono ?_;rintro e w' ⟨A1,c1,h1,h2,h3,h4⟩;have e1:qb false (dig g)=(g:Int):=by unfold qb;rw[if_neg (by simp),qp]
 rw[e1]at h1 h2 h3;have e0:decide ((g:Int)<0)=false:=by simp
 rw[e0,Int.natAbs_natCast]at h1;rw[Int.natAbs_natCast]at h2 h3;exact⟨A1,c1,h1,h2,h3,h4⟩
theorem qfp{g:Nat}(h:g<18446744073709551616):(dig g).length≤2:=qC (by
 have e:(4294967296:Nat)^2=18446744073709551616:=by decide
 rw[e];exact h)
theorem qaR(g c:Nat)(A:Option Addr)(w:World)(hg:g<18446744073709551616)(hc:(dig g).length≤c)(hm:(dig g).length≤900000)(h:qk w A (dig g)):
 Calls Tryz.prog 147 #[.slice A (dig g).length c] w fun e w'=>e= .returned (.tuple #[.int .u64 (g:Int),.bool true])∧qm w w':=by
 refine(qeN A c w.heap.size (dig g) w hc hm h.reads (qu g)).mono ?_;rintro e w' ⟨h1,h2⟩;rw[qp]at h1;rcases h1 with⟨_,rfl⟩|⟨h3,_⟩
 ·exact⟨rfl,h2⟩
 ·omega
theorem qbW{g:Nat}(h:(dig g).length≤2):g<18446744073709551616:=by
 have l:=qT (qu g);rw[qp]at l;have:=Nat.pow_le_pow_right (n:=4294967296) (by decide) h;omega
structure GSt (w0 w:World) (b G X Y:Nat) (xv yv:Value):Prop where
 x:∃Ax cx,xv= .slice Ax (dig X).length cx∧(dig X).length≤cx∧qk w Ax (dig X)
 y:∃Ay cy,yv= .slice Ay (dig Y).length cy∧(dig Y).length≤cy∧qk w Ay (dig Y)
 lx:(dig X).length≤400000
 ly:(dig Y).length≤400000
 g:Nat.gcd X Y=G
 bw:Below w0.heap.size w0 w
 bk:qd w b 25 #[.bool false,.slice none 0 0]
set_option maxHeartbeats 4000000
set_option maxRecDepth 100000
theorem qfu(ng ng':Bool)(A A':Option Addr)(c c' B:Nat)(ds es:List Nat)(w:World)(hB:B≤w.heap.size)(h:qh w B A c ds)(h':qh w B A' c' es)(hm:ds.length≤400000)(hm':es.length≤400000):
 Calls Tryz.prog 133 #[.agg #[.bool ng,.slice A ds.length c],.agg #[.bool ng',.slice A' es.length c']] w (qy ((Nat.gcd (val ds) (val es):Nat):Int) w):=by
 have HN1:=Lib.hid (fun(W:World)(hb:Below w.heap.size w W)=>yq A c B ds W (Nat.le_trans hB hb.size) h.cap (by omega) (h.rd.below (hb.mono hB)) h.dg);have HN2:=Lib.hid (fun(W:World)(hb:Below w.heap.size w W)=>yq A' c' B es W (Nat.le_trans hB hb.size) h'.cap (by omega) (h'.rd.below (hb.mono hB)) h'.dg);have HLX:=Lib.hid (show(dig (val ds)).length≤400000 by have:=qo h.dg;omega);have HLY:=Lib.hid (show(dig (val es)).length≤400000 by have:=qo h'.dg;omega);have HX:=Lib.hid (jF w 25 25 25 #[.bool ng,.slice A ds.length c] #[.bool ng',.slice A' es.length c'] #[.bool false,.slice none 0 0]);clear h h' hm hm';unfold jT at HN1 HN2;generalize val ds=X0 at*;generalize val es=Y0 at*;generalize ds.length=n at*;generalize es.length=n' at*;have HRES:=Lib.hid (fun(g:Nat)(hg:g=Nat.gcd X0 Y0)(W:World)(A:Option Addr)(c:Nat)(h1:(dig g).length≤c)(h2:qk W A (dig g))(h3:Below w.heap.size w W)=>show qy ((Nat.gcd X0 Y0:Nat):Int) w (.returned (.agg #[.bool false,.slice A (dig g).length c])) W by
  rw[←hg];exact⟨A,c,by simp,h1,h2,h3⟩)
 generalize hG:Nat.gcd X0 Y0=G at*;have HG:=Lib.hid hG;clear hG;go_enter Tryz.func133,Tryz.ntmps133
 go_wp2_with fail
 generalize ((w.alloc (.cells #[.bool ng,.slice A n c] 25)).alloc (.cells #[.bool ng',.slice A' n' c'] 25)).alloc (.cells #[.bool false,.slice none 0 0] 25)=W at*;obtain⟨hb0,k0,k1,k2,hs⟩:=HX.out;have HS:=Lib.hid hs;clear hs HX;have c1:W.cell? ⟨w.heap.size,1,none⟩=some (.slice A n c):=k0.cell 1;have c3:W.cell? ⟨w.heap.size+1,1,none⟩=some (.slice A' n' c'):=k1.cell 1;have l0:=k0.lt;have l1:=k1.lt;have d1:W.drew.cell? ⟨w.heap.size,1,none⟩=some (.slice A n c):=c1;have d3:W.drew.cell? ⟨w.heap.size+1,1,none⟩=some (.slice A' n' c'):=c3;have K2:qd W.drew (w.heap.size+1+1) 25 #[.bool false,.slice none 0 0]:=k2;have hb0':Below w.heap.size w W.drew:=hb0.trans ((qm.drew _).below _);clear hb0 k0 k1 k2;generalize hbx:w.heap.size+1=bx at*;have HBX:=Lib.hid hbx;clear hbx;go_region_held3 (fun w'=>w'.cell? ⟨w.heap.size,1,none⟩=some (.slice A n c)∧w'.cell? ⟨bx,1,none⟩=some (.slice A' n' c'))
  (first|(with_reducible exact⟨r1,r3⟩)|(with_reducible exact⟨q1,q3⟩)|(with_reducible exact⟨d1,d3⟩))
  (first|(go_at_call 107;(with_reducible refine(HN1.out _ hb0').mono ?_);rintro e w1 ⟨A1,c1',rfl,h1,h2,h3⟩;have q1:=(h3.cell l0).trans c1;have q3:=(h3.cell l1).trans c3;have hb1:=hb0'.trans (h3.mono hb0'.size))|(go_at_call 107;(with_reducible refine(HN2.out _ hb1).mono ?_);rintro e w2 ⟨A2,c2',rfl,g1,g2,g3⟩;have r1:=(g3.cell (Nat.lt_of_lt_of_le l0 h3.size)).trans q1;have r3:=(g3.cell (Nat.lt_of_lt_of_le l1 h3.size)).trans q3;have hb2:=hb1.trans (g3.mono hb1.size)))
 have hbk:=(K2.old h3).old g3;have HST:=Lib.hid (show GSt w w2 (bx+1) G X0 Y0 (.slice A1 (dig X0).length c1') (.slice A2 (dig Y0).length c2')from⟨⟨A1,c1',rfl,h1,h2.old g3⟩,⟨A2,c2',rfl,g1,g2⟩,HLX.out,HLY.out,HG.out,hb2,hbk⟩);rename_i hH;clear hH r1 r3 q1 q3 h1 h2 h3 hb1 g1 g2 g3 hb2 hbk d1 d3 c1 c3 l0 l1 hb0' K2 HS;go_wp2_with fail
 have HBR:=Lib.hid (show w.heap.size≤bx+1 by have:=HBX.out;omega);generalize bx+1=br at*;go_loopg [5,6,7,8] Y0 (fun gn xv yv _ _ wr=>∃X Y,gn=Y∧GSt w wr br G X Y xv yv)
 case atStart=>exact⟨X0,Y0,rfl,HST.out⟩
 case round=>
  obtain⟨X,Y,hgy,⟨Ax,cx,rfl,hcx,hnx⟩,⟨Ay,cy,rfl,hcy,hny⟩,hlx,hly,hg,hbw,hbk⟩:=hrel;have HGY:=Lib.hid hgy;have HGG:=Lib.hid hg;have HBW:=Lib.hid hbw;have HBK:=Lib.hid hbk;have HLX2:=Lib.hid hlx;have HLY2:=Lib.hid hly;clear hgy hg hbw hbk HST;by_cases hlong:(dig X).length≤2∧(dig Y).length≤2
  ·obtain⟨hx2,hy2⟩:=hlong;have HU1:=Lib.hid (qaR X cx Ax wr (qbW hx2) hcx (by omega) hnx);have HU2:=Lib.hid (fun(W:World)(hW:Below wr.heap.size wr W)=>qaR Y cy Ay W (qbW hy2) hcy (by omega) (hny.old hW));have HXB:=Lib.hid (qbW hx2);have HYB:=Lib.hid (qbW hy2);generalize (dig X).length=lx at*;generalize (dig Y).length=ly at*;have ix:(lx:Int)≤2:=by omega
   have iy:(ly:Int)≤2:=by omega
   clear HLX2 HLY2 hlx hly hnx hny HLX HLY HN1 HN2 HG;go_wp2_with fail
   refine HU1.out.mono ?_;rintro e wa ⟨rfl,hda⟩;have HDA:=Lib.hid (hda.below wr.heap.size);have HU3:=Lib.hid (HU2.out wa HDA.out);clear hda HU1 HU2;go_wp2_with fail
   refine HU3.out.mono ?_;rintro e wb ⟨rfl,hdb⟩;have HDB:=Lib.hid (HDA.out.trans ((hdb.below wa.heap.size).mono HDA.out.size));have HB2:=Lib.hid (HBW.out.trans (HDB.out.mono HBW.out.size));have HK2:=Lib.hid (HBK.out.old HDB.out);clear hdb HDA HDB HU3 HBW HBK ix iy hx2 hy2 hcx hcy;go_wp2_with fail
   go_loopg [9,11] Y (fun gn mv nv wq=>∃m k:Nat,gn=k∧mv= .int .u64 (m:Int)∧nv= .int .u64 (k:Int)∧m<18446744073709551616∧k<18446744073709551616∧Nat.gcd m k=G∧Below w.heap.size w wq∧qd wq br 25 #[.bool false,.slice none 0 0])
   case atStart=>exact⟨X,Y,rfl,rfl,rfl,HXB.out,HYB.out,HGG.out,HB2.out,HK2.out⟩
   case round=>
    obtain⟨m,k,hgk,rfl,rfl,hm,hk,hg,hbw,hbk⟩:=hrel;have HGK:=Lib.hid hgk;have HG:=Lib.hid hg;have HBW:=Lib.hid hbw;have HBK:=Lib.hid hbk;clear hgk hg hbw hbk HB2 HK2 HXB HYB HGG HGY;by_cases hk0:k=0
    ·subst hk0;have HOF:=Lib.hid (qcm m hm wr);unfold jT at HOF;have HGM:=Lib.hid (show m=G by rw[←HG.out,Nat.gcd_zero_right]);have HL2:=Lib.hid (qfp hm);go_wp2_with fail
     refine HOF.out.mono ?_;rintro e wc ⟨Ad,cd,rfl,hcd,hnd,hbd⟩;have HFF:=Lib.hid (YH m cd Ad wc hcd (by have:=HL2.out;omega) hnd);have HBC:=Lib.hid (HBW.out.trans (hbd.mono HBW.out.size));have HKC:=Lib.hid (HBK.out.old hbd);clear hcd hnd hbd HBW HBK;go_wp2_with fail
     refine HFF.out.mono ?_;rintro e wd ⟨Ae,ce,rfl,hce,hne,hbe⟩;have kk:=HKC.out.old hbe;have hbel:=HBC.out.trans (hbe.mono HBC.out.size);have d0:wd.cell? ⟨br,0,none⟩=some (.bool false):=kk.cell 0;have d1:wd.cell? ⟨br,1,none⟩=some (.slice none 0 0):=kk.cell 1;have f0:=kk.frozen 0;have f1:=kk.frozen 1;have z0:=kk.lt;have HKK:=Lib.hid kk;have HBE:=Lib.hid hbel;have HNE:=Lib.hid hne;have HCE:=Lib.hid hce;clear kk hbel hne hce hbe;go_wp2_with fail
     exact qg Tryz.results133 rfl rfl ((HKK.out.set_ 0 _).set_ 1 _) Tryz.underlying25 rfl Tryz.sizeInt (HRES.out m HGM.out _ Ae ce HCE.out (HNE.out.store2 HKK.out (by decide) _ _) ((HBE.out.setCell HBR.out _).setCell HBR.out _))
    ·have e0:¬((k:Int)=0):=by omega
     have e1:(m:Int)%(k:Int)=((m%k:Nat):Int):=(Int.natCast_emod _ _).symm;have e2:Int.tmod (m:Int) (k:Int)=((m%k:Nat):Int):=by rw[Int.tmod_eq_emod_of_nonneg (by omega)];exact e1
     have hr:m%k<k:=Nat.mod_lt _ (by omega);have e3:=JJ (n:=m%k) (by omega);have HGC:=Lib.hid (show Nat.gcd k (m%k)=G by rw[←HG.out,Nat.gcd_comm m k,Nat.gcd_rec k m,Nat.gcd_comm]);have HR:=Lib.hid hr;clear hr;generalize m%k=r at*;go_wp2_with fail
     go_quiet (fail)
     clear e0 e1 e2 e3;go_wp2_with fail
     go_roundg r
     case rel=>exact⟨k,r,rfl,rfl,rfl,hk,Nat.lt_trans HR.out hk,HGC.out,HBW.out.trans ((qm.drewN _ _).below _),HBK.out.drewN _⟩
     case measure=>have:=HGK.out;have:=HR.out;omega
  ·by_cases hy0:Y=0
   ·subst hy0;have hz:(dig 0).length=0:=by rw[qt];rfl
    have hx2:2<(dig X).length:=by omega
    have HGM:=Lib.hid (show X=G by rw[←HGG.out,Nat.gcd_zero_right]);have HFF:=Lib.hid (YH X cx Ax wr hcx (by omega) hnx);rw[hz]at*;generalize hlxe:(dig X).length=lx at*;have HLXE:=Lib.hid hlxe;clear hlxe hz hny;have ix:(2:Int)<(lx:Int):=by omega
    clear HLX2 HLY2 hlx hly hnx HLX HLY HN1 HN2 HG;go_wp2_with fail
    refine HFF.out.mono ?_;rintro e wd ⟨Ae,ce,rfl,hce,hne,hbe⟩;have kk:=HBK.out.old hbe;have hbel:=HBW.out.trans (hbe.mono HBW.out.size);have d0:wd.cell? ⟨br,0,none⟩=some (.bool false):=kk.cell 0;have d1:wd.cell? ⟨br,1,none⟩=some (.slice none 0 0):=kk.cell 1;have f0:=kk.frozen 0;have f1:=kk.frozen 1;have z0:=kk.lt;have HKK:=Lib.hid kk;have HBE:=Lib.hid hbel;have HNE:=Lib.hid hne;have HCE:=Lib.hid hce;clear kk hbel hne hce hbe;go_wp2_with fail
    have hcE:=HCE.out;have hnE:=HNE.out;exact qg Tryz.results133 rfl rfl ((HKK.out.set_ 0 _).set_ 1 _) Tryz.underlying25 rfl Tryz.sizeInt (HLXE.out▸HRES.out X HGM.out _ Ae ce (HLXE.out.symm▸hcE) (hnE.store2 HKK.out (by decide) _ _) ((HBE.out.setCell HBR.out _).setCell HBR.out _))
   ·have hly0:0<(dig Y).length:=jw.2 (by omega);have HDV:=Lib.hid (Z1 Ax Ay cx cy wr.heap.size (dig X) (dig Y) wr (Nat.le_refl _) hcx hcy hlx hly hnx.reads hny.reads (qu _) (qu _) (by rw[qp];exact hy0));unfold YR at HDV;rw[qp,qp]at HDV;have hr:X%Y<Y:=Nat.mod_lt _ (by omega);have HGC:=Lib.hid (show Nat.gcd Y (X%Y)=G by rw[←HGG.out,Nat.gcd_comm X Y,Nat.gcd_rec Y X,Nat.gcd_comm]);have HLR:=Lib.hid (Nat.le_trans (Jr (Nat.le_of_lt hr)) hly);have HR:=Lib.hid hr;clear hr;generalize X%Y=R at*;generalize X/Y=Q at*;have HNY:=Lib.hid hny;have HCY:=Lib.hid hcy;generalize hlxe:(dig X).length=lx at*;generalize hlye:(dig Y).length=ly at*;have HLYE:=Lib.hid hlye;have hor:(2:Int)<(lx:Int)∨(2:Int)<(ly:Int):=by omega
    have iy:(0:Int)<(ly:Int):=by omega
    clear HLX2 hlxe hlye hlx hly hnx hny HLX HLY HN1 HN2 HG hcx hcy;go_wp2_with fail
    all_goals
     refine HDV.out.mono ?_;rintro e wd ⟨Aq,cq,Ar,cr,rfl,hcq,hcr,hnq,hnr,hbd⟩;have HB2:=Lib.hid (HBW.out.trans (hbd.mono HBW.out.size));have HK2:=Lib.hid (HBK.out.old hbd);have HN2:=Lib.hid (HNY.out.old hbd);have HN3:=Lib.hid hnr;have HC3:=Lib.hid hcr;clear hbd hnq hnr hcq hcr;go_wp2_with fail
     go_roundg R
     case rel=>exact⟨Y,R,rfl,⟨⟨Ay,cy,by rw[HLYE.out],by rw[HLYE.out];exact HCY.out,HN2.out⟩,⟨Ar,cr,rfl,HC3.out,HN3.out⟩,by rw[HLYE.out];exact HLY2.out,HLR.out,HGC.out,HB2.out,HK2.out⟩⟩
     case measure=>have:=HGY.out;have:=HR.out;omega
open Go.RowKit
theorem YO{P:Program}{fn:Func}{Q:Ending→World→Prop}{a:Act}{w:World}{p r:Tmp}{ty:TypeId}{g:Nat}{t:TypeId}{cs:Array Value}{d:TypeDesc}(hr:fn.results=#[.cell p ty,.tmp r])(hdf:a.defers=[])(hp:a.tmps.getD p undef= .pointer (some ⟨g,0,none⟩))(hb:qd w g t cs)
 (hu:P.underlying ty=some d)(hd:(match d with| .struct _| .array _ _=>true|_=>false)=true)(hi:(P.info? ty).map (·.size)=some cs.size)(h:Q (.returned (.tuple #[.agg cs,a.tmps.getD r undef])) w):bodyPost P fn Q Exit.ret a w:=by
 refine bodyPost_ret ?_ hdf h;have hp':a.tmps[p]?.getD undef= .pointer (some ⟨g,0,none⟩):=by simpa using hp
 simp[results,hr,hp',asAddr,run_loadVar_row w g t ty cs (0,0) d hb hu hd hi]
theorem qeI(z:Int):(qB z==0)=decide (z=0):=by
 unfold qB
 split
 ·have:¬z=0:=by omega
  simp[this]
 ·split<;>simp_all
set_option maxHeartbeats 400000
theorem qaS(ng:Bool)(A:Option Addr)(c B:Nat)(ds:List Nat)(w:World)(hB:B≤w.heap.size)(h:qh w B A c ds)(hm:ds.length≤1000000):
 Calls Tryz.prog 142 #[.agg #[.bool ng,.slice A ds.length c]] w fun e w'=>e= .returned (.bool (decide (qb ng ds=0)))∧Below w.heap.size w w':=by
 have hbl0:=(Below.refl w.heap.size w).alloc (Nat.le_refl _) (.cells #[.bool ng,.slice A ds.length c] 25);have HS:=Lib.hid (zQ ng A c B ds _ (Nat.le_trans hB hbl0.size) (h.below (hbl0.mono hB)) hm);have HB:=Lib.hid hbl0;have hz:=qeI (qb ng ds);rw[←hz];clear hbl0 hz h;generalize qB (qb ng ds)=sg at*;go_enter Tryz.func142,Tryz.ntmps142
 go_wp2_with fail
 refine HS.out.mono ?_;rintro e w1 ⟨rfl,rfl⟩;go_wp2_with fail
 go_ret
 exact⟨rfl,HB.out.alloc HB.out.size _⟩
theorem Q0{P:Program}{fn:Func}{p q r:Tmp}{ty:TypeId}(h:fn.results=#[.cell p ty,.cell q ty,.tmp r])(tmps:Array Value)(w:World)(g g':Nat)(t:TypeId)(cs cs':Array Value)(d:TypeDesc)
 (hp:tmps.getD p undef= .pointer (some ⟨g,0,none⟩))(hq:tmps.getD q undef= .pointer (some ⟨g',0,none⟩))(hc:qd w g t cs)(hc':qd w g' t cs')
 (hu:P.underlying ty=some d)(hd:(match d with| .struct _| .array _ _=>true|_=>false)=true)(hi:(P.info? ty).map (·.size)=some cs.size)(hi':(P.info? ty).map (·.size)=some cs'.size):
 (results fn tmps).run P w= .ok (.tuple #[.agg cs,.agg cs',tmps.getD r undef]) w:=by
 have hp':tmps[p]?.getD undef= .pointer (some ⟨g,0,none⟩):=by simpa using hp
 have hq':tmps[q]?.getD undef= .pointer (some ⟨g',0,none⟩):=by simpa using hq
 simp[results,h,hp',hq',asAddr,run_loadVar_row w g t ty cs (0,0) d hc hu hd hi,run_loadVar_row w g' t ty cs' (0,0) d hc' hu hd hi']
theorem qlH(w:World)(t0 t1 t2 t3:TypeId)(c0 c1 c2 c3:Array Value):Below w.heap.size w ((((w.alloc (.cells c0 t0)).alloc (.cells c1 t1)).alloc (.cells c2 t2)).alloc (.cells c3 t3))∧
 qd ((((w.alloc (.cells c0 t0)).alloc (.cells c1 t1)).alloc (.cells c2 t2)).alloc (.cells c3 t3)) w.heap.size t0 c0∧qd ((((w.alloc (.cells c0 t0)).alloc (.cells c1 t1)).alloc (.cells c2 t2)).alloc (.cells c3 t3)) (w.heap.size+1) t1 c1∧
 qd ((((w.alloc (.cells c0 t0)).alloc (.cells c1 t1)).alloc (.cells c2 t2)).alloc (.cells c3 t3)) (w.heap.size+2) t2 c2∧qd ((((w.alloc (.cells c0 t0)).alloc (.cells c1 t1)).alloc (.cells c2 t2)).alloc (.cells c3 t3)) (w.heap.size+3) t3 c3:=by
 obtain⟨h0,h1,h2,h3,hs⟩:=jF w t0 t1 t2 c0 c1 c2;refine⟨h0.alloc h0.size _,h1.alloc _,h2.alloc _,h3.alloc _,?_⟩;have:=qd.new (((w.alloc (.cells c0 t0)).alloc (.cells c1 t1)).alloc (.cells c2 t2)) t3 c3;rwa[hs]at this
theorem qar{w:World}{g g':Nat}(p:qd w g 25 #[.bool false,.slice none 0 0])(p':qd w g' 25 #[.bool false,.slice none 0 0])(hne:g≠g')(a b c d:Value):
 qd ((((w.setCell ⟨g,0,none⟩ a).setCell ⟨g,1,none⟩ b).setCell ⟨g',0,none⟩ c).setCell ⟨g',1,none⟩ d) g 25 #[a,b]∧qd ((((w.setCell ⟨g,0,none⟩ a).setCell ⟨g,1,none⟩ b).setCell ⟨g',0,none⟩ c).setCell ⟨g',1,none⟩ d) g' 25 #[c,d]∧
  ∀(A:Option Addr)(ds:List Nat),qk w A ds→qk ((((w.setCell ⟨g,0,none⟩ a).setCell ⟨g,1,none⟩ b).setCell ⟨g',0,none⟩ c).setCell ⟨g',1,none⟩ d) A ds:=by
 have p2:=(p.set_ 0 a).set_ 1 b;have p3:=(p'.far (p:=⟨g,0,none⟩) (Ne.symm hne) a).far (p:=⟨g,1,none⟩) (Ne.symm hne) b;refine⟨(p2.far (p:=⟨g',0,none⟩) hne c).far (p:=⟨g',1,none⟩) hne d,(p3.set_ 0 c).set_ 1 d,fun A ds h=>?_⟩;exact(h.store2 p (by decide) a b).store2 p3 (by decide) c d
theorem qj8(n:Nat):n≠n+1+1+1:=by omega
theorem qaK(ng:Bool)(v:Nat):(qb ng (dig v)).natAbs=v:=by rw[qz,qp]
def qeA(q r:Int)(w:World)(e:Ending)(w':World):Prop:=
 ∃A c A' c',e= .returned (.tuple #[.agg #[.bool (decide (q<0)),.slice A (dig q.natAbs).length c],.agg #[.bool (decide (r<0)),.slice A' (dig r.natAbs).length c'],.int .i64 0])∧(dig q.natAbs).length≤c∧(dig r.natAbs).length≤c'∧qk w' A (dig q.natAbs)∧qk w' A' (dig r.natAbs)∧Below w.heap.size w w'
set_option maxHeartbeats 4000000
theorem qfE(ng ng':Bool)(A A':Option Addr)(c c' B:Nat)(ds es:List Nat)(w:World)(hB:B≤w.heap.size)(h:qh w B A c ds)(h':qh w B A' c' es)(hm:ds.length≤400000)(hm':es.length≤400000)(hy:val es≠0):
 Calls Tryz.prog 134 #[.agg #[.bool ng,.slice A ds.length c],.agg #[.bool ng',.slice A' es.length c']] w (qeA (qb (!ng==ng') (dig (val ds/val es))) (qb ng (dig (val ds%val es))) w):=by
 have HX:=Lib.hid (qlH w 25 25 25 25 #[.bool ng,.slice A ds.length c] #[.bool ng',.slice A' es.length c'] #[.bool false,.slice none 0 0] #[.bool false,.slice none 0 0]);have hz:=fun(W:World)(hW:Below w.heap.size w W)=>qaS ng' A' c' B es W (Nat.le_trans hB hW.size) (h'.below (hW.mono hB)) (by omega);rw[show decide (qb ng' es=0)=false by
  have:=qz ng' es;have h0:¬qb ng' es=0:=fun e=>by rw[e]at this;simp at this;omega
  simp[h0]]at hz
 have HZ:=Lib.hid hz;have HD:=Lib.hid (fun(W:World)(hW:Below w.heap.size w W)=>Z1 A A' c c' B ds es W (Nat.le_trans hB hW.size) h.cap h'.cap hm hm' (h.rd.below (hW.mono hB)) (h'.rd.below (hW.mono hB)) h.dg h'.dg hy);have hlq:(dig (val ds/val es)).length≤400000:=Nat.le_trans (Jr (Nat.div_le_self _ _)) (Nat.le_trans (qo h.dg) hm);have hlr:(dig (val ds%val es)).length≤400000:=Nat.le_trans (Jr (Nat.mod_le _ _)) (Nat.le_trans (qo h.dg) hm);have HF1:=Lib.hid (fun(W:World)(A:Option Addr)(c:Nat)(h1:(dig (val ds/val es)).length≤c)(h2:qk W A (dig (val ds/val es)))=>J7 (!ng==ng') A c W.heap.size (dig (val ds/val es)) W (Nat.le_refl _) h1 (by omega) h2.reads (qu _));have HF2:=Lib.hid (fun(W:World)(A:Option Addr)(c:Nat)(h1:(dig (val ds%val es)).length≤c)(h2:qk W A (dig (val ds%val es)))=>J7 ng A c W.heap.size (dig (val ds%val es)) W (Nat.le_refl _) h1 (by omega) h2.reads (qu _));unfold qy at HF1 HF2;unfold YR at HD;rw[qaK]at HF1 HF2;unfold qeA;rw[qaK,qaK];clear h h' hy hz hlq hlr hm hm';generalize qb (!ng==ng') (dig (val ds/val es))=q at*;generalize qb ng (dig (val ds%val es))=r at*;generalize val ds/val es=Q at*;generalize val ds%val es=R at*;generalize ds.length=n at*;generalize es.length=n' at*;go_enter Tryz.func134,Tryz.ntmps134
 go_wp2_with fail
 generalize (((w.alloc (.cells #[.bool ng,.slice A n c] 25)).alloc (.cells #[.bool ng',.slice A' n' c'] 25)).alloc (.cells #[.bool false,.slice none 0 0] 25)).alloc (.cells #[.bool false,.slice none 0 0] 25)=W at*;obtain⟨hb0,k0,k1,k2,k3⟩:=HX.out;have HZ1:=Lib.hid (HZ.out W hb0);clear HX HZ;refine HZ1.out.mono ?_;rintro e w1 ⟨rfl,hb1⟩;have hb01:=hb0.trans (hb1.mono hb0.size);have HD1:=Lib.hid (HD.out w1 hb01);have j0:=k0.old hb1;have j1:=k1.old hb1;have j2:=k2.old hb1;have j3:=k3.old hb1;have c1:w1.cell? ⟨w.heap.size,1,none⟩=some (.slice A n c):=j0.cell 1;have c3:w1.cell? ⟨w.heap.size+1,1,none⟩=some (.slice A' n' c'):=j1.cell 1;have HJ:=Lib.hid (And.intro j0 (And.intro j1 (And.intro j2 j3)));clear k0 k1 k2 k3 j0 j1 j2 j3 HZ1 HD hb0 hb1;go_wp2_with fail
 refine HD1.out.mono ?_;rintro e w2 ⟨Aq,cq,Ar,cr,rfl,hcq,hcr,hnq,hnr,hb2⟩;obtain⟨j0,j1,j2,j3⟩:=HJ.out;have k0:=j0.old hb2;have k1:=j1.old hb2;have k2:=j2.old hb2;have k3:=j3.old hb2;have HB2:=Lib.hid (hb01.trans (hb2.mono hb01.size));have d0:w2.drew.cell? ⟨w.heap.size,0,none⟩=some (.bool ng):=k0.cell 0;have d1:w2.drew.cell? ⟨w.heap.size+1,0,none⟩=some (.bool ng'):=k1.cell 0;have l0:w.heap.size<w2.drew.heap.size:=k0.lt;have l1:w.heap.size+1<w2.drew.heap.size:=k1.lt;have K2:qd w2.drew (w.heap.size+1+1) 25 #[.bool false,.slice none 0 0]:=k2;have K3:qd w2.drew (w.heap.size+1+1+1) 25 #[.bool false,.slice none 0 0]:=k3;have nq:qk w2.drew Aq (dig Q):=hnq;have nr:qk w2.drew Ar (dig R):=hnr;clear HJ j0 j1 j2 j3 k0 k1 k2 k3 hb01 hb2 c1 c3 hnq hnr HD1;have HG1:=Lib.hid (HF1.out w2.drew Aq cq hcq nq);have HG2:=Lib.hid (fun(W:World)(h:Below w2.drew.heap.size w2.drew W)=>HF2.out W Ar cr hcr (nr.old h));clear HF1 HF2 nq nr hcq hcr;go_wp2_with fail
 go_region_held3 (fun w'=>w'.cell? ⟨w.heap.size,0,none⟩=some (.bool ng)∧w'.cell? ⟨w.heap.size+1,0,none⟩=some (.bool ng'))
  (first|(with_reducible exact⟨jp (jp r0 (JR _)) (qj8 _),jp (jp r1 (Q2 _)) (JR _)⟩)|(with_reducible exact⟨jp r0 (JR _),jp r1 (Q2 _)⟩)|(with_reducible exact⟨r0,r1⟩)|(with_reducible exact⟨q0,q1⟩)|(with_reducible exact⟨d0,d1⟩))
  (first|(go_at_call 78;(with_reducible refine HG1.out.mono ?_);rintro e w3 ⟨A3,c3,rfl,h31,h32,h33⟩;have q0:=(h33.cell l0).trans d0;have q1:=(h33.cell l1).trans d1)|(go_at_call 78;(with_reducible refine(HG2.out _ h33).mono ?_);rintro e w4 ⟨A4,c4,rfl,h41,h42,h43⟩;have r0:=(h43.cell (Nat.lt_of_lt_of_le l0 h33.size)).trans q0;have r1:=(h43.cell (Nat.lt_of_lt_of_le l1 h33.size)).trans q1;have p2:=(K2.old h33).old h43;have p3:=(K3.old h33).old h43;have d20:w4.cell? ⟨w.heap.size+1+1,0,none⟩=some (.bool false):=p2.cell 0;have d21:w4.cell? ⟨w.heap.size+1+1,1,none⟩=some (.slice none 0 0):=p2.cell 1;have d30:w4.cell? ⟨w.heap.size+1+1+1,0,none⟩=some (.bool false):=p3.cell 0;have d31:w4.cell? ⟨w.heap.size+1+1+1,1,none⟩=some (.slice none 0 0):=p3.cell 1;have f20:=p2.frozen 0;have f21:=p2.frozen 1;have f30:=p3.frozen 0;have f31:=p3.frozen 1))
 rename_i hH;clear hH r0 r1 q0 q1 d0 d1 d20 d21 d30 d31 f20 f21 f30 f31 HG1 HG2;have hnq4:=h32.old h43;have hbw:=(HB2.out.trans ((qm.drew w2).below _)).trans ((h33.trans (h43.mono h33.size)).mono HB2.out.size);have HF:=Lib.hid (qar p2 p3 (Nat.ne_of_lt (Nat.lt_succ_self (w.heap.size+1+1))) (.bool (decide (q<0))) (.slice A3 (dig Q).length c3) (.bool (decide (r<0))) (.slice A4 (dig R).length c4));have HN3:=Lib.hid hnq4;have HN4:=Lib.hid h42;have HB4:=Lib.hid hbw;have HC3:=Lib.hid h31;have HC4:=Lib.hid h41;clear p2 p3 hnq4 h42 hbw h31 h41 h32 h33 h43 l0 l1 K2 K3;go_wp2_with fail
 obtain⟨x2,x3,xn⟩:=HF.out;refine bodyPost_ret (Q0 Tryz.results134 _ _ _ _ _ _ _ _ rfl rfl x2 x3 Tryz.underlying25 rfl Tryz.sizeInt Tryz.sizeInt) rfl ?_;exact⟨A3,c3,A4,c4,rfl,HC3.out,HC4.out,xn _ _ HN3.out,xn _ _ HN4.out,(((HB4.out.setCell (show w.heap.size≤w.heap.size+1+1 by omega) _).setCell (show w.heap.size≤w.heap.size+1+1 by omega) _).setCell (show w.heap.size≤w.heap.size+1+1+1 by omega) _).setCell (show w.heap.size≤w.heap.size+1+1+1 by omega) _⟩
theorem qbh{ng ng':Bool}{ds es:List Nat}(hd:qb ng' es∣qb ng ds)(h0:qb ng' es≠0):qb (!ng==ng') (dig (val ds/val es))=qb ng ds/qb ng' es∧qb ng (dig (val ds%val es))=0:=by
 have hv:val es∣val ds:=by
  have:=Int.natAbs_dvd_natAbs.2 hd;rwa[qz,qz]at this
 have hz:val es≠0:=fun e=>h0 (by unfold qb;rw[e];cases ng'<;>rfl);obtain⟨k,hk⟩:=hv;rw[hk,Nat.mul_div_cancel_left _ (by omega),Nat.mul_mod_right];refine⟨?_,by unfold qb;rw[qp];cases ng<;>rfl⟩;clear hd h0;unfold qb;rw[qp,hk];generalize val es=e at*;have he:(e:Int)≠0:=by omega
 have he':-(e:Int)≠0:=by omega
 cases ng<;>cases ng'
 ·show(k:Int)=((e*k:Nat):Int)/(e:Int);exact(Int.ediv_eq_of_eq_mul_right he (by rw[Int.natCast_mul])).symm
 ·show -(k:Int)=((e*k:Nat):Int)/ -(e:Int);exact(Int.ediv_eq_of_eq_mul_right he' (by rw[Int.natCast_mul,Int.neg_mul_neg])).symm
 ·show -(k:Int)=-((e*k:Nat):Int)/(e:Int);exact(Int.ediv_eq_of_eq_mul_right he (by rw[Int.natCast_mul,Int.mul_neg])).symm
 ·show(k:Int)=-((e*k:Nat):Int)/ -(e:Int);exact(Int.ediv_eq_of_eq_mul_right he' (by rw[Int.natCast_mul,Int.neg_mul])).symm
def QU(q:Int)(w:World)(e:Ending)(w':World):Prop:=
 ∃A c,e= .returned (.tuple #[.agg #[.bool (decide (q<0)),.slice A (dig q.natAbs).length c],.int .i64 0])∧(dig q.natAbs).length≤c∧qk w' A (dig q.natAbs)∧Below w.heap.size w w'
theorem qbf(ng ng':Bool)(A A':Option Addr)(c c' B:Nat)(ds es:List Nat)(w:World)(hB:B≤w.heap.size)(h:qh w B A c ds)(h':qh w B A' c' es)(hm:ds.length≤400000)(hm':es.length≤400000)(h0:qb ng' es≠0)(hd:qb ng' es∣qb ng ds):
 Calls Tryz.prog 128 #[.agg #[.bool ng,.slice A ds.length c],.agg #[.bool ng',.slice A' es.length c']] w (QU (qb ng ds/qb ng' es) w):=by
 have HX:=Lib.hid (jF w 25 25 25 #[.bool ng,.slice A ds.length c] #[.bool ng',.slice A' es.length c'] #[.bool false,.slice none 0 0]);have hz:val es≠0:=fun e=>h0 (by unfold qb;rw[e];cases ng'<;>rfl);have hq:=fun(W:World)(hW:Below w.heap.size w W)=>qfE ng ng' A A' c c' B ds es W (Nat.le_trans hB hW.size) (h.below (hW.mono hB)) (h'.below (hW.mono hB)) hm hm' hz;obtain⟨e1,e2⟩:=qbh hd h0;rw[e1,e2]at hq;unfold qeA at hq;have hd0:(decide ((0:Int)<0))=false:=by decide
 have hd1:(dig (Int.natAbs 0)).length=0:=by rw[show Int.natAbs 0=0 from rfl,qt];rfl
 rw[hd0,hd1]at hq;have HQ:=Lib.hid hq;have HI:=Lib.hid (fun(W:World)(A:Option Addr)(c:Nat)=>qaS false A c W.heap.size [] W (Nat.le_refl _) ⟨⟨rfl,fun hp=>absurd hp (Nat.lt_irrefl 0)⟩,by simp[qP],Nat.zero_le _⟩ (by simp));rw[show decide (qb false []=0)=true from rfl,List.length_nil]at HI;unfold QU;clear hq hz e1 e2 hd0 hd1 h h' hm hm' h0 hd;generalize qb ng ds/qb ng' es=q at*;generalize ds.length=n at*;generalize es.length=n' at*;go_enter Tryz.func128,Tryz.ntmps128
 go_wp2_with fail
 generalize ((w.alloc (.cells #[.bool ng,.slice A n c] 25)).alloc (.cells #[.bool ng',.slice A' n' c'] 25)).alloc (.cells #[.bool false,.slice none 0 0] 25)=W at*;obtain⟨hb0,k0,k1,k2,hs⟩:=HX.out;have HQ1:=Lib.hid (HQ.out W hb0);have HS:=Lib.hid hs;clear HX HQ hs;refine HQ1.out.mono ?_;rintro e w1 ⟨A1,c1,A2,c2,rfl,h1,h2,h3,h4,hb1⟩;have hb01:=hb0.trans (hb1.mono hb0.size);have m2:=k2.old hb1;have HB1:=Lib.hid hb01;have HM:=Lib.hid m2;have H1:=Lib.hid h1;have H3:=Lib.hid h3;have HSZ:=Lib.hid hb1.size;clear k0 k1 k2 hb0 hb1 hb01 m2 h1 h2 h3 h4 HQ1;go_wp2_with fail
 have HX2:=Lib.hid (qK w1 25 25 #[.bool (decide (q<0)),.slice A1 (dig q.natAbs).length c1] #[.bool false,.slice A2 0 c2]);generalize (w1.alloc (.cells #[.bool (decide (q<0)),.slice A1 (dig q.natAbs).length c1] 25)).alloc (.cells #[.bool false,.slice A2 0 c2] 25)=X at*;have HI1:=Lib.hid (HI.out X A2 c2);clear HI;refine HI1.out.mono ?_;rintro e w5 ⟨rfl,hb5⟩;obtain⟨hbx,j0,_,_⟩:=HX2.out;have kq:=j0.old hb5;have kr:=(HM.out.old hbx).old hb5;have g0:w5.cell? ⟨w1.heap.size,0,none⟩=some (.bool (decide (q<0))):=kq.cell 0;have g1:w5.cell? ⟨w1.heap.size,1,none⟩=some (.slice A1 (dig q.natAbs).length c1):=kq.cell 1;have d0:w5.cell? ⟨w.heap.size+1+1,0,none⟩=some (.bool false):=kr.cell 0;have d1:w5.cell? ⟨w.heap.size+1+1,1,none⟩=some (.slice none 0 0):=kr.cell 1;have f0:w5.frozen? ⟨w.heap.size+1+1,0,none⟩=false:=kr.frozen 0;have f1:w5.frozen? ⟨w.heap.size+1+1,1,none⟩=false:=kr.frozen 1;have z0:w.heap.size+1+1<w5.heap.size:=kr.lt;have HKR:=Lib.hid kr;have HBW:=Lib.hid ((HB1.out.trans (hbx.mono HB1.out.size)).trans (hb5.mono (Nat.le_trans HB1.out.size hbx.size)));have HN5:=Lib.hid ((H3.out.old hbx).old hb5);clear kq kr hbx hb5 j0 HX2 HI1;go_wp2_with fail
 exact YO Tryz.results128 rfl rfl ((HKR.out.set_ 0 _).set_ 1 _) Tryz.underlying25 rfl Tryz.sizeInt ⟨A1,c1,rfl,H1.out,HN5.out.store2 HKR.out (by decide) _ _,(HBW.out.setCell (Nat.le_add_right _ 2) _).setCell (Nat.le_add_right _ 2) _⟩
