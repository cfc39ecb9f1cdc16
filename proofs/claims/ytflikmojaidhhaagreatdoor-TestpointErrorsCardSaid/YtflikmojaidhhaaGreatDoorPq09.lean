import Derived.StillTailTactics
import Derived.WalkMore
import Derived.Test.YtflikmojaidhhaaGreatDoorPq08
import Derived.Test.YtflikmojaidhhaaGreatDoorPqA
namespace Go.Proofs.YtflikmojaidhhaaGreatDoor
open Go.RowKit
def YD(x y:Nat)(w:World)(e:Ending)(w':World):Prop:=
 ∃Aq cq Ar cr,e= .returned (.tuple #[.slice Aq (dig (x/y)).length cq,.slice Ar (dig (x%y)).length cr])/\(dig (x/y)).length<=cq/\(dig (x%y)).length<=cr/\qL w' Aq (dig (x/y))/\qL w' Ar (dig (x%y))/\Below w.heap.size w w'
theorem Yo{y x:Nat}(h:y<=x):(dig y).length<=(dig x).length:=qK (by
 have:=jr (qA x);rw[qB]at this;omega)
theorem Wr.of_drawn{g:Nat}{w w':World}(h:qt w w'):Wr g w w':=by obtain⟨n,rfl⟩:=h;exact⟨rfl,rfl,rfl,Gr _,fun _ _ _=>rfl⟩
theorem Wr.cell_{g:Nat}{w w':World}(h:Wr g w w'){b o:Nat}{u:Value}(hb:b<w.heap.size)(hn:b≠g)(hc:w.cell? ⟨b,o,none⟩=some u):w'.cell? ⟨b,o,none⟩=some u:=by
 have:=h.block b hb (fun e=>hn (by injection e));rw[<-hc];unfold World.cell?;simp only[this]
theorem qf.wr{g k:Nat}{w w':World}{t:TypeId}{cs:Array Value}(h:qf w k t cs)(hw:Wr g w w')(hn:k≠g):qf w' k t cs:=(hw.block k h.lt (fun e=>hn (by injection e))).trans h
theorem Y9(l:List Nat)(i x:Nat)(h:i<l.length):(qp (l.set i x)).toArray[i]? =some (.int .u32 (x:Int)):=by
 rw[jC _ i (by rw[List.length_set];exact h),List.getD_eq_getElem?_getD,List.getElem?_set_self h];rfl
theorem qeJ{zv dv pv V:Nat}(he:zv+dv=pv)(h:pv-dv<V):zv<V:=by omega
theorem qdt{u q v zs:List Nat}{n i A d:Nat}(h:∀(d:Nat)(zs:List Nat),d<4294967296->jg zs->zs.length=n+1->val zs+d*val v=val (jK u n i)->val zs<val v->Yu (u.take i++(zs++u.drop (i+n+1))) (q.set i d) n i A (val v))(hd:d<4294967296)(hz:jg zs)(Ur:zs.length=n+1)(he:val zs+d*val v=val (jK u n i))(Xi:val zs<val v):
 Yu (u.take i++(zs++u.drop (i+(n+1)))) (q.set i d) n i A (val v):=h d zs hd hz Ur he Xi
theorem qjL{d V:Nat}(d':Nat)(h:d=d'+1):d*V=d'*V+V:=by rw[h,Nat.add_mul,Nat.one_mul]
theorem qjt{us zs:List Nat}{i n:Nat}(h1:jg us)(h2:jg zs):jg (us.take i++(zs++us.drop (i+n))):=fun d hd=>by
 rcases List.mem_append.1 hd with hd|hd
 ·exact h1 d (List.mem_of_mem_take hd)
 ·rcases List.mem_append.1 hd with hd|hd
  ·exact h2 d hd
  ·exact h1 d (List.mem_of_mem_drop hd)
set_option maxHeartbeats 4000000
set_option maxRecDepth 100000
theorem qaz(A A':Oa)(c c' B:Nat)(a b:List Nat)(w:World)(hB:B<=w.heap.size)(hc:a.length<=c)(RO:b.length<=c')(la:a.length<=400000)(lb:b.length<=400000)
 (r1:qu w B 1 A a.length (qp a))(r2:qu w B 1 A' b.length (qp b))(g1:jg a)(g2:jg b)(hy:val b≠0):
 Calls Tryz.prog 142 #[.slice A a.length c,.slice A' b.length c'] w (YD (val a) (val b) w):=by
 have UV:=Gh (yw A' c' B b w hB RO (by omega) r2 g2);have MW:=Gh (fun(W:World)(hW:Below w.heap.size w W)=>yw A c B a W (Gl hB hW.size) hc (by omega) (r1.below (hW.mono hB)) g1);have Dg:=Gh (fun(s:Nat)(hs:s<=31)(W:World)(hW:Below w.heap.size w W)=>qeS A c B s a W (Gl hB hW.size) hc (by omega) hs (r1.below (hW.mono hB)) g1);have Le:=Gh (fun(d:Nat)(h0:0<d)(h1:d<4294967296)(W:World)(hW:Below w.heap.size w W)=>qbK A c B a d W (Gl hB hW.size) hc (by omega) h0 h1 (r1.below (hW.mono hB)) g1);have KW:=Gh (fun(W:World)(hW:Below w.heap.size w W)(Ab:Oa)(cb:Nat)(XP:(dig (val b)).length<=cb)(hn:qL W Ab (dig (val b)))=>QZ A Ab c cb W.heap.size a (dig (val b)) W hc XP (by omega) (by have:=qw g2;omega) ((r1.below (hW.mono hB)).more (Gl hB hW.size)) hn.reads g1 (qA _));have Be:=Gh (show(dig (val a)).length<=400000 by have:=qw g1;omega);have WP:=Gh (show(dig (val b)).length<=400000 by have:=qw g2;omega);clear r1 r2 g1 g2 lb;generalize val b=y at*;generalize val a=x at*;rw[qB]at KW;unfold yg at UV MW Dg;unfold qih at Le;go_enter Tryz.func142,Tryz.ntmps142
 go_wp2_with fail
 go_step3
 go_wp2_with fail
 refine UV.out.mono ?_;rintro e w1 ⟨Ab,cb,rfl,XP,Vy,Xp⟩;have Vv:=Gh (KW w1 Xp Ab cb XP Vy);clear UV KW;go_wp2_with fail
 refine Vv.out.mono ?_;rintro e w2 ⟨rfl,Us⟩;have Xf:=Xp.trans ((Us.below w1.heap.size).mono Xp.size);have Bk:=Vy.old (Us.below w1.heap.size);clear Xp Vy Us Vv;by_cases Xi:x<y
 ·have AW:zp x y=-1:=by unfold zp;rw[if_pos Xi]
  rw[AW];have Ts:=Gh (MW w2 Xf);have HQ:=Gh (Nat.div_eq_of_lt Xi);have HR:=Gh (Nat.mod_eq_of_lt Xi);clear AW Xi;go_wp2_with fail
  refine Ts.out.mono ?_;rintro e w3 ⟨Ar,cr,rfl,UM,Dv,Xz⟩;have Um:=Gh (Gt Xf Xz);clear Xz Xf;go_wp2_with fail
  rw[Exit.noGoto_ret];go_ret2
  refine⟨none,0,Ar,cr,?_,?_,?_,?_,?_,Um⟩
  ·rw[HQ,HR,qH];rfl
  ·rw[HQ,qH];exact Gr _
  ·rw[HR.out];exact UM
  ·rw[HQ.out];exact .inl qH
  ·rw[HR.out];exact Dv
 ·have AW:¬(zp x y<0):=by
   unfold zp;rw[if_neg Xi]
   split<;>decide
  generalize zp x y=cxy at*;by_cases XO:(dig y).length=1
  ·obtain⟨y1,y2,y3⟩:=qd8 XO;obtain⟨b1,o1,rfl,q1,c1⟩:=jA Bk.reads (k:=0) (by omega);rw[y1,Nat.add_zero]at c1;have Sj:=Gh (Le y y2 y3 w2 Xf);have Wp:=Gh (Nat.lt_trans (Nat.mod_lt x y2) y3);rw[XO]at*;have Uw:(0:Int)<(1:Int):=by decide
   have TX:=Gh (fun W=>qea (x%y) (by have:=Wp.out;omega) W);obtain⟨rm,CT⟩:∃rm,rm=x%y:=⟨_,rfl⟩;rw[<-CT]at Sj Wp TX;have HR:=Gh CT;clear CT;have VA:=Xf.size;clear y1 XO Xi MW Dg Le XP;go_wp2_with fail
   refine Sj.out.mono ?_;rintro e w3 ⟨Aq,cq,rfl,FJ,Fm,Xz⟩;have Um:=Gh (Gt Xf Xz);clear Xz;have Vf:=JG (n:=rm) (by have:=Wp.out;omega);go_wp2_with fail
   refine(TX w3).mono ?_;rintro e w4 ⟨Ar,cr,rfl,UM,Dv,XB⟩;go_wp2_with fail
   rw[Exit.noGoto_ret];go_ret2
   have hr:=HR.out;exact⟨Aq,cq,Ar,cr,by rw[<-hr];rfl,FJ,by rw[<-hr];exact UM,Fm.old XB,by rw[<-hr];exact Dv,Gt Um XB⟩
  ·obtain⟨m,hm⟩:∃m,(dig y).length=m+2:=⟨(dig y).length-2,by
    have:=@jL y;omega⟩
   have ht0:=qfL hm;have Ol:=jV (qA y) (m+1);have hyx:y<=x:=by omega
   obtain⟨s,hs,hz,Ti,R3⟩:=qlk ht0 Ol;obtain⟨BE,Mj⟩:=qjy hm Ti R3;obtain⟨Fj,CQ⟩:=qjj x s hs;obtain⟨b1,o1,rfl,q1,c1⟩:=jA Bk.reads (k:=m+1) (by omega);obtain⟨n,hn⟩:∃n,n=m+2:=⟨_,rfl⟩;obtain⟨n1,SK⟩:∃n1,n1=m+1:=⟨_,rfl⟩;have Mj:(dig (y*2^s)).length=n:=by rw[hn];exact Mj
   rw[<-hn]at hm;have Kv:=Gh (qeS (some ⟨b1,o1,none⟩) cb w2.heap.size s (dig y) w2 (Gr _) XP (by have:=WP.out;omega) hs Bk.reads (qA y));unfold yg at Kv;rw[qB,hm,Mj]at Kv;have B6:=Gh (fun W=>qip _ s W Ol hz);have NU:=Gh (Dg s hs);have MI:=Gh BE;have CF:=Gh Fj;have CE:=Gh CQ;have Td:=Gh Mj;have Ut:=Gh (qf5 x y s);have Im:=Gh (qgy x y s);have CJ:=Gh (show n<=(dig x).length by rw[<-hm];exact Yo hyx);have Vy:n<=400000:=by have:=WP.out;omega
   have Cp:(s:Int)<=31:=by omega
   have HS:=Gh hs;rw[<-SK]at Ol c1 B6;generalize (dig y).getD n1 0=t at*;have Dy:(n:Int)-1=(n1:Int):=by omega
   have i1:(n1:Int)<(n:Int):=by omega
   have hno:((n:Int)==1)=false:=by
    have:¬(n:Int)=1:=by omega
    simp[this]
   have HN:=Gh hn;have UO:=Gh SK;have VA:=Xf.size;rw[hm];clear Fj CQ BE Mj Ti R3 hz ht0 hyx Xi Dg Le XO XP hs Bk hm WP hn SK Ol RO hB hc hy;obtain⟨V,hV⟩:∃V,V=y*2^s:=⟨_,rfl⟩;obtain⟨X,hX⟩:∃X,X=x*2^s:=⟨_,rfl⟩;rw[<-hV]at Kv MI Td Ut Im;rw[<-hX]at NU CF CE Ut Im;clear hV hX;obtain⟨l,hl⟩:∃l,l=(dig x).length:=⟨_,rfl⟩;rw[<-hl]at CF CE CJ Be MW;have RM:l<=400000:=Be.out;clear hl Be;go_wp2_with fail
   refine(B6 _).mono ?_;rintro e w3 ⟨rfl,rfl⟩;clear B6 c1 Dy i1;go_wp2_with fail
   refine Kv.out.mono ?_;rintro e wv ⟨Av,cv,rfl,IZ,hnv,Xz⟩;have Wj:=Xf.trans (Xz.mono VA);clear Kv Xz Xf VA q1;have Ts:=Gh (MW wv Wj);go_wp2_with fail
   refine Ts.out.mono ?_;rintro e w4 ⟨An,cn,rfl,TW,hna,XB⟩;have OV:=Gt Wj XB;have Pu:=hnv.old XB;clear MW Ts Wj XB hnv TW hna IZ;have Uz:∀(W:World),(Instr.makeSlice 23 (.int .i64 ((l:Int)+1)) (.int .i64 ((l:Int)+1))).run Tryz.prog W= .ok (.slice (some ⟨W.heap.size,0,none⟩) (l+1) (l+1)) (W.alloc (.cells (qp (List.replicate (l+1) 0)).toArray 123)):=fun(W:World)=>Tryz.make_u32 (l+1) (by omega) W;obtain⟨k,hk⟩:∃k,k+n=l+1:=⟨l+1-n,by have:=CJ.out;omega⟩;have FG:(l:Int)+1-(n:Int)=(k:Int):=by omega
   have NI:∀(W:World),(Instr.makeSlice 23 (.int .i64 (k:Int)) (.int .i64 (k:Int))).run Tryz.prog W= .ok (.slice (some ⟨W.heap.size,0,none⟩) k k) (W.alloc (.cells (qp (List.replicate k 0)).toArray 123)):=fun(W:World)=>Tryz.make_u32 k (by omega) W;have VS:k<=400001:=by omega
   have XZ:=Gh (OV.alloc OV.size (.cells (qp (List.replicate (l+1) 0)).toArray 123));have Ev:=Gh (Gb w4 (.cells (qp (List.replicate (l+1) 0)).toArray 123));have EV:=Gh (qf.new w4 123 (qp (List.replicate (l+1) 0)).toArray);have FL:=Gh (NU _ XZ);have Tt:=Gh hk;have HNV:=Gh Pu;have Xh:=Gh OV;clear hk OV Pu XZ NU;go_wp2_with fail
   refine FL.out.mono ?_;rintro e w6 ⟨As,cs,rfl,XE,hns,XY⟩;have Fu:=Gh (Gt Ev XY);have RQ:=Gh (EV.out.old XY);clear Ev EV FL XY Uz;have XM:(qp (dig X)).length=Nat.min (dig X).length (l+1):=by
    have:=CF.out;exact(show(qp (dig X)).length=(dig X).length by simp[qp]).trans (Nat.min_eq_left this).symm
   have SB:0<(qp (dig X)).length->∃ad,As=some ad/\∀j v,(qp (dig X))[j]? =some v->w6.cell? (ad.add j)=some v:=fun hp=>by
    obtain⟨b,o,e,_,XM⟩:=hns.reads.2 (by simpa[qp]using hp);refine⟨⟨b,o,none⟩,e,fun j v hv=>?_⟩;have h1:=XM j v hv;have e3:(⟨b,o,none⟩:Addr).add j=⟨b,o+j,none⟩:=by simp[Addr.add]
    rw[e3];exact h1
   have UZ:0+(qp (dig X)).length<=(qp (List.replicate (l+1) 0)).length:=by
    have:=CF.out;simp[qp];omega
   have Ud:=Gh XM;have Tz:=Gh SB;have TA:=Gh UZ;clear XM SB UZ XE;go_wp2_with (first|(guard_target =~ wpList _ _ _ (Oper.mk (some 60) _ _ _ _ _::_) _ _;refine wpList_copy_splice (o:=⟨some 60,_,_,_,_,_⟩) rfl (.tmp 56) (.tmp 59) 23 23 rfl 123 Tryz.underlying23 Tryz.size_u32 _ _ (l+1) (l+1) (dig X).length cs rfl rfl w4.heap.size 0 _ 123 RQ (qp (dig X)) Ud (fun hp=>⟨rfl,Tz hp⟩) TA (Qe _) w4.heap.size w6 (Below.refl _ _) (Gr _) ?_;intro w7 hg7 Ft))
   have RF:=Gh (show qf w7 w4.heap.size 123 (qp (dig X++List.replicate (l+1-(dig X).length) 0)).toArray by
    have:=hg7.out;rwa[qd1]at this)
   have C1:=Gh (Fu.out.trans Ft);clear RQ Fu hg7 Ft Ud Tz TA hns NI;have Ir:=Gh (show Yu (dig X++List.replicate (l+1-(dig X).length) 0) (List.replicate k 0) n k X (val (dig V))by
    have h1:=CF.out;have h2:=CE.out;have h3:=MI.out;have h4:=Tt.out;have h5:=HN.out;subst h5;have:=Yu.start (u:=dig X++List.replicate (l+1-(dig X).length) 0) (n:=m+2) (t:=k) (V:=V) qjq (by rw[List.length_append,List.length_replicate];omega) (by omega) (by rw[qfv,show k+(m+2)-1=l by omega];exact h2) h3;rwa[qfv,<-qB V]at this)
   have SS:=Gh (show(dig X++List.replicate (l+1-(dig X).length) 0).length=l+1 by
    have h1:=CF.out;rw[List.length_append,List.length_replicate];omega)
   generalize dig X++List.replicate (l+1-(dig X).length) 0=us0 at*;have BW:=Gh (RF.out.alloc (.cells (qp (List.replicate k 0)).toArray 123));have Ky:=Gh (qf.new w7 123 (qp (List.replicate k 0)).toArray);have Kh:=Gh (C1.out.alloc C1.out.size (.cells (qp (List.replicate k 0)).toArray 123));have SY:=Gh RF.out.lt;have VW:=Gh (fun(W:World)(hW:Below w4.heap.size w4 W)=>show qu W w4.heap.size 1 Av n (qp (dig V))by
    have:=HNV.out.reads.below hW;rwa[Td.out]at this)
   have ET:=Gh (qA V);have OZ:=Gh (show 1<=(dig V).getD n1 0 by
    have h1:=Td.out;have h2:=HN.out;rw[UO.out];exact qfL (by omega))
   obtain⟨bv,ov,hAv,q1,_⟩:=jA (ds:=dig V) (by rw[Td.out];exact VW w4 (Below.refl _ _)) (k:=0) (by rw[Td,HN.out];omega);have MH:=Gh (fun(W:World)(hW:Below w4.heap.size w4 W)(j:Nat)(hj:j<n)=>show W.cell? ⟨bv,ov+j,none⟩=some (.int .u32 (((dig V).getD j 0:Nat):Int))by
    obtain⟨b2,o2,e,_,c2⟩:=jA (ds:=dig V) (by rw[Td.out];exact VW w4 (Below.refl _ _)) (k:=j) (by rw[Td.out];exact hj);rw[hAv]at e
    injection e with e
    injection e with e1 e2
    subst e1;subst e2;exact(hW.cell (p:=⟨bv,ov+j,none⟩) q1).trans c2)
   subst hAv;have Tu:=Gh Xh.out.size;have UX:=Gh q1;clear RF C1 CF CE MI CJ q1 HNV;go_step3
   go_wp2_with fail
   generalize w7.heap.size=gq at*;generalize w7.alloc (.cells (qp (List.replicate k 0)).toArray 123)=w8 at*;generalize w4.heap.size=gu at*;go_loopg [13,14] k (fun gn jv _ wr=>∃(j:Nat)(us qs:List Nat),j<=k/\gn=j/\jv= .int .i64 ((j:Int)-1)/\Yu us qs n j X (val (dig V))/\us.length=l+1/\qs.length=k/\qf wr gu 123 (qp us).toArray/\qf wr gq 123 (qp qs).toArray/\Below gu w4 wr)
   case atStart=>exact⟨k,us0,_,Gr _,rfl,by go_num,Ir,SS,by simp,BW,Ky,Kh⟩
   case round=>
    clear BW Ky Kh SS Ir;obtain⟨j,us,qs,hj,XI,rfl,DB,SG,Cr,U8,AH,Xe⟩:=hrel;have HG:=Gh XI;clear XI
    cases j with
    |zero=>
     obtain⟨hq,hr⟩:=DB.done;have Dy:=Tt.out;have HQ:=Gh hq;have HR:=Gh hr;have r1:=AH.reads k (by omega);have r2:=U8.reads (l+1) (by omega);rw[List.take_of_length_le (by omega)]at r1;rw[List.take_of_length_le (by omega)]at r2;have B1:=Gh (yw (some ⟨gq,0,none⟩) k wr.heap.size qs wr (Gr _) (by omega) (by omega) (by rw[Cr];exact r1) DB.dq);have WA:=Gh (fun(W:World)(hW:Below wr.heap.size wr W)=>qjh (some ⟨gu,0,none⟩) (l+1) wr.heap.size s us W hW.size (by omega) (by omega) HS (by rw[SG];exact r2.below hW) DB.du);unfold yg at B1 WA;rw[Cr,hq,qB V,Ut.out]at B1;rw[SG,hr,qB V,Im.out]at WA;have Up:=Gh (Xh.out.trans (Xe.mono Tu));clear hq hr r1 r2 DB Cr SG U8 AH Xe Dy;go_wp2_with fail
     refine B1.out.mono ?_;rintro e wn ⟨Aq,cq,rfl,FJ,Fm,Fs⟩;have HSH2:=Gh (WA wn Fs);have Is:=Gh Fs;clear Fs;go_wp2_with fail
     refine HSH2.out.mono ?_;rintro e wm ⟨Ar,cr,rfl,UM,Dv,St⟩;go_wp2_with fail
     rw[Exit.noGoto_ret];go_ret2
     exact⟨Aq,cq,Ar,cr,rfl,FJ,UM,Fm.old St,Dv,(Gt Up Is).trans (St.mono (Gl Up.out.size Is.out.size))⟩
    |succ i=>
     have Cu:=HN.out;have DW:=UO.out;obtain⟨p1,p2,p3,p4,p5⟩:=DB.part ET Td (by omega);have Pf:us.getD (i+n) 0<=(dig V).getD n1 0:=by
      have:=qfS (m:=m) ET (by rw[p1,Cu]) (by rw[Td,Cu]) p5;rw[<-Cu,<-DW,Jp (by omega)]at this;exact this
     have PL:=qgD (u:=gU (jK us n i) m) (w:=gV (dig V) m) (by
      have:=OZ.out;rw[DW]at this;unfold gV;omega)
     have Ck:=qdY (m:=m) p2 ET (by rw[p1,Cu]) (by rw[Td,Cu]) p5 (by have:=OZ.out;rwa[DW]at this) PL;have XF:min 4294967295 (gU (jK us n i) m/gV (dig V) m)=qax (us.getD (i+n) 0) (us.getD (i+n1) 0) (us.getD (i+m) 0) ((dig V).getD n1 0) ((dig V).getD m 0):=by
      unfold qax gU gV;rw[Jp (by omega),Jp (by omega),Jp (by omega),<-Cu,<-DW]
     rw[XF]at Ck;have XH:=Gh (fun(d:Nat)(zs:List Nat)(hd:d<4294967296)(hz:jg zs)(Ur:zs.length=n+1) he Xi=>DB.step (zs:=zs) (d:=d) ET Td (by omega) hd hz Ur he Xi);have hu2:=QJ DB.du (i+n);have Dr:=QJ DB.du (i+n1);have hu0:=QJ DB.du (i+m);have BE:=QJ ET n1;have Mk:=QJ ET m;have C2:=Gh DB.du;have Dy:=Tt.out;have c2:wr.cell? ⟨gu,i+n,none⟩=some (.int .u32 ((us.getD (i+n) 0:Nat):Int)):=(U8.cell _).trans (jC _ _ (by omega));have c1:wr.cell? ⟨gu,i+n1,none⟩=some (.int .u32 ((us.getD (i+n1) 0:Nat):Int)):=(U8.cell _).trans (jC _ _ (by omega));have c0:wr.cell? ⟨gu,i+m,none⟩=some (.int .u32 ((us.getD (i+m) 0:Nat):Int)):=(U8.cell _).trans (jC _ _ (by omega));have d1:=MH.out wr Xe n1 (by omega);have d0:=MH.out wr Xe m (by omega);have cq:wr.cell? ⟨gq,i,none⟩=some (.int .u32 ((qs.getD i 0:Nat):Int)):=(AH.cell _).trans (jC _ _ (by omega));have HES:=Gh (fun W=>qce _ _ _ _ _ W Dr hu0 BE Mk Pf (by have:=OZ.out;omega));have Uo:=qh9 (us.getD (i+n) 0) (us.getD (i+n1) 0) (us.getD (i+m) 0) ((dig V).getD n1 0) ((dig V).getD m 0);generalize qax (us.getD (i+n) 0) (us.getD (i+n1) 0) (us.getD (i+m) 0) ((dig V).getD n1 0) ((dig V).getD m 0)=d at*;generalize us.getD (i+n) 0=u2 at*;generalize us.getD (i+n1) 0=u1 at*;generalize us.getD (i+m) 0=u0 at*;generalize (dig V).getD n1 0=v1 at*;generalize (dig V).getD m 0=v0 at*;generalize qs.getD i 0=q0 at*;have VL:=Gh Ck;have Tr:=Gh p1;have FH:gu<gq:=SY.out;have ON:bv<gu:=UX.out;have lu:=U8.lt;have lq:=AH.lt;have I7:Wr gq wr wr.drew:=Wr.of_drawn (qt.drew _);have KF:=Gh (fun(W:World)(hW:Wr gq wr W)=>show Wr gq wr W/\W.cell? ⟨gu,i+n,none⟩=some (.int .u32 (u2:Int))/\W.cell? ⟨gu,i+n1,none⟩=some (.int .u32 (u1:Int))/\W.cell? ⟨gu,i+m,none⟩=some (.int .u32 (u0:Int))/\W.cell? ⟨bv,ov+n1,none⟩=some (.int .u32 (v1:Int))/\W.cell? ⟨bv,ov+m,none⟩=some (.int .u32 (v0:Int))from
      ⟨hW,hW.cell_ lu (by omega) c2,hW.cell_ lu (by omega) c1,hW.cell_ lu (by omega) c0,hW.cell_ (by omega) (by omega) d1,hW.cell_ (by omega) (by omega) d0⟩)
     have KQ:=Gh (fun(W:World)(hW:qt wr.drew W)=>show Wr gq wr W/\qf W gq 123 (qp qs).toArray/\W.cell? ⟨gq,i,none⟩=some (.int .u32 (q0:Int))/\W.frozen? ⟨gq,i,none⟩=false/\gq<W.heap.size from by
      have h1:qf W gq 123 (qp qs).toArray:=qf.drawn (w:=wr.drew) AH hW;exact⟨I7.trans (Wr.of_drawn hW),h1,(h1.cell _).trans ((AH.cell _).symm.trans cq),h1.frozen _,h1.lt⟩)
     have i1:((i+1:Nat):Int)-1=(i:Int):=by omega
     have i0:(0:Int)<=(i:Int):=by omega
     have i2:(i:Int)+(n:Int)+1<=(l:Int)+1:=by omega
     have i3:(i:Int)<(k:Int):=by omega
     have HI:=Gh (show i<k by omega);obtain⟨N,hN⟩:∃N,N=n+1:=⟨_,rfl⟩;have e1:(n:Int)-1=(n1:Int):=by omega
     have e2:(n:Int)-2=(m:Int):=by omega
     have j1:(n:Int)<(N:Int):=by omega
     have j2:(n1:Int)<(N:Int):=by omega
     have j3:(m:Int)<(N:Int):=by omega
     have j4:(n1:Int)<(n:Int):=by omega
     have j5:(m:Int)<(n:Int):=by omega
     have b3:-9223372036854775808<=(n:Int)-1/\(n:Int)-1<=9223372036854775807:=by omega
     have b4:-9223372036854775808<=(n:Int)-2/\(n:Int)-2<=9223372036854775807:=by omega
     have b5:-9223372036854775808<=(n1:Int)/\(n1:Int)<=9223372036854775807:=by omega
     have b6:-9223372036854775808<=(m:Int)/\(m:Int)<=9223372036854775807:=by omega
     have HE:=Gh (And.intro b3 (And.intro b4 (And.intro b5 b6)));clear b3 b4 b5 b6;have Kl:=Gh U8;have Cg:=Gh Xe;have DN:=Gh hj;have Fe:=Gh SG;have C7:=Gh Cr;clear PL XF Ck Pf p1 p2 p3 p4 p5 DB hu2 Dr hu0 BE Mk c2 c1 c0 d1 d0 cq Cu DW Dy U8 AH Xe lu hj SG Cr FH ON;have M4:=Gh lq;clear lq;rw[i1];clear i1;go_wp2_with fail
     rw[show i+n+1-i=N by omega];have Ef:=Gh hN;clear hN;obtain⟨b3,b4,b5,b6⟩:=HE.out;have e3:IntKind.i64.wrap ((n:Int)-1)=(n:Int)-1:=IntWalk.i64_in _ b3;have e4:IntKind.i64.wrap ((n:Int)-2)=(n:Int)-2:=IntWalk.i64_in _ b4;have e5:wrap64 (n1:Int)=(n1:Int):=IntWalk.wrap64_in _ b5;have e6:wrap64 (m:Int)=(m:Int):=IntWalk.wrap64_in _ b6;have e7:IntKind.i64.wrap (n1:Int)=(n1:Int):=IntWalk.i64_in _ b5;have e8:IntKind.i64.wrap (m:Int)=(m:Int):=IntWalk.i64_in _ b6;clear b3 b4 b5 b6 HE;have Oc:=Gh (And.intro VL (And.intro Tr (And.intro XH (And.intro C2 (And.intro Kl (And.intro Cg (And.intro DN (And.intro Fe (And.intro C7 (And.intro Ef (And.intro ET (And.intro Td (And.intro VW (And.intro SY (And.intro HI (And.intro HN (And.intro UO (And.intro HG (And.intro Tt (And.intro UX M4))))))))))))))))))));clear M4 VL Tr XH C2 Kl Cg DN Fe C7 Ef MH VW Im Ut Td HN UO Tt Xh Tu UX SY ET HG HS OZ HI;go_region_held3 (fun w'=>Wr gq wr w'/\w'.cell? ⟨gu,i+n,none⟩=some (.int .u32 (u2:Int))/\w'.cell? ⟨gu,i+n1,none⟩=some (.int .u32 (u1:Int))/\w'.cell? ⟨gu,i+m,none⟩=some (.int .u32 (u0:Int))/\w'.cell? ⟨bv,ov+n1,none⟩=some (.int .u32 (v1:Int))/\w'.cell? ⟨bv,ov+m,none⟩=some (.int .u32 (v0:Int)))
      ((refine KF _ ?_;first|(with_reducible exact I7)|(with_reducible exact Xp)|(with_reducible exact Xf)))
      ((go_at_call 169;refine(HES _).mono ?_;rintro e w9 ⟨rfl,Us⟩;obtain⟨Xp,hq9,cq9,fq9,zq9⟩:=KQ.out _ Us;have Xf:=Xp.trans (Wr.set_ (g:=gq) w9 i (.int .u32 (d:Int)))))
     obtain⟨VL,Tr,XH,C2,Kl,Cg,DN,Fe,C7,Ef,ET,Td,VW,SY,HI,HN,UO,HG,Tt,UX,M4⟩:=Oc.out;have DT:qf (w9.setCell ⟨gq,i,none⟩ (.int .u32 (d:Int))) gq 123 (qp (qs.set i d)).toArray:=by
      rw[<-jw];exact hq9.set_ i _
     have Pc:qf (w9.setCell ⟨gq,i,none⟩ (.int .u32 (d:Int))) gu 123 (qp us).toArray:=Kl.out.wr Xf (by have:=SY.out;omega);have NC:Below gu w4 (w9.setCell ⟨gq,i,none⟩ (.int .u32 (d:Int))):=Cg.out.trans ((Xf.below M4).mono (by have:=SY.out;omega));rename_i hH;clear hH Xp Xf hq9 cq9 fq9 zq9 Us KF KQ I7 HES Oc e3 e4 e5 e6 e7 e8 Kl Cg;generalize w9.setCell ⟨gq,i,none⟩ (.int .u32 (d:Int))=wa at*;have cq:wa.cell? ⟨gq,i,none⟩=some (.int .u32 (d:Int)):=(DT.cell i).trans (Y9 qs i d (by rw[C7.out];exact HI));have AO:i+n+1<=us.length:=by have:=Fe.out;have:=Tt.out;have:=HI.out;omega
     have IU:us.length<=900000:=by have:=Fe.out;omega
     have Ui:=Gh (qef (some ⟨bv,ov,none⟩) cv (l+1-i) gu gu i n d us (dig V) wa (Gr _) Pc IU AO C2 (VW wa NC) Td ET Uo);have M7:=Gh AO;have HL9:=Gh IU;have PS:=Gh NC;have PX:=Gh DT;unfold qfz at Ui;rw[<-Ef.out]at Ui;have fq:=DT.frozen i;have zq:=DT.lt;clear AO IU NC DT Pc;rcases VL.out with⟨Ti,R3⟩|⟨Ti,R3,Mp,IQ⟩
     ·have HA:=Gh Ti;have Xw:=Gh R3;clear Ti R3;go_wp2_with fail
      refine Ui.out.mono ?_;rintro e wb ⟨zs,b,hb,rfl,Ur,Me,VN,U8,Vf⟩;have Lk:val zs<4294967296^N:=by rw[<-Ur];exact jr Me
      obtain⟨Xb,he⟩:=qkj Lk hb VN HA.out;have DD:(b != 0)=false:=by rw[Xb];rfl
      have Ll:val zs<val (dig V):=qeJ he Xw.out;rw[DD];have Vu:=Gh (qdt XH Uo Me (Ur.trans Ef) he Ll);rw[Ef.out]at U8;have Nh:=Gh U8;have Ed:=Gh (PX.out.wr Vf (by have:=SY.out;omega));have RE:=Gh (PS.out.trans (Vf.below (Nat.lt_trans SY zq)));have CI:=Gh (Yr (us:=us) (zs:=zs) (j:=i) (Ur.trans Ef) M7);clear Lk Xb he DD Ll U8 Vf VN hb Ur Me;go_wp2_with fail
      go_roundg i
      case rel=>exact⟨i,_,qs.set i d,Nat.le_of_lt HI,rfl,rfl,Vu,CI.out.trans Fe,by rw[List.length_set];exact C7,Nh,Ed,RE⟩
      case measure=>have:=HG.out;omega
     ·obtain⟨d',VZ⟩:∃d',d=d'+1:=⟨d-1,by omega⟩;rw[show d-1=d' by omega]at Mp IQ;have HA:=Gh Ti;have Xw:=Gh Mp;have Um:=Gh IQ;have X7:(d:Int)-1=(d':Int):=by omega
      have hdl':d'<4294967296:=by omega
      have HD:=Gh VZ;clear Ti R3 Mp IQ VZ;go_wp2_with fail
      refine Ui.out.mono ?_;rintro e wb ⟨zs,b,hb,rfl,Ur,Me,VN,U8,Vf⟩;have Xp:=qjA hb VN HA.out;have DD:(b != 0)=true:=by rw[Xp];rfl
      rw[DD];rw[Xp,Nat.mul_one,qjL d' HD.out]at VN;have HSUM:=Gh VN;have LE:=PX.out.wr Vf (Nat.ne_of_gt SY);have cqb:wb.cell? ⟨gq,i,none⟩=some (.int .u32 (d:Int)):=(LE.cell i).trans (Y9 qs i d (by rw[C7.out];exact HI));have fqb:=LE.frozen i;have zqb:=LE.lt;have Ed:Hid (qf (wb.setCell ⟨gq,i,none⟩ (.int .u32 (d':Int))) gq 123 (qp (qs.set i d')).toArray):=Gh (by
       have:=LE.set_ i (.int .u32 (d':Int));rwa[jw,List.set_set]at this)
      have EC:=Wr.set_ (g:=gq) wb i (.int .u32 (d':Int));rw[Ef.out]at U8;have Pb:qf (wb.setCell ⟨gq,i,none⟩ (.int .u32 (d':Int))) gu 123 (qp (us.take i++(zs++us.drop (i+(n+1))))).toArray:=U8.wr EC (Nat.ne_of_lt SY);have Iw:Below gu w4 (wb.setCell ⟨gq,i,none⟩ (.int .u32 (d':Int))):=(PS.out.trans (Vf.below (Nat.lt_trans SY zq))).trans ((EC.below zqb).mono (Nat.le_of_lt SY));have Bj:=Ur.trans Ef.out;have Fn:=Yr (us:=us) (zs:=zs) (j:=i) Bj M7.out;have Pa:=Gh (qcN (some ⟨bv,ov,none⟩) cv (l+1-i) gu gu i n _ (dig V) _ (Gr _) Pb (by rw[Fn];exact HL9) (by rw[Fn];exact M7) (qjt C2 Me) (VW _ Iw) Td ET);have HZL:=Gh Bj;have CI:=Gh Fn;have RE:=Gh Iw;unfold qfr at Pa;rw[qiw Bj (Gl (Nat.le_of_lt (Gm (Nat.lt_succ_of_le (Nat.le_add_right i n)) M7)) (Gr _)),<-Ef.out]at Pa;clear Xp DD LE EC U8 Pb Iw Bj Fn Vf VN hb Ur Me cq fq zq;go_wp2_with fail
      refine Pa.out.mono ?_;rintro e wd ⟨zt,b2,Xf,⟨u,rfl⟩,S6,ID,Aj,ND,NA⟩;have Lk:val zt<4294967296^N:=by rw[<-S6];exact jr ID
      obtain⟨he,Ll⟩:=qi2 Xf Lk HSUM Aj Xw Um.out;have Vu:=Gh (qdt XH hdl' ID (S6.trans Ef) he Ll);rw[Ef,qjd HZL (Nat.le_of_lt (Gm (Nat.lt_succ_of_le (Nat.le_add_right i n)) M7))]at ND;have Rj:=Gh ND;have Kz:=Gh (Ed.out.wr NA (Nat.ne_of_gt SY));have ES:=Gh (RE.out.trans (NA.below (Nat.lt_trans SY Ed.out.lt)));have HMT:=Gh (Yr (us:=us) (zs:=zt) (j:=i) (S6.trans Ef) M7);clear Lk he Ll ND NA Aj Xf S6 ID;go_wp2_with fail
      go_roundg i
      case rel=>exact⟨i,_,qs.set i d',Nat.le_of_lt HI,rfl,rfl,Vu,HMT.out.trans Fe,by rw[List.length_set];exact C7,Rj,Kz,ES⟩
      case measure=>have:=HG.out;omega
def qk0(x:Nat)(w:World)(e:Ending)(w':World):Prop:=
 ((x<18446744073709551616/\e= .returned (.tuple #[.int .u64 (x:Int),.bool true]))∨(18446744073709551616<=x/\e= .returned (.tuple #[.int .u64 0,.bool false])))/\qt w w'
set_option maxHeartbeats 1000000
theorem qeE(A:Oa)(c B:Nat)(ds:List Nat)(w:World)(hc:ds.length<=c)(hm:ds.length<=900000)(hr:qu w B 1 A ds.length (qp ds))(hd:jg ds):
 Calls Tryz.prog 143 #[.slice A ds.length c] w (qk0 (val ds) w):=by
 have h1:=ji A c B ds w hc (by omega) hr hd;have r1:=jF hr hd;have g1:=qA (val ds);have t1:=ZZ (val ds);have v1:=qB (val ds);have l1:=qw hd;generalize val ds=x at*;generalize dig x=a at*;have H1:=Gh h1;clear h1 hr hd;subst v1
 match a,g1,t1,r1,H1,l1 with
 |[],g1,t1,r1,H1,l1=>
  clear g1 t1 r1;go_enter Tryz.func143,Tryz.ntmps143
  go_wp2_with fail
  refine(H1).mono ?_;rintro e w1 ⟨rfl,rfl⟩;go_wp2_with fail
  go_ret2
  exact⟨.inl ⟨by simp[val],rfl⟩,qt.refl _⟩
 |[d0],g1,t1,r1,H1,l1=>
  obtain⟨b1,o1,rfl,q1,c1⟩:=jA r1 (k:=0) (by simp);have h0:d0<4294967296:=g1 d0 (by simp);have HV:=Gh (show val [d0]=d0 by simp[val]);simp only[List.getD_cons_zero,Nat.add_zero]at c1;clear g1 t1 r1;go_enter Tryz.func143,Tryz.ntmps143
  go_wp2_with fail
  refine(H1).mono ?_;rintro e w1 ⟨rfl,rfl⟩;go_wp2_with fail
  go_ret2
  exact⟨.inl ⟨by rw[HV.out];omega,by rw[HV.out];rfl⟩,qt.refl _⟩
 |[d0,d1],g1,t1,r1,H1,l1=>
  obtain⟨b1,o1,rfl,q1,c1⟩:=jA r1 (k:=0) (by simp);obtain⟨b2,o2,e2,q2,c2⟩:=jA r1 (k:=1) (by simp)
  injection e2 with e2
  injection e2 with x1 x2
  subst x1;subst x2;have h0:d0<4294967296:=g1 d0 (by simp);have h1:d1<4294967296:=g1 d1 (by simp);have Mm:=qfw d1 d0 h1 h0;have HV:=Gh (show val [d0,d1]=d1*4294967296+d0 by simp[val];omega);have Xi:d1*4294967296+d0<18446744073709551616:=by omega
  simp only[List.getD_cons_zero,List.getD_cons_succ,Nat.add_zero]at c1 c2;generalize d1*4294967296+d0=y at*;clear g1 t1 r1;go_enter Tryz.func143,Tryz.ntmps143
  go_wp2_with fail
  refine(H1).mono ?_;rintro e w1 ⟨rfl,rfl⟩;go_wp2_with fail
  go_quiet (fail)
  go_wp2_with fail
  go_ret2
  exact⟨.inl ⟨by rw[HV.out];omega,by rw[HV.out];rfl⟩,qt.drewN _ _⟩
 |d0::d1::d2::l,g1,t1,r1,H1,l1=>
  have HV:=Gh (show 18446744073709551616<=val (d0::d1::d2::l)by
   have h2:val (d2::l)≠0:=JT (fun hn=>by have:=t1 (by simp);simpa using this) (by simp);simp only[val]at*;omega)
  have i0:((d0::d1::d2::l).length==0)=false:=rfl;have e0:(((d0::d1::d2::l).length:Int)==0)=false:=by simp;omega
  have e1:(((d0::d1::d2::l).length:Int)==1)=false:=by simp;omega
  have e2:(((d0::d1::d2::l).length:Int)==2)=false:=by simp;omega
  generalize (d0::d1::d2::l).length=n at*;generalize val (d0::d1::d2::l)=y at*;clear g1 t1 r1 i0;go_enter Tryz.func143,Tryz.ntmps143
  go_wp2_with fail
  refine(H1).mono ?_;rintro e w1 ⟨rfl,rfl⟩;go_wp2_with fail
  go_ret2
  exact⟨.inr ⟨HV,rfl⟩,qt.refl _⟩
theorem qa6(g c:Nat)(A:Oa)(w:World)(hc:(dig g).length<=c)(hm:(dig g).length<=1000000)(h:qL w A (dig g)):
 Calls Tryz.prog 84 #[.bool false,.slice A (dig g).length c] w fun e w'=>∃A c,e= .returned (.agg #[.bool false,.slice A (dig g).length c])/\(dig g).length<=c/\qL w' A (dig g)/\Below w.heap.size w w':=by
 refine(JY false A c w.heap.size (dig g) w (Gr _) hc hm h.reads (qA g)).mono ?_;rintro e w' ⟨A1,c1,h1,h2,h3,h4⟩;have e1:qj false (dig g)=(g:Int):=by unfold qj;rw[if_neg (by simp),qB]
 rw[e1]at h1 h2 h3;have e0:decide ((g:Int)<0)=false:=by simp
 rw[e0,Int.natAbs_natCast]at h1;rw[Int.natAbs_natCast]at h2 h3;exact⟨A1,c1,h1,h2,h3,h4⟩
theorem qjH{g:Nat}(h:g<18446744073709551616):(dig g).length<=2:=qK (by
 have e:(4294967296:Nat)^2=18446744073709551616:=by decide
 rw[e];exact h)
theorem qaR(g c:Nat)(A:Oa)(w:World)(hg:g<18446744073709551616)(hc:(dig g).length<=c)(hm:(dig g).length<=900000)(h:qL w A (dig g)):
 Calls Tryz.prog 143 #[.slice A (dig g).length c] w fun e w'=>e= .returned (.tuple #[.int .u64 (g:Int),.bool true])/\qt w w':=by
 refine(qeE A c w.heap.size (dig g) w hc hm h.reads (qA g)).mono ?_;rintro e w' ⟨h1,h2⟩;rw[qB]at h1;rcases h1 with⟨_,rfl⟩|⟨h3,_⟩
 ·exact⟨rfl,h2⟩
 ·omega
theorem qck{g:Nat}(h:(dig g).length<=2):g<18446744073709551616:=by
 have l:=jr (qA g);rw[qB]at l;have:=Nat.pow_le_pow_right (n:=4294967296) (by decide) h;omega
structure GSt (w0 w:World) (b G X Y:Nat) (xv yv:Value):Prop where
 x:∃Ax cx,xv= .slice Ax (dig X).length cx/\(dig X).length<=cx/\qL w Ax (dig X)
 y:∃Ay cy,yv= .slice Ay (dig Y).length cy/\(dig Y).length<=cy/\qL w Ay (dig Y)
 lx:(dig X).length<=400000
 ly:(dig Y).length<=400000
 g:Nat.gcd X Y=G
 bw:Below w0.heap.size w0 w
 bk:qf w b 25 #[.bool false,.slice none 0 0]
set_option maxHeartbeats 4000000
theorem qi4(ng ng':Bool)(A A':Oa)(c c' B:Nat)(ds es:List Nat)(w:World)(hB:B<=w.heap.size)(h:qx w B A c ds)(h':qx w B A' c' es)(hm:ds.length<=400000)(UE:es.length<=400000):
 Calls Tryz.prog 125 #[.agg #[.bool ng,.slice A ds.length c],.agg #[.bool ng',.slice A' es.length c']] w (qX ((Nat.gcd (val ds) (val es):Nat):Int) w):=by
 have Ts:=Gh (fun(W:World)(hb:Below w.heap.size w W)=>yw A c B ds W (Gl hB hb.size) h.cap (by omega) (h.rd.below (hb.mono hB)) h.dg);have RH:=Gh (fun(W:World)(hb:Below w.heap.size w W)=>yw A' c' B es W (Gl hB hb.size) h'.cap (by omega) (h'.rd.below (hb.mono hB)) h'.dg);have CJ:=Gh (show(dig (val ds)).length<=400000 by have:=qw h.dg;omega);have Ig:=Gh (show(dig (val es)).length<=400000 by have:=qw h'.dg;omega);have HX:=Gh (jN w 25 25 25 #[.bool ng,.slice A ds.length c] #[.bool ng',.slice A' es.length c'] #[.bool false,.slice none 0 0]);clear h h' hm UE;unfold yg at Ts RH;generalize val ds=X0 at*;generalize val es=Y0 at*;generalize ds.length=n at*;generalize es.length=n' at*;have PW:=Gh (fun(g:Nat)(hg:g=Nat.gcd X0 Y0)(W:World)(A:Oa)(c:Nat)(h1:(dig g).length<=c)(h2:qL W A (dig g))(h3:Below w.heap.size w W)=>show qX ((Nat.gcd X0 Y0:Nat):Int) w (.returned (.agg #[.bool false,.slice A (dig g).length c])) W by
  rw[<-hg];exact⟨A,c,by simp,h1,h2,h3⟩)
 generalize hG:Nat.gcd X0 Y0=G at*;have HG:=Gh hG;clear hG;go_enter Tryz.func125,Tryz.ntmps125
 go_wp2_with fail
 generalize ((w.alloc (.cells #[.bool ng,.slice A n c] 25)).alloc (.cells #[.bool ng',.slice A' n' c'] 25)).alloc (.cells #[.bool false,.slice none 0 0] 25)=W at*;obtain⟨Xb,k0,k1,k2,hs⟩:=HX.out;have HS:=Gh hs;clear hs HX;have c1:W.cell? ⟨w.heap.size,1,none⟩=some (.slice A n c):=k0.cell 1;have c3:W.cell? ⟨w.heap.size+1,1,none⟩=some (.slice A' n' c'):=k1.cell 1;have l0:=k0.lt;have l1:=k1.lt;have d1:W.drew.cell? ⟨w.heap.size,1,none⟩=some (.slice A n c):=c1;have d3:W.drew.cell? ⟨w.heap.size+1,1,none⟩=some (.slice A' n' c'):=c3;have K2:qf W.drew (w.heap.size+1+1) 25 #[.bool false,.slice none 0 0]:=k2;have Rs:Below w.heap.size w W.drew:=Xb.trans ((qt.drew _).below _);clear Xb k0 k1 k2;generalize UU:w.heap.size+1=bx at*;have Up:=Gh UU;clear UU;go_region_held3 (fun w'=>w'.cell? ⟨w.heap.size,1,none⟩=some (.slice A n c)/\w'.cell? ⟨bx,1,none⟩=some (.slice A' n' c'))
  (first|(with_reducible exact⟨r1,r3⟩)|(with_reducible exact⟨q1,q3⟩)|(with_reducible exact⟨d1,d3⟩))
  (first|(go_at_call 100;(with_reducible refine(Ts.out _ Rs).mono ?_);rintro e w1 ⟨A1,c1',rfl,h1,h2,h3⟩;have q1:=(h3.cell l0).trans c1;have q3:=(h3.cell l1).trans c3;have Xp:=Gt Rs h3)|(go_at_call 100;(with_reducible refine(RH.out _ Xp).mono ?_);rintro e w2 ⟨A2,c2',rfl,g1,g2,g3⟩;have r1:=(g3.cell (Gm l0 h3.size)).trans q1;have r3:=(g3.cell (Gm l1 h3.size)).trans q3;have Xf:=Gt Xp g3))
 have UH:=(K2.old h3).old g3;have XH:=Gh (show GSt w w2 (bx+1) G X0 Y0 (.slice A1 (dig X0).length c1') (.slice A2 (dig Y0).length c2')from⟨⟨A1,c1',rfl,h1,h2.old g3⟩,⟨A2,c2',rfl,g1,g2⟩,CJ,Ig,HG,Xf,UH⟩);rename_i hH;clear hH r1 r3 q1 q3 h1 h2 h3 Xp g1 g2 g3 Xf UH d1 d3 c1 c3 l0 l1 Rs K2 HS;go_wp2_with fail
 have Rb:=Gh (show w.heap.size<=bx+1 by have:=Up.out;omega);generalize bx+1=br at*;go_loopg [5,6,7,8] Y0 (fun gn xv yv _ _ wr=>∃X Y,gn=Y/\GSt w wr br G X Y xv yv)
 case atStart=>exact⟨X0,Y0,rfl,XH⟩
 case round=>
  obtain⟨X,Y,hgy,⟨Ax,cx,rfl,BP,F9⟩,⟨Ay,cy,rfl,BO,Mn⟩,LK,Mr,hg,Xe,UH⟩:=hrel;have HGY:=Gh hgy;have T0:=Gh hg;have Xh:=Gh Xe;have Ek:=Gh UH;have N4:=Gh LK;have N3:=Gh Mr;clear hgy hg Xe UH XH;by_cases Of:(dig X).length<=2/\(dig Y).length<=2
  ·obtain⟨CQ,Iv⟩:=Of;have Kn:=Gh (qaR X cx Ax wr (qck CQ) BP (by omega) F9);have Nh:=Gh (fun(W:World)(hW:Below wr.heap.size wr W)=>qaR Y cy Ay W (qck Iv) BO (by omega) (Mn.old hW));have OY:=Gh (qck CQ);have HYB:=Gh (qck Iv);generalize (dig X).length=lx at*;generalize (dig Y).length=ly at*;have ix:(lx:Int)<=2:=by omega
   have iy:(ly:Int)<=2:=by omega
   clear N4 N3 LK Mr F9 Mn CJ Ig Ts RH HG;go_wp2_with fail
   refine Kn.out.mono ?_;rintro e wa ⟨rfl,CC⟩;have Nw:=Gh (CC.below wr.heap.size);have Rj:=Gh (Nh wa Nw);clear CC Kn Nh;go_wp2_with fail
   refine Rj.out.mono ?_;rintro e wb ⟨rfl,AV⟩;have HDB:=Gh (Nw.out.trans ((AV.below wa.heap.size).mono Nw.out.size));have Xw:=Gh (Gt Xh HDB);have XA:=Gh (Ek.out.old HDB);clear AV Nw HDB Rj Xh Ek ix iy CQ Iv BP BO;go_wp2_with fail
   go_loopg [9,11] Y (fun gn mv nv wq=>∃m k:Nat,gn=k/\mv= .int .u64 (m:Int)/\nv= .int .u64 (k:Int)/\m<18446744073709551616/\k<18446744073709551616/\Nat.gcd m k=G/\Below w.heap.size w wq/\qf wq br 25 #[.bool false,.slice none 0 0])
   case atStart=>exact⟨X,Y,rfl,rfl,rfl,OY,HYB,T0,Xw,XA⟩
   case round=>
    obtain⟨m,k,XG,rfl,rfl,hm,hk,hg,Xe,UH⟩:=hrel;have La:=Gh XG;have HG:=Gh hg;have Xh:=Gh Xe;have Ek:=Gh UH;clear XG hg Xe UH Xw XA OY HYB T0 HGY;by_cases Xx:k=0
    ·subst Xx;have TX:=Gh (qea m hm wr);unfold yg at TX;have Af:=Gh (show m=G by rw[<-HG,Nat.gcd_zero_right]);have Bf:=Gh (qjH hm);go_wp2_with fail
     refine TX.out.mono ?_;rintro e wc ⟨Ad,cd,rfl,hcd,Sq,Et⟩;have KM:=Gh (qa6 m cd Ad wc hcd (by have:=Bf.out;omega) Sq);have Ny:=Gh (Gt Xh Et);have EA:=Gh (Ek.out.old Et);clear hcd Sq Et Xh Ek;go_wp2_with fail
     refine KM.out.mono ?_;rintro e wd ⟨Ae,ce,rfl,BQ,Xl,AX⟩;have kk:=EA.out.old AX;have Ug:=Gt Ny AX;have d0:wd.cell? ⟨br,0,none⟩=some (.bool false):=kk.cell 0;have d1:wd.cell? ⟨br,1,none⟩=some (.slice none 0 0):=kk.cell 1;have f0:=kk.frozen 0;have f1:=kk.frozen 1;have z0:=kk.lt;have Tt:=Gh kk;have CO:=Gh Ug;have VL:=Gh Xl;have S2:=Gh BQ;clear kk Ug Xl BQ AX;go_wp2_with fail
     exact qo Tryz.results125 rfl rfl ((Tt.out.set_ 0 _).set_ 1 _) Tryz.underlying25 rfl Tryz.sizeInt (PW m Af _ Ae ce S2 (VL.out.store2 Tt (by decide) _ _) ((CO.out.setCell Rb.out _).setCell Rb.out _))
    ·have e0:¬((k:Int)=0):=by omega
     have e1:(m:Int)%(k:Int)=((m%k:Nat):Int):=(Int.natCast_emod _ _).symm;have e2:Int.tmod (m:Int) (k:Int)=((m%k:Nat):Int):=by rw[Int.tmod_eq_emod_of_nonneg (by omega)];exact e1
     have hr:m%k<k:=Nat.mod_lt _ (by omega);have e3:=JG (n:=m%k) (by omega);have WZ:=Gh (show Nat.gcd k (m%k)=G by rw[<-HG,Nat.gcd_comm m k,Nat.gcd_rec k m,Nat.gcd_comm]);have HR:=Gh hr;clear hr;generalize m%k=r at*;go_wp2_with fail
     go_quiet (fail)
     clear e0 e1 e2 e3;go_wp2_with fail
     go_roundg r
     case rel=>exact⟨k,r,rfl,rfl,rfl,hk,Nat.lt_trans HR hk,WZ,Xh.out.trans ((qt.drewN _ _).below _),Ek.out.drewN _⟩
     case measure=>have:=La.out;have:=HR.out;omega
  ·by_cases Lo:Y=0
   ·subst Lo;have hz:(dig 0).length=0:=by rw[qH];rfl
    have CQ:2<(dig X).length:=by omega
    have Af:=Gh (show X=G by rw[<-T0,Nat.gcd_zero_right]);have KM:=Gh (qa6 X cx Ax wr BP (by omega) F9);rw[hz]at*;generalize Bl:(dig X).length=lx at*;have P2:=Gh Bl;clear Bl hz Mn;have ix:(2:Int)<(lx:Int):=by omega
    clear N4 N3 LK Mr F9 CJ Ig Ts RH HG;go_wp2_with fail
    refine KM.out.mono ?_;rintro e wd ⟨Ae,ce,rfl,BQ,Xl,AX⟩;have kk:=Ek.out.old AX;have Ug:=Gt Xh AX;have d0:wd.cell? ⟨br,0,none⟩=some (.bool false):=kk.cell 0;have d1:wd.cell? ⟨br,1,none⟩=some (.slice none 0 0):=kk.cell 1;have f0:=kk.frozen 0;have f1:=kk.frozen 1;have z0:=kk.lt;have Tt:=Gh kk;have CO:=Gh Ug;have VL:=Gh Xl;have S2:=Gh BQ;clear kk Ug Xl BQ AX;go_wp2_with fail
    have hcE:=S2.out;have hnE:=VL.out;exact qo Tryz.results125 rfl rfl ((Tt.out.set_ 0 _).set_ 1 _) Tryz.underlying25 rfl Tryz.sizeInt (P2.out▸PW X Af _ Ae ce (P2.out.symm▸hcE) (hnE.store2 Tt (by decide) _ _) ((CO.out.setCell Rb.out _).setCell Rb.out _))
   ·have hly0:0<(dig Y).length:=jL.2 (by omega);have Ld:=Gh (qaz Ax Ay cx cy wr.heap.size (dig X) (dig Y) wr (Gr _) BP BO LK Mr F9.reads Mn.reads (qA _) (qA _) (by rw[qB];exact Lo));unfold YD at Ld;rw[qB,qB]at Ld;have hr:X%Y<Y:=Nat.mod_lt _ (by omega);have WZ:=Gh (show Nat.gcd Y (X%Y)=G by rw[<-T0,Nat.gcd_comm X Y,Nat.gcd_rec Y X,Nat.gcd_comm]);have HLR:=Gh (Gl (Yo (Nat.le_of_lt hr)) Mr);have HR:=Gh hr;clear hr;generalize X%Y=R at*;generalize X/Y=Q at*;have HNY:=Gh Mn;have Sk:=Gh BO;generalize Bl:(dig X).length=lx at*;generalize PD:(dig Y).length=ly at*;have N0:=Gh PD;have Mm:(2:Int)<(lx:Int)∨(2:Int)<(ly:Int):=by omega
    have iy:(0:Int)<(ly:Int):=by omega
    clear N4 Bl PD LK Mr F9 Mn CJ Ig Ts RH HG BP BO;go_wp2_with fail
    all_goals
     refine Ld.out.mono ?_;rintro e wd ⟨Aq,cq,Ar,cr,rfl,FJ,UM,Fm,Dv,Et⟩;have Xw:=Gh (Gt Xh Et);have XA:=Gh (Ek.out.old Et);have RH:=Gh (HNY.out.old Et);have B3:=Gh Dv;have Bi:=Gh UM;clear Et Fm Dv FJ UM;go_wp2_with fail
     go_roundg R
     case rel=>exact⟨Y,R,rfl,⟨⟨Ay,cy,by rw[N0.out],by rw[N0.out];exact Sk,RH⟩,⟨Ar,cr,rfl,Bi,B3⟩,by rw[N0.out];exact N3,HLR,WZ,Xw,XA⟩⟩
     case measure=>have:=HGY.out;have:=HR.out;omega
theorem YH{P:Program}{fn:Func}{Q:Ending->World->Prop}{a:Act}{w:World}{p r:Tmp}{ty:TypeId}{g:Nat}{t:TypeId}{cs:Array Value}{d:TypeDesc}(hr:fn.results=#[.cell p ty,.tmp r])(AU:a.defers=[])(hp:a.tmps.getD p undef= .pointer (some ⟨g,0,none⟩))(hb:qf w g t cs)
 (hu:P.underlying ty=some d)(hd:(match d with| .struct _| .array _ _=>true|_=>false)=true)(hi:(P.info? ty).map (·.size)=some cs.size)(h:Q (.returned (.tuple #[.agg cs,a.tmps.getD r undef])) w):bodyPost P fn Q Exit.ret a w:=by
 refine bodyPost_ret ?_ AU h;have Du:a.tmps[p]?.getD undef= .pointer (some ⟨g,0,none⟩):=by simpa using hp
 simp[results,hr,Du,asAddr,run_loadVar_row w g t ty cs (0,0) d hb hu hd hi]
theorem qel(z:Int):(qP z==0)=decide (z=0):=by
 unfold qP
 split
 ·have:¬z=0:=by omega
  simp[this]
 ·split<;>simp_all
set_option maxHeartbeats 400000
theorem qar(ng:Bool)(A:Oa)(c B:Nat)(ds:List Nat)(w:World)(hB:B<=w.heap.size)(h:qx w B A c ds)(hm:ds.length<=1000000):
 Calls Tryz.prog 127 #[.agg #[.bool ng,.slice A ds.length c]] w fun e w'=>e= .returned (.bool (decide (qj ng ds=0)))/\Below w.heap.size w w':=by
 have Xq:=Gb w (.cells #[.bool ng,.slice A ds.length c] 25);have HS:=Gh (zI ng A c B ds _ (Gl hB Xq.size) (h.below (Xq.mono hB)) hm);have HB:=Gh Xq;have hz:=qel (qj ng ds);rw[<-hz];clear Xq hz h;generalize qP (qj ng ds)=sg at*;go_enter Tryz.func127,Tryz.ntmps127
 go_wp2_with fail
 refine HS.out.mono ?_;rintro e w1 ⟨rfl,rfl⟩;go_wp2_with fail
 go_ret
 exact⟨rfl,HB.out.alloc HB.out.size _⟩
theorem Q7{P:Program}{fn:Func}{p q r:Tmp}{ty:TypeId}(h:fn.results=#[.cell p ty,.cell q ty,.tmp r])(tmps:Array Value)(w:World)(g g':Nat)(t:TypeId)(cs cs':Array Value)(d:TypeDesc)
 (hp:tmps.getD p undef= .pointer (some ⟨g,0,none⟩))(hq:tmps.getD q undef= .pointer (some ⟨g',0,none⟩))(hc:qf w g t cs)(RO:qf w g' t cs')
 (hu:P.underlying ty=some d)(hd:(match d with| .struct _| .array _ _=>true|_=>false)=true)(hi:(P.info? ty).map (·.size)=some cs.size)(EL:(P.info? ty).map (·.size)=some cs'.size):
 (results fn tmps).run P w= .ok (.tuple #[.agg cs,.agg cs',tmps.getD r undef]) w:=by
 have Du:tmps[p]?.getD undef= .pointer (some ⟨g,0,none⟩):=by simpa using hp
 have S7:tmps[q]?.getD undef= .pointer (some ⟨g',0,none⟩):=by simpa using hq
 simp[results,h,Du,S7,asAddr,run_loadVar_row w g t ty cs (0,0) d hc hu hd hi,run_loadVar_row w g' t ty cs' (0,0) d RO hu hd EL]
theorem qhN(w:World)(t0 t1 t2 t3:TypeId)(c0 c1 c2 c3:Array Value):Below w.heap.size w ((((w.alloc (.cells c0 t0)).alloc (.cells c1 t1)).alloc (.cells c2 t2)).alloc (.cells c3 t3))/\
 qf ((((w.alloc (.cells c0 t0)).alloc (.cells c1 t1)).alloc (.cells c2 t2)).alloc (.cells c3 t3)) w.heap.size t0 c0/\qf ((((w.alloc (.cells c0 t0)).alloc (.cells c1 t1)).alloc (.cells c2 t2)).alloc (.cells c3 t3)) (w.heap.size+1) t1 c1/\
 qf ((((w.alloc (.cells c0 t0)).alloc (.cells c1 t1)).alloc (.cells c2 t2)).alloc (.cells c3 t3)) (w.heap.size+2) t2 c2/\qf ((((w.alloc (.cells c0 t0)).alloc (.cells c1 t1)).alloc (.cells c2 t2)).alloc (.cells c3 t3)) (w.heap.size+3) t3 c3:=by
 obtain⟨h0,h1,h2,h3,hs⟩:=jN w t0 t1 t2 c0 c1 c2;refine⟨h0.alloc h0.size _,h1.alloc _,h2.alloc _,h3.alloc _,?_⟩;have:=qf.new (((w.alloc (.cells c0 t0)).alloc (.cells c1 t1)).alloc (.cells c2 t2)) t3 c3;rwa[hs]at this
theorem qhF{w:World}{g g':Nat}(p:qf w g 25 #[.bool false,.slice none 0 0])(p':qf w g' 25 #[.bool false,.slice none 0 0])(Xl:g≠g')(a b c d:Value):
 qf ((((w.setCell ⟨g,0,none⟩ a).setCell ⟨g,1,none⟩ b).setCell ⟨g',0,none⟩ c).setCell ⟨g',1,none⟩ d) g 25 #[a,b]/\qf ((((w.setCell ⟨g,0,none⟩ a).setCell ⟨g,1,none⟩ b).setCell ⟨g',0,none⟩ c).setCell ⟨g',1,none⟩ d) g' 25 #[c,d]/\
  ∀(A:Oa)(ds:List Nat),qL w A ds->qL ((((w.setCell ⟨g,0,none⟩ a).setCell ⟨g,1,none⟩ b).setCell ⟨g',0,none⟩ c).setCell ⟨g',1,none⟩ d) A ds:=by
 have p2:=(p.set_ 0 a).set_ 1 b;have p3:=(p'.far (p:=⟨g,0,none⟩) (Ne.symm Xl) a).far (p:=⟨g,1,none⟩) (Ne.symm Xl) b;refine⟨(p2.far (p:=⟨g',0,none⟩) Xl c).far (p:=⟨g',1,none⟩) Xl d,(p3.set_ 0 c).set_ 1 d,fun A ds h=>?_⟩;exact(h.store2 p (by decide) a b).store2 p3 (by decide) c d
theorem qjx(n:Nat):n≠n+1+1+1:=by omega
theorem qaE(ng:Bool)(v:Nat):(qj ng (dig v)).natAbs=v:=by rw[je,qB]
def qd9(q r:Int)(w:World)(e:Ending)(w':World):Prop:=
 ∃A c A' c',e= .returned (.tuple #[.agg #[.bool (decide (q<0)),.slice A (dig q.natAbs).length c],.agg #[.bool (decide (r<0)),.slice A' (dig r.natAbs).length c'],.int .i64 0])/\(dig q.natAbs).length<=c/\(dig r.natAbs).length<=c'/\qL w' A (dig q.natAbs)/\qL w' A' (dig r.natAbs)/\Below w.heap.size w w'
set_option maxHeartbeats 4000000
theorem qjZ(ng ng':Bool)(A A':Oa)(c c' B:Nat)(ds es:List Nat)(w:World)(hB:B<=w.heap.size)(h:qx w B A c ds)(h':qx w B A' c' es)(hm:ds.length<=400000)(UE:es.length<=400000)(hy:val es≠0):
 Calls Tryz.prog 126 #[.agg #[.bool ng,.slice A ds.length c],.agg #[.bool ng',.slice A' es.length c']] w (qd9 (qj (!ng==ng') (dig (val ds/val es))) (qj ng (dig (val ds%val es))) w):=by
 have HX:=Gh (qhN w 25 25 25 25 #[.bool ng,.slice A ds.length c] #[.bool ng',.slice A' es.length c'] #[.bool false,.slice none 0 0] #[.bool false,.slice none 0 0]);have hz:=fun(W:World)(hW:Below w.heap.size w W)=>qar ng' A' c' B es W (Gl hB hW.size) (h'.below (hW.mono hB)) (by omega);rw[show decide (qj ng' es=0)=false by
  have:=je ng' es;have h0:¬qj ng' es=0:=fun e=>by rw[e]at this;simp at this;omega
  simp[h0]]at hz
 have HZ:=Gh hz;have HD:=Gh (fun(W:World)(hW:Below w.heap.size w W)=>qaz A A' c c' B ds es W (Gl hB hW.size) h.cap h'.cap hm UE (h.rd.below (hW.mono hB)) (h'.rd.below (hW.mono hB)) h.dg h'.dg hy);have Oy:(dig (val ds/val es)).length<=400000:=Gl (Yo (Nat.div_le_self _ _)) (Gl (qw h.dg) hm);have hlr:(dig (val ds%val es)).length<=400000:=Gl (Yo (Nat.mod_le _ _)) (Gl (qw h.dg) hm);have Bh:=Gh (fun(W:World)(A:Oa)(c:Nat)(h1:(dig (val ds/val es)).length<=c)(h2:qL W A (dig (val ds/val es)))=>JY (!ng==ng') A c W.heap.size (dig (val ds/val es)) W (Gr _) h1 (by omega) h2.reads (qA _));have CM:=Gh (fun(W:World)(A:Oa)(c:Nat)(h1:(dig (val ds%val es)).length<=c)(h2:qL W A (dig (val ds%val es)))=>JY ng A c W.heap.size (dig (val ds%val es)) W (Gr _) h1 (by omega) h2.reads (qA _));unfold qX at Bh CM;unfold YD at HD;rw[qaE]at Bh CM;unfold qd9;rw[qaE,qaE];clear h h' hy hz Oy hlr hm UE;generalize qj (!ng==ng') (dig (val ds/val es))=q at*;generalize qj ng (dig (val ds%val es))=r at*;generalize val ds/val es=Q at*;generalize val ds%val es=R at*;generalize ds.length=n at*;generalize es.length=n' at*;go_enter Tryz.func126,Tryz.ntmps126
 go_wp2_with fail
 generalize (((w.alloc (.cells #[.bool ng,.slice A n c] 25)).alloc (.cells #[.bool ng',.slice A' n' c'] 25)).alloc (.cells #[.bool false,.slice none 0 0] 25)).alloc (.cells #[.bool false,.slice none 0 0] 25)=W at*;obtain⟨Xb,k0,k1,k2,k3⟩:=HX.out;have Vc:=Gh (HZ W Xb);clear HX HZ;refine Vc.out.mono ?_;rintro e w1 ⟨rfl,Xp⟩;have FV:=Gt Xb Xp;have Sj:=Gh (HD w1 FV);have j0:=k0.old Xp;have j1:=k1.old Xp;have j2:=k2.old Xp;have j3:=k3.old Xp;have c1:w1.cell? ⟨w.heap.size,1,none⟩=some (.slice A n c):=j0.cell 1;have c3:w1.cell? ⟨w.heap.size+1,1,none⟩=some (.slice A' n' c'):=j1.cell 1;have HJ:=Gh (And.intro j0 (And.intro j1 (And.intro j2 j3)));clear k0 k1 k2 k3 j0 j1 j2 j3 Vc HD Xb Xp;go_wp2_with fail
 refine Sj.out.mono ?_;rintro e w2 ⟨Aq,cq,Ar,cr,rfl,FJ,UM,Fm,Dv,Xf⟩;obtain⟨j0,j1,j2,j3⟩:=HJ.out;have k0:=j0.old Xf;have k1:=j1.old Xf;have k2:=j2.old Xf;have k3:=j3.old Xf;have Xw:=Gh (Gt FV Xf);have d0:w2.drew.cell? ⟨w.heap.size,0,none⟩=some (.bool ng):=k0.cell 0;have d1:w2.drew.cell? ⟨w.heap.size+1,0,none⟩=some (.bool ng'):=k1.cell 0;have l0:w.heap.size<w2.drew.heap.size:=k0.lt;have l1:w.heap.size+1<w2.drew.heap.size:=k1.lt;have K2:qf w2.drew (w.heap.size+1+1) 25 #[.bool false,.slice none 0 0]:=k2;have K3:qf w2.drew (w.heap.size+1+1+1) 25 #[.bool false,.slice none 0 0]:=k3;have nq:qL w2.drew Aq (dig Q):=Fm;have nr:qL w2.drew Ar (dig R):=Dv;clear HJ j0 j1 j2 j3 k0 k1 k2 k3 FV Xf c1 c3 Fm Dv Sj;have HG1:=Gh (Bh w2.drew Aq cq FJ nq);have Lb:=Gh (fun(W:World)(h:Below w2.drew.heap.size w2.drew W)=>CM W Ar cr UM (nr.old h));clear Bh CM nq nr FJ UM;go_wp2_with fail
 go_region_held3 (fun w'=>w'.cell? ⟨w.heap.size,0,none⟩=some (.bool ng)/\w'.cell? ⟨w.heap.size+1,0,none⟩=some (.bool ng'))
  (first|(with_reducible exact⟨jE (jE r0 (JP _)) (qjx _),jE (jE r1 (Yp _)) (JP _)⟩)|(with_reducible exact⟨jE r0 (JP _),jE r1 (Yp _)⟩)|(with_reducible exact⟨r0,r1⟩)|(with_reducible exact⟨q0,q1⟩)|(with_reducible exact⟨d0,d1⟩))
  (first|(go_at_call 84;(with_reducible refine HG1.out.mono ?_);rintro e w3 ⟨A3,c3,rfl,L9,L8,FK⟩;have q0:=(FK.cell l0).trans d0;have q1:=(FK.cell l1).trans d1)|(go_at_call 84;(with_reducible refine(Lb.out _ FK).mono ?_);rintro e w4 ⟨A4,c4,rfl,L7,L3,DF⟩;have r0:=(DF.cell (Gm l0 FK.size)).trans q0;have r1:=(DF.cell (Gm l1 FK.size)).trans q1;have p2:=(K2.old FK).old DF;have p3:=(K3.old FK).old DF;have d20:w4.cell? ⟨w.heap.size+1+1,0,none⟩=some (.bool false):=p2.cell 0;have d21:w4.cell? ⟨w.heap.size+1+1,1,none⟩=some (.slice none 0 0):=p2.cell 1;have d30:w4.cell? ⟨w.heap.size+1+1+1,0,none⟩=some (.bool false):=p3.cell 0;have d31:w4.cell? ⟨w.heap.size+1+1+1,1,none⟩=some (.slice none 0 0):=p3.cell 1;have f20:=p2.frozen 0;have f21:=p2.frozen 1;have f30:=p3.frozen 0;have f31:=p3.frozen 1))
 rename_i hH;clear hH r0 r1 q0 q1 d0 d1 d20 d21 d30 d31 f20 f21 f30 f31 HG1 Lb;have Pv:=L8.old DF;have Xe:=(Xw.out.trans ((qt.drew w2).below _)).trans ((Gt FK DF).mono Xw.out.size);have HF:=Gh (qhF p2 p3 (Nat.ne_of_lt (Nat.lt_succ_self (w.heap.size+1+1))) (.bool (decide (q<0))) (.slice A3 (dig Q).length c3) (.bool (decide (r<0))) (.slice A4 (dig R).length c4));have B3:=Gh Pv;have Ic:=Gh L3;have XW:=Gh Xe;have Bi:=Gh L9;have HC4:=Gh L7;clear p2 p3 Pv L3 Xe L9 L7 L8 FK DF l0 l1 K2 K3;go_wp2_with fail
 obtain⟨x2,x3,xn⟩:=HF.out;refine bodyPost_ret (Q7 Tryz.results126 _ _ _ _ _ _ _ _ rfl rfl x2 x3 Tryz.underlying25 rfl Tryz.sizeInt Tryz.sizeInt) rfl ?_;exact⟨A3,c3,A4,c4,rfl,Bi,HC4,xn _ _ B3,xn _ _ Ic,(((XW.out.setCell (show w.heap.size<=w.heap.size+1+1 by omega) _).setCell (show w.heap.size<=w.heap.size+1+1 by omega) _).setCell (show w.heap.size<=w.heap.size+1+1+1 by omega) _).setCell (show w.heap.size<=w.heap.size+1+1+1 by omega) _⟩
theorem qgU{ng ng':Bool}{ds es:List Nat}(hd:qj ng' es∣qj ng ds)(h0:qj ng' es≠0):qj (!ng==ng') (dig (val ds/val es))=qj ng ds/qj ng' es/\qj ng (dig (val ds%val es))=0:=by
 have hv:val es∣val ds:=by
  have:=Int.natAbs_dvd_natAbs.2 hd;rwa[je,je]at this
 have hz:val es≠0:=fun e=>h0 (by unfold qj;rw[e];cases ng'<;>rfl);obtain⟨k,hk⟩:=hv;rw[hk,Nat.mul_div_cancel_left _ (by omega),Nat.mul_mod_right];refine⟨?_,by unfold qj;rw[qB];cases ng<;>rfl⟩;clear hd h0;unfold qj;rw[qB,hk];generalize val es=e at*;have he:(e:Int)≠0:=by omega
 have he':-(e:Int)≠0:=by omega
 cases ng<;>cases ng'
 ·show(k:Int)=((e*k:Nat):Int)/(e:Int);exact(Int.ediv_eq_of_eq_mul_right he (by rw[Int.natCast_mul])).symm
 ·show -(k:Int)=((e*k:Nat):Int)/ -(e:Int);exact(Int.ediv_eq_of_eq_mul_right he' (by rw[Int.natCast_mul,Int.neg_mul_neg])).symm
 ·show -(k:Int)=-((e*k:Nat):Int)/(e:Int);exact(Int.ediv_eq_of_eq_mul_right he (by rw[Int.natCast_mul,Int.mul_neg])).symm
 ·show(k:Int)=-((e*k:Nat):Int)/ -(e:Int);exact(Int.ediv_eq_of_eq_mul_right he' (by rw[Int.natCast_mul,Int.neg_mul])).symm
def Yq(q:Int)(w:World)(e:Ending)(w':World):Prop:=
 ∃A c,e= .returned (.tuple #[.agg #[.bool (decide (q<0)),.slice A (dig q.natAbs).length c],.int .i64 0])/\(dig q.natAbs).length<=c/\qL w' A (dig q.natAbs)/\Below w.heap.size w w'
theorem qbr(ng ng':Bool)(A A':Oa)(c c' B:Nat)(ds es:List Nat)(w:World)(hB:B<=w.heap.size)(h:qx w B A c ds)(h':qx w B A' c' es)(hm:ds.length<=400000)(UE:es.length<=400000)(h0:qj ng' es≠0)(hd:qj ng' es∣qj ng ds):
 Calls Tryz.prog 112 #[.agg #[.bool ng,.slice A ds.length c],.agg #[.bool ng',.slice A' es.length c']] w (Yq (qj ng ds/qj ng' es) w):=by
 have HX:=Gh (jN w 25 25 25 #[.bool ng,.slice A ds.length c] #[.bool ng',.slice A' es.length c'] #[.bool false,.slice none 0 0]);have hz:val es≠0:=fun e=>h0 (by unfold qj;rw[e];cases ng'<;>rfl);have hq:=fun(W:World)(hW:Below w.heap.size w W)=>qjZ ng ng' A A' c c' B ds es W (Gl hB hW.size) (h.below (hW.mono hB)) (h'.below (hW.mono hB)) hm UE hz;obtain⟨e1,e2⟩:=qgU hd h0;rw[e1,e2]at hq;unfold qd9 at hq;have SP:(decide ((0:Int)<0))=false:=by decide
 have Rh:(dig (Int.natAbs 0)).length=0:=by rw[show Int.natAbs 0=0 from rfl,qH];rfl
 rw[SP,Rh]at hq;have HQ:=Gh hq;have HI:=Gh (fun(W:World)(A:Oa)(c:Nat)=>qar false A c W.heap.size [] W (Gr _) ⟨⟨rfl,fun hp=>absurd hp (Nat.lt_irrefl 0)⟩,by simp[jg],Nat.zero_le _⟩ (by simp));rw[show decide (qj false []=0)=true from rfl,List.length_nil]at HI;unfold Yq;clear hq hz e1 e2 SP Rh h h' hm UE h0 hd;generalize qj ng ds/qj ng' es=q at*;generalize ds.length=n at*;generalize es.length=n' at*;go_enter Tryz.func112,Tryz.ntmps112
 go_wp2_with fail
 generalize ((w.alloc (.cells #[.bool ng,.slice A n c] 25)).alloc (.cells #[.bool ng',.slice A' n' c'] 25)).alloc (.cells #[.bool false,.slice none 0 0] 25)=W at*;obtain⟨Xb,k0,k1,k2,hs⟩:=HX.out;have SU:=Gh (HQ W Xb);have HS:=Gh hs;clear HX HQ hs;refine SU.out.mono ?_;rintro e w1 ⟨A1,c1,A2,c2,rfl,h1,h2,h3,h4,Xp⟩;have FV:=Gt Xb Xp;have m2:=k2.old Xp;have UK:=Gh FV;have HM:=Gh m2;have H1:=Gh h1;have H3:=Gh h3;have XJ:=Gh Xp.size;clear k0 k1 k2 Xb Xp FV m2 h1 h2 h3 h4 SU;go_wp2_with fail
 have CE:=Gh (qR w1 25 25 #[.bool (decide (q<0)),.slice A1 (dig q.natAbs).length c1] #[.bool false,.slice A2 0 c2]);generalize (w1.alloc (.cells #[.bool (decide (q<0)),.slice A1 (dig q.natAbs).length c1] 25)).alloc (.cells #[.bool false,.slice A2 0 c2] 25)=X at*;have TZ:=Gh (HI X A2 c2);clear HI;refine TZ.out.mono ?_;rintro e w5 ⟨rfl,XL⟩;obtain⟨UU,j0,_,_⟩:=CE.out;have kq:=j0.old XL;have kr:=(HM.out.old UU).old XL;have g0:w5.cell? ⟨w1.heap.size,0,none⟩=some (.bool (decide (q<0))):=kq.cell 0;have g1:w5.cell? ⟨w1.heap.size,1,none⟩=some (.slice A1 (dig q.natAbs).length c1):=kq.cell 1;have d0:w5.cell? ⟨w.heap.size+1+1,0,none⟩=some (.bool false):=kr.cell 0;have d1:w5.cell? ⟨w.heap.size+1+1,1,none⟩=some (.slice none 0 0):=kr.cell 1;have f0:w5.frozen? ⟨w.heap.size+1+1,0,none⟩=false:=kr.frozen 0;have f1:w5.frozen? ⟨w.heap.size+1+1,1,none⟩=false:=kr.frozen 1;have z0:w.heap.size+1+1<w5.heap.size:=kr.lt;have Xm:=Gh kr;have Xh:=Gh ((Gt UK UU).trans (XL.mono (Gl UK.out.size UU.size)));have Bc:=Gh ((H3.out.old UU).old XL);clear kq kr UU XL j0 CE TZ;go_wp2_with fail
 exact YH Tryz.results112 rfl rfl ((Xm.out.set_ 0 _).set_ 1 _) Tryz.underlying25 rfl Tryz.sizeInt ⟨A1,c1,rfl,H1,Bc.out.store2 Xm (by decide) _ _,(Xh.out.setCell (Nat.le_add_right _ 2) _).setCell (Nat.le_add_right _ 2) _⟩
