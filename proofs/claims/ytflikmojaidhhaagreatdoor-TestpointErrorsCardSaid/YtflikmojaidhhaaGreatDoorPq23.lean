import Derived.Test.YtflikmojaidhhaaGreatDoorPq22
import Derived.Test.YtflikmojaidhhaaGreatDoorPqA
namespace Go.Proofs.YtflikmojaidhhaaGreatDoor
open Go.RowKit
def kmN:Nat->Nat
 |0=>0
 |D+1=>100+Yz 5+2*kmN D
def KyM:Nat->MX->Prop
 |0,_=>False
 |D+1,M=>(0<=M.kd/\M.kd<=10/\0<=M.rl/\M.rl<=10)/\qv M.p=true/\qN 100 9 M.p/\M.ks.length<=2/\∀u∈M.ks,KyM D u
set_option maxHeartbeats 4000000
set_option maxRecDepth 100000
theorem qap(D:Nat)(hI:∀(t:MX),KyM D t->∀(A:Oa)(c:Nat)(K:Oa)(kc:Nat)(L:Oa)(lc B b n:Nat)(w:World),B<=w.heap.size->MV w (· <B) t (jn t A c K kc L lc)->BK B b n w->n+kmN D<=10000000000->yF B w->
 Calls Tryz.prog 61 #[.pointer (some ⟨b,0,none⟩),mxv t A c K kc L lc] w (Yv B b (n+kmN D) w))
 (t:MX)(Rn:KyM (D+1) t)(A:Oa)(c:Nat)(K:Oa)(kc:Nat)(L:Oa)(lc B b n:Nat)(w:World)(hB:B<=w.heap.size)(h:MV w (· <B) t (jn t A c K kc L lc))(hk:BK B b n w)(hn:n+kmN (D+1)<=10000000000)(ht:yF B w):
 Calls Tryz.prog 61 #[.pointer (some ⟨b,0,none⟩),mxv t A c K kc L lc] w (Yv B b (n+kmN (D+1)) w):=by
 obtain⟨F5,Cs,hpw,EK,SN⟩:=Rn;have Xb:=Gb w (.cells #[.int .i64 t.kd,.int .i64 t.rl,.int .i64 t.p.lv,.bool t.p.ng,.slice A t.p.ds.length c,.slice K t.p.ks.length kc,.slice L t.ks.length lc] 32);have DG:=Gh (qf.new w 32 #[.int .i64 t.kd,.int .i64 t.rl,.int .i64 t.p.lv,.bool t.p.ng,.slice A t.p.ds.length c,.slice K t.p.ks.length kc,.slice L t.ks.length lc]);have O6:=Gh F5;have VL:=Gh (show w.heap.size≠b from Nat.ne_of_gt hk.lt);have U5:=Gh (fun(u:MX)(hu:u∈t.ks)=>hI u (SN u hu));have TI:=Gh (show kmN (D+1)=100+Yz 5+2*kmN D from rfl);have Xh:=Gh (Wk.of_below (b:=b) hB Xb);have Xo:=Gh (hk.old Xb);have HR:=Gh (fun(X:World)(hX:Below B w X)=>h.below hX);have HT:=Gh (fun(X:World)(hX:Below B w X)=>(Lib.TabBelow.on ht hX:yF B X));have KA:=Gh (fun(X:World)(m:Nat)(hX:Below B w X)(hB:B<=X.heap.size)(hk:BK B b m X)(hm:m+Yz 5<=10000000000)=>yC 5 t.p (by have:=zC _ Cs;have:=qJ Cs;omega) Cs hpw A c K kc B b m X hB (h.below hX).node.1 hk hm (Lib.TabBelow.on ht hX:yF B X));have KY:=Gh hB;have UO:=Gh hn;unfold mxv at U5 ⊢;unfold qm at KA;unfold Yv at U5 KA;clear hI F5 Cs hpw hB h hk hn ht Xb SN;generalize t.kd=kd at*;generalize t.rl=rl at*;generalize t.p.lv=pl at*;generalize t.p.ng=pg at*;generalize t.p.ds.length=pd at*;generalize t.p.ks.length=pk at*;generalize TU:t.ks.length=kl at*;have Tt:=Gh TU.symm;clear TU;go_enter Tryz.func61,Tryz.ntmps61
 go_upto_region 1 with(fail)
 generalize w.alloc (.cells #[.int .i64 kd,.int .i64 rl,.int .i64 pl,.bool pg,.slice A pd c,.slice K pk kc,.slice L kl lc] 32)=W at*;have XJ:=Gh (show B<=W.heap.size from Gl KY Xh.out.1.size);have UK:=Gh (yS B b n 40 W Xo (by have:=UO.out;omega) XJ);go_wp2_with fail
 refine UK.out.mono ?_;rintro e w1 ⟨rfl,Dz,F4⟩;have x0:=(F4.blk DG VL (by decide)).cell 0;have TZ:=Gh (Qo B kd (by have:=O6.out;omega) (by have:=O6.out;omega) w1 (HT w1 (Xh.out.1.trans F4.1)));have Xu:=Gh Dz;have Nd:=Gh F4;clear Dz F4 UK;go_wp2_with fail
 refine TZ.out.mono ?_;rintro e w2 ⟨s,rfl,hs,Xf⟩;have XA:=Gh (Xu.out.old Xf);have RE:=Gh (Nd.out.old (Gl XJ Nd.out.1.size) Xf);have Uj:=Gh (zc B b (n+1) 30 s hs w2 XA (by have:=UO.out;have:=TI.out;omega) (Gl XJ RE.out.1.size));clear Xf hs x0 TZ Xu Nd;go_wp2_with fail
 refine Uj.out.mono ?_;rintro e w3 ⟨rfl,Rz,BA⟩;have Uk:=Gh Rz;have ES:=Gh (RE.out.trans BA);clear Rz BA Uj XA RE;have AF:=ES.out.blk DG VL (by decide);have x0:=AF.cell 0;clear AF;go_upto_if 15 with(fail)
 go_cut []from 15 (fun wc=>BK B b (n+1+30+1+30+Yz 5) wc/\Wk B b W wc)
 case first=>
  by_cases h0:kd=2
  ·have e0:(kd==2)=true:=by simp[h0]
   clear h0;have Xw:=Gh (yS B b (n+1+30) 32 w3 Uk (by have:=UO.out;have:=TI.out;omega) (Gl XJ ES.out.1.size));go_wp2_with fail
   refine Xw.out.mono ?_;rintro e w4 ⟨rfl,Xj,VX⟩;have Vd:=Gh Xj;have Sd:=Gh (ES.out.trans VX);clear Xj VX Xw x0;have x1:=(Sd.out.blk DG VL (by decide)).cell 1;have Ei:=Gh (Qo B rl (by have:=O6.out;omega) (by have:=O6.out;omega) w4 (HT w4 (Xh.out.1.trans Sd.out.1)));go_wp2_with fail
   refine Ei.out.mono ?_;rintro e w5 ⟨s5,rfl,hs,XL⟩;have RJ:=Gh (Vd.out.old XL);have Ev:=Gh (Sd.out.old (Gl XJ Sd.out.1.size) XL);have FL:=Gh (zc B b (n+1+30+1) 30 s5 hs w5 RJ (by have:=UO.out;have:=TI.out;omega) (Gl XJ Ev.out.1.size));clear XL hs x1 Ei;go_wp2_with fail
   refine FL.out.mono ?_;rintro e w6 ⟨rfl,AN,hw6⟩;have SX:=Gh AN;have Fu:=Gh (Ev.out.trans hw6);clear AN hw6 FL;have Lq:=Fu.out.blk DG VL (by decide);have y0:=Lq.cell 2;have y1:=Lq.cell 3;have y2:=Lq.cell 4;have y3:=Lq.cell 5;clear Lq;have HP:=Gh (KA w6 (n+1+30+1+30) (Xh.out.1.trans Fu.out.1) (Gl XJ Fu.out.1.size) SX (by have:=UO.out;have:=TI.out;omega));go_wp2_with fail
   refine HP.out.mono ?_;rintro e w7 ⟨rfl,BL,Ls⟩;have HM:=Gh (And.intro BL (Fu.out.trans Ls));clear BL Ls y0 y1 y2 y3;go_wp2_with fail
   go_meet
   exact HM
  ·have e0:(kd==2)=false:=by simp[h0]
   clear h0;go_wp2_with fail
   go_meet
   exact⟨Uk.out.mono (by omega),ES⟩
 case rest=>
  obtain⟨Xj,VX⟩:=hcut;have Vd:=Gh Xj;have Sd:=Gh VX;have x6:=(VX.blk DG VL (by decide)).cell 6;clear Xj VX Uk ES x0;go_wp2_with fail
  clear x6;go_loopg [5,30] kl (fun gn _ ix wr=>∃j:Nat,j<=kl/\gn=kl-j/\ix= .int .i64 j/\BK B b (n+62+Yz 5+kmN D*j) wr/\Wk B b W wr)
  case atStart=>exact⟨0,Nat.zero_le _,rfl,rfl,Vd.out.mono (by omega),Sd⟩
  case round=>
   obtain⟨j,hj,XI,rfl,Uv,Vf⟩:=hrel;have HG:=Gh XI;have Xm:=Gh Uv;have BU:=Gh Vf;have hjm:=Nat.mul_le_mul_left (kmN D) (Gl hj EK);clear XI Uv;by_cases Xi:j<kl
   ·have NL:=Nat.mul_le_mul_left (kmN D) (Gl Xi EK);rw[Nat.mul_succ]at NL;obtain⟨u,hu⟩:∃u,t.ks[j]? =some u:=⟨_,Gn (by rw[<-Tt.out];exact Xi)⟩;have So:=HR.out wr (Xh.out.1.trans Vf.1);obtain⟨bk,ok,A5,q5,K5,r5,L5,s5,rfl,-,hx,XN⟩:=So.kid (i:=j) (u:=u) hu;have y0:=hx 0 _ rfl;have y1:=hx 1 _ rfl;have y2:=hx 2 _ rfl;have y3:=hx 3 _ rfl;have y4:=hx 4 _ rfl;have y5:=hx 5 _ rfl;have y6:=hx 6 _ rfl;simp only[Nat.add_zero,<-Nat.add_assoc]at y0 y1 y2 y3 y4 y5 y6;have i0:(0:Int)<=(j:Int):=by omega
    have i1:(j:Int)<(kl:Int):=by omega
    have i2:(kl:Int)<=(lc:Int):=by have:=So.node.2;have:=Tt.out;omega
    have e2:IntKind.i64.wrap ((j:Int)+1)=(j:Int)+1:=IntWalk.i64_in _ (by omega);have Xc:=Gb wr (.cells #[.int .i64 u.kd,.int .i64 u.rl,.int .i64 u.p.lv,.bool u.p.ng,.slice A5 u.p.ds.length q5,.slice K5 u.p.ks.length r5,.slice L5 u.ks.length s5] 32);have XV:B<=wr.heap.size:=Gl XJ Vf.1.size;have Nc:=Gh (BU.out.old XV Xc);have Ud:=Gh (U5 u (Gk hu) A5 q5 K5 r5 L5 s5 B b (n+62+Yz 5+kmN D*j) _ (Gl XV Xc.size) (XN.below (Xc.mono XV)) (Xm.out.old Xc) (by have:=UO.out;have:=TI.out;omega) (HT _ (Xh.out.1.trans Nc.out.1)));clear So hu XN Xc XV Vf hx;go_wp2_with fail
    refine Ud.out.mono ?_;rintro e w5 ⟨rfl,RN,S3⟩;have RJ:=Gh RN;have Ev:=Gh (Nc.out.trans S3);clear RN S3 Ud Nc y0 y1 y2 y3 y4 y5 y6;go_wp2_with fail
    go_roundg (kl-(j+1))
    case rel=>exact⟨j+1,by omega,rfl,by go_num,RJ.out.mono (by rw[Nat.mul_succ];omega),Ev⟩
    case measure=>have:=HG.out;omega
   ·obtain rfl:j=kl:=by omega
    have Ue:=Gh (yS B b (n+62+Yz 5+kmN D*j) 41 wr Xm (by have:=UO.out;have:=TI.out;omega) (Gl XJ Vf.1.size));clear Vf;go_wp2_with fail
    refine Ue.out.mono ?_;rintro e w5 ⟨rfl,RN,S3⟩;have Xg:=Gh (And.intro (RN.mono (show _<=n+kmN (D+1)by have:=TI.out;omega)) (Xh.out.trans (BU.out.trans S3)));clear RN S3 Ue;go_wp2_with fail
    go_end0
    exact⟨rfl,Xg.out.1,Xg.out.2⟩
theorem QG:∀(D:Nat)(t:MX),KyM D t->∀(A:Oa)(c:Nat)(K:Oa)(kc:Nat)(L:Oa)(lc B b n:Nat)(w:World),B<=w.heap.size->MV w (· <B) t (jn t A c K kc L lc)->BK B b n w->n+kmN D<=10000000000->yF B w->
 Calls Tryz.prog 61 #[.pointer (some ⟨b,0,none⟩),mxv t A c K kc L lc] w (Yv B b (n+kmN D) w)
 |0,_,h,_,_,_,_,_,_,_,_,_,_,_,_,_,_,_=>h.elim
 |D+1,t,h,A,c,K,kc,L,lc,B,b,n,w,hB,hv,hk,hn,ht=>qap D (QG D) t h A c K kc L lc B b n w hB hv hk hn ht
theorem qlj{w:World}{base base' n size:Nat}{e:TypeId}{v:Value}{xs:List Value}(h:w.ownsRow base e size v n xs)(hb:base'<=base):w.ownsRow base' e size v n xs:=by
 refine⟨h.1,?_⟩;rcases h.2 with h|⟨g,cap,cur,h1,h2,h3⟩
 ·exact .inl h
 ·exact .inr ⟨g,cap,cur,h1,Gl hb h2,h3⟩
def KJ(d base j:Nat)(w:World)(v:Value):Prop:=v= .slice none 0 0∨∃Ms,1<=Ms.length/\Ms.length<=j/\JO d base w v Ms
theorem JO.old{d base:Nat}{w w':World}{v:Value}{Ms:List MX}(h:JO d base w v Ms)(hb:Below w.heap.size w w'):JO d base w' v Ms:=by
 obtain⟨h1,rows,h2,h3⟩:=h;refine⟨h1,rows,?_,?_⟩
 ·refine⟨h2.1,?_⟩;rcases h2.2 with h|⟨g,cap,cur,h4,h5,h6,h7⟩
  ·exact .inl h
  ·exact .inr ⟨g,cap,cur,h4,h5,qf.old (show qf w g 32 cur from h6) hb,h7⟩
 ·obtain⟨k1,k2⟩:=yB.keep (w:=w) (w':=w') (base:=base) (base':=base) (fun _ _ k=>k.old hb) (fun _ _ _ k=>k.old hb) (Gr _);exact QE.mono k2 _ _ (QE.keep k1 _ _ h3)
theorem KJ.old{d base j:Nat}{w w':World}{v:Value}(h:KJ d base j w v)(hb:Below w.heap.size w w'):KJ d base j w' v:=by
 rcases h with h|⟨Ms,h1,h2,h3⟩
 ·exact .inl h
 ·exact .inr ⟨Ms,h1,h2,h3.old hb⟩
theorem KJ.more{d base j j':Nat}{w:World}{v:Value}(h:KJ d base j w v)(hj:j<=j'):KJ d base j' w v:=by
 rcases h with h|⟨Ms,h1,h2,h3⟩
 ·exact .inl h
 ·exact .inr ⟨Ms,h1,by omega,h3⟩
theorem qjT(d:Nat)(hd:d<=300)(j:Nat)(hj:j<=1)(v:Value)(M2:MX)(h2:QV d M2)(e2:M2.kd=2)(A2:Oa)(c2:Nat)(K2:Oa)(q2:Nat)(base:Nat)(w:World)(hb:base<=w.heap.size)
 (hv:KJ d base j w v)(r2:RB w base M2.p (qe M2.p A2 c2 K2 q2)):
 Calls Tryz.prog 103 #[v,lfv M2 A2 c2 K2 q2,.func (.func 101) #[] #[]] w (qka d base v.ownBlock j w):=by
 rcases hv with rfl|⟨Ms,h1,hM,hk,rows,ho,hm⟩
 ·refine(qhW M2.kd M2.rl M2.p.lv M2.p.ng A2 M2.p.ds.length c2 K2 M2.p.ks.length q2 _ w).mono ?_;rintro e w' ⟨g,cap,rfl,ho,hw⟩;refine⟨_,true,rfl,⟨hw.os,hw.tape,hw.output,hw.size,fun k hk _=>hw.block k hk⟩,[M2],by simp,by simp,JO.one h2 e2 (L:=none) (lc:=0) (qlj ?_ hb) (r2.old hw)⟩;have:=h2.ks;simpa[jn,this]using ho
 ·obtain⟨M1,rfl⟩:∃M1,Ms=[M1]:=by
   match Ms,h1,hM with
   |[M1],_,_=>exact⟨M1,rfl⟩
   |_::_::_,_,h=>simp at h;omega
  obtain⟨r,rs,rfl,hr,Cq⟩:=hm;obtain rfl:rs=[]:=Cq;have hL:=hk M1 (by simp);obtain⟨kd1,rl1,p1,ks1⟩:=M1;obtain⟨A,c,K,kc,L,lc,rfl,hp,-⟩:=hr;simp only[List.length_singleton,List.flatten_cons,List.flatten_nil,List.append_nil]at ho;obtain⟨g,cap,rfl,-,-⟩:=ho.form (by omega);have e2':=h2.ks;have hs:(lfv M2 A2 c2 K2 q2)=mxv M2 A2 c2 K2 q2 none 0:=by simp[e2']
  rw[hs];obtain rfl:j=1:=by simp at hM;omega
  exact qir d hd (.mk kd1 rl1 p1 ks1) M2 hL.1 h2 hL.2 e2 A c K kc L lc A2 c2 K2 q2 none 0 base g cap w hb ho hp r2
def GuR(w:World)(e:Ending)(w':World):Prop:=∃M,KyM 3 M/\qku M w e w'
theorem QV.ky{d:Nat}{M:MX}(hd:d<=100)(h:QV d M):∀D,KyM (D+1) M:=by
 intro D;have hk:=h.kd;refine⟨⟨by omega,by omega,h.rl.1,by have:=h.rl.2;omega⟩,h.can,h.lw.mono hd (by omega),by rw[h.ks];simp,by rw[h.ks];simp⟩
theorem QT{w V:World}{g base:Nat}{M:MX}{A K L:Oa}{c kc lc:Nat}(hg:g<base)(hM:KyM 3 M)(hk:qf V g 32 #[.int .i64 0,.int .i64 0,.int .i64 0,.bool false,.slice none 0 0,.slice none 0 0,.slice none 0 0])
 (hr:MV V (OkM V base none) M (jn M A c K kc L lc))(hw:w.heap.size<=g)(hb:Below w.heap.size w V):
 qf (set7 V g (.int .i64 M.kd) (.int .i64 M.rl) (.int .i64 M.p.lv) (.bool M.p.ng) (.slice A M.p.ds.length c) (.slice K M.p.ks.length kc) (.slice L M.ks.length lc)) g 32 #[.int .i64 M.kd,.int .i64 M.rl,.int .i64 M.p.lv,.bool M.p.ng,.slice A M.p.ds.length c,.slice K M.p.ks.length kc,.slice L M.ks.length lc]/\
 GuR w (.returned (mxv M A c K kc L lc)) (set7 V g (.int .i64 M.kd) (.int .i64 M.rl) (.int .i64 M.p.lv) (.bool M.p.ng) (.slice A M.p.ds.length c) (.slice K M.p.ks.length kc) (.slice L M.ks.length lc)):=
 ⟨(qe0 hk hr hg hw hb).1,M,hM,(qe0 hk hr hg hw hb).2⟩
theorem KJ.grown{d base j:Nat}{w0 w w':World}{v:Value}(h:KJ d base j w v)(hg:w.grownBy w' v.ownBlock)(hb:Below base w0 w)(hz:base<=w.heap.size):Below base w0 w':=by
 refine⟨hg.os.trans hb.os,hg.tape.trans hb.tape,hg.output.trans hb.output,Gl hb.size hg.size,fun k hk=>(hg.block k (by omega) ?_).trans (hb.block k hk)⟩;rcases h with rfl|⟨Ms,_,_,_,rows,ho,_⟩
 ·simp[Value.ownBlock]
 ·intro he;have:=(ho.lt k he.symm).1;omega
def Zf(d:Nat)(w:World)(gk:Nat)(j:Nat):Prop:=∃(M:MX)(A:Oa)(c:Nat)(K:Oa)(kc:Nat),QV d M/\RV w (· <w.heap.size) M.p (qe M.p A c K kc)/\gk<w.heap.size/\
 w.cell? ⟨gk,j*7,none⟩=some (.int .i64 M.kd)/\w.cell? ⟨gk,j*7+1,none⟩=some (.int .i64 M.rl)/\w.cell? ⟨gk,j*7+2,none⟩=some (.int .i64 M.p.lv)/\w.cell? ⟨gk,j*7+3,none⟩=some (.bool M.p.ng)/\
 w.cell? ⟨gk,j*7+4,none⟩=some (.slice A M.p.ds.length c)/\w.cell? ⟨gk,j*7+5,none⟩=some (.slice K M.p.ks.length kc)/\w.cell? ⟨gk,j*7+6,none⟩=some (.slice none 0 0)
theorem Zf.old{d:Nat}{w w':World}{gk j:Nat}(h:Zf d w gk j)(hb:Below w.heap.size w w'):Zf d w' gk j:=by
 obtain⟨M,A,c,K,kc,h1,h2,h3,x0,x1,x2,x3,x4,x5,x6⟩:=h;exact⟨M,A,c,K,kc,h1,RV.mono (fun b h=>Gm h hb.size) _ _ (h2.below hb),Gm h3 hb.size,(hb.cell h3).trans x0,(hb.cell h3).trans x1,(hb.cell h3).trans x2,(hb.cell h3).trans x3,(hb.cell h3).trans x4,(hb.cell h3).trans x5,(hb.cell h3).trans x6⟩
theorem JO.ge{d base g cap n:Nat}{w:World}{Ms:List MX}(h:JO d base w (.slice (some ⟨g,0,none⟩) n cap) Ms):base<=g/\g<w.heap.size/\∃cur,qf w g 32 cur:=by
 obtain⟨_,rows,ho,_⟩:=h;have h1:=ho.lt g rfl;refine⟨h1.1,h1.2,?_⟩;rcases ho.2 with⟨h,_⟩|⟨g',cap',cur,hv,_,hh,_⟩
 ·cases h
 ·injection hv with hv
  injection hv with hv
  injection hv with hv
  subst hv;exact⟨cur,hh⟩
theorem JO.get1{d base:Nat}{w:World}{v:Value}{M:MX}(hd:d<=100)(h:JO d base w v [M]):∃g cap A c K kc L lc,v= .slice (some ⟨g,0,none⟩) 1 cap/\
 (w.cell? ⟨g,0,none⟩=some (.int .i64 M.kd)/\w.cell? ⟨g,1,none⟩=some (.int .i64 M.rl)/\w.cell? ⟨g,2,none⟩=some (.int .i64 M.p.lv)/\w.cell? ⟨g,3,none⟩=some (.bool M.p.ng)/\
   w.cell? ⟨g,4,none⟩=some (.slice A M.p.ds.length c)/\w.cell? ⟨g,5,none⟩=some (.slice K M.p.ks.length kc)/\w.cell? ⟨g,6,none⟩=some (.slice L M.ks.length lc))/\
 MV w (yB w base) M (jn M A c K kc L lc)/\KyM 3 M:=by
 obtain⟨h1,rows,ho,hm⟩:=h;obtain⟨r,rs,rfl,hr,Cq⟩:=hm;obtain rfl:rs=[]:=Cq;have hL:=(h1 M (by simp)).1.ky hd 2;have TB:=hr;obtain⟨kd1,rl1,p1,ks1⟩:=M;obtain⟨A,c,K,kc,L,lc,rfl,-⟩:=hr;simp only[List.length_singleton,List.flatten_cons,List.flatten_nil,List.append_nil]at ho;obtain⟨g,cap,rfl,-,-⟩:=ho.form (by omega);have hc:=fun j u hu=>ho.cells (g:=g) rfl j u hu;exact⟨g,cap,A,c,K,kc,L,lc,rfl,⟨hc 0 _ rfl,hc 1 _ rfl,hc 2 _ rfl,hc 3 _ rfl,hc 4 _ rfl,hc 5 _ rfl,hc 6 _ rfl⟩,TB,hL⟩
theorem JO.get2{d base:Nat}{w:World}{v:Value}{M1 M2:MX}(hd:d<=100)(h:JO d base w v [M1,M2]):∃g cap,v= .slice (some ⟨g,0,none⟩) 2 cap/\
 MV w (fun b=>yB w base b∨b=g) (.mk 3 0 qh [M1,M2]) (jn (.mk 3 0 qh [M1,M2]) none 0 none 0 (some ⟨g,0,none⟩) cap)/\KyM 3 (.mk 3 0 qh [M1,M2]):=by
 obtain⟨h1,rows,ho,hm⟩:=h;have Wd:=(h1 M1 (by simp)).1.ky hd 1;have hL2:=(h1 M2 (by simp)).1.ky hd 1;simp only[List.length_cons,List.length_nil]at ho;obtain⟨g,cap,rfl,-,-⟩:=ho.form (by omega);have UP:2<=cap:=by
  rcases ho.2 with⟨_,h⟩|⟨g',cap',cur,hv,_,_,hc,_⟩
  ·omega
  ·injection hv with _ _ hv;omega
 refine⟨g,cap,rfl,?_,⟨⟨show(0:Int)<=3 by decide,show(3:Int)<=10 by decide,show(0:Int)<=0 by decide,show(0:Int)<=10 by decide⟩,show qv qh=true by decide,qN.zero _ _,by simp[MX.ks],?_⟩⟩
 ·unfold MV;refine⟨none,0,none,0,some ⟨g,0,none⟩,cap,rfl,RT.zero,UP,rows,⟨ho.1,fun _=>⟨g,0,rfl,.inr rfl,fun j u hu=>by have:=ho.cells (g:=g) rfl j u hu;rwa[Addr.add_lit]at this⟩⟩,QE.mono (fun b hb=> .inl hb) _ _ hm⟩
 ·intro u hu;simp only[MX.ks,List.mem_cons,List.not_mem_nil,or_false]at hu;rcases hu with rfl|rfl
  ·exact Wd
  ·exact hL2
theorem qew(d:Nat)(hd:d+1<=100)(gq:Nat)(w:World)(hk:∀j,j<2->Zf d w gq j):
 Calls Tryz.prog 78 #[.agg #[.int .i64 3,.int .i64 0,.int .i64 0,.bool false,.slice none 0 0,.slice none 0 0,.slice (some ⟨gq,0,none⟩) 2 2]] w (GuR w):=by
 obtain⟨Xb,k0,k1,hs⟩:=qR w 32 32 #[.int .i64 3,.int .i64 0,.int .i64 0,.bool false,.slice none 0 0,.slice none 0 0,.slice (some ⟨gq,0,none⟩) 2 2] Gy;have Xd:=Gh Xb;have Xo:=Gh k0;have Xu:=Gh k1;have XJ:=Gh hs;have DM:=Gh (fun j hj=>(hk j hj).old Xb);obtain⟨x0,x1,x2,x3⟩:=G4 k0;have x4:=k0.cell 4;have x5:=k0.cell 5;have x6:=k0.cell 6;clear k0 k1 Xb hs hk;go_enter Tryz.func78,Tryz.ntmps78
 go_upto_region 1 with(fail)
 generalize (w.alloc (.cells #[.int .i64 3,.int .i64 0,.int .i64 0,.bool false,.slice none 0 0,.slice none 0 0,.slice (some ⟨gq,0,none⟩) 2 2] 32)).alloc (.cells Gy 32)=W at*;go_wp2_with fail
 clear x0 x1 x2 x3 x4 x5 x6;go_loopg [6,20] 2 (fun gn v ix wr=>∃j:Nat,j<=2/\gn=2-j/\ix= .int .i64 j/\Below W.heap.size W wr/\KJ (d+1) W.heap.size j wr v)
 case atStart=>exact⟨0,by omega,rfl,rfl,Below.refl _ _,.inl rfl⟩
 case round=>
  obtain⟨j,hj,XI,rfl,Xe,hkj⟩:=hrel;generalize u6=v at*;have Xh:=Gh Xe;have Ih:=Gh hkj;have SZ:=Gh XI;clear XI hkj;by_cases Xi:j<2
  ·obtain⟨M,Am,cm,Km,kcm,hM,UD,FH,z0,z1,z2,z3,z4,z5,z6⟩:=(DM j Xi).old Xe;have i0:(0:Int)<=(j:Int):=by omega
   have i1:(j:Int)<2:=by omega
   have Xc:=Gb wr (.cells #[.int .i64 M.kd,.int .i64 M.rl,.int .i64 M.p.lv,.bool M.p.ng,.slice Am M.p.ds.length cm,.slice Km M.p.ks.length kcm,.slice none 0 0] 32);have XZ:=Gh (Gt Xe Xc);have RJ:=Gh (qf.new wr 32 #[.int .i64 M.kd,.int .i64 M.rl,.int .i64 M.p.lv,.bool M.p.ng,.slice Am M.p.ds.length cm,.slice Km M.p.ks.length kcm,.slice none 0 0]);have HJ5:=Gh (Ih.out.old Xc);have TX:=Gh (fun(X:World)(hX:X=wr.alloc (.cells #[.int .i64 M.kd,.int .i64 M.rl,.int .i64 M.p.lv,.bool M.p.ng,.slice Am M.p.ds.length cm,.slice Km M.p.ks.length kcm,.slice none 0 0] 32))=>qke d (by omega) M hM Am cm Km kcm wr.heap.size X (by rw[hX];exact Xc.size) (by rw[hX];exact UD.below Xc));have hHW:=TX.out _ rfl;have PZ:=Gh hHW;clear Xc Xe UD hM hHW TX;go_upto_region 8 with(fail)
   generalize wr.alloc (.cells #[.int .i64 M.kd,.int .i64 M.rl,.int .i64 M.p.lv,.bool M.p.ng,.slice Am M.p.ds.length cm,.slice Km M.p.ks.length kcm,.slice none 0 0] 32)=W5 at*;generalize wr.heap.size=g5 at*;clear z0 z1 z2 z3 z4 z5 z6;obtain⟨z0,z1,z2,z3⟩:=G4 RJ.out;have z4:=RJ.out.cell 4;have z5:=RJ.out.cell 5;have z6:=RJ.out.cell 6;go_wp2_with fail
   refine PZ.out.mono ?_;rintro e w6 ⟨M',AZ,-,A',c',K',kc',rfl,TB,XY⟩;have TL:=Gh (Gt XZ XY);have HJ6:=Gh (HJ5.out.old XY);have FM:=Gh (TB.mono XZ.out.size);have HL6:=Gh AZ;have EJ:=AZ.kd;have SN:=AZ.ks;clear XY TB AZ PZ z0 z1 z2 z3 z4 z5 z6;obtain⟨kd',rl',p',ks'⟩:=M';obtain rfl:ks'=[]:=SN;have Bu:=Gh (show kd'=0∨kd'=1∨kd'=2 from EJ);clear EJ;dsimp only[lfv,MX.kd,MX.rl,MX.p];obtain⟨Xc,ka,kb,Om⟩:=qR w6 32 32 #[.int .i64 kd',.int .i64 rl',.int .i64 p'.lv,.bool p'.ng,.slice A' p'.ds.length c',.slice K' p'.ks.length kc',.slice none 0 0] #[.int .i64 kd',.int .i64 rl',.int .i64 p'.lv,.bool p'.ng,.slice A' p'.ds.length c',.slice K' p'.ks.length kc',.slice none 0 0];have RY:=Gh (Gt TL Xc);have E0:=Gh ka;have Sg:=Gh kb;have HJ8:=Gh (HJ6.out.old Xc);have O7:=Gh (FM.out.old Xc);clear Xc ka kb Om;go_upto_region 9 with(fail)
   go_upto_region 10 with(fail)
   generalize (w6.alloc (.cells #[.int .i64 kd',.int .i64 rl',.int .i64 p'.lv,.bool p'.ng,.slice A' p'.ds.length c',.slice K' p'.ks.length kc',.slice none 0 0] 32)).alloc (.cells #[.int .i64 kd',.int .i64 rl',.int .i64 p'.lv,.bool p'.ng,.slice A' p'.ds.length c',.slice K' p'.ks.length kc',.slice none 0 0] 32)=W8 at*;generalize w6.heap.size=g8 at*;obtain⟨z0,z1,z2,z3⟩:=G4 (E0);have z4:=(E0).cell 4;have z5:=(E0).cell 5;have z6:=(E0).cell 6;go_upto_region 11 with(fail)
   rcases Bu.out with rfl|rfl|rfl
   ·clear Bu;have Xm:=Gh (Xu.out.old RY);have Xg:=Gh (show qf (set7 W8 (w.heap.size+1) (.int .i64 0) (.int .i64 0) (.int .i64 0) (.bool false) (.slice none 0 0) (.slice none 0 0) (.slice none 0 0)) (w.heap.size+1) 32 Gy/\GuR w (.returned (.agg Gy)) (set7 W8 (w.heap.size+1) (.int .i64 0) (.int .i64 0) (.int .i64 0) (.bool false) (.slice none 0 0) (.slice none 0 0) (.slice none 0 0))from QT (M:= .mk 0 0 qh []) (A:=none) (c:=0) (K:=none) (kc:=0) (L:=none) (lc:=0) (base:=W.heap.size) (by have:=XJ.out;omega) ((QV.tf 1 false).ky (by omega) 2) Xm (MV.leafG rfl RT.zero) (Nat.le_succ _) (Gt Xd RY));unfold set7 at Xg;obtain⟨d0,d1,d2,d3⟩:=G4 (Xm);have d4:=(Xm).cell 4;have d5:=(Xm).cell 5;have d6:=(Xm).cell 6;have f0:=(Xm).frozen 0;have f1:=(Xm).frozen 1;have f2:=(Xm).frozen 2;have f3:=(Xm).frozen 3;have f4:=(Xm).frozen 4;have f5:=(Xm).frozen 5;have f6:=(Xm).frozen 6;have zl:=Xm.out.lt;clear z0 z1 z2 z3 z4 z5 z6;go_wp2_with fail
    exact qo Tryz.results78 rfl rfl Xg.out.1 Tryz.underlying32 rfl Tryz.sizeMat Xg.out.2
   ·clear Bu z0 z1 z2 z3 z4 z5 z6;go_wp2_with fail
    go_roundg (2-(j+1))
    case rel=>exact⟨j+1,by omega,by omega,by go_num,RY,HJ8.out.more (by omega)⟩
    case measure=>have:=SZ.out;omega
   ·clear Bu;have x0:=(Xo.out.old RY).cell 0;go_wp2_with fail
    clear x0 z0 z1 z2 z3 z4 z5 z6;go_loopg [6,46] 1 (fun gn v' ix X=>∃i:Nat,i<=1/\gn=1-i/\ix= .int .i64 i/\(i=0->W8=X/\v=v')/\(i=1->Below W.heap.size W X/\KJ (d+1) W.heap.size (j+1) X v'))
    case atStart=>exact⟨0,by omega,rfl,rfl,fun _=>⟨rfl,rfl⟩,fun h=>absurd h (by decide)⟩
    case round=>
     obtain⟨i,hi,RA,rfl,XU,X7⟩:=hrel;by_cases LR:i<1
     ·obtain rfl:i=0:=by omega
      obtain⟨rfl,rfl⟩:=XU rfl;have HGI:=Gh RA;clear XU X7 RA;have Xc:=Gb W8 (.cells #[.int .i64 2,.int .i64 rl',.int .i64 p'.lv,.bool p'.ng,.slice A' p'.ds.length c',.slice K' p'.ks.length kc',.slice none 0 0] 32);have FB:=Gh (Gt RY Xc);have B8:=Gh (qf.new W8 32 #[.int .i64 2,.int .i64 rl',.int .i64 p'.lv,.bool p'.ng,.slice A' p'.ds.length c',.slice K' p'.ks.length kc',.slice none 0 0]);have HJ9:=Gh (HJ8.out.old Xc);have Rl:=Gh (show Calls Tryz.prog 103 #[v,.agg #[.int .i64 2,.int .i64 rl',.int .i64 p'.lv,.bool p'.ng,.slice A' p'.ds.length c',.slice K' p'.ks.length kc',.slice none 0 0],.func (.func 101) #[] #[]] (W8.alloc (.cells #[.int .i64 2,.int .i64 rl',.int .i64 p'.lv,.bool p'.ng,.slice A' p'.ds.length c',.slice K' p'.ks.length kc',.slice none 0 0] 32)) (qka (d+1) W.heap.size v.ownBlock j (W8.alloc (.cells #[.int .i64 2,.int .i64 rl',.int .i64 p'.lv,.bool p'.ng,.slice A' p'.ds.length c',.slice K' p'.ks.length kc',.slice none 0 0] 32)))from qjT (d+1) (by omega) j (by omega) v (.mk 2 rl' p' []) HL6 rfl A' c' K' kc' W.heap.size _ FB.out.size HJ9 (O7.out.old Xc));clear Xc;obtain⟨z0,z1,z2,z3⟩:=G4 (Sg);have z4:=(Sg).cell 4;have z5:=(Sg).cell 5;have z6:=(Sg).cell 6;go_upto_region 19 with(fail)
      generalize W8.alloc (.cells #[.int .i64 2,.int .i64 rl',.int .i64 p'.lv,.bool p'.ng,.slice A' p'.ds.length c',.slice K' p'.ks.length kc',.slice none 0 0] 32)=W9 at*;generalize W8.heap.size=ga at*;clear z0 z1 z2 z3 z4 z5 z6;obtain⟨z0,z1,z2,z3⟩:=G4 (B8);have z4:=(B8).cell 4;have z5:=(B8).cell 5;have z6:=(B8).cell 6;go_wp2_with fail
      refine Rl.out.mono ?_;rintro e W10 ⟨v2,x,rfl,hg,Ms,TC,VY,FG⟩;have Rr:=HJ9.out.grown hg FB FB.out.size;have Ch:=Gh Rr;have Ma:=Gh (show KJ (d+1) W.heap.size (j+1) W10 v2 from .inr ⟨Ms,TC,VY,FG⟩);clear hg TC VY FG Rr Rl z0 z1 z2 z3 z4 z5 z6
      cases x
      case false=>
       have Xm:=Gh (Xu.out.old Ch);have Xg:=Gh (show qf (set7 W10 (w.heap.size+1) (.int .i64 0) (.int .i64 0) (.int .i64 0) (.bool false) (.slice none 0 0) (.slice none 0 0) (.slice none 0 0)) (w.heap.size+1) 32 Gy/\GuR w (.returned (.agg Gy)) (set7 W10 (w.heap.size+1) (.int .i64 0) (.int .i64 0) (.int .i64 0) (.bool false) (.slice none 0 0) (.slice none 0 0) (.slice none 0 0))from QT (M:= .mk 0 0 qh []) (A:=none) (c:=0) (K:=none) (kc:=0) (L:=none) (lc:=0) (base:=W.heap.size) (by have:=XJ.out;omega) ((QV.tf 1 false).ky (by omega) 2) Xm (MV.leafG rfl RT.zero) (Nat.le_succ _) (Gt Xd Ch));unfold set7 at Xg;obtain⟨d0,d1,d2,d3⟩:=G4 (Xm);have d4:=(Xm).cell 4;have d5:=(Xm).cell 5;have d6:=(Xm).cell 6;have f0:=(Xm).frozen 0;have f1:=(Xm).frozen 1;have f2:=(Xm).frozen 2;have f3:=(Xm).frozen 3;have f4:=(Xm).frozen 4;have f5:=(Xm).frozen 5;have f6:=(Xm).frozen 6;have zl:=Xm.out.lt;go_wp2_with fail
       exact qo Tryz.results78 rfl rfl Xg.out.1 Tryz.underlying32 rfl Tryz.sizeMat Xg.out.2
      case true=>
       go_wp2_with fail
       go_roundg 0
       case rel=>exact⟨1,by omega,by omega,by go_num,fun h=>absurd h (by decide),fun _=>⟨Ch,Ma⟩⟩
       case measure=>have:=HGI.out;omega
     ·obtain rfl:i=1:=by omega
      obtain⟨Sb,LO⟩:=X7 rfl;have Ch:=Gh Sb;have Ma:=Gh LO;clear XU X7 RA Sb LO;go_wp2_with fail
      go_roundg (2-(j+1))
      case rel=>exact⟨j+1,by omega,by omega,by go_num,Ch,Ma⟩
      case measure=>have:=SZ.out;omega
  ·obtain rfl:j=2:=by omega
   have Th:=(Xo.out.old Xe).cell 0;rcases Ih.out with rfl|⟨Ms,TC,VY,FG⟩
   ·clear Ih Th;have Xm:=Gh (Xu.out.old Xh);have Xg:=Gh (show qf (set7 wr (w.heap.size+1) (.int .i64 1) (.int .i64 0) (.int .i64 0) (.bool false) (.slice none 0 0) (.slice none 0 0) (.slice none 0 0)) (w.heap.size+1) 32 #[.int .i64 1,.int .i64 0,.int .i64 0,.bool false,.slice none 0 0,.slice none 0 0,.slice none 0 0]/\GuR w (.returned (.agg #[.int .i64 1,.int .i64 0,.int .i64 0,.bool false,.slice none 0 0,.slice none 0 0,.slice none 0 0])) (set7 wr (w.heap.size+1) (.int .i64 1) (.int .i64 0) (.int .i64 0) (.bool false) (.slice none 0 0) (.slice none 0 0) (.slice none 0 0))from QT (M:= .mk 1 0 qh []) (A:=none) (c:=0) (K:=none) (kc:=0) (L:=none) (lc:=0) (base:=W.heap.size) (by have:=XJ.out;omega) ((QV.tf 1 true).ky (by omega) 2) Xm (MV.leafG rfl RT.zero) (Nat.le_succ _) (Gt Xd Xh));unfold set7 at Xg;obtain⟨d0,d1,d2,d3⟩:=G4 (Xm);have d4:=(Xm).cell 4;have d5:=(Xm).cell 5;have d6:=(Xm).cell 6;have f0:=(Xm).frozen 0;have f1:=(Xm).frozen 1;have f2:=(Xm).frozen 2;have f3:=(Xm).frozen 3;have f4:=(Xm).frozen 4;have f5:=(Xm).frozen 5;have f6:=(Xm).frozen 6;have zl:=Xm.out.lt;clear Xe;go_wp2_with fail
    exact qo Tryz.results78 rfl rfl Xg.out.1 Tryz.underlying32 rfl Tryz.sizeMat Xg.out.2
   ·clear Ih
    match Ms,TC,VY,FG with
    |[M1],_,_,FG=>
     obtain⟨g,cap,A',c',K',kc',L',lc',rfl,hx,R5,Rn⟩:=FG.get1 (by omega);have Xm:=Gh (Xu.out.old Xe);have Xg:=Gh (QT (base:=W.heap.size) (by have:=XJ.out;omega) Rn Xm (MV.mono (fun b hb=> .inl hb) _ _ R5) (Nat.le_succ _) (Gt Xd Xe));obtain⟨x0,x1,x2,x3,x4,x5,x6⟩:=hx;obtain⟨d0,d1,d2,d3⟩:=G4 (Xm);have d4:=(Xm).cell 4;have d5:=(Xm).cell 5;have d6:=(Xm).cell 6;have f0:=(Xm).frozen 0;have f1:=(Xm).frozen 1;have f2:=(Xm).frozen 2;have f3:=(Xm).frozen 3;have f4:=(Xm).frozen 4;have f5:=(Xm).frozen 5;have f6:=(Xm).frozen 6;have zl:=Xm.out.lt;clear Xe R5 Rn FG Th;go_wp2_with fail
     exact qo Tryz.results78 rfl rfl Xg.out.1 Tryz.underlying32 rfl Tryz.sizeMat Xg.out.2
    |[M1,M2],_,_,FG=>
     obtain⟨g,cap,rfl,R5,Rn⟩:=FG.get2 (by omega);have Xm:=Gh (Xu.out.old Xe);have Xg:=Gh (QT (base:=W.heap.size) (by have:=XJ.out;omega) Rn Xm (MV.mono (fun b hb=>hb.elim .inl fun e=> .inr ⟨by rw[e];exact FG.ge.1,by simp,by rw[e];exact FG.ge.2.2⟩) _ _ R5) (Nat.le_succ _) (Gt Xd Xe));obtain⟨d0,d1,d2,d3⟩:=G4 (Xm);have d4:=(Xm).cell 4;have d5:=(Xm).cell 5;have d6:=(Xm).cell 6;have f0:=(Xm).frozen 0;have f1:=(Xm).frozen 1;have f2:=(Xm).frozen 2;have f3:=(Xm).frozen 3;have f4:=(Xm).frozen 4;have f5:=(Xm).frozen 5;have f6:=(Xm).frozen 6;have zl:=Xm.out.lt;clear Xe R5 Rn FG;go_wp2_with fail
     exact qo Tryz.results78 rfl rfl Xg.out.1 Tryz.underlying32 rfl Tryz.sizeMat Xg.out.2
    |_::_::_::_,_,h,_=>exact absurd h (by simp)
theorem qhS(d:Nat)(hd:d+1<=100)(gq:Nat)(w:World)(hk:∀j,j<2->Zf d w gq j):
 Calls Tryz.prog 38 #[.agg #[.int .i64 3,.int .i64 0,.int .i64 0,.bool false,.slice none 0 0,.slice none 0 0,.slice (some ⟨gq,0,none⟩) 2 2]] w (GuR w):=by
 obtain⟨Xb,k0,k1,hs⟩:=qR w 32 32 #[.int .i64 3,.int .i64 0,.int .i64 0,.bool false,.slice none 0 0,.slice none 0 0,.slice (some ⟨gq,0,none⟩) 2 2] Gy;have Xd:=Gh Xb;have Xu:=Gh k1;have XJ:=Gh hs;have HJ:=Gh (qew d hd gq _ (fun j hj=>(hk j hj).old Xb));obtain⟨x0,x1,x2,x3⟩:=G4 k0;have x4:=k0.cell 4;have x5:=k0.cell 5;have x6:=k0.cell 6;clear k0 k1 Xb hs hk;go_enter Tryz.func38,Tryz.ntmps38
 go_upto_region 1 with(fail)
 generalize (w.alloc (.cells #[.int .i64 3,.int .i64 0,.int .i64 0,.bool false,.slice none 0 0,.slice none 0 0,.slice (some ⟨gq,0,none⟩) 2 2] 32)).alloc (.cells Gy 32)=W at*;go_wp2_with fail
 refine HJ.out.mono ?_;rintro e w1 ⟨M,Rn,A,c,K,kc,L,lc,rfl,R5,Xp⟩;have Xm:=Gh (Xu.out.old Xp);have Xg:=Gh (QT (by have:=XJ.out;omega) Rn Xm R5 (Nat.le_succ _) (Gt Xd Xp));obtain⟨d0,d1,d2,d3⟩:=G4 Xm.out;have d4:=Xm.out.cell 4;have d5:=Xm.out.cell 5;have d6:=Xm.out.cell 6;have f0:=Xm.out.frozen 0;have f1:=Xm.out.frozen 1;have f2:=Xm.out.frozen 2;have f3:=Xm.out.frozen 3;have f4:=Xm.out.frozen 4;have f5:=Xm.out.frozen 5;have f6:=Xm.out.frozen 6;have zl:=Xm.out.lt;clear R5 Rn Xp HJ x0 x1 x2 x3 x4 x5 x6;go_wp2_with fail
 exact qo Tryz.results38 rfl rfl Xg.out.1 Tryz.underlying32 rfl Tryz.sizeMat Xg.out.2
theorem qak(dg:Nat)(Xr:dg<=500)(k:Int)(Xx:0<k)(Xj:k<=4)(t:RP)(hf:yz dg t)(Ul:yz dg (qn t))(i:Nat)(hi:i<=1000)
 (A:Oa)(c:Nat)(K:Oa)(kc B:Nat)(w:World)(hB:B<=w.heap.size)(h:RV w (· <B) t (qe t A c K kc)):
 Calls Tryz.prog 18 #[qm t A c K kc,.int .i64 k,.int .i64 (i:Int)] w (qS ((qD k t).getD i qh) w):=by
 obtain⟨Xb,k0,k1,hs⟩:=qR w 28 28 (Gx t A c K kc) Gz;have HC:=Gh (fun(W:World)(hW:Below w.heap.size w W)=>JM dg Xr k Xx Xj t hf Ul A c K kc B W (Gl hB hW.size) (h.below (hW.mono hB)));have BT:=Gh (fun(hz:qI (qn t)=true)=>show qD k t=[]by unfold qD;rw[if_pos hz]);unfold Yg at HC;have Xu:=Gh k1;have Xd:=Gh Xb;have Xo:=Gh k0;have VB:=Gh (fun(T:RP)(e:(qD k t).getD i qh=T)(E:Ending)(W':World)(hr:qS T w E W')=>show qS ((qD k t).getD i qh) w E W' by rw[e];exact hr);unfold qm at HC ⊢;clear h hf Ul hB Xb k0 k1 hs;go_enter Tryz.func18,Tryz.ntmps18
 go_upto_region 1 with(fail)
 generalize (w.alloc (.cells (Gx t A c K kc) 28)).alloc (.cells Gz 28)=W at*;obtain⟨x0,x1,x2,x3⟩:=G4 Xo.out;go_wp2_with fail
 refine(HC W Xd).mono ?_;rintro e w2 ⟨U0,Xf,Ry⟩;clear x0 x1 x2 x3 HC;have kk:=Xu.out.old Xf;have Xw:=Gh (Gt Xd Xf);have AM:w.heap.size+1<W.heap.size:=Xu.out.lt;obtain⟨d0,d1,d2,d3⟩:=G4 kk;obtain⟨f0,f1,f2,f3,z0⟩:=G5 kk;have Il:=Gh (jj kk rfl (RB.zero (base:=w.heap.size+1+1)) (Nat.lt_succ_self _) (by omega) Xw);have Tt:=Gh kk;clear kk U0 Xf;have i0:(0:Int)<=(i:Int):=by omega
 have i0':¬(i:Int)<0:=by omega
 rcases Ry with⟨hz,rfl⟩|⟨hz,-,g,cur,rows,hg,rfl,Ua⟩
 ·have hT:=VB.out qh (by rw[BT hz];rfl);have HT:=Gh hT;clear hz hT;go_wp2_with fail
  exact qo Tryz.results18 rfl rfl Il.out.1 Tryz.underlying28 rfl Tryz.sizeRec (HT _ _ Il.out.2)
 ·clear hz BT;by_cases Xi:i<(qD k t).length
  ·obtain⟨u,hu⟩:∃u,(qD k t)[i]? =some u:=⟨_,Gn Xi⟩;obtain⟨A3,q3,K3,r3,x0,x1,x2,x3,S4⟩:=Ua.get hu;have HT:=Gh (VB u (getD_some qh hu));have Xg:=Gh (jj Tt rfl (base:=g+1) S4 (by omega) (by omega) Xw);unfold qm at Xg;have i2:(i:Int)<((qD k t).length:Int):=by omega
   have i3:¬((qD k t).length:Int)<=(i:Int):=by omega
   clear S4 Ua hu VB Xi;generalize (qD k t).length=n at*;generalize u.ds.length=ud at*;generalize u.ks.length=uk at*;generalize u.ng=ug at*;generalize u.lv=ul at*;go_wp2_with fail
   exact qo Tryz.results18 rfl rfl Xg.out.1 Tryz.underlying28 rfl Tryz.sizeRec (HT _ _ Xg.out.2)
  ·have HT:=Gh (VB qh (by rw[List.getD_eq_getElem?_getD,List.getElem?_eq_none (by omega)];rfl));have i3:((qD k t).length:Int)<=(i:Int):=by omega
   clear Ua VB Xi;generalize (qD k t).length=n at*;go_wp2_with fail
   exact qo Tryz.results18 rfl rfl Il.out.1 Tryz.underlying28 rfl Tryz.sizeRec (HT _ _ Il.out.2)
def Zq(k:Int)(d n:Nat)(w:World)(e:Ending)(w':World):Prop:=∃T A c K kc,Vp k d n T/\e= .returned (qm T A c K kc)/\RB w' w.heap.size T (qe T A c K kc)/\Below w.heap.size w w'
theorem qS.v{k:Int}{d n:Nat}{T:RP}{w w':World}{e:Ending}(h:qS T w e w')(hv:Vp k d n T):Zq k d n w e w':=by
 obtain⟨A,c,K,kc,h1,h2,h3⟩:=h;exact⟨T,A,c,K,kc,hv,h1,h2,h3⟩
theorem qkI{k:Int}(hk:0<k){z:Int}(hz:z.natAbs<=1):Vp k 1 0 (jy z):=by
 refine⟨Qb z,?_,?_,qF.cst z⟩
 ·have:=qK (v:=z.natAbs) (n:=1) (by omega);exact qN.mk this (by simp) (by simp)
 ·rw[jc];exact⟨by show(0:Int)≠k;omega,by simp[jy,RP.ks]⟩
section
variable {k:Int} {d d1 d2 n n1 n2:Nat} {p q:RP} {V:World} {A K Aq Kq:Oa} {c kc cq kq:Nat}
theorem qdI(hk:0<k)(Xj:k<=4)(hp:Vp k d1 n1 p)(hq:Vp k d2 n2 q)(hd:d1+d2+4<=400)(hn:n1+n2<=32)(h1:RV V (· <V.heap.size) p (qe p A c K kc))(h2:RV V (· <V.heap.size) q (qe q Aq cq Kq kq)):
 Calls Tryz.prog 44 #[qm p A c K kc,qm q Aq cq Kq kq] V (Zq k (d1+d2+4) (n1+n2) V):=by
 have Rg:=qQ hp.can;have RL:=qQ hq.can;refine(qdK 400 (by omega) p q (hp.q hk Xj (by omega) (by omega)).fit (hq.q hk Xj (by omega) (by omega)).fit (by rw[Rg];exact hp.big (by omega) (by omega)) (by rw[RL];exact hq.big (by omega) (by omega)) A c K kc Aq cq Kq kq V.heap.size V (Gr _) h1 h2).mono ?_;rintro e w' ⟨T,hm,-,-,hr⟩;rw[Rg,RL]at hm;exact hr.v (hp.mul hk hq hm (by omega))
theorem qhb(hk:0<k)(Xj:k<=4)(hp:Vp k d n p)(hq:Vp k d n q)(hd:d+2<=400)(hn:n<=32)(h1:RV V (· <V.heap.size) p (qe p A c K kc))(h2:RV V (· <V.heap.size) q (qe q Aq cq Kq kq)):
 Calls Tryz.prog 43 #[qm p A c K kc,qm q Aq cq Kq kq] V (Zq k (d+2) n V):=by
 have Rg:=qQ hp.can;have RL:=qQ hq.can;refine(qcM 400 (by omega) p q (hp.q hk Xj (by omega) (by omega)).fit (hq.q hk Xj (by omega) (by omega)).fit (by rw[Rg];exact hp.big (by omega) (by omega)) (by rw[RL];exact hq.big (by omega) (by omega)) A c K kc Aq cq Kq kq V.heap.size V (Gr _) h1 h2).mono ?_;rintro e w' ⟨-,-,hr⟩;rw[Rg,RL]at hr;exact hr.v (hp.sub hk hq)
theorem qdP(hk:0<k)(Xj:k<=4)(hp:Vp k d n p)(hd:d<=400)(hn:n<=32)(h1:RV V (· <V.heap.size) p (qe p A c K kc)):Calls Tryz.prog 40 #[qm p A c K kc] V (Zq k (d+1) n V):=by
 have hs:=qQ hp.can;refine(qdL 400 (by omega) p (hp.q hk Xj (by omega) (by omega)).fit (by rw[hs];exact hp.sm (by omega) (by omega)) A c K kc V.heap.size V (Gr _) h1).mono ?_;rintro e w' ⟨hr,-⟩;rw[hs]at hr;exact hr.v (hp.neg hk)
theorem qcY(hk:0<k)(Xj:k<=4)(hp:Vp k d n p)(hd:d<=400)(hn:n<=32)(h1:RV V (· <V.heap.size) p (qe p A c K kc)):Calls Tryz.prog 11 #[qm p A c K kc] V (Zq k d n V):=by
 have hs:=qQ hp.can;refine(yh 400 (by omega) p (hp.q hk Xj (by omega) (by omega)).fit A c K kc V.heap.size V (Gr _) h1).mono ?_;rintro e w' ⟨A',c',K',kc',rfl,-,hr,hb⟩;rw[hs]at hr ⊢;exact⟨_,A',c',K',kc',hp,rfl,hr,hb⟩
theorem qaA(hk:0<k)(Xj:k<=4)(hp:Vp k d n p)(hd:d<=400)(hn:n<=32)(z:Nat)(hz:0<z)(Xy:z<4294967296)(D:Oa)(cd:Nat)(h1:RV V (· <V.heap.size) p (qe p A c K kc))(h2:qx V V.heap.size D cd (dig z)):
 Calls Tryz.prog 45 #[qm p A c K kc,.agg #[.bool false,.slice D (dig z).length cd]] V (Zq k (d+1) n V):=by
 have hs:=qQ hp.can;have hl:=qK (v:=z) (n:=1) (by omega);refine(QM 400 (by omega) p (hp.q hk Xj (by omega) (by omega)).fit (by rw[hs];exact hp.sm (by omega) (by omega)) (z:Int) (by omega) A c K kc false (dig z) (by simp[qj,qB]) D cd V.heap.size V (Gr _) h1 h2 (by omega)).mono ?_;rintro e w' ⟨hr,-⟩;rw[hs]at hr;exact hr.v ⟨(ZH _ _ hp.can).1,qbo (e:=1) (by show(z:Int).natAbs<_;rw[Int.natAbs_natCast];exact Gm Xy (by decide)) _ hp.lw hp.dig,qfI hk _ _ hp.oc,ZO _ _⟩
theorem Qq(hp:Vp k d 6 p)(hk:0<k)(Xj:k<=4)(hd:d<=300)(rel:Int)(h1:RV V (· <V.heap.size) p (qe p A c K kc)):Calls Tryz.prog 22 #[qm p A c K kc,.int .i64 rel] V (fun e w'=>∃M,QV (d+1) M/\zM M V e w'):=by
 have hs:=qQ hp.can;refine(qaq 400 (by omega) rel p (hp.q hk Xj (by omega) (by omega)).fit (by rw[hs];exact hp.sm (by omega) (by omega)) A c K kc V.heap.size V (Gr _) h1).mono ?_;rintro e w' ⟨-,M,hM,hr⟩;exact⟨M,hM.lfg hp.can (qN.mono (Gr _) (by omega) _ hp.lw) hp.dig,hr⟩
theorem qbi{k:Nat}(hk:k<4)(hp:QB ((k:Int)+1) 3 4 p)(i:Nat)(hi:i<=1000){B:Nat}(hB:B<=V.heap.size)(h1:RV V (· <B) p (qe p A c K kc)):Calls Tryz.prog 18 #[qm p A c K kc,.int .i64 ((k:Int)+1),.int .i64 (i:Int)] V (Zq ((k:Int)+1) 4 3 V):=by
 refine(qak 400 (by omega) ((k:Int)+1) (by omega) (by omega) p hp.fit (hp.fitc (by omega)) i hi A c K kc B V hB h1).mono ?_;rintro e w' hr;refine hr.v ?_;rw[List.getD_eq_getElem?_getD]
 cases h:(qD ((k:Int)+1) p)[i]? with
 |none=>exact Vp.zero (by omega)
 |some u=>exact hp.cfs hk u (Gk h)
end
theorem qkV{w V:World}{g base:Nat}{T:RP}{A K:Oa}{c kc:Nat}(hk:qf V g 28 #[.int .i64 0,.bool false,.slice none 0 0,.slice none 0 0])(hr:RB V base T (qe T A c K kc))(hg:g<base)(hw:w.heap.size<=g)(hb:Below w.heap.size w V):
 qf (set4 V g 0 (.int .i64 T.lv) (.bool T.ng) (.slice A T.ds.length c) (.slice K T.ks.length kc)) g 28 #[.int .i64 T.lv,.bool T.ng,.slice A T.ds.length c,.slice K T.ks.length kc]/\
 qS T w (.returned (qm T A c K kc)) (set4 V g 0 (.int .i64 T.lv) (.bool T.ng) (.slice A T.ds.length c) (.slice K T.ks.length kc)):=by
 obtain⟨s1,s2,s3⟩:=jm (k:=0) hk (.int .i64 T.lv) (.bool T.ng) (.slice A T.ds.length c) (.slice K T.ks.length kc);exact⟨s1,A,c,K,kc,rfl,RB.mono (RB.keep (base':=base) hr s2 (fun j ds EO hj=>s3 j ds (by omega) hj) (Gr _)) (by omega),qy hb hw _ _ _ _⟩
set_option maxHeartbeats 1000000
theorem qaw{k:Int}(hk:0<k)(z:Int)(hz:z=-1∨z=0∨z=1)(w:World):Calls Tryz.prog 41 #[.int .i64 z] w (Zq k 1 0 w):=by
 have HV:=Gh (qkI hk (z:=z) (by omega));have Xd:=Gh (Gb w (.cells Gz 28));have Xo:=Gh (qf.new w 28 Gz);have HO:=Gh (fun W=>Jc z (by omega) (by omega) W);have Uc:=Gh (fun(A:Oa)(c:Nat)(W:World)(h:qx W W.heap.size A c (dig z.natAbs))=>QQ (decide (z<0)) A c W.heap.size (dig z.natAbs) W (Gr _) h (by have:=qK (v:=z.natAbs) (n:=1) (by omega);omega));rw[jM]at Uc;clear hz;go_enter Tryz.func41,Tryz.ntmps41
 go_upto_region 1 with(fail)
 generalize w.alloc (.cells Gz 28)=W at*;go_wp2_with fail
 refine(HO _).mono ?_;rintro e w2 ⟨A1,c1,rfl,Es,Ti,Xf⟩;have Vv:=Gh (Uc A1 c1 w2 (yf Ti Es));have Xw:=Gh Xf;unfold qS at Vv;clear Es Ti Xf HO Uc;go_wp2_with fail
 refine Vv.out.mono ?_;rintro e w3 ⟨A3,c3,K3,kc3,rfl,UL,Xz⟩;have NQ:=Gt Xw Xz;have kk:=Xo.out.old NQ;have Xg:=Gh (qkV (w:=w) kk UL (Gm Xo.out.lt Xw.out.size) (Gr _) (Gt Xd NQ));have f0:=kk.frozen 0;have f1:=kk.frozen 1;have f2:=kk.frozen 2;have f3:=kk.frozen 3;obtain⟨d0,d1,d2,d3⟩:=G4 kk;have z0:=kk.lt;clear kk UL Xz NQ Vv Xw Xd Xo;unfold qm;generalize jy z=T at*;go_wp2_with fail
 refine qo Tryz.results41 rfl rfl Xg.out.1 Tryz.underlying28 rfl Tryz.sizeRec (Xg.out.2.v HV)
