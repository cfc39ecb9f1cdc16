import Derived.Test.YtflikmojaidhhaaGreatPq20
namespace Go.Proofs.YtflikmojaidhhaaGreat
open Go.RowKit
noncomputable def sgc(i:Nat)(c:RP):RP:=if i%2=1 then yc (-1) (qq c)else c
def Qy(r:Int)(cs:List RP):Nat→MX→Prop
 |0,M=>QR r (cs.getD 0 qa) M
 |i+1,M=>∃a b M',Qy r cs i M'∧QR (qd0 r) (sgc (i+1) (cs.getD (i+1) qa)) a∧QR 3 (sgc (i+1) (cs.getD (i+1) qa)) b∧a.ks=[]∧b.ks=[]∧M= .mk 4 0 qa [a,.mk 3 0 qa [b,M']]
def qf5(r:Int):Prop:=r=1∨r=2∨r=5∨r=6
def Zx(r:Int)(cs:List RP)(M:MX):Prop:=
 (r=4∧∃xs,yE 3 cs xs∧M= .mk 4 0 qa (xs.map Zv))∨
 (r≠4∧¬qf5 r∧∃xs,yE 3 cs xs∧M= .mk 3 0 qa xs)∨
 (qf5 r∧cs=[]∧QR r qa M)∨(qf5 r∧cs≠[]∧Qy r cs (cs.length-1) M)
mutual
theorem Ye:∀(t:RP)(m:Mo),qG t→∀x∈ji t m,qP x.1.2
 | .mk l g ds ks,m,h,x,hx=>by
   simp only[qG]at h;simp only[ji]at hx
   split at hx
   ·rw[List.mem_singleton]at hx;subst hx;exact h.1
   ·split at hx
    ·cases hx
    ·exact qcQ _ ks m _ h.2 x hx
theorem qcQ(i:Nat):∀(ts:List RP)(m:Mo)(e:Int),yX ts→∀x∈qX i ts m e,qP x.1.2
 |[],_,_,_,x,hx=>by simp[qX]at hx
 |t::ts,m,e,h,x,hx=>by
  simp only[yX]at h;simp only[qX]at hx;rcases List.mem_append.1 hx with hx|hx
  ·exact Ye t _ h.1 x hx
  ·exact qcQ i ts m (e+1) h.2 x hx
end
theorem qjX{d:Nat}{c:RP}(hc:qj c=true)(hw:qM d 5 c)(hd:qG c):nrm (jY c)≤1000*pw d:=by
 obtain⟨a1,a2,a3⟩:=yw hc hw;refine Nat.le_trans (Jn _ (pw d) fun t ht=>?_) (Nat.mul_le_mul_right _ ?_)
 ·obtain⟨x,hx,rfl⟩:=List.mem_map.1 (show t∈(ji c (0,0,0,0)).map zH from ht);have h1:=(Jt c (0,0,0,0) 0 a2 (by simp[zm]) x hx).1;show(qb x.1.1 x.1.2).natAbs≤_;rw[qz];exact Nat.le_of_lt (Q1 (Ye c _ hd x hx) h1)
 ·rw[zL,List.length_map];exact Nat.le_trans (Qa c _) a3
theorem J5(d:Nat):1000*pw d<pw (d+1):=by
 have h:pw (d+1)=pw d*4294967296:=Nat.pow_succ ..;have h0:0<pw d:=Nat.pow_pos (by decide);omega
theorem qkN{d:Nat}{c T:RP}(hc:qj c=true)(hw:qM d 5 c)(hdc:qG c)(h:SgT c T):qj T=true∧qM (d+1) 5 T:=by
 obtain⟨P,hP,hcf,rfl⟩:=h;have hs:=qat hP;refine⟨(Qx 4 (by omega) _ hs.sdesc hs.vl hs.ne).1,qap (by omega) 4 _ (by omega) fun t ht=>?_⟩;obtain⟨s,hs',rfl⟩:=List.mem_map.1 (show t∈P.map (fun t=>(t.1/dvs P,t.2))from ht);refine⟨zK ?_,fun i hi=>?_⟩
 ·have h1:=Z9 s.1 (dvs P) (Q8 hs') (qcH hP (List.ne_nil_of_mem hs'));have h2:=Qs hs';have h3:=hP.nrm_le hcf;have h4:=qjX hc hw hdc;have h5:=J5 d;show(s.1/dvs P).natAbs<_;omega
 ·obtain⟨x,hx,e⟩:=QS hP hcf hs';have:=qdE (d:=d) (n:=5) c (0,0,0,0) i hi hc hw (by rcases QA hi with rfl|rfl|rfl|rfl<;>exact Int.le_refl _) x hx;show gt s.2 i+1≤_;rw[←e];omega
theorem qlO{d:Nat}{r:Int}{c:RP}{M:MX}(hc:qj c=true)(hw:qM d 5 c)(hdc:qG c)(h:QR r c M)(hk:M.ks=[]):Lf (d+1) M:=by
 rcases h with⟨_,rfl⟩|⟨_,T,hT,rfl⟩
 ·refine⟨hk,?_,?_,?_,?_,?_,?_⟩;all_goals(unfold QN;split<;>simp[MX.kd])
 ·obtain⟨h1,h2⟩:=qkN hc hw hdc hT;obtain⟨a1,a2,a3⟩:=yw h1 h2;have hb:∀b,(b=1∨b=2∨b=3∨b=4∨b=5∨b=6)→1≤JL b∧JL b≤6:=fun b hb=>⟨(QK hb).1,(QK hb).2.1⟩;have h3:=Y8 r;have h4:1≤JL (if Yz (qq c)<0 then YI (Jp r)else Jp r)∧JL (if Yz (qq c)<0 then YI (Jp r)else Jp r)≤6:=by
   split
   ·exact hb _ (qbm h3)
   ·exact hb _ h3
  exact⟨rfl,by show(0:Int)≤2;omega,by show(2:Int)≤2;omega,fun _=>h4.1,fun _=>h4.2,fun _=>⟨by show qv T≤12;omega,a2,a3⟩,fun _=>h1⟩
theorem qi7{d:Nat}:∀{cs:List RP} {xs:List MX},(∀c∈cs,qj c=true∧qM d 5 c∧qG c)→yE 3 cs xs→∀x∈xs,Lf (d+1) x
 |[],xs,_,h,x,hx=>by unfold yE at h;subst h;cases hx
 |c::cs,xs,hc,h,x,hx=>by
  obtain⟨y,ys,rfl,⟨h1,h2⟩,h3⟩:=h;rcases List.mem_cons.1 hx with rfl|hx
  ·exact qlO (hc c List.mem_cons_self).1 (hc c List.mem_cons_self).2.1 (hc c List.mem_cons_self).2.2 h1 h2
  ·exact qi7 (fun c hc'=>hc c (List.mem_cons_of_mem _ hc')) h3 x hx
theorem QC.mv{M:MX}{w:World}{e:Ending}{w':World}(h:QC M w e w'):J6 M w e w':=by
 obtain⟨hk,A,c,K,kc,rfl,hr,hb⟩:=h;refine⟨A,c,K,kc,none,0,?_,MV.mono (fun b hb=> .inl hb) _ _ (MV.leafM hk hr),hb⟩;unfold lfv ZP;rw[hk];rfl
theorem yQ.open{w:World}{base g:Nat}{M:MX}{vs:List Value}(h:MV w (yQ w base (some g)) M vs):MV w (yQ w base none) M vs:=
 MV.mono (fun b hb=>hb.imp id fun h=>⟨h.1,by simp,h.2.2⟩) _ _ h
theorem JF{B g:Nat}{w W:World}(h:Below B w W)(hg:B≤g)(a0 a1 a2 a3 a4 a5 a6:Value):Below B w (Jh W g a0 a1 a2 a3 a4 a5 a6):=
 ((((((h.setCell (p:=⟨g,0,none⟩) hg a0).setCell (p:=⟨g,1,none⟩) hg a1).setCell (p:=⟨g,2,none⟩) hg a2).setCell (p:=⟨g,3,none⟩) hg a3).setCell (p:=⟨g,4,none⟩) hg a4).setCell (p:=⟨g,5,none⟩) hg a5).setCell (p:=⟨g,6,none⟩) hg a6
theorem qiW{r:Int}{cs:List RP}{i:Nat}{M Ma Mb:MX}{u v:RP}(h1:1≤i)(hu:cs[i]? =some u)(hv:v=sgc i u)(h:Qy r cs (i-1) M)(ha:QR (qd0 r) v Ma)(hb:QR 3 v Mb)(hka:Ma.ks=[])(hkb:Mb.ks=[]):Qy r cs (i+1-1) (.mk 4 0 qa [Ma,.mk 3 0 qa [Mb,M]]):=by
 obtain⟨j,rfl⟩:∃j,i=j+1:=⟨i-1,by omega⟩;have e:cs.getD (j+1) qa=u:=by rw[List.getD_eq_getElem?_getD,hu];rfl
 rw[Nat.add_sub_cancel]at h ⊢;unfold Qy;rw[e,←hv];exact⟨Ma,Mb,M,h,ha,hb,hka,hkb,rfl⟩
theorem qeT{V:World}{b g:Nat}(hne:b≠g){t:Nat}{c0 c1 c2 c3:Value}(h:qd V b t #[c0,c1,c2,c3])(a0 a1 a2 a3 a4 a5 a6:Value):(Jh V g a0 a1 a2 a3 a4 a5 a6).cell? ⟨b,0,none⟩=some c0∧(Jh V g a0 a1 a2 a3 a4 a5 a6).cell? ⟨b,1,none⟩=some c1∧(Jh V g a0 a1 a2 a3 a4 a5 a6).cell? ⟨b,2,none⟩=some c2∧(Jh V g a0 a1 a2 a3 a4 a5 a6).cell? ⟨b,3,none⟩=some c3:=by
 have k:=(((((((h.far (p:=⟨g,0,none⟩) hne a0).far (p:=⟨g,1,none⟩) hne a1).far (p:=⟨g,2,none⟩) hne a2).far (p:=⟨g,3,none⟩) hne a3).far (p:=⟨g,4,none⟩) hne a4).far (p:=⟨g,5,none⟩) hne a5).far (p:=⟨g,6,none⟩) hne a6);exact⟨k.cell 0,k.cell 1,k.cell 2,k.cell 3⟩
set_option maxHeartbeats 4000000
set_option maxRecDepth 100000
theorem qeg(r k:Int)(hk0:0<k)(hk4:k≤4)(t:RP)(hf:zU 400 t)(hfc:zU 400 (qq t))(hcs:jg t (qq t)→(∀c∈JV k (zo k (qq t)) (qq t),jg c (qq c))→∀c∈jS k t,qj c=true∧qM 400 5 c)(hcl:(jS k t).length≤1000)(A:Option Addr)(c:Nat)(K:Option Addr)(kc B:Nat)(w:World)(hB:B≤w.heap.size)(h:RV w (· <B) t (qc t A c K kc)):
 Calls Tryz.prog 46 #[qn t A c K kc,.int .i64 r,.int .i64 k] w fun e w'=>jg t (qq t)∧∃M,Zx r (jS k t) M∧J6 M w e w':=by
 have HX:=Lib.hid (qK w 28 44 #[.int .i64 t.lv,.bool t.ng,.slice A t.ds.length c,.slice K t.ks.length kc] #[.int .i64 0,.int .i64 0,.int .i64 0,.bool false,.slice none 0 0,.slice none 0 0,.slice none 0 0]);have HCF:=Lib.hid (fun(W:World)(hW:Below w.heap.size w W)=>qbt 400 (by omega) k hk0 hk4 t hf hfc A c K kc B W (Nat.le_trans hB hW.size) (h.below (hW.mono hB)));have HCS:=Lib.hid hcs;have HNI:=Lib.hid (show qW (qq t)=true→jS k t=[]from fun h=>by unfold jS;rw[if_pos h]);have HNE:=Lib.hid (show qW (qq t)=false→jS k t≠[]from fun h=>by unfold jS;rw[if_neg (by rw[h];decide)];intro e;have:=congrArg List.length e;rw[List.length_map,Yx]at this;simp at this);unfold qbV at HCF;unfold qn at HCF ⊢;clear h hf hfc hB hcs;go_enter Tryz.func46,Tryz.ntmps46
 go_wp2_with fail
 obtain⟨hb0,k0,k1,hs⟩:=HX.out;generalize (w.alloc (.cells #[.int .i64 t.lv,.bool t.ng,.slice A t.ds.length c,.slice K t.ks.length kc] 28)).alloc (.cells #[.int .i64 0,.int .i64 0,.int .i64 0,.bool false,.slice none 0 0,.slice none 0 0,.slice none 0 0] 44)=W0 at*;have HC1:=Lib.hid (HCF.out W0 hb0);have HB0:=Lib.hid hb0;have HK1:=Lib.hid k1;clear HX HCF hb0 k0 k1 hs;refine HC1.out.mono ?_;rintro e w1 ⟨hct,hb1,hcase⟩;have HCT:=Lib.hid hct;have HB1:=Lib.hid (HB0.out.trans (hb1.mono HB0.out.size));have HJ1:=Lib.hid (HK1.out.old hb1);have HSZ0:=Lib.hid (Nat.le_trans HK1.out.lt hb1.size);have HL:Hid (∃(Ac:Option Addr)(cc:Nat),e= .returned (.slice Ac (jS k t).length cc)∧(jS k t).length≤cc∧zn w1 w1.heap.size Ac (jS k t)∧∀c∈jS k t,qj c=true∧qM 400 5 c∧qG c):=Lib.hid (by
  rcases hcase with⟨hz,rfl⟩|⟨hz,hcc,g,cur,rows,hg,rfl,hro⟩
  ·have e1:=HNI.out hz;rw[e1];exact⟨none,0,rfl,Nat.le_refl _,zn.nil,by simp⟩
  ·exact⟨_,_,rfl,Nat.le_refl _,zn.of_row hro hro.row.lt,fun c hc=>⟨(HCS.out hct hcc c hc).1,(HCS.out hct hcc c hc).2,yX.mem.1 (qH.digT _ _ hro.kids) c hc⟩⟩)
 clear hcase hct hb1 HC1 HB0 HK1 HCS HNI HNE;obtain⟨Ac,cc,rfl,hcc,htr,hcl2⟩:=HL.out;have HTR:=Lib.hid htr;have HCL:=Lib.hid hcl2;clear HL htr hcl2;generalize hcsq:jS k t=cs at*;have HCQ:=Lib.hid hcsq;clear hcsq;by_cases h4:r=4
 ·subst h4;have HV:=Lib.hid (Yi 401 (by omega) cs hcl (fun c hc=>by
   obtain⟨a,b,_⟩:=HCL.out c hc;obtain⟨b1,b2,b3⟩:=yw a b;rw[qw a];exact⟨⟨by omega,(b.mono (by omega) (Nat.le_refl _)).few (by omega),b3⟩,b.sm (by omega) (by omega)⟩) Ac cc w1.heap.size w1 (Nat.le_refl _) HTR.out hcc)
  have HNA:=Lib.hid (fun(xs:List MX)(hv:yE 3 cs xs) A c K kc L lc (W:World)(h:MV W (· <W.heap.size) (.mk 3 0 qa xs) (q9 (.mk 3 0 qa xs) A c K kc L lc))=>qhK 401 (by omega) xs (by rw[hv.len];exact hcl) (qi7 HCL.out hv) A c K kc L lc W.heap.size W (Nat.le_refl _) h);have HM:=Lib.hid (fun(xs:List MX)(hv:yE 3 cs xs)=>show Zx 4 cs (.mk 4 0 qa (xs.map Zv))from .inl ⟨rfl,xs,hv,rfl⟩);unfold J6 ZP at HV HNA;generalize cs.length=nc at*;go_wp2_with fail
  refine HV.out.mono ?_;rintro e w2 ⟨xs,hvl,A2,c2,K2,kc2,L2,lc2,rfl,hmv,hb2⟩;have HNA1:=Lib.hid (HNA.out xs hvl A2 c2 K2 kc2 L2 lc2 w2 (MV.mono (fun b hb=>hb.lt) _ _ hmv));have HJ2:=Lib.hid (HJ1.out.old hb2);have HB2:=Lib.hid (HB1.out.trans (hb2.mono HB1.out.size));have HMX:=Lib.hid (HM.out xs hvl);have HS2:=Lib.hid (show w.heap.size+1<w2.heap.size from HJ2.out.lt);clear hvl hmv hb2 HNA HM HV HJ1 HB1 HTR HCL;generalize (MX.mk 3 0 qa xs)=N at*;generalize (MX.mk 4 0 qa (xs.map Zv))=R at*;go_wp2_with fail
  refine HNA1.out.mono ?_;rintro e w3 ⟨A3,c3,K3,kc3,L3,lc3,rfl,hmv,hb3⟩;have k1:=HJ2.out.old hb3;have HFN:=Lib.hid (Yt (w:=w) (M:=R) k1 hmv HS2.out (Nat.le_succ _) (HB2.out.trans (hb3.mono HB2.out.size)));have d0:=k1.cell 0;have d1:=k1.cell 1;have d2:=k1.cell 2;have d3:=k1.cell 3;have d4:=k1.cell 4;have d5:=k1.cell 5;have d6:=k1.cell 6;have f0:=k1.frozen 0;have f1:=k1.frozen 1;have f2:=k1.frozen 2;have f3:=k1.frozen 3;have f4:=k1.frozen 4;have f5:=k1.frozen 5;have f6:=k1.frozen 6;have z0:=k1.lt;clear hmv hb3 k1 HNA1 HJ2 HB2;go_wp2_with fail
  exact qg Tryz.results46 rfl rfl HFN.out.1 Tryz.underlying44 rfl Tryz.sizeMat ⟨HCT.out,R,by rw[HCQ.out];exact HMX.out,HFN.out.2⟩
 ·by_cases ho:qf5 r
  ·have HO:=Lib.hid ho;generalize hnc:cs.length=nc at*;have HNC:=Lib.hid hnc;clear h4 ho hnc;have HAT:=Lib.hid (fun(rr:Int)(u:RP)(d:Nat)(hd:d≤401)(hc:qj u=true)(hw:qM d 5 u)(A:Option Addr)(c:Nat)(K:Option Addr)(kc BB:Nat)(W:World)(hW:BB≤W.heap.size)(h:RV W (· <BB) u (qc u A c K kc))=>
    ZV 401 (by omega) rr u (by
     obtain⟨b1,b2,b3⟩:=yw hc hw;exact⟨by omega,(hw.mono (by omega) (Nat.le_refl _)).few (by omega),b3⟩) (by rw[qw hc];exact hw.sm (by omega) (by omega)) A c K kc BB W hW h)
   have HES:Hid (((r==1)=true)∨((r==1)=false∧(r==2)=true)∨((r==1)=false∧(r==2)=false∧(r==5)=true)∨((r==1)=false∧(r==2)=false∧(r==5)=false∧(r==6)=true)):=Lib.hid (by
    rcases HO.out with rfl|rfl|rfl|rfl<;>simp)
   by_cases hn0:nc=0
   ·subst hn0;have hce:cs=[]:=List.eq_nil_of_length_eq_zero HNC.out;have HA1:=Lib.hid (HAT.out r qa 0 (by omega) (by decide) (qM.zero 0 5) none 0 none 0 0 w1 (Nat.zero_le _) RT.zero);have HM:=Lib.hid (fun(M:MX)(hM:QR r qa M)=>show Zx r cs M from .inr (.inr (.inl ⟨HO.out,hce,hM⟩)));unfold QC lfv at HA1;clear hce HTR HCL;rcases HES.out with e1|⟨e1,e2⟩|⟨e1,e2,e5⟩|⟨e1,e2,e5,e6⟩
    all_goals
     go_wp2_with fail
     refine HA1.out.mono ?_;rintro e w2 ⟨_,M,hM,hks,A2,c2,K2,kc2,rfl,hr2,hb2⟩;have k1:=HJ1.out.old hb2;have HMX:=Lib.hid (HM.out M hM);have HFN:=Lib.hid (jZ (w:=w) hks k1 hr2 HSZ0.out (Nat.le_succ _) (HB1.out.trans (hb2.mono HB1.out.size)));have d0:=k1.cell 0;have d1:=k1.cell 1;have d2:=k1.cell 2;have d3:=k1.cell 3;have d4:=k1.cell 4;have d5:=k1.cell 5;have d6:=k1.cell 6;have f0:=k1.frozen 0;have f1:=k1.frozen 1;have f2:=k1.frozen 2;have f3:=k1.frozen 3;have f4:=k1.frozen 4;have f5:=k1.frozen 5;have f6:=k1.frozen 6;have z0:=k1.lt;clear hks hb2 k1 hM hr2;go_wp2_with fail
     exact qg Tryz.results46 rfl rfl HFN.out.1 Tryz.underlying44 rfl Tryz.sizeMat ⟨HCT.out,M,by rw[HCQ.out];exact HMX.out,HFN.out.2.mv⟩
   ·obtain⟨c0,hc0⟩:∃c0,cs[0]? =some c0:=⟨_,List.getElem?_eq_getElem (by rw[HNC.out];omega)⟩;obtain⟨b,o,A0,q0,K0,r0,rfl,hbB,x0,x1,x2,x3,hku⟩:=HTR.out.kid hc0;simp only[Nat.zero_mul,Nat.add_zero]at x0 x1 x2 x3;have hcc0:=HCL.out c0 (List.mem_of_getElem? hc0);have HA1:=Lib.hid (HAT.out r c0 400 (by omega) hcc0.1 hcc0.2.1 A0 q0 K0 r0 w1.heap.size w1 (Nat.le_refl _) hku);have HGD:=Lib.hid (show cs.getD 0 qa=c0 by rw[List.getD_eq_getElem?_getD,hc0];rfl);unfold QC lfv qn at HA1;have i1:(0:Int)<(nc:Int):=by omega
    have i2:((nc:Int)==0)=false:=by simp;omega
    have i3:(nc:Int)≤(cc:Int):=by omega
    clear hku hcc0 hc0;generalize c0.ds.length=ud at*;generalize c0.ks.length=uk at*;generalize c0.ng=ug at*;generalize c0.lv=ul at*;go_upto_if 17 with(fail)
    go_cut [17] (fun v wc=>v= .bool true∧wc=w1)
    case first=>
     rcases HES.out with e1|⟨e1,e2⟩|⟨e1,e2,e5⟩|⟨e1,e2,e5,e6⟩
     all_goals
      go_wp2_with fail
      go_meet
      first|exact⟨rfl,rfl⟩|exact⟨congrArg Value.bool ‹(r==1)=true›,rfl⟩|exact⟨congrArg Value.bool ‹(r==2)=true›,rfl⟩|exact⟨congrArg Value.bool ‹(r==5)=true›,rfl⟩|exact⟨congrArg Value.bool ‹(r==6)=true›,rfl⟩
    case rest=>
     obtain⟨rfl,hw⟩:=hcut;have hw':=hw.symm;clear hw;subst hw';clear HES;go_wp2_with fail
     refine HA1.out.mono ?_;rintro e w2 ⟨_,M0,hM0,hks,A2,c2,K2,kc2,rfl,hr2,hb2⟩;have hal:=(Below.refl w2.heap.size w2).alloc (Nat.le_refl _) (.cells #[.int .i64 M0.kd,.int .i64 M0.rl,.int .i64 M0.p.lv,.bool M0.p.ng,.slice A2 M0.p.ds.length c2,.slice K2 M0.p.ks.length kc2,.slice none 0 0] 44);have hnb:=qd.new w2 44 #[.int .i64 M0.kd,.int .i64 M0.rl,.int .i64 M0.p.lv,.bool M0.p.ng,.slice A2 M0.p.ds.length c2,.slice K2 M0.p.ks.length kc2,.slice none 0 0];have HBX:=Lib.hid (show qeM w (w2.alloc (.cells #[.int .i64 M0.kd,.int .i64 M0.rl,.int .i64 M0.p.lv,.bool M0.p.ng,.slice A2 M0.p.ds.length c2,.slice K2 M0.p.ks.length kc2,.slice none 0 0] 44)) w2.heap.size M0 A2 c2 K2 kc2 none 0 from
      ⟨by rw[hks];exact hnb,MV.mono (fun b hb=> .inl (hb.mono (show w.heap.size+2≤w1.heap.size from HSZ0.out))) _ _ (MV.leafM hks (hr2.old hal))⟩)
     have HBI:=Lib.hid (show Qy r cs 0 M0 by unfold Qy;rw[HGD.out];exact hM0);have HB2:=Lib.hid (hb2.trans (hal.mono hb2.size));have HG8:=Lib.hid hb2.size;clear hks hal hnb hM0 hr2 hb2 HA1;go_wp2_with fail
     generalize w2.alloc (.cells #[.int .i64 M0.kd,.int .i64 M0.rl,.int .i64 M0.p.lv,.bool M0.p.ng,.slice A2 M0.p.ds.length c2,.slice K2 M0.p.ks.length kc2,.slice none 0 0] 44)=W2 at*;generalize w2.heap.size=g8 at*;clear x0 x1 x2 x3;go_loopg [9] (nc-1) (fun gn ix wr=>∃(i:Nat)(M:MX)(A:Option Addr)(c:Nat)(K:Option Addr)(kc:Nat)(L:Option Addr)(lc:Nat),1≤i∧i≤nc∧gn=nc-i∧ix= .int .i64 i∧Below w1.heap.size w1 wr∧Qy r cs (i-1) M∧qeM w wr g8 M A c K kc L lc)
     case atStart=>exact⟨1,M0,A2,c2,K2,kc2,none,0,Nat.le_refl _,by omega,rfl,rfl,HB2.out,HBI.out,HBX.out⟩
     case round=>
      clear HBX HBI HB2;obtain⟨i,M,AM,cM,KM,kM,LM,lM,h1i,hin,hgi,rfl,hbw,hbi,hbx⟩:=hrel;have HG:=Lib.hid hgi;have HBI:=Lib.hid hbi;have HBX:=Lib.hid hbx;have HBW:=Lib.hid hbw;clear hgi hbi;by_cases hlt:i<nc
      ·obtain⟨u,hu⟩:∃u,cs[i]? =some u:=⟨_,List.getElem?_eq_getElem (by rw[HNC.out];exact hlt)⟩;obtain⟨b',o',A3,q3,K3,r3,hbo,hbB',x0,x1,x2,x3,hku⟩:=(HTR.out.below hbw).kid hu
       injection hbo with hbo
       injection hbo with hbo1 hbo2
       subst hbo1;subst hbo2;have hum:=HCL.out u (List.mem_of_getElem? hu);have i4:(0:Int)≤(i:Int):=by omega
       have i5:(i:Int)<(nc:Int):=by omega
       have hal:=(Below.refl wr.heap.size wr).alloc (Nat.le_refl _) (.cells #[.int .i64 u.lv,.bool u.ng,.slice A3 u.ds.length q3,.slice K3 u.ks.length r3] 28);have hnb:=qd.new wr 28 #[.int .i64 u.lv,.bool u.ng,.slice A3 u.ds.length q3,.slice K3 u.ks.length r3];have HAL:=Lib.hid hal;have HNB:=Lib.hid hnb;have HUM:=Lib.hid hum;have HU:=Lib.hid hu;have HNG:=Lib.hid (fun(V:World)(hV:Below wr.heap.size wr V)=>qdM 401 (by omega) u (by
        obtain⟨b1,b2,b3⟩:=yw hum.1 hum.2.1;exact⟨by omega,(hum.2.1.mono (by omega) (Nat.le_refl _)).few (by omega),b3⟩) (by rw[qw hum.1];exact hum.2.1.sm (by omega) (by omega)) A3 q3 K3 r3 wr.heap.size V hV.size ((hku.more hbw.size).below hV))
       have HKU:=Lib.hid (fun(V:World)(hV:Below wr.heap.size wr V)=>show RV V (· <V.heap.size) u (qc u A3 q3 K3 r3)from((hku.more hbw.size).below hV).more hV.size);unfold q8 qn at HNG;clear hal hnb hum hu hku;go_upto_if 50 with(fail)
       generalize wr.alloc (.cells #[.int .i64 u.lv,.bool u.ng,.slice A3 u.ds.length q3,.slice K3 u.ks.length r3] 28)=V at*;have HSO:=Lib.hid (fun(h:i%2=1)=>show sgc i u=yc (-1) (qq u)by unfold sgc;rw[if_pos h]);have HSE:=Lib.hid (fun(h:¬i%2=1)=>show sgc i u=u by unfold sgc;rw[if_neg h]);go_cut [] (fun wc=>∃(v:RP)(A:Option Addr)(c:Nat)(K:Option Addr)(kc:Nat),v=sgc i u∧qj v=true∧qM 401 5 v∧Below wr.heap.size wr wc∧qd wc wr.heap.size 28 #[.int .i64 v.lv,.bool v.ng,.slice A v.ds.length c,.slice K v.ks.length kc]∧RV wc (· <wc.heap.size) v (qc v A c K kc))
       case first=>
        have e8:IntKind.i64.wrap ((i:Int).tmod 2)=(i:Int).tmod 2:=IntWalk.i64_in _ (by rw[Int.tmod_eq_emod_of_nonneg (by omega)];omega);by_cases hp:i%2=1
        ·have hpar:((i:Int)%2==1)=true:=by simp;omega
         have HS1:=Lib.hid (HSO.out hp);have HN1:=Lib.hid (HNG.out V HAL.out);have y0:=HNB.out.cell 0;have y1:=HNB.out.cell 1;have y2:=HNB.out.cell 2;have y3:=HNB.out.cell 3;clear hp;go_wp2_with fail
         refine HN1.out.mono ?_;rintro e w3 ⟨⟨A4,c4,K4,kc4,rfl,hr4,hb4⟩,hcu⟩;have kk:=HNB.out.old hb4;have HOV:=Lib.hid (qaz (w:=wr) kk rfl hr4 HNB.out.lt (HAL.out.trans (hb4.mono HAL.out.size)));have d0:=kk.cell 0;have d1:=kk.cell 1;have d2:=kk.cell 2;have d3:=kk.cell 3;have f0:=kk.frozen 0;have f1:=kk.frozen 1;have f2:=kk.frozen 2;have f3:=kk.frozen 3;have z0:=kk.lt;clear kk hr4 hb4 y0 y1 y2 y3;go_wp2_with fail
         go_meet
         obtain⟨o1,o2,o3⟩:=HOV.out;obtain⟨u1,u2,u3⟩:=HUM.out;refine⟨yc (-1) (qq u),A4,c4,K4,kc4,HS1.out.symm,?_,?_,o3,o1,o2.rv⟩
         ·rw[qw u1];exact(qaI (by decide) u u1).1
         ·rw[qw u1];exact QD (d:=400) (e:=1) (by decide) u u2 u3
        ·have hpar:((i:Int)%2==1)=false:=by simp;omega
         have HS1:=Lib.hid (HSE.out hp);clear hp;go_wp2_with fail
         go_meet
         obtain⟨u1,u2,u3⟩:=HUM.out;exact⟨u,A3,q3,K3,r3,HS1.out.symm,u1,u2.mono (by omega) (Nat.le_refl _),HAL.out,HNB.out,HKU.out V HAL.out⟩
       case rest=>
        obtain⟨v,Av,cv,Kv,kv,hvs,hvc,hvw,hbv,hkv,hrv⟩:=hcut;have HBY:=Lib.hid (HBX.out.old hbv);have HST:=Lib.hid (fun(W:World)=>qeH r W);have HAA:=Lib.hid (fun(V:World)(hV:Below wc.heap.size wc V)=>HAT.out (qd0 r) v 401 (Nat.le_refl _) hvc hvw Av cv Kv kv wc.heap.size V hV.size (hrv.below hV));have HAB:=Lib.hid (fun(V:World)(hV:Below wc.heap.size wc V)=>HAT.out 3 v 401 (Nat.le_refl _) hvc hvw Av cv Kv kv wc.heap.size V hV.size (hrv.below hV));have HAN:=Lib.hid (fun(L:Option Addr)(n lc:Nat)(W:World)=>qaT L n lc W);have HOR:=Lib.hid (fun(L:Option Addr)(n lc:Nat)(W:World)=>qkc L n lc W);have HVS:=Lib.hid hvs;have HBV:=Lib.hid (HBW.out.trans (hbv.mono HBW.out.size));have KF:=Lib.hid (fun(V:World)(hV:Below wc.heap.size wc V)=>And.intro (hkv.old hV) (HBY.out.bx.old hV));have HSR:=Lib.hid (rfl:qd0 r=qd0 r);unfold QC lfv qn at HAA HAB;have hb:Below wc.heap.size wc wc.drew:=(qm.drew _).below _;have HBX0:=Lib.hid HBX.out;clear hvs hvc hvw hbv hkv hrv HBX HNB HAL HNG HKU HUM;go_upto_region 19 with(fail)
        have HGB:=Lib.hid (Nat.le_trans HSZ0.out HG8.out);have HGC:=Lib.hid (show w.heap.size+2≤wc.heap.size from Nat.le_trans HSZ0.out HBV.out.size);have hne:wr.heap.size≠g8:=by have:=HBX0.out.bx.lt;omega
        have HNX:=Lib.hid (fun(Ma Mb:MX)(ha:QR (qd0 r) v Ma)(hb:QR 3 v Mb)(hka:Ma.ks=[])(hkb:Mb.ks=[])=>qiW h1i HU.out HVS.out HBI.out ha hb hka hkb);have KS:=Lib.hid (fun(V:World)(hV:Below wc.heap.size wc V)(a0 a1 a2 a3 a4 a5 a6:Value)=>qeT hne (KF.out V hV).1 a0 a1 a2 a3 a4 a5 a6);have HCB:=Lib.hid (fun(V:World)(hV:Below wc.heap.size wc V)=>(⟨(KF.out V hV).1.cell 0,(KF.out V hV).1.cell 1,(KF.out V hV).1.cell 2,(KF.out V hV).1.cell 3⟩:
         V.cell? ⟨wr.heap.size,0,none⟩=some (.int .i64 v.lv)∧V.cell? ⟨wr.heap.size,1,none⟩=some (.bool v.ng)∧V.cell? ⟨wr.heap.size,2,none⟩=some (.slice Av v.ds.length cv)∧V.cell? ⟨wr.heap.size,3,none⟩=some (.slice Kv v.ks.length kv)))
        clear hne HU HVS HBI HBW HBX0 HO;refine wp_region_held_drew (S:=fun w'=>w'.cell? ⟨wr.heap.size,0,none⟩=some (.int .i64 v.lv)∧w'.cell? ⟨wr.heap.size,1,none⟩=some (.bool v.ng)∧w'.cell? ⟨wr.heap.size,2,none⟩=some (.slice Av v.ds.length cv)∧w'.cell? ⟨wr.heap.size,3,none⟩=some (.slice Kv v.ks.length kv)) (by kernel_rfl) (HCB.out _ hb) (fun hHeld=>?_);refine wpAnyH_take (i:=0) (v:=?v0) (by simp only[List.getElem?_toArray,List.getElem?_cons_zero];rfl) (by kernel_rfl) (by kernel_rfl) (by kernel_rfl) (by exact fun _ _ _ h=>h) (Or.inl ⟨by rfl,?hy0⟩) (by assumption) ?rest0
        case hy0=>(intro w0 hSw;(try dsimp only at hSw);go_simp;(first|done|(with_reducible rfl)))
        simp only[Act.put,List.setIfInBounds_toArray,List.set_cons_zero,List.set_cons_succ];refine wpAnyH_take (i:=1) (v:=?v1) (by simp only[List.getElem?_toArray,List.getElem?_cons_succ,List.getElem?_cons_zero];rfl) (by kernel_rfl) (by kernel_rfl) (by kernel_rfl) (by exact fun _ _ _ h=>h) (Or.inl ⟨by rfl,?hy1⟩) (by assumption) ?rest1
        case hy1=>(intro w0 hSw;(try dsimp only at hSw);go_simp;(first|done|(with_reducible rfl)))
        simp only[Act.put,List.setIfInBounds_toArray,List.set_cons_zero,List.set_cons_succ];refine wpAnyH_take (i:=4) (v:=?v4) (by simp only[List.getElem?_toArray,List.getElem?_cons_succ,List.getElem?_cons_zero];rfl) (by kernel_rfl) (by kernel_rfl) (by kernel_rfl) (by exact fun _ _ _ h=>h) (Or.inl ⟨by rfl,?hy4⟩) (by assumption) ?rest4
        case hy4=>(intro w0 hSw;(try dsimp only at hSw);go_simp;(first|done|(with_reducible rfl)))
        simp only[Act.put,List.setIfInBounds_toArray,List.set_cons_zero,List.set_cons_succ];refine wpAnyH_ready (rs:=[2,6]) (by kernel_rfl) (by simp) ?_;refine AllReadyH.cons (by simp only[List.getElem?_toArray,List.getElem?_cons_succ,List.getElem?_cons_zero];rfl) (fun K hK=>?_) (AllReadyH.cons (by simp only[List.getElem?_toArray,List.getElem?_cons_succ,List.getElem?_cons_zero];rfl) (fun K hK=>?_) AllReadyH.nil)
        ·go_simp
         go_at_call 87
         refine(HST.out _).mono ?_;rintro e v0 ⟨rfl,hv0⟩;subst hv0;go_simp
         refine hK.out _ _ (HCB.out _ hb) (fun hHeld=>?_);clear hK K
         (try simp only[Act.put,List.setIfInBounds_toArray,List.set_cons_zero,List.set_cons_succ])
         refine wpAnyH_ready (rs:=[3,6]) (by kernel_rfl) (by simp) ?_;refine AllReadyH.cons (by simp only[List.getElem?_toArray,List.getElem?_cons_succ,List.getElem?_cons_zero];rfl) (fun K hK=>?_) (AllReadyH.cons (by simp only[List.getElem?_toArray,List.getElem?_cons_succ,List.getElem?_cons_zero];rfl) (fun K hK=>?_) AllReadyH.nil)
         ·go_simp
          go_at_call 33
          refine(HAA.out _ hb).mono ?_;rintro e x1 ⟨_,Ma,hMa,hka0,Aa,ca,Ka,ka,rfl,ra,h1⟩;have hka:=Lib.hid hka0;clear hka0;have hb1:=hb.trans (h1.mono hb.size);go_simp
          refine hK.out _ _ (HCB.out _ hb1) (fun hHeld=>?_);clear hK K
          (try simp only[Act.put,List.setIfInBounds_toArray,List.set_cons_zero,List.set_cons_succ])
          refine wpAnyH_ready (rs:=[5,6]) (by kernel_rfl) (by simp) ?_;refine AllReadyH.cons (by simp only[List.getElem?_toArray,List.getElem?_cons_succ,List.getElem?_cons_zero];rfl) (fun K hK=>?_) (AllReadyH.cons (by simp only[List.getElem?_toArray,List.getElem?_cons_succ,List.getElem?_cons_zero];rfl) (fun K hK=>?_) AllReadyH.nil)
          ·go_simp
           go_at_call 33
           refine(HAB.out _ hb1).mono ?_;rintro e x2 ⟨_,Mb,hMb,hkb0,Ab,cb,Kb,kb,rfl,rb,h2⟩;have hkb:=Lib.hid hkb0;clear hkb0;have hb2:=hb1.trans (h2.mono hb1.size);go_simp
           refine hK.out _ _ (HCB.out _ hb2) (fun hHeld=>?_);clear hK K
           (try simp only[Act.put,List.setIfInBounds_toArray,List.set_cons_zero,List.set_cons_succ])
           refine wpAnyH_ready (rs:=[6]) (by kernel_rfl) (by simp) ?_;refine AllReadyH.cons (by simp only[List.getElem?_toArray,List.getElem?_cons_succ,List.getElem?_cons_zero];rfl) (fun K hK=>?_) AllReadyH.nil;obtain⟨p1,p2⟩:=KF.out _ hb2;have z0:=p2.cell 0;have z1:=p2.cell 1;have z2:=p2.cell 2;have z3:=p2.cell 3;have z4:=p2.cell 4;have z5:=p2.cell 5;have z6:=p2.cell 6;clear p1 p2;go_simp
           refine hK.out _ _ (HCB.out _ hb2) (fun hHeld=>?_);clear hK K
           (try simp only[Act.put,List.setIfInBounds_toArray,List.set_cons_zero,List.set_cons_succ])
           clear z0 z1 z2 z3 z4 z5 z6;refine wpAnyH_ready (rs:=[7]) (by kernel_rfl) (by simp) ?_;refine AllReadyH.cons (by simp only[List.getElem?_toArray,List.getElem?_cons_succ,List.getElem?_cons_zero];rfl) (fun K hK=>?_) AllReadyH.nil;have a2:=(Below.refl x2.heap.size x2).alloc (Nat.le_refl _) (.cells #[.int .i64 Mb.kd,.int .i64 Mb.rl,.int .i64 Mb.p.lv,.bool Mb.p.ng,.slice Ab Mb.p.ds.length cb,.slice Kb Mb.p.ks.length kb,.slice none 0 0,.int .i64 M.kd,.int .i64 M.rl,.int .i64 M.p.lv,.bool M.p.ng,.slice AM M.p.ds.length cM,.slice KM M.p.ks.length kM,.slice LM M.ks.length lM] 44);go_simp
           refine hK.out _ _ (HCB.out _ (hb2.trans (a2.mono hb2.size))) (fun hHeld=>?_);clear hK K
           (try simp only[Act.put,List.setIfInBounds_toArray,List.set_cons_zero,List.set_cons_succ])
           refine wpAnyH_ready (rs:=[8]) (by kernel_rfl) (by simp) ?_;refine AllReadyH.cons (by simp only[List.getElem?_toArray,List.getElem?_cons_succ,List.getElem?_cons_zero];rfl) (fun K hK=>?_) AllReadyH.nil;go_simp
           go_at_call 56
           refine(HAN.out _ _ _ _).mono ?_;rintro e x3 ⟨rfl,h3⟩;have hb3:=hb2.trans ((a2.trans (h3.mono a2.size)).mono hb2.size);go_simp
           refine hK.out _ _ (HCB.out _ hb3) (fun hHeld=>?_);clear hK K
           (try simp only[Act.put,List.setIfInBounds_toArray,List.set_cons_zero,List.set_cons_succ])
           refine wpAnyH_ready (rs:=[9]) (by kernel_rfl) (by simp) ?_;refine AllReadyH.cons (by simp only[List.getElem?_toArray,List.getElem?_cons_succ,List.getElem?_cons_zero];rfl) (fun K hK=>?_) AllReadyH.nil;have a3:=(Below.refl x3.heap.size x3).alloc (Nat.le_refl _) (.cells #[.int .i64 Ma.kd,.int .i64 Ma.rl,.int .i64 Ma.p.lv,.bool Ma.p.ng,.slice Aa Ma.p.ds.length ca,.slice Ka Ma.p.ks.length ka,.slice none 0 0,.int .i64 3,.int .i64 0,.int .i64 0,.bool false,.slice none 0 0,.slice none 0 0,.slice (some ⟨x2.heap.size,0,none⟩) 2 2] 44);go_simp
           refine hK.out _ _ (HCB.out _ (hb3.trans (a3.mono hb3.size))) (fun hHeld=>?_);clear hK K
           (try simp only[Act.put,List.setIfInBounds_toArray,List.set_cons_zero,List.set_cons_succ])
           refine wpAnyH_ready (rs:=[10]) (by kernel_rfl) (by simp) ?_;refine AllReadyH.cons (by simp only[List.getElem?_toArray,List.getElem?_cons_succ,List.getElem?_cons_zero];rfl) (fun K hK=>?_) AllReadyH.nil;go_simp
           go_at_call 86
           refine(HOR.out _ _ _ _).mono ?_;rintro e x4 ⟨rfl,h4⟩;have hb4:=hb3.trans ((a3.trans (h4.mono a3.size)).mono hb3.size);go_simp
           refine hK.out _ _ (HCB.out _ hb4) (fun hHeld=>?_);clear hK K
           (try simp only[Act.put,List.setIfInBounds_toArray,List.set_cons_zero,List.set_cons_succ])
           refine wpAnyH_ready (rs:=[11]) (by kernel_rfl) (by simp) ?_;refine AllReadyH.cons (by simp only[List.getElem?_toArray,List.getElem?_cons_succ,List.getElem?_cons_zero];rfl) (fun K hK=>?_) AllReadyH.nil;obtain⟨p1,p2⟩:=KF.out _ hb4;have q0:=p2.cell 0;have q1:=p2.cell 1;have q2:=p2.cell 2;have q3:=p2.cell 3;have q4:=p2.cell 4;have q5:=p2.cell 5;have q6:=p2.cell 6;have f0:=p2.frozen 0;have f1:=p2.frozen 1;have f2:=p2.frozen 2;have f3:=p2.frozen 3;have f4:=p2.frozen 4;have f5:=p2.frozen 5;have f6:=p2.frozen 6;have l8:=p2.lt;clear p1 p2;go_simp
           refine hK.out _ _ (KS.out _ hb4 _ _ _ _ _ _ _) (fun hHeld=>?_);clear hK K
           (try simp only[Act.put,List.setIfInBounds_toArray,List.set_cons_zero,List.set_cons_succ])
           refine wpAnyH_done (by kernel_rfl) ?_ _;clear q0 f0 q1 f1 q2 f2 q3 f3 q4 f4 q5 f5 q6 f6 l8 hHeld a2 a3;have HN:=Lib.hid (Q9 rfl rfl HBY.out HGB.out hb1 ra HGC.out hka.out h2 rb (Nat.le_trans HGC.out (Nat.le_trans hb.size h1.size)) hkb.out h3 h4);have HE:=Lib.hid (JF (HBV.out.trans (hb4.mono HBV.out.size)) HG8.out (.int .i64 4) (.int .i64 0) (.int .i64 0) (.bool false) (.slice none 0 0) (.slice none 0 0) (.slice (some ⟨x3.heap.size,0,none⟩) 2 2));have HI:=Lib.hid (HNX.out Ma Mb hMa hMb hka.out hkb.out);clear ra rb hMa hMb hka hkb h1 h2 h3 h4 hb hb1 hb2 hb3 hb4;go_wp2_with fail
           go_roundg (nc-(i+1))
           case rel=>exact⟨i+1,.mk 4 0 qa [Ma,.mk 3 0 qa [Mb,M]],none,0,none,0,some ⟨x3.heap.size,0,none⟩,2,by omega,by omega,rfl,by go_num,HE.out,HI.out,HN.out⟩
           case measure=>have:=HG.out;omega
          ·obtain⟨p1,p2⟩:=KF.out _ hb1;have z0:=p2.cell 0;have z1:=p2.cell 1;have z2:=p2.cell 2;have z3:=p2.cell 3;have z4:=p2.cell 4;have z5:=p2.cell 5;have z6:=p2.cell 6;clear p1 p2;go_simp
           refine hK.out _ _ (HCB.out _ hb1) (fun hHeld=>?_);clear hK K
           (try simp only[Act.put,List.setIfInBounds_toArray,List.set_cons_zero,List.set_cons_succ])
           clear z0 z1 z2 z3 z4 z5 z6;refine wpAnyH_ready (rs:=[5]) (by kernel_rfl) (by simp) ?_;refine AllReadyH.cons (by simp only[List.getElem?_toArray,List.getElem?_cons_succ,List.getElem?_cons_zero];rfl) (fun K hK=>?_) AllReadyH.nil;go_simp
           go_at_call 33
           refine(HAB.out _ hb1).mono ?_;rintro e x2 ⟨_,Mb,hMb,hkb0,Ab,cb,Kb,kb,rfl,rb,h2⟩;have hkb:=Lib.hid hkb0;clear hkb0;have hb2:=hb1.trans (h2.mono hb1.size);go_simp
           refine hK.out _ _ (HCB.out _ hb2) (fun hHeld=>?_);clear hK K
           (try simp only[Act.put,List.setIfInBounds_toArray,List.set_cons_zero,List.set_cons_succ])
           refine wpAnyH_ready (rs:=[7]) (by kernel_rfl) (by simp) ?_;refine AllReadyH.cons (by simp only[List.getElem?_toArray,List.getElem?_cons_succ,List.getElem?_cons_zero];rfl) (fun K hK=>?_) AllReadyH.nil;have a2:=(Below.refl x2.heap.size x2).alloc (Nat.le_refl _) (.cells #[.int .i64 Mb.kd,.int .i64 Mb.rl,.int .i64 Mb.p.lv,.bool Mb.p.ng,.slice Ab Mb.p.ds.length cb,.slice Kb Mb.p.ks.length kb,.slice none 0 0,.int .i64 M.kd,.int .i64 M.rl,.int .i64 M.p.lv,.bool M.p.ng,.slice AM M.p.ds.length cM,.slice KM M.p.ks.length kM,.slice LM M.ks.length lM] 44);go_simp
           refine hK.out _ _ (HCB.out _ (hb2.trans (a2.mono hb2.size))) (fun hHeld=>?_);clear hK K
           (try simp only[Act.put,List.setIfInBounds_toArray,List.set_cons_zero,List.set_cons_succ])
           refine wpAnyH_ready (rs:=[8]) (by kernel_rfl) (by simp) ?_;refine AllReadyH.cons (by simp only[List.getElem?_toArray,List.getElem?_cons_succ,List.getElem?_cons_zero];rfl) (fun K hK=>?_) AllReadyH.nil;go_simp
           go_at_call 56
           refine(HAN.out _ _ _ _).mono ?_;rintro e x3 ⟨rfl,h3⟩;have hb3:=hb2.trans ((a2.trans (h3.mono a2.size)).mono hb2.size);go_simp
           refine hK.out _ _ (HCB.out _ hb3) (fun hHeld=>?_);clear hK K
           (try simp only[Act.put,List.setIfInBounds_toArray,List.set_cons_zero,List.set_cons_succ])
           refine wpAnyH_ready (rs:=[9]) (by kernel_rfl) (by simp) ?_;refine AllReadyH.cons (by simp only[List.getElem?_toArray,List.getElem?_cons_succ,List.getElem?_cons_zero];rfl) (fun K hK=>?_) AllReadyH.nil;have a3:=(Below.refl x3.heap.size x3).alloc (Nat.le_refl _) (.cells #[.int .i64 Ma.kd,.int .i64 Ma.rl,.int .i64 Ma.p.lv,.bool Ma.p.ng,.slice Aa Ma.p.ds.length ca,.slice Ka Ma.p.ks.length ka,.slice none 0 0,.int .i64 3,.int .i64 0,.int .i64 0,.bool false,.slice none 0 0,.slice none 0 0,.slice (some ⟨x2.heap.size,0,none⟩) 2 2] 44);go_simp
           refine hK.out _ _ (HCB.out _ (hb3.trans (a3.mono hb3.size))) (fun hHeld=>?_);clear hK K
           (try simp only[Act.put,List.setIfInBounds_toArray,List.set_cons_zero,List.set_cons_succ])
           refine wpAnyH_ready (rs:=[10]) (by kernel_rfl) (by simp) ?_;refine AllReadyH.cons (by simp only[List.getElem?_toArray,List.getElem?_cons_succ,List.getElem?_cons_zero];rfl) (fun K hK=>?_) AllReadyH.nil;go_simp
           go_at_call 86
           refine(HOR.out _ _ _ _).mono ?_;rintro e x4 ⟨rfl,h4⟩;have hb4:=hb3.trans ((a3.trans (h4.mono a3.size)).mono hb3.size);go_simp
           refine hK.out _ _ (HCB.out _ hb4) (fun hHeld=>?_);clear hK K
           (try simp only[Act.put,List.setIfInBounds_toArray,List.set_cons_zero,List.set_cons_succ])
           refine wpAnyH_ready (rs:=[11]) (by kernel_rfl) (by simp) ?_;refine AllReadyH.cons (by simp only[List.getElem?_toArray,List.getElem?_cons_succ,List.getElem?_cons_zero];rfl) (fun K hK=>?_) AllReadyH.nil;obtain⟨p1,p2⟩:=KF.out _ hb4;have q0:=p2.cell 0;have q1:=p2.cell 1;have q2:=p2.cell 2;have q3:=p2.cell 3;have q4:=p2.cell 4;have q5:=p2.cell 5;have q6:=p2.cell 6;have f0:=p2.frozen 0;have f1:=p2.frozen 1;have f2:=p2.frozen 2;have f3:=p2.frozen 3;have f4:=p2.frozen 4;have f5:=p2.frozen 5;have f6:=p2.frozen 6;have l8:=p2.lt;clear p1 p2;go_simp
           refine hK.out _ _ (KS.out _ hb4 _ _ _ _ _ _ _) (fun hHeld=>?_);clear hK K
           (try simp only[Act.put,List.setIfInBounds_toArray,List.set_cons_zero,List.set_cons_succ])
           refine wpAnyH_done (by kernel_rfl) ?_ _;clear q0 f0 q1 f1 q2 f2 q3 f3 q4 f4 q5 f5 q6 f6 l8 hHeld a2 a3;have HN:=Lib.hid (Q9 rfl rfl HBY.out HGB.out hb1 ra HGC.out hka.out h2 rb (Nat.le_trans HGC.out (Nat.le_trans hb.size h1.size)) hkb.out h3 h4);have HE:=Lib.hid (JF (HBV.out.trans (hb4.mono HBV.out.size)) HG8.out (.int .i64 4) (.int .i64 0) (.int .i64 0) (.bool false) (.slice none 0 0) (.slice none 0 0) (.slice (some ⟨x3.heap.size,0,none⟩) 2 2));have HI:=Lib.hid (HNX.out Ma Mb hMa hMb hka.out hkb.out);clear ra rb hMa hMb hka hkb h1 h2 h3 h4 hb hb1 hb2 hb3 hb4;go_wp2_with fail
           go_roundg (nc-(i+1))
           case rel=>exact⟨i+1,.mk 4 0 qa [Ma,.mk 3 0 qa [Mb,M]],none,0,none,0,some ⟨x3.heap.size,0,none⟩,2,by omega,by omega,rfl,by go_num,HE.out,HI.out,HN.out⟩
           case measure=>have:=HG.out;omega
         ·obtain⟨p1,p2⟩:=KF.out _ hb;have z0:=p2.cell 0;have z1:=p2.cell 1;have z2:=p2.cell 2;have z3:=p2.cell 3;have z4:=p2.cell 4;have z5:=p2.cell 5;have z6:=p2.cell 6;clear p1 p2;go_simp
          refine hK.out _ _ (HCB.out _ hb) (fun hHeld=>?_);clear hK K
          (try simp only[Act.put,List.setIfInBounds_toArray,List.set_cons_zero,List.set_cons_succ])
          clear z0 z1 z2 z3 z4 z5 z6;refine wpAnyH_ready (rs:=[3]) (by kernel_rfl) (by simp) ?_;refine AllReadyH.cons (by simp only[List.getElem?_toArray,List.getElem?_cons_succ,List.getElem?_cons_zero];rfl) (fun K hK=>?_) AllReadyH.nil;go_simp
          go_at_call 33
          refine(HAA.out _ hb).mono ?_;rintro e x1 ⟨_,Ma,hMa,hka0,Aa,ca,Ka,ka,rfl,ra,h1⟩;have hka:=Lib.hid hka0;clear hka0;have hb1:=hb.trans (h1.mono hb.size);go_simp
          refine hK.out _ _ (HCB.out _ hb1) (fun hHeld=>?_);clear hK K
          (try simp only[Act.put,List.setIfInBounds_toArray,List.set_cons_zero,List.set_cons_succ])
          refine wpAnyH_ready (rs:=[5]) (by kernel_rfl) (by simp) ?_;refine AllReadyH.cons (by simp only[List.getElem?_toArray,List.getElem?_cons_succ,List.getElem?_cons_zero];rfl) (fun K hK=>?_) AllReadyH.nil;go_simp
          go_at_call 33
          refine(HAB.out _ hb1).mono ?_;rintro e x2 ⟨_,Mb,hMb,hkb0,Ab,cb,Kb,kb,rfl,rb,h2⟩;have hkb:=Lib.hid hkb0;clear hkb0;have hb2:=hb1.trans (h2.mono hb1.size);go_simp
          refine hK.out _ _ (HCB.out _ hb2) (fun hHeld=>?_);clear hK K
          (try simp only[Act.put,List.setIfInBounds_toArray,List.set_cons_zero,List.set_cons_succ])
          refine wpAnyH_ready (rs:=[7]) (by kernel_rfl) (by simp) ?_;refine AllReadyH.cons (by simp only[List.getElem?_toArray,List.getElem?_cons_succ,List.getElem?_cons_zero];rfl) (fun K hK=>?_) AllReadyH.nil;have a2:=(Below.refl x2.heap.size x2).alloc (Nat.le_refl _) (.cells #[.int .i64 Mb.kd,.int .i64 Mb.rl,.int .i64 Mb.p.lv,.bool Mb.p.ng,.slice Ab Mb.p.ds.length cb,.slice Kb Mb.p.ks.length kb,.slice none 0 0,.int .i64 M.kd,.int .i64 M.rl,.int .i64 M.p.lv,.bool M.p.ng,.slice AM M.p.ds.length cM,.slice KM M.p.ks.length kM,.slice LM M.ks.length lM] 44);go_simp
          refine hK.out _ _ (HCB.out _ (hb2.trans (a2.mono hb2.size))) (fun hHeld=>?_);clear hK K
          (try simp only[Act.put,List.setIfInBounds_toArray,List.set_cons_zero,List.set_cons_succ])
          refine wpAnyH_ready (rs:=[8]) (by kernel_rfl) (by simp) ?_;refine AllReadyH.cons (by simp only[List.getElem?_toArray,List.getElem?_cons_succ,List.getElem?_cons_zero];rfl) (fun K hK=>?_) AllReadyH.nil;go_simp
          go_at_call 56
          refine(HAN.out _ _ _ _).mono ?_;rintro e x3 ⟨rfl,h3⟩;have hb3:=hb2.trans ((a2.trans (h3.mono a2.size)).mono hb2.size);go_simp
          refine hK.out _ _ (HCB.out _ hb3) (fun hHeld=>?_);clear hK K
          (try simp only[Act.put,List.setIfInBounds_toArray,List.set_cons_zero,List.set_cons_succ])
          refine wpAnyH_ready (rs:=[9]) (by kernel_rfl) (by simp) ?_;refine AllReadyH.cons (by simp only[List.getElem?_toArray,List.getElem?_cons_succ,List.getElem?_cons_zero];rfl) (fun K hK=>?_) AllReadyH.nil;have a3:=(Below.refl x3.heap.size x3).alloc (Nat.le_refl _) (.cells #[.int .i64 Ma.kd,.int .i64 Ma.rl,.int .i64 Ma.p.lv,.bool Ma.p.ng,.slice Aa Ma.p.ds.length ca,.slice Ka Ma.p.ks.length ka,.slice none 0 0,.int .i64 3,.int .i64 0,.int .i64 0,.bool false,.slice none 0 0,.slice none 0 0,.slice (some ⟨x2.heap.size,0,none⟩) 2 2] 44);go_simp
          refine hK.out _ _ (HCB.out _ (hb3.trans (a3.mono hb3.size))) (fun hHeld=>?_);clear hK K
          (try simp only[Act.put,List.setIfInBounds_toArray,List.set_cons_zero,List.set_cons_succ])
          refine wpAnyH_ready (rs:=[10]) (by kernel_rfl) (by simp) ?_;refine AllReadyH.cons (by simp only[List.getElem?_toArray,List.getElem?_cons_succ,List.getElem?_cons_zero];rfl) (fun K hK=>?_) AllReadyH.nil;go_simp
          go_at_call 86
          refine(HOR.out _ _ _ _).mono ?_;rintro e x4 ⟨rfl,h4⟩;have hb4:=hb3.trans ((a3.trans (h4.mono a3.size)).mono hb3.size);go_simp
          refine hK.out _ _ (HCB.out _ hb4) (fun hHeld=>?_);clear hK K
          (try simp only[Act.put,List.setIfInBounds_toArray,List.set_cons_zero,List.set_cons_succ])
          refine wpAnyH_ready (rs:=[11]) (by kernel_rfl) (by simp) ?_;refine AllReadyH.cons (by simp only[List.getElem?_toArray,List.getElem?_cons_succ,List.getElem?_cons_zero];rfl) (fun K hK=>?_) AllReadyH.nil;obtain⟨p1,p2⟩:=KF.out _ hb4;have q0:=p2.cell 0;have q1:=p2.cell 1;have q2:=p2.cell 2;have q3:=p2.cell 3;have q4:=p2.cell 4;have q5:=p2.cell 5;have q6:=p2.cell 6;have f0:=p2.frozen 0;have f1:=p2.frozen 1;have f2:=p2.frozen 2;have f3:=p2.frozen 3;have f4:=p2.frozen 4;have f5:=p2.frozen 5;have f6:=p2.frozen 6;have l8:=p2.lt;clear p1 p2;go_simp
          refine hK.out _ _ (KS.out _ hb4 _ _ _ _ _ _ _) (fun hHeld=>?_);clear hK K
          (try simp only[Act.put,List.setIfInBounds_toArray,List.set_cons_zero,List.set_cons_succ])
          refine wpAnyH_done (by kernel_rfl) ?_ _;clear q0 f0 q1 f1 q2 f2 q3 f3 q4 f4 q5 f5 q6 f6 l8 hHeld a2 a3;have HN:=Lib.hid (Q9 rfl rfl HBY.out HGB.out hb1 ra HGC.out hka.out h2 rb (Nat.le_trans HGC.out (Nat.le_trans hb.size h1.size)) hkb.out h3 h4);have HE:=Lib.hid (JF (HBV.out.trans (hb4.mono HBV.out.size)) HG8.out (.int .i64 4) (.int .i64 0) (.int .i64 0) (.bool false) (.slice none 0 0) (.slice none 0 0) (.slice (some ⟨x3.heap.size,0,none⟩) 2 2));have HI:=Lib.hid (HNX.out Ma Mb hMa hMb hka.out hkb.out);clear ra rb hMa hMb hka hkb h1 h2 h3 h4 hb hb1 hb2 hb3 hb4;go_wp2_with fail
          go_roundg (nc-(i+1))
          case rel=>exact⟨i+1,.mk 4 0 qa [Ma,.mk 3 0 qa [Mb,M]],none,0,none,0,some ⟨x3.heap.size,0,none⟩,2,by omega,by omega,rfl,by go_num,HE.out,HI.out,HN.out⟩
          case measure=>have:=HG.out;omega
        ·obtain⟨p1,p2⟩:=KF.out _ hb;have z0:=p2.cell 0;have z1:=p2.cell 1;have z2:=p2.cell 2;have z3:=p2.cell 3;have z4:=p2.cell 4;have z5:=p2.cell 5;have z6:=p2.cell 6;clear p1 p2;go_simp
         refine hK.out _ _ (HCB.out _ hb) (fun hHeld=>?_);clear hK K
         (try simp only[Act.put,List.setIfInBounds_toArray,List.set_cons_zero,List.set_cons_succ])
         clear z0 z1 z2 z3 z4 z5 z6;refine wpAnyH_ready (rs:=[2]) (by kernel_rfl) (by simp) ?_;refine AllReadyH.cons (by simp only[List.getElem?_toArray,List.getElem?_cons_succ,List.getElem?_cons_zero];rfl) (fun K hK=>?_) AllReadyH.nil;go_simp
         go_at_call 87
         refine(HST.out _).mono ?_;rintro e v0 ⟨rfl,hv0⟩;subst hv0;go_simp
         refine hK.out _ _ (HCB.out _ hb) (fun hHeld=>?_);clear hK K
         (try simp only[Act.put,List.setIfInBounds_toArray,List.set_cons_zero,List.set_cons_succ])
         refine wpAnyH_ready (rs:=[3]) (by kernel_rfl) (by simp) ?_;refine AllReadyH.cons (by simp only[List.getElem?_toArray,List.getElem?_cons_succ,List.getElem?_cons_zero];rfl) (fun K hK=>?_) AllReadyH.nil;go_simp
         go_at_call 33
         refine(HAA.out _ hb).mono ?_;rintro e x1 ⟨_,Ma,hMa,hka0,Aa,ca,Ka,ka,rfl,ra,h1⟩;have hka:=Lib.hid hka0;clear hka0;have hb1:=hb.trans (h1.mono hb.size);go_simp
         refine hK.out _ _ (HCB.out _ hb1) (fun hHeld=>?_);clear hK K
         (try simp only[Act.put,List.setIfInBounds_toArray,List.set_cons_zero,List.set_cons_succ])
         refine wpAnyH_ready (rs:=[5]) (by kernel_rfl) (by simp) ?_;refine AllReadyH.cons (by simp only[List.getElem?_toArray,List.getElem?_cons_succ,List.getElem?_cons_zero];rfl) (fun K hK=>?_) AllReadyH.nil;go_simp
         go_at_call 33
         refine(HAB.out _ hb1).mono ?_;rintro e x2 ⟨_,Mb,hMb,hkb0,Ab,cb,Kb,kb,rfl,rb,h2⟩;have hkb:=Lib.hid hkb0;clear hkb0;have hb2:=hb1.trans (h2.mono hb1.size);go_simp
         refine hK.out _ _ (HCB.out _ hb2) (fun hHeld=>?_);clear hK K
         (try simp only[Act.put,List.setIfInBounds_toArray,List.set_cons_zero,List.set_cons_succ])
         refine wpAnyH_ready (rs:=[7]) (by kernel_rfl) (by simp) ?_;refine AllReadyH.cons (by simp only[List.getElem?_toArray,List.getElem?_cons_succ,List.getElem?_cons_zero];rfl) (fun K hK=>?_) AllReadyH.nil;have a2:=(Below.refl x2.heap.size x2).alloc (Nat.le_refl _) (.cells #[.int .i64 Mb.kd,.int .i64 Mb.rl,.int .i64 Mb.p.lv,.bool Mb.p.ng,.slice Ab Mb.p.ds.length cb,.slice Kb Mb.p.ks.length kb,.slice none 0 0,.int .i64 M.kd,.int .i64 M.rl,.int .i64 M.p.lv,.bool M.p.ng,.slice AM M.p.ds.length cM,.slice KM M.p.ks.length kM,.slice LM M.ks.length lM] 44);go_simp
         refine hK.out _ _ (HCB.out _ (hb2.trans (a2.mono hb2.size))) (fun hHeld=>?_);clear hK K
         (try simp only[Act.put,List.setIfInBounds_toArray,List.set_cons_zero,List.set_cons_succ])
         refine wpAnyH_ready (rs:=[8]) (by kernel_rfl) (by simp) ?_;refine AllReadyH.cons (by simp only[List.getElem?_toArray,List.getElem?_cons_succ,List.getElem?_cons_zero];rfl) (fun K hK=>?_) AllReadyH.nil;go_simp
         go_at_call 56
         refine(HAN.out _ _ _ _).mono ?_;rintro e x3 ⟨rfl,h3⟩;have hb3:=hb2.trans ((a2.trans (h3.mono a2.size)).mono hb2.size);go_simp
         refine hK.out _ _ (HCB.out _ hb3) (fun hHeld=>?_);clear hK K
         (try simp only[Act.put,List.setIfInBounds_toArray,List.set_cons_zero,List.set_cons_succ])
         refine wpAnyH_ready (rs:=[9]) (by kernel_rfl) (by simp) ?_;refine AllReadyH.cons (by simp only[List.getElem?_toArray,List.getElem?_cons_succ,List.getElem?_cons_zero];rfl) (fun K hK=>?_) AllReadyH.nil;have a3:=(Below.refl x3.heap.size x3).alloc (Nat.le_refl _) (.cells #[.int .i64 Ma.kd,.int .i64 Ma.rl,.int .i64 Ma.p.lv,.bool Ma.p.ng,.slice Aa Ma.p.ds.length ca,.slice Ka Ma.p.ks.length ka,.slice none 0 0,.int .i64 3,.int .i64 0,.int .i64 0,.bool false,.slice none 0 0,.slice none 0 0,.slice (some ⟨x2.heap.size,0,none⟩) 2 2] 44);go_simp
         refine hK.out _ _ (HCB.out _ (hb3.trans (a3.mono hb3.size))) (fun hHeld=>?_);clear hK K
         (try simp only[Act.put,List.setIfInBounds_toArray,List.set_cons_zero,List.set_cons_succ])
         refine wpAnyH_ready (rs:=[10]) (by kernel_rfl) (by simp) ?_;refine AllReadyH.cons (by simp only[List.getElem?_toArray,List.getElem?_cons_succ,List.getElem?_cons_zero];rfl) (fun K hK=>?_) AllReadyH.nil;go_simp
         go_at_call 86
         refine(HOR.out _ _ _ _).mono ?_;rintro e x4 ⟨rfl,h4⟩;have hb4:=hb3.trans ((a3.trans (h4.mono a3.size)).mono hb3.size);go_simp
         refine hK.out _ _ (HCB.out _ hb4) (fun hHeld=>?_);clear hK K
         (try simp only[Act.put,List.setIfInBounds_toArray,List.set_cons_zero,List.set_cons_succ])
         refine wpAnyH_ready (rs:=[11]) (by kernel_rfl) (by simp) ?_;refine AllReadyH.cons (by simp only[List.getElem?_toArray,List.getElem?_cons_succ,List.getElem?_cons_zero];rfl) (fun K hK=>?_) AllReadyH.nil;obtain⟨p1,p2⟩:=KF.out _ hb4;have q0:=p2.cell 0;have q1:=p2.cell 1;have q2:=p2.cell 2;have q3:=p2.cell 3;have q4:=p2.cell 4;have q5:=p2.cell 5;have q6:=p2.cell 6;have f0:=p2.frozen 0;have f1:=p2.frozen 1;have f2:=p2.frozen 2;have f3:=p2.frozen 3;have f4:=p2.frozen 4;have f5:=p2.frozen 5;have f6:=p2.frozen 6;have l8:=p2.lt;clear p1 p2;go_simp
         refine hK.out _ _ (KS.out _ hb4 _ _ _ _ _ _ _) (fun hHeld=>?_);clear hK K
         (try simp only[Act.put,List.setIfInBounds_toArray,List.set_cons_zero,List.set_cons_succ])
         refine wpAnyH_done (by kernel_rfl) ?_ _;clear q0 f0 q1 f1 q2 f2 q3 f3 q4 f4 q5 f5 q6 f6 l8 hHeld a2 a3;have HN:=Lib.hid (Q9 rfl rfl HBY.out HGB.out hb1 ra HGC.out hka.out h2 rb (Nat.le_trans HGC.out (Nat.le_trans hb.size h1.size)) hkb.out h3 h4);have HE:=Lib.hid (JF (HBV.out.trans (hb4.mono HBV.out.size)) HG8.out (.int .i64 4) (.int .i64 0) (.int .i64 0) (.bool false) (.slice none 0 0) (.slice none 0 0) (.slice (some ⟨x3.heap.size,0,none⟩) 2 2));have HI:=Lib.hid (HNX.out Ma Mb hMa hMb hka.out hkb.out);clear ra rb hMa hMb hka hkb h1 h2 h3 h4 hb hb1 hb2 hb3 hb4;go_wp2_with fail
         go_roundg (nc-(i+1))
         case rel=>exact⟨i+1,.mk 4 0 qa [Ma,.mk 3 0 qa [Mb,M]],none,0,none,0,some ⟨x3.heap.size,0,none⟩,2,by omega,by omega,rfl,by go_num,HE.out,HI.out,HN.out⟩
         case measure=>have:=HG.out;omega
      ·have hie:i=nc:=by omega
       subst hie;have i5:¬(i:Int)<(i:Int):=by omega
       have k1:=HJ1.out.old HBW.out;have hz:=HBX.out.bx;have HFN:=Lib.hid (Yt (w:=w) (M:=M) k1 (yQ.open HBX.out.mv) (Nat.lt_succ_self _) (Nat.le_succ _) (HB1.out.trans (HBW.out.mono HB1.out.size)));have HMX:=Lib.hid (show Zx r cs M from .inr (.inr (.inr ⟨HO.out,by intro e;have:=HNC.out;rw[e]at this;exact hn0 this.symm,by rw[HNC.out];exact HBI.out⟩)));have d0:=k1.cell 0;have d1:=k1.cell 1;have d2:=k1.cell 2;have d3:=k1.cell 3;have d4:=k1.cell 4;have d5:=k1.cell 5;have d6:=k1.cell 6;have f0:=k1.frozen 0;have f1:=k1.frozen 1;have f2:=k1.frozen 2;have f3:=k1.frozen 3;have f4:=k1.frozen 4;have f5:=k1.frozen 5;have f6:=k1.frozen 6;have z0:=k1.lt;have g0:=hz.cell 0;have g1:=hz.cell 1;have g2:=hz.cell 2;have g3:=hz.cell 3;have g4:=hz.cell 4;have g5:=hz.cell 5;have g6:=hz.cell 6;clear k1 hz HTR HCL HAT HBW HBI HBX HJ1 HB1 hbw hbx;go_wp2_with fail
       exact qg Tryz.results46 rfl rfl HFN.out.1 Tryz.underlying44 rfl Tryz.sizeMat ⟨HCT.out,M,by rw[HCQ.out];exact HMX.out,HFN.out.2⟩
  ·have HM:=Lib.hid (fun(xs:List MX)(hv:yE 3 cs xs)=>show Zx r cs (.mk 3 0 qa xs)from .inr (.inl ⟨h4,ho,xs,hv,rfl⟩));have e4:(r==4)=false:=by simpa using h4
   have e1:(r==1)=false:=by simp;intro e;exact ho (.inl e)
   have e2:(r==2)=false:=by simp;intro e;exact ho (.inr (.inl e))
   have e5:(r==5)=false:=by simp;intro e;exact ho (.inr (.inr (.inl e)))
   have e6:(r==6)=false:=by simp;intro e;exact ho (.inr (.inr (.inr e)))
   have HV:=Lib.hid (Yi 401 (by omega) cs hcl (fun c hc=>by
    obtain⟨a,b,_⟩:=HCL.out c hc;obtain⟨b1,b2,b3⟩:=yw a b;rw[qw a];exact⟨⟨by omega,(b.mono (by omega) (Nat.le_refl _)).few (by omega),b3⟩,b.sm (by omega) (by omega)⟩) Ac cc w1.heap.size w1 (Nat.le_refl _) HTR.out hcc)
   unfold J6 ZP at HV;clear h4 ho;generalize cs.length=nc at*;go_wp2_with fail
   refine HV.out.mono ?_;rintro e w2 ⟨xs,hvl,A2,c2,K2,kc2,L2,lc2,rfl,hmv,hb2⟩;have k1:=HJ1.out.old hb2;have HMX:=Lib.hid (HM.out xs hvl);have HFN:=Lib.hid (Yt (w:=w) (M:= .mk 3 0 qa xs) k1 hmv HSZ0.out (Nat.le_succ _) (HB1.out.trans (hb2.mono HB1.out.size)));have d0:=k1.cell 0;have d1:=k1.cell 1;have d2:=k1.cell 2;have d3:=k1.cell 3;have d4:=k1.cell 4;have d5:=k1.cell 5;have d6:=k1.cell 6;have f0:=k1.frozen 0;have f1:=k1.frozen 1;have f2:=k1.frozen 2;have f3:=k1.frozen 3;have f4:=k1.frozen 4;have f5:=k1.frozen 5;have f6:=k1.frozen 6;have z0:=k1.lt;clear hvl hmv hb2 k1 HM HV HJ1 HB1 HTR HCL;generalize (MX.mk 3 0 qa xs)=N at*;go_wp2_with fail
   exact qg Tryz.results46 rfl rfl HFN.out.1 Tryz.underlying44 rfl Tryz.sizeMat ⟨HCT.out,N,by rw[HCQ.out];exact HMX.out,HFN.out.2⟩
