import Derived.Deep.RegionLaw
import Derived.Test.YtflikmojaidhhaaGreatDoorPq14
import Derived.Test.YtflikmojaidhhaaGreatDoorPqA
namespace Go.Proofs.YtflikmojaidhhaaGreatDoor
open Go.RowKit
def qkx(F:Mo->Int)(M:Nat)(w:World)(e:Ending)(w':World):Prop:=
 ∃A c ps base,e= .returned (.slice A ps.length c)/\zP w' base (.slice A ps.length c) ps F 40000 1000 M/\Below w.heap.size w w'
set_option maxHeartbeats 4000000
set_option maxRecDepth 100000
theorem qkF(dg:Nat)(Xr:dg<=500)(t:RP)(UZ:yz dg t)(A:Oa)(c:Nat)(K:Oa)(kc B:Nat)(w:World)(hB:B<=w.heap.size)(h:RV w (· <B) t (qe t A c K kc)):
 Calls Tryz.prog 88 #[qm t A c K kc] w (qkx (cf (JA t)) (40000*pw 500) w):=by
 have hD:=UZ.dep;have hf:=UZ.few;have TW:=UZ.cnt;have Xb:=Gb w (.cells (Gx t A c K kc) 28);have Xd:=Gh Xb;have Uc:=Gh (fun(W:World)(hW:Below w.heap.size w W)=>J6 dg (by omega) (qC t) t (Gr _) hf A c K kc B W.heap.size [] (.slice none 0 0) (0,0,0,0) 0 W (Gl hB hW.size) (Gr _) (h.below (hW.mono hB)) (yl.nil W W.heap.size).row (by rw[List.length_nil];omega) (by simp[zh]) (by omega));unfold ZY at Uc;have C9:=Gh (fun(w0 W:World)(A:Oa)(n c base:Nat)(qs:List PT)(h:yW w0 (.slice none 0 0) [] base B W (.slice A n c) qs)(hk:qs.map PT.key=jH t (0,0,0,0))(Na:B<=W.heap.size)=>h.pin hk hf Xr (Gr _) hD TW Na);have HB:=Gh hB;clear h hf TW hD Xr hB Xb UZ;unfold qm at Uc ⊢;go_enter Tryz.func88,Tryz.ntmps88
 go_wp2_with fail
 generalize w.alloc (.cells (Gx t A c K kc) 28)=W at*;have Ce:=Gh (Uc W Xd);clear Uc;refine Ce.out.mono ?_;rintro e w3 ⟨v',qs,rfl,XM,Tw⟩;obtain⟨A3,c3',rfl⟩:=jd XM.own;have Xz:Below W.heap.size W w3:=⟨XM.gro.os,XM.gro.tape,XM.gro.output,XM.gro.size,fun k hk=>XM.gro.block k hk (by simp[Value.ownBlock])⟩;have Rd:=Gt Xd Xz;have X9:=Gh (yY A3 c3' w3.heap.size 40000 1000 (40000*pw 500) qs w3 (Gr _) (C9 W w3 A3 _ c3' _ qs XM Tw (Gl HB Rd.size)) (by omega) (yA (by omega) (by omega)));unfold qdU at X9;have TI:=Gh (show∀m,cf (qs.map PT.tm) m=cf (JA t) m from fun m=>by rw[qg3,Tw];rfl);have Rf:=Gh Rd;clear XM Tw Xz Rd Ce C9 Xd;rw[List.nil_append];go_wp2_with fail
 refine X9.out.mono ?_;rintro e w4 ⟨A4,c4,rs,rfl,XF,XB⟩;have HG:=Gh XF;have XW:=Gh (Gt Rf XB);clear XF XB X9 Rf;go_wp2_with fail
 go_ret
 exact⟨A4,c4,rs,w3.heap.size,rfl,{HG.out with cf:=fun m=>(HG.out.cf m).trans (TI m)},XW⟩
theorem qjf(A:Oa)(c B:Nat)(ps:List PT)(w:World)(hB:B<=w.heap.size)(h:PIn w B A ps 40000 1000 (40000*pw 500))(U0:qW (ps.map PT.tm)):
 Calls Tryz.prog 86 #[.slice A ps.length c] w (qS (qZ 4 (ps.map PT.tm)) w):=by
 have Xb:=Gb w (.cells Gz 28);have Xx:=qf.new w 28 Gz;have X9:=Gh (yY A c B 40000 1000 (40000*pw 500) ps _ (Gl hB Xb.size) (h.below (Xb.mono hB)) (by omega) (yA (by omega) (by omega)));unfold qdU at X9;have Xd:=Gh Xb;have Xo:=Gh Xx;have Tk:=Gh U0;have XJ:=Gh Xx.lt;clear h Xb Xx hB U0;generalize ps.length=pl at*;go_enter Tryz.func86,Tryz.ntmps86
 go_wp2_with fail
 generalize w.alloc (.cells Gz 28)=W at*;refine X9.out.mono ?_;rintro e w4 ⟨A4,c4,rs,rfl,XF,XB⟩;have XW:=Gh (Gt Xd XB);have Vd:=Gh (Xo.out.old XB);have Fa:∀p∈rs,∀i,i<4->0<=gt p.m i/\gt p.m i<=1000:=fun p hp i hi=>by
  have h1:=XF.vl hp;have h2:=XF.mb p hp;rw[ZC]at h1;unfold MB at h2;rcases(by omega:i=0∨i=1∨i=2∨i=3)with rfl|rfl|rfl|rfl<;>(simp only[gt];omega)
 have Uo:=fun p hp=>XF.dlen (k:=600) (yA (by omega) (by omega)) (p:=p) hp;have UP:rs.length<=c4:=by
  by_cases Oq:rs.length=0
  ·omega
  ·obtain⟨g',cap,Dq,_⟩:=XF.own.row.form (by omega)
   injection Dq with h1
   have Ua:=XF.own.row;rw[h1]at Ua;exact(own_blk Ua).choose_spec.2.2.1
 have DQ:=Gh (Y6 5 4 (by omega) (by omega) rs A4 c4 w4.heap.size w4 (Gr _) XF.own.polyIn XF.can.desc XF.own.cn Fa UP XF.len XF.own.dg);unfold ZS qm at DQ;have XH:=Gh (ZB (X:=1001) (by omega) 4 (rs.map PT.tm) (by omega) fun s hs=>by
  obtain⟨p,hp,rfl⟩:=List.mem_map.1 hs;refine⟨by rw[<-(XF.own.cn p hp).ds];have:=Uo p hp;omega,fun i hi=>?_⟩;have:=(Fa p hp i hi).2;show gt p.m i+1<=_;omega)
 have Ut:=Gh (show rs.map PT.tm=ps.map PT.tm from XF.can.unique Tk XF.cf);have Vj:=Gh (fun(A:Oa)(c:Nat)(K:Oa)(kc:Nat)(W:World)(h:RV W (· <W.heap.size) (qZ 4 (rs.map PT.tm)) (qe (qZ 4 (rs.map PT.tm)) A c K kc))=>QY 1001 (by omega) (qC (qZ 4 (rs.map PT.tm))) _ (Gr _) XH A c K kc W.heap.size W (Gr _) h);unfold Zu at Vj;rw[Z6]at Vj;rw[Ut.out]at DQ Vj;unfold qm at Vj;clear XF XB Fa Uo UP X9 Xo Xd XH Ut;generalize qZ 4 (ps.map PT.tm)=T at*;go_wp2_with fail
 refine DQ.out.mono ?_;rintro e w5 ⟨A5,c5,K5,kc5,rfl,Uy,XL⟩;have HC5:=Gh (Vj A5 c5 K5 kc5 w5 Uy.rv);have XZ:=Gh (Gt XW XL);have RJ:=Gh (Vd.out.old XL);have FL:=Gh (show w.heap.size<w5.heap.size from RJ.out.lt);clear Uy XL DQ Vj XW Vd;go_wp2_with fail
 refine HC5.out.mono ?_;rintro e w6 ⟨A6,c6,K6,kc6,rfl,Eq,XY⟩;have k6:=RJ.out.old XY;have Xg:=Gh (jj (w:=w) k6 rfl Eq FL (Gr _) (Gt XZ XY));obtain⟨d0,d1,d2,d3⟩:=G4 k6;obtain⟨f0,f1,f2,f3,z0⟩:=G5 k6;clear k6 Eq XY HC5 RJ XZ;go_wp2_with fail
 exact qo Tryz.results86 rfl rfl Xg.out.1 Tryz.underlying28 rfl Tryz.sizeRec Xg.out.2
def SgT(t T:RP):Prop:=∃P,qW P/\(∀m,cf P m=cf (JA t) m)/\T=qZ 4 (snL P)
theorem qgJ(dg:Nat)(Xr:dg<=500)(t:RP)(UZ:yz dg t)(A:Oa)(c:Nat)(K:Oa)(kc B:Nat)(w:World)(hB:B<=w.heap.size)(h:RV w (· <B) t (qe t A c K kc)):
 Calls Tryz.prog 56 #[qm t A c K kc] w fun e w'=>∃T,SgT t T/\qS T w e w':=by
 have HX:=Gh (qR w 28 28 (Gx t A c K kc) Gz);have O3:=Gh (fun(W:World)(hW:Below w.heap.size w W)=>qkF dg Xr t UZ A c K kc B W (Gl hB hW.size) (h.below (hW.mono hB)));unfold qkx at O3;unfold qm at O3 ⊢;clear h UZ Xr hB;go_enter Tryz.func56,Tryz.ntmps56
 go_wp2_with fail
 obtain⟨Xb,k0,k1,hs⟩:=HX.out;generalize (w.alloc (.cells (Gx t A c K kc) 28)).alloc (.cells Gz 28)=W at*;have Ew:=Gh (O3 W Xb);have Xd:=Gh Xb;have Xu:=Gh k1;clear HX O3 Xb k0 k1 hs;refine Ew.out.mono ?_;rintro e w2 ⟨A2,c2,ps,base,rfl,XF,Xf⟩;have Xw:=Gh (Gt Xd Xf);have XA:=Gh (Xu.out.old Xf);have Uj:=Gh (qaM A2 c2 w2.heap.size 40000 1000 (40000*pw 500) ps w2 (Gr _) (XF.pin (by omega) (yA (by omega) (by omega))) (by omega) (yA (by omega) (by omega)) (by omega));unfold qkq qdU at Uj;have Ej:=Gh XF.cf;clear XF Xf Ew Xd Xu;generalize ps.length=pl at*;go_wp2_with fail
 refine Uj.out.mono ?_;rintro e w3 ⟨P,hP,hcP,A3,c3,qs,rfl,XF,Xz⟩;have Um:=Gh (Gt Xw Xz);have Uk:=Gh (XA.out.old Xz);have Ut:=Gh (show qs.map PT.tm=snL P from XF.can.unique (qeg hP) XF.cf);have MT:=Gh (qjf A3 c3 w3.heap.size qs w3 (Gr _) (XF.pin (by omega) (yA (by omega) (by omega))) XF.can);have ST:=Gh (show SgT t (qZ 4 (qs.map PT.tm))from⟨P,hP,fun m=>(hcP m).trans (Ej m),by rw[Ut.out]⟩);have O5:=Gh (show w.heap.size+1<w3.heap.size from Uk.out.lt);unfold qS qm at MT;clear XF Xz hP hcP Uj Xw XA Ut Ej;generalize qZ 4 (qs.map PT.tm)=T at*;generalize qs.length=ql at*;go_wp2_with fail
 refine MT.out.mono ?_;rintro e w6 ⟨A6,c6,K6,kc6,rfl,Eq,XY⟩;have k6:=Uk.out.old XY;have Xg:=Gh (jj (w:=w) k6 rfl Eq O5 (Nat.le_succ _) (Gt Um XY));obtain⟨d0,d1,d2,d3⟩:=G4 k6;obtain⟨f0,f1,f2,f3,z0⟩:=G5 k6;clear k6 Eq XY MT Uk Um;go_wp2_with fail
 exact qo Tryz.results56 rfl rfl Xg.out.1 Tryz.underlying28 rfl Tryz.sizeRec ⟨T,ST,Xg.out.2⟩
inductive MX where
 |mk (kd rl:Int) (p:RP) (ks:List MX)
namespace MX
def kd:MX->Int|mk k _ _ _=>k
def rl:MX->Int|mk _ r _ _=>r
def p:MX->RP|mk _ _ p _=>p
def ks:MX->List MX|mk _ _ _ k=>k
end MX
def jn(m:MX)(A:Oa)(c:Nat)(K:Oa)(kc:Nat)(L:Oa)(lc:Nat):List Value:=[.int .i64 m.kd,.int .i64 m.rl,.int .i64 m.p.lv,.bool m.p.ng,.slice A m.p.ds.length c,.slice K m.p.ks.length kc,.slice L m.ks.length lc]
mutual
def MV(w:World)(S:Nat->Prop):MX->List Value->Prop
 | .mk k r p ks,vs=>∃A c K kc L lc,vs=jn (.mk k r p ks) A c K kc L lc/\RV w S p (qe p A c K kc)/\ks.length<=lc/\∃rows,ju w S 7 L ks.length rows.flatten/\QE w S ks rows
def QE(w:World)(S:Nat->Prop):List MX->List (List Value)->Prop
 |[],rows=>rows=[]
 |t::ts,rows=>∃r rs,rows=r::rs/\MV w S t r/\QE w S ts rs
end
section
variable {w w':World} {S S':Nat->Prop}
mutual
theorem MV.keep(hk:∀b,S b->∀o,w'.cell? ⟨b,o,none⟩=w.cell? ⟨b,o,none⟩):∀(t:MX)(vs:List Value),MV w S t vs->MV w' S t vs
 | .mk l g p ks,vs,h=>by
   unfold MV at h ⊢;obtain⟨A,c,K,kc,L,lc,h1,h2,h3,rows,h6,h7⟩:=h;exact⟨A,c,K,kc,L,lc,h1,RV.keep hk p _ h2,h3,rows,h6.keep hk,QE.keep hk ks rows h7⟩
theorem QE.keep(hk:∀b,S b->∀o,w'.cell? ⟨b,o,none⟩=w.cell? ⟨b,o,none⟩):∀(ts:List MX)(rows:List (List Value)),QE w S ts rows->QE w' S ts rows
 |[],rows,h=>by unfold QE at h ⊢; exact h
 |t::ts,rows,h=>by
  unfold QE at h ⊢;obtain⟨r,rs,h1,h2,h3⟩:=h;exact⟨r,rs,h1,MV.keep hk t r h2,QE.keep hk ts rs h3⟩
end
mutual
theorem MV.mono(hS:∀b,S b->S' b):∀(t:MX)(vs:List Value),MV w S t vs->MV w S' t vs
 | .mk l g p ks,vs,h=>by
   unfold MV at h ⊢;obtain⟨A,c,K,kc,L,lc,h1,h2,h3,rows,h6,h7⟩:=h;exact⟨A,c,K,kc,L,lc,h1,RV.mono hS p _ h2,h3,rows,h6.mono hS,QE.mono hS ks rows h7⟩
theorem QE.mono(hS:∀b,S b->S' b):∀(ts:List MX)(rows:List (List Value)),QE w S ts rows->QE w S' ts rows
 |[],rows,h=>by unfold QE at h ⊢; exact h
 |t::ts,rows,h=>by
  unfold QE at h ⊢;obtain⟨r,rs,h1,h2,h3⟩:=h;exact⟨r,rs,h1,MV.mono hS t r h2,QE.mono hS ts rs h3⟩
end
theorem MV.cells{t:MX}{vs:List Value}(h:MV w S t vs):∃A c K kc L lc,vs=jn t A c K kc L lc:=by
 cases t with
 |mk l g p ks=>
  unfold MV at h;obtain⟨A,c,K,kc,L,lc,h1,_⟩:=h;exact⟨A,c,K,kc,L,lc,h1⟩
theorem MV.seven{t:MX}{vs:List Value}(h:MV w S t vs):vs.length=7:=by
 obtain⟨A,c,K,kc,L,lc,rfl⟩:=h.cells;rfl
theorem QE.at_:∀(ts:List MX)(rows:List (List Value)),QE w S ts rows->(∀r∈rows,r.length=7)/\rows.length=ts.length/\∀(i:Nat)(t:MX),ts[i]? =some t->∃r,rows[i]? =some r/\MV w S t r
 |[],rows,h=>by
  unfold QE at h;subst h;simp
 |t::ts,rows,h=>by
  unfold QE at h;obtain⟨r,rs,rfl,h2,h3⟩:=h;obtain⟨a1,a2,a3⟩:=QE.at_ ts rs h3;refine⟨fun x hx=>?_,by simp[a2],fun i u hu=>?_⟩
  ·rcases List.mem_cons.1 hx with rfl|hx
   ·exact h2.seven
   ·exact a1 x hx
  ·cases i with
   |zero=>simp at hu;subst hu;exact⟨r,rfl,h2⟩
   |succ i=>simp at hu;obtain⟨x,hx,hv⟩:=a3 i u hu;exact⟨x,by simpa using hx,hv⟩
theorem qkr:∀(rows:List (List Value))(_:∀r∈rows,r.length=7)(i:Nat)(r:List Value)(_:rows[i]? =some r)(j:Nat)(_:j<7),rows.flatten[i*7+j]? =r[j]?
 |[],_,i,r,h,_,_=>by simp at h
 |x::rows,h4,0,r,h,j,hj=>by
  simp at h;subst h;have:=h4 x List.mem_cons_self;rw[List.flatten_cons,Nat.zero_mul,Nat.zero_add,List.getElem?_append_left (by omega)]
 |x::rows,h4,i+1,r,h,j,hj=>by
  have h1:=h4 x List.mem_cons_self;rw[List.flatten_cons,List.getElem?_append_right (by omega),h1,show(i+1)*7+j-7=i*7+j by omega];exact qkr rows (fun y hy=>h4 y (List.mem_cons_of_mem _ hy)) i r (by simpa using h) j hj
theorem MV.node{t:MX}{A:Oa}{c:Nat}{K:Oa}{kc:Nat}{L:Oa}{lc:Nat}(h:MV w S t (jn t A c K kc L lc)):RV w S t.p (qe t.p A c K kc)/\t.ks.length<=lc:=by
 cases t with
 |mk l g p ks=>
  unfold MV at h;obtain⟨A',c',K',kc',L',lc',h1,h2,h3,_⟩:=h;unfold jn at h1;simp only[List.cons.injEq,Value.slice.injEq,and_true,true_and]at h1;obtain⟨⟨rfl,_,rfl⟩,⟨rfl,_,rfl⟩,rfl,_,rfl⟩:=h1;exact⟨h2,h3⟩
theorem MV.kid{t:MX}{A:Oa}{c:Nat}{K:Oa}{kc:Nat}{L:Oa}{lc:Nat}(h:MV w S t (jn t A c K kc L lc)){i:Nat}{u:MX}(hi:t.ks[i]? =some u):
 ∃b o A' c' K' kc' L' lc',L=some ⟨b,o,none⟩/\S b/\(∀(j:Nat)(v:Value),(jn u A' c' K' kc' L' lc')[j]? =some v->w.cell? ⟨b,o+(i*7+j),none⟩=some v)/\MV w S u (jn u A' c' K' kc' L' lc'):=by
 cases t with
 |mk l g p ks=>
  unfold MV at h;obtain⟨A1,c1,K1,kc1,L1,lc1,h1,_,_,rows,h6,h7⟩:=h;unfold jn at h1;simp only[List.cons.injEq,Value.slice.injEq,and_true,true_and]at h1;obtain⟨_,_,rfl,_,rfl⟩:=h1;have EL:ks[i]? =some u:=hi;have hl:i<ks.length:=(Gi.1 EL).1;obtain⟨a1,a2,a3⟩:=QE.at_ ks rows h7;obtain⟨r,hr,hv⟩:=a3 i u EL;obtain⟨A',c',K',kc',L',lc',rfl⟩:=hv.cells;obtain⟨b,o,hA,hb,hc⟩:=h6.2 (by show 0<ks.length;omega);refine⟨b,o,A',c',K',kc',L',lc',hA,hb,fun j v hj=>hc (i*7+j) v ?_,hv⟩;have hj7:j<7:=by
   have:=(Gi.1 hj).1;simpa[jn]using this
  exact(qkr rows a1 i _ hr j hj7).trans hj
end
theorem MV.below{w w':World}{B:Nat}{t:MX}{vs:List Value}(h:MV w (· <B) t vs)(hb:Below B w w'):MV w' (· <B) t vs:=MV.keep (fun b hS o=>hb.cell (p:=⟨b,o,none⟩) hS) t vs h
theorem MV.more{w:World}{B B':Nat}{t:MX}{vs:List Value}(h:MV w (· <B) t vs)(hB:B<=B'):MV w (· <B') t vs:=MV.mono (fun _ hS=>Gm hS hB) t vs h
theorem Tryz.sizeMat:(Tryz.prog.info? 32).map (·.size)=some 7:=by kernel_rfl
theorem Tryz.infoMat:(Tryz.prog.info? 32).map (fun i=>(i.zero,i.size,i.bytes))=some (some (.agg #[.int .i64 0,.int .i64 0,.int .i64 0,.bool false,.slice none 0 0,.slice none 0 0,.slice none 0 0]),7,104):=by kernel_rfl
theorem jf{w:World}{g g':Nat}{t t':TypeId}{cs cs':Array Value}(h:qf w g t cs)(h':qf w g' t' cs')(Xl:t≠t'):g≠g':=by
 rintro rfl;unfold qf at h h';rw[h]at h'
 injection h' with h'
 injection h' with _ h2
 exact Xl h2
def OkM(w:World)(base:Nat)(r:Option Nat)(b:Nat):Prop:=yB w base b∨(base<=b/\some b≠r/\∃cs,qf w b 32 cs)
theorem OkM.keep{w w':World}{base:Nat}{r r':Option Nat}(hu:∀g cs,qf w g 123 cs->qf w' g 123 cs)(hr:∀g cs,base<=g->qf w g 28 cs->qf w' g 28 cs)
 (hm:∀g cs,base<=g->some g≠r->qf w g 32 cs->qf w' g 32 cs/\some g≠r'):
 (∀b,OkM w base r b->∀o,w'.cell? ⟨b,o,none⟩=w.cell? ⟨b,o,none⟩)/\∀b,OkM w base r b->OkM w' base r' b:=by
 obtain⟨k1,k2⟩:=yB.keep (base:=base) hu hr (Gr _);refine⟨fun b h o=>?_,fun b h=>?_⟩
 ·rcases h with h|⟨h0,h1,cs,h⟩
  ·exact k1 b h o
  ·exact h.cell_eq (hm b cs h0 h1 h).1 o
 ·rcases h with h|⟨h0,h1,cs,h⟩
  ·exact .inl (k2 b h)
  ·exact .inr ⟨h0,(hm b cs h0 h1 h).2,cs,(hm b cs h0 h1 h).1⟩
section
variable {Ws W W1 W2:World} {b0 g:Nat} {u u':Value} {xs:List MX} {a:MX} {rows:List (List Value)} {news:List Value}
theorem ze{w:World}{base n size g o:Nat}{e:TypeId}{v:Value}{ys:List Value}(h:w.ownsRow base e size v n ys)(hg:g<base)(x:Value):(w.setCell ⟨g,o,none⟩ x).ownsRow base e size v n ys:=
 h.kept (row:=some g) ⟨rfl,rfl,rfl,by simp,fun j _ hj=>Below.heap_setCell w ⟨g,o,none⟩ x j (fun e=>hj (by have e:j=g:=e;rw[e]))⟩ (.inr fun e=>by have:=jY h e;omega)
end
section
variable {w Ws W W1 W2:World} {g4 g g':Nat} {u v v':Value} {xs ms:List MX} {rows:List (List Value)} {news:List Value}
theorem Qd{w:World}{g:Nat}(h:qf w g 32 #[.int .i64 0,.int .i64 0,.int .i64 0,.bool false,.slice none 0 0,.slice none 0 0,.slice none 0 0])(a0 a1 a2 a3 a4 a5 a6:Value):
 qf (((((((w.setCell ⟨g,0,none⟩ a0).setCell ⟨g,1,none⟩ a1).setCell ⟨g,2,none⟩ a2).setCell ⟨g,3,none⟩ a3).setCell ⟨g,4,none⟩ a4).setCell ⟨g,5,none⟩ a5).setCell ⟨g,6,none⟩ a6) g 32 #[a0,a1,a2,a3,a4,a5,a6]/\
  (∀j t cs,j≠g->qf w j t cs->qf (((((((w.setCell ⟨g,0,none⟩ a0).setCell ⟨g,1,none⟩ a1).setCell ⟨g,2,none⟩ a2).setCell ⟨g,3,none⟩ a3).setCell ⟨g,4,none⟩ a4).setCell ⟨g,5,none⟩ a5).setCell ⟨g,6,none⟩ a6) j t cs)/\
  ∀B,B<=g->Below B w (((((((w.setCell ⟨g,0,none⟩ a0).setCell ⟨g,1,none⟩ a1).setCell ⟨g,2,none⟩ a2).setCell ⟨g,3,none⟩ a3).setCell ⟨g,4,none⟩ a4).setCell ⟨g,5,none⟩ a5).setCell ⟨g,6,none⟩ a6):=
 ⟨((((((h.set_ 0 a0).set_ 1 a1).set_ 2 a2).set_ 3 a3).set_ 4 a4).set_ 5 a5).set_ 6 a6,
   fun _ _ _ hj k=>(((((((k.far (p:=⟨g,0,none⟩) hj a0).far (p:=⟨g,1,none⟩) hj a1).far (p:=⟨g,2,none⟩) hj a2).far (p:=⟨g,3,none⟩) hj a3).far (p:=⟨g,4,none⟩) hj a4).far (p:=⟨g,5,none⟩) hj a5).far (p:=⟨g,6,none⟩) hj a6),
   fun B hB=>(((((((Below.refl B w).setCell (p:=⟨g,0,none⟩) hB a0).setCell (p:=⟨g,1,none⟩) hB a1).setCell (p:=⟨g,2,none⟩) hB a2).setCell (p:=⟨g,3,none⟩) hB a3).setCell (p:=⟨g,4,none⟩) hB a4).setCell (p:=⟨g,5,none⟩) hB a5).setCell (p:=⟨g,6,none⟩) hB a6⟩
end
def JU(r:Int):Int:=if r=1 then 1 else if r=2 then 3 else if r=4 then 5 else if r=5 then 6 else if r=6 then 4 else 2
def qhX(s:Int):Int:=if s=-1 then 1 else if s=0 then 2 else 4
def YQ(b:Int):Int:=if b=1 then 4 else if b=4 then 1 else if b=3 then 6 else if b=6 then 3 else b
def QA(b:Int):Int:=if b=1 then 1 else if b=3 then 2 else if b=2 then 3 else if b=5 then 4 else if b=6 then 5 else 6
theorem Jy(r:Int):JU r=1∨JU r=2∨JU r=3∨JU r=4∨JU r=5∨JU r=6:=by
 unfold JU
 split
 ·simp
 ·split
  ·simp
  ·split
   ·simp
   ·split
    ·simp
    ·split<;>simp
set_option maxHeartbeats 1000000
theorem Jj(r:Int)(w:World):Calls Tryz.prog 50 #[.int .i64 r] w fun e w'=>e= .returned (.int .i64 (JU r))/\w'=w:=by
 unfold JU;by_cases h1:r=1
 ·subst h1;go_enter Tryz.func50,Tryz.ntmps50
  go_wp2_with fail
  go_ret
  exact⟨rfl,rfl⟩
 rw[if_neg h1];have e1:(r==1)=false:=by simpa using h1
 by_cases h2:r=2
 ·subst h2;clear h1 e1;go_enter Tryz.func50,Tryz.ntmps50
  go_wp2_with fail
  go_ret
  exact⟨rfl,rfl⟩
 rw[if_neg h2];have e2:(r==2)=false:=by simpa using h2
 by_cases h4:r=4
 ·subst h4;clear h1 e1 h2 e2;go_enter Tryz.func50,Tryz.ntmps50
  go_wp2_with fail
  go_ret
  exact⟨rfl,rfl⟩
 rw[if_neg h4];have e4:(r==4)=false:=by simpa using h4
 by_cases h5:r=5
 ·subst h5;clear h1 e1 h2 e2 h4 e4;go_enter Tryz.func50,Tryz.ntmps50
  go_wp2_with fail
  go_ret
  exact⟨rfl,rfl⟩
 rw[if_neg h5];have e5:(r==5)=false:=by simpa using h5
 by_cases h6:r=6
 ·subst h6;clear h1 e1 h2 e2 h4 e4 h5 e5;go_enter Tryz.func50,Tryz.ntmps50
  go_wp2_with fail
  go_ret
  exact⟨rfl,rfl⟩
 rw[if_neg h6];have e6:(r==6)=false:=by simpa using h6
 clear h1 h2 h4 h5 h6;go_enter Tryz.func50,Tryz.ntmps50
 go_wp2_with fail
 go_ret
 exact⟨rfl,rfl⟩
theorem qji(s:Int)(w:World):Calls Tryz.prog 51 #[.int .i64 s] w fun e w'=>e= .returned (.int .i64 (qhX s))/\w'=w:=by
 unfold qhX;by_cases h1:s=-1
 ·subst h1;go_enter Tryz.func51,Tryz.ntmps51
  go_wp2_with fail
  go_ret
  exact⟨rfl,rfl⟩
 rw[if_neg h1];have e1:(s== -1)=false:=by simpa using h1
 by_cases h2:s=0
 ·subst h2;clear h1 e1;go_enter Tryz.func51,Tryz.ntmps51
  go_wp2_with fail
  go_ret
  exact⟨rfl,rfl⟩
 rw[if_neg h2];have e2:(s==0)=false:=by simpa using h2
 clear h1 h2;go_enter Tryz.func51,Tryz.ntmps51
 go_wp2_with fail
 go_ret
 exact⟨rfl,rfl⟩
set_option maxHeartbeats 4000000
theorem qjS(b:Int)(hb:b=1∨b=2∨b=3∨b=4∨b=5∨b=6)(w:World):Calls Tryz.prog 54 #[.int .i64 b] w fun e w'=>e= .returned (.int .i64 (YQ b))/\w'=w:=by
 rcases hb with rfl|rfl|rfl|rfl|rfl|rfl
 all_goals
  go_enter Tryz.func54,Tryz.ntmps54
  go_wp2_with fail
  go_ret
  exact⟨rfl,rfl⟩
theorem JQ{b:Int}(hb:b=1∨b=2∨b=3∨b=4∨b=5∨b=6):1<=QA b/\QA b<=6/\JU (QA b)=b/\∀r,1<=r->r<QA b->JU r≠b:=by
 rcases hb with rfl|rfl|rfl|rfl|rfl|rfl
 all_goals
  refine⟨by decide,by decide,by decide,fun r h1 h2=>?_⟩;have h6:r<6:=Int.lt_of_lt_of_le h2 (by decide);have h3:r=1∨r=2∨r=3∨r=4∨r=5:=by omega
  rcases h3 with rfl|rfl|rfl|rfl|rfl<;>revert h2<;>decide
theorem qaK(b:Int)(hb:b=1∨b=2∨b=3∨b=4∨b=5∨b=6)(w:World):Calls Tryz.prog 55 #[.int .i64 b] w fun e w'=>e= .returned (.tuple #[.int .i64 (QA b),.bool true])/\w'=w:=by
 obtain⟨r1,r6,rs,rl⟩:=JQ hb;have HRS:=Gh rs;have Nk:=Gh rl;have ST:=Gh (fun(r:Int)=>Jj r w);clear rs rl hb;generalize QA b=rb at*;go_enter Tryz.func55,Tryz.ntmps55
 go_wp2_with fail
 go_loopg [4] 6 (fun gn ix wr=>∃r:Nat,1<=r/\(r:Int)<=rb/\gn=7-r/\ix= .int .i64 (r:Int)/\wr=w)
 case atStart=>exact⟨1,Gr _,r1,rfl,rfl,rfl⟩
 case round=>
  obtain⟨r,U9,Uy,hg,rfl,rfl⟩:=hrel;have HG:=Gh hg;clear hg;have i1:(r:Int)<=6:=by omega
  have Uj:=Gh (ST (r:Int));by_cases Xi:(r:Int)=rb
  ·have e1:(JU (r:Int)==b)=true:=by rw[Xi,HRS.out];simp
   have KE:=Gh Xi;clear Xi;generalize JU (r:Int)=sr at*;go_wp2_with fail
   refine Uj.out.mono ?_;rintro e w2 ⟨rfl,rfl⟩;go_wp2_with fail
   go_ret2
   exact⟨by rw[<-KE.out];rfl,rfl⟩
  ·have e1:(JU (r:Int)==b)=false:=by simpa using Nk.out (r:Int) (by omega) (by omega)
   have i2:(r:Int)+1<=rb:=by omega
   clear Xi;generalize JU (r:Int)=sr at*;go_wp2_with fail
   refine Uj.out.mono ?_;rintro e w2 ⟨rfl,rfl⟩;go_wp2_with fail
   go_roundg (7-(r+1))
   case rel=>exact⟨r+1,by omega,by omega,rfl,by go_num,rfl⟩
   case measure=>have:=HG.out;omega
def tfM(b:Bool):MX:= .mk (if b then 1 else 0) 0 qh []
theorem ZV(b:Bool)(w:World):Calls Tryz.prog 49 #[.bool b] w fun e w'=>e= .returned (.agg #[.int .i64 (tfM b).kd,.int .i64 0,.int .i64 0,.bool false,.slice none 0 0,.slice none 0 0,.slice none 0 0])/\Below w.heap.size w w':=by
 cases b
 all_goals
  go_enter Tryz.func49,Tryz.ntmps49
  go_wp2_with fail
  refine qo Tryz.results49 rfl rfl (qf.new w _ _) Tryz.underlying32 rfl Tryz.sizeMat ⟨rfl,Gb w _⟩
theorem qgk(X:Nat)(hX:X<=100000)(t:RP)(hc:qv t=true)(hf:yP X t)(A:Oa)(c:Nat)(K:Oa)(kc B:Nat)(w:World)(hB:B<=w.heap.size)(h:RV w (· <B) t (qe t A c K kc)):
 Calls Tryz.prog 53 #[qm t A c K kc] w fun e w'=>e= .returned (.int .i64 (qP (ldT t)))/\Below w.heap.size w w':=by
 have Xb:=Gb w (.cells (Gx t A c K kc) 28);have Xx:=qf.new w 28 (Gx t A c K kc);have Xd:=Gh Xb;have Xo:=Gh Xx;have HB:=Gh hB;have HC:=Gh hc;have HF:=Gh hf;have HV:=Gh (h.below (Xb.mono hB));have ST:=Gh (fun(ng:Bool)(A:Oa)(c:Nat)(ds:List Nat)(W:World)(hW:B<=W.heap.size)(h:qx W B A c ds)(hm:ds.length<=1000000)=>zI ng A c B ds W hW h hm);unfold qm;clear h hc hf hB Xb Xx;go_enter Tryz.func53,Tryz.ntmps53
 go_wp2_with fail
 generalize w.alloc (.cells (Gx t A c K kc) 28)=W at*;go_loopg [] (qC t) (fun gn wr=>∃(u:RP)(A:Oa)(c:Nat)(K:Oa)(kc:Nat),gn=qC u/\qv u=true/\yP X u/\ldT u=ldT t/\Below w.heap.size w wr/\qf wr w.heap.size 28 #[.int .i64 u.lv,.bool u.ng,.slice A u.ds.length c,.slice K u.ks.length kc]/\RV wr (· <B) u (qe u A c K kc))
 case atStart=>exact⟨t,A,c,K,kc,rfl,HC,HF,rfl,Xd,Xo,HV⟩
 case round=>
  clear Xd Xo HV HC HF;obtain⟨u,A,c,K,kc,hg,Ss,LT,Oz,Xe,hk,hv⟩:=hrel;have HG:=Gh hg;clear hg;obtain⟨c0,c1,c2,c3⟩:=G4 hk;have hnl:=LT.at_.2.1;have Uo:=LT.at_.1;have Xh:=Gh Xe;by_cases h0:u.ks.length=0
  ·have HLE:=Gh (show qP (ldT t)=qP (qj u.ng u.ds)by rw[<-Oz,qiQ,List.eq_nil_of_length_eq_zero h0,ldL]);have Uj:=Gh (ST u.ng A c u.ds wr (Gl HB Xe.size) hv.natIn (by omega));rw[h0]at c3;clear hv hk Xe Ss LT Oz;generalize u.ks.length=uk at*;generalize u.ds.length=ud at*;go_wp2_with fail
   refine Uj.out.mono ?_;rintro e w2 ⟨rfl,rfl⟩;go_wp2_with fail
   go_ret
   exact⟨by rw[HLE.out];rfl,Xh.out.trans (((Below.refl _ _).alloc (Gr _) _).mono Xh.out.size)⟩
  ·obtain⟨x,hx⟩:∃x,u.ks[u.ks.length-1]? =some x:=⟨_,Gn (by omega)⟩;have CP:=Gk hx;obtain⟨b,o,A1,q1,K1,r1,rfl,Tn,x0,x1,x2,x3,XN⟩:=hv.kid hx;have HCX:=Gh (show qv x=true by
    rcases qz Ss with⟨_,b,_⟩|⟨_,_,_,_,_,a,_⟩
    ·rw[b]at CP;cases CP
    ·exact(a x CP).2)
   have HFX:=Gh (LT.at_.2.2 x CP);have CJ:=Gh (show ldT x=ldT t by rw[<-Oz,qiQ u,qcw _ _ x hx]);have HDX:=Gh (show qC x<qC u from qY CP);have UT:=hv.node.2.2.2;obtain⟨f0,f1,f2,f3,z0⟩:=G5 hk;have WT:=Gh (show qf (set4 wr w.heap.size 0 (.int .i64 x.lv) (.bool x.ng) (.slice A1 x.ds.length q1) (.slice K1 x.ks.length r1)) w.heap.size 28 (Gx x A1 q1 K1 r1)from(jm (k:=0) hk _ _ _ _).1);have Nf:=Gh (RV.keep (fun b hb o=>set4_far wr (g:=w.heap.size) (by have:=HB.out;have hb:b<B:=hb;omega) 0 o (.int .i64 x.lv) (.bool x.ng) (.slice A1 x.ds.length q1) (.slice K1 x.ks.length r1)) _ _ XN);have Iu:=Gh (qy (o:=0) Xe (Gr _) (.int .i64 x.lv) (.bool x.ng) (.slice A1 x.ds.length q1) (.slice K1 x.ks.length r1));have e2:IntKind.i64.wrap ((u.ks.length:Int)-1)=((u.ks.length-1:Nat):Int):=by rw[IntWalk.i64_in _ (by omega)];omega
   have i1:(0:Int)<(u.ks.length:Int):=by omega
   have i2:((u.ks.length-1:Nat):Int)<(u.ks.length:Int):=by omega
   have i3:(u.ks.length:Int)<=(kc:Int):=by omega
   have i4:(0:Int)<=((u.ks.length-1:Nat):Int):=by omega
   clear hv hk Xe Ss LT Oz hx CP XN h0;generalize u.ks.length-1=nm at*;generalize u.ks.length=uk at*;generalize u.ds.length=ud at*;go_wp2_with fail
   go_roundg (qC x)
   case rel=>exact⟨x,A1,q1,K1,r1,rfl,HCX,HFX,CJ,Iu,WT,Nf⟩
   case measure=>have:=HG.out;have:=HDX.out;omega
theorem RV.over{V:World}{B base g:Nat}{T:RP}{vs:List Value}{cs:Array Value}(h:RV V (OkC B base V) T vs)(hk:qf V g 28 cs)(hB:B<=g)(hg:g<base)(x y z u:Value):RV (set4 V g 0 x y z u) (OkC B base (set4 V g 0 x y z u)) T vs:=by
 obtain⟨_,s2,s3⟩:=jm (k:=0) hk x y z u;obtain⟨k1,k2⟩:=yB.keep (base:=base) (base':=base) (w':=set4 V g 0 x y z u) s2 (fun j ds EO hj=>s3 j ds (by omega) hj) (Gr _);exact RV.mono (fun b hb=>hb.imp id (k2 b)) _ _ (RV.keep (fun b hb o=>hb.elim (fun hb=>set4_far V (by omega) 0 o x y z u) (fun hb=>k1 b hb o)) _ _ h)
theorem OkC.lt{B base:Nat}{W:World}(hB:B<=W.heap.size):∀b,OkC B base W b->b<W.heap.size:=fun _ h=>h.elim (fun h=>Gm h hB) (fun h=>h.lt)
theorem qfP{w w1:World}{B base:Nat}{T:RP}{A K:Oa}{c kc:Nat}{cs:Array Value}(hk:qf w1 w.heap.size 28 cs)(XE:cs.size=4)(hr:RV w1 (OkC B base w1) T (qe T A c K kc))(hB:B<=w.heap.size)(hb:w.heap.size<base)(hw:Below w.heap.size w w1):
 qf (set4 w1 w.heap.size 0 (.int .i64 T.lv) (.bool T.ng) (.slice A T.ds.length c) (.slice K T.ks.length kc)) w.heap.size 28 #[.int .i64 T.lv,.bool T.ng,.slice A T.ds.length c,.slice K T.ks.length kc]/\
 RV (set4 w1 w.heap.size 0 (.int .i64 T.lv) (.bool T.ng) (.slice A T.ds.length c) (.slice K T.ks.length kc)) (OkC B base (set4 w1 w.heap.size 0 (.int .i64 T.lv) (.bool T.ng) (.slice A T.ds.length c) (.slice K T.ks.length kc))) T (qe T A c K kc)/\
 Below w.heap.size w (set4 w1 w.heap.size 0 (.int .i64 T.lv) (.bool T.ng) (.slice A T.ds.length c) (.slice K T.ks.length kc)):=by
 refine⟨?_,hr.over hk hB hb _ _ _ _,qy hw (Gr _) _ _ _ _⟩;obtain⟨s1,_,_⟩:=jm (k:=0) hk (.int .i64 T.lv) (.bool T.ng) (.slice A T.ds.length c) (.slice K T.ks.length kc);have e:(((cs.setIfInBounds 0 (Value.int .i64 T.lv)).setIfInBounds (0+1) (.bool T.ng)).setIfInBounds (0+2) (.slice A T.ds.length c)).setIfInBounds (0+3) (.slice K T.ks.length kc)=(Gx T A c K kc):=by
  obtain⟨l⟩:=cs
  match l,XE with
  |[_,_,_,_],_=>rfl
 rw[e]at s1;exact s1
def qes(t:RP)(w:World)(e:Ending)(w':World):Prop:=jb t (qn t)/\Below w.heap.size w w'/\
 (((qn t).lv≠0/\e= .returned (.tuple #[.agg #[.bool false,.slice none 0 0],.bool false]))∨
   ((qn t).lv=0/\∃z A c,z=qj (qn t).ng (qn t).ds/\e= .returned (.tuple #[.agg #[.bool (decide (z<0)),.slice A (dig z.natAbs).length c],.bool true])/\(dig z.natAbs).length<=c/\qL w' A (dig z.natAbs)))
theorem qeR(dg:Nat)(Xr:dg<=500)(t:RP)(hf:yz dg t)(A:Oa)(c:Nat)(K:Oa)(kc B:Nat)(w:World)(hB:B<=w.heap.size)(h:RV w (· <B) t (qe t A c K kc)):
 Calls Tryz.prog 20 #[qm t A c K kc] w (qes t w):=by
 have HX:=Gh (qR w 28 25 (Gx t A c K kc) #[.bool false,.slice none 0 0]);have XQ:=Gh (fun(W:World)(hW:Below w.heap.size w W)=>qaI dg Xr t hf.dep hf.few hf.cnt A c K kc B W (Gl hB hW.size) (h.below (hW.mono hB)));unfold qks at XQ;have HB:=Gh hB;unfold qm at XQ ⊢;unfold qes;clear h hf Xr hB;go_enter Tryz.func20,Tryz.ntmps20
 go_wp2_with fail
 obtain⟨Xb,k0,k1,hs⟩:=HX.out;generalize (w.alloc (.cells (Gx t A c K kc) 28)).alloc (.cells #[.bool false,.slice none 0 0] 25)=W at*;have Vv:=Gh (XQ W Xb);have Xd:=Gh Xb;have Xo:=Gh k0;have Xu:=Gh k1;have Kr:=Gh k0.lt;clear HX XQ Xb k0 k1 hs;refine Vv.out.mono ?_;rintro e w1 ⟨T,A1,c1,K1,kc1,Vz,rfl,UD,Uh,Xp⟩;have kk:=Xo.out.old Xp;have d0:w1.cell? ⟨w.heap.size,0,none⟩=some (.int .i64 t.lv):=kk.cell 0;have d1:w1.cell? ⟨w.heap.size,1,none⟩=some (.bool t.ng):=kk.cell 1;have d2:w1.cell? ⟨w.heap.size,2,none⟩=some (.slice A t.ds.length c):=kk.cell 2;have d3:w1.cell? ⟨w.heap.size,3,none⟩=some (.slice K t.ks.length kc):=kk.cell 3;obtain⟨f0,f1,f2,f3,z0⟩:=G5 kk;have SV:=Gh (qfP kk rfl UD HB (Kr) (Gt Xd Xp));have Tq:=Gh ((Xu.out.old Xp).set4_far (g:=w.heap.size) (by omega) 0 (.int .i64 T.lv) (.bool T.ng) (.slice A1 T.ds.length c1) (.slice K1 T.ks.length kc1));have UR:=Gh Vz;have Uo:=Uh.at_.1;clear kk UD Xp Vz Uh Vv Xo Xd Xu;go_upto_region 2 with(fail)
 generalize hW2:(((w1.setCell ⟨w.heap.size,0,none⟩ (.int .i64 T.lv)).setCell ⟨w.heap.size,1,none⟩ (.bool T.ng)).setCell ⟨w.heap.size,2,none⟩ (.slice A1 T.ds.length c1)).setCell ⟨w.heap.size,3,none⟩ (.slice K1 T.ks.length kc1)=W2 at*;have RE:=Gh (show set4 w1 w.heap.size 0 (.int .i64 T.lv) (.bool T.ng) (.slice A1 T.ds.length c1) (.slice K1 T.ks.length kc1)=W2 from hW2);rw[RE.out]at SV Tq;clear d0 d1 d2 d3 f0 f1 f2 f3 z0 hW2 RE;obtain⟨k2,r2,b2⟩:=SV.out;have Na:B<=W2.heap.size:=Gl HB b2.size;have SW:=Gh ((RV.mono (OkC.lt Na) _ _ r2).natIn);have HE:=Gh (zi UR);obtain⟨c0,c1',c2,c3⟩:=G4 k2;have Xw:=Gh b2;clear SV k2 r2 b2;by_cases h0:T.lv=0
 ·have Rl:=Gh (yZ T.ng A1 c1 W2.heap.size T.ds W2 (Gr _) SW (by omega));unfold qX at Rl;have HZ:=Gh (show qj T.ng T.ds=qj (qn t).ng (qn t).ds by rw[HE.out]);have HL:=Gh (show(qn t).lv=0 by rw[HE.out];exact h0);have e1:(T.lv != 0)=false:=by simp[h0]
  generalize qj T.ng T.ds=z at*;clear h0;go_wp2_with fail
  refine Rl.out.mono ?_;rintro e w5 ⟨A5,c5,rfl,l5,n5,XL⟩;have kr:=Tq.out.old XL;have d0:=kr.cell 0;have d1:=kr.cell 1;have f0:=kr.frozen 0;have f1:=kr.frozen 1;have z0:=kr.lt;have Xm:=Gh kr;have Bc:=Gh n5;have KH:=Gh l5;have XZ:=Gh (Gt Xw XL);clear kr n5 l5 XL Rl;go_wp2_with fail
  refine YH Tryz.results20 rfl rfl ((Xm.out.set_ 0 _).set_ 1 _) Tryz.underlying25 rfl Tryz.sizeInt ?_;refine⟨by rw[HE.out];exact UR,(XZ.out.setCell (p:=⟨w.heap.size+1,0,none⟩) (Nat.le_succ _) _).setCell (p:=⟨w.heap.size+1,1,none⟩) (Nat.le_succ _) _,.inr ⟨HL,z,A5,c5,HZ,rfl,KH,Bc.out.store2 Xm (by decide) _ _⟩⟩
 ·have HL:=Gh (show(qn t).lv≠0 by rw[HE.out];exact h0);have e1:(T.lv != 0)=true:=by simpa using h0
  have kr:=Tq.out;have d0:=kr.cell 0;have d1:=kr.cell 1;have f0:=kr.frozen 0;have f1:=kr.frozen 1;have z0:=kr.lt;have Xm:=Gh kr;clear kr h0;go_wp2_with fail
  refine YH Tryz.results20 rfl rfl ((Xm.out.set_ 0 _).set_ 1 _) Tryz.underlying25 rfl Tryz.sizeInt ?_;exact⟨by rw[HE.out];exact UR,(Xw.out.setCell (p:=⟨w.heap.size+1,0,none⟩) (Nat.le_succ _) _).setCell (p:=⟨w.heap.size+1,1,none⟩) (Nat.le_succ _) _,.inl ⟨HL,rfl⟩⟩
def qkK(rel s:Int):Bool:=if rel=1 then decide (s<0)else if rel=2 then decide (s<=0)else if rel=4 then s != 0 else if rel=5 then decide (0<=s)else if rel=6 then decide (0<s)else s==0
abbrev mxv(m:MX)(A:Oa)(c:Nat)(K:Oa)(kc:Nat)(L:Oa)(lc:Nat):Value:= .agg #[.int .i64 m.kd,.int .i64 m.rl,.int .i64 m.p.lv,.bool m.p.ng,.slice A m.p.ds.length c,.slice K m.p.ks.length kc,.slice L m.ks.length lc]
def qku(M:MX)(w:World)(e:Ending)(w':World):Prop:=∃A c K kc L lc,e= .returned (mxv M A c K kc L lc)/\MV w' (OkM w' w.heap.size none) M (jn M A c K kc L lc)/\Below w.heap.size w w'
abbrev set7(W:World)(g:Nat)(a0 a1 a2 a3 a4 a5 a6:Value):World:=((((((W.setCell ⟨g,0,none⟩ a0).setCell ⟨g,1,none⟩ a1).setCell ⟨g,2,none⟩ a2).setCell ⟨g,3,none⟩ a3).setCell ⟨g,4,none⟩ a4).setCell ⟨g,5,none⟩ a5).setCell ⟨g,6,none⟩ a6
theorem qe0{w V:World}{g base:Nat}{M:MX}{A K L:Oa}{c kc lc:Nat}(hk:qf V g 32 #[.int .i64 0,.int .i64 0,.int .i64 0,.bool false,.slice none 0 0,.slice none 0 0,.slice none 0 0])(hr:MV V (OkM V base none) M (jn M A c K kc L lc))(hg:g<base)(hw:w.heap.size<=g)(hb:Below w.heap.size w V):
 qf (set7 V g (.int .i64 M.kd) (.int .i64 M.rl) (.int .i64 M.p.lv) (.bool M.p.ng) (.slice A M.p.ds.length c) (.slice K M.p.ks.length kc) (.slice L M.ks.length lc)) g 32 #[.int .i64 M.kd,.int .i64 M.rl,.int .i64 M.p.lv,.bool M.p.ng,.slice A M.p.ds.length c,.slice K M.p.ks.length kc,.slice L M.ks.length lc]/\
 qku M w (.returned (mxv M A c K kc L lc)) (set7 V g (.int .i64 M.kd) (.int .i64 M.rl) (.int .i64 M.p.lv) (.bool M.p.ng) (.slice A M.p.ds.length c) (.slice K M.p.ks.length kc) (.slice L M.ks.length lc)):=by
 obtain⟨s1,s2,s3⟩:=Qd hk (.int .i64 M.kd) (.int .i64 M.rl) (.int .i64 M.p.lv) (.bool M.p.ng) (.slice A M.p.ds.length c) (.slice K M.p.ks.length kc) (.slice L M.ks.length lc);obtain⟨k1,k2⟩:=OkM.keep (w:=V) (w':=set7 V g (.int .i64 M.kd) (.int .i64 M.rl) (.int .i64 M.p.lv) (.bool M.p.ng) (.slice A M.p.ds.length c) (.slice K M.p.ks.length kc) (.slice L M.ks.length lc)) (base:=base) (r:=none) (r':=none)
  (fun j cs h=>s2 j _ cs (jf h hk (by decide)) h) (fun j cs _ h=>s2 j _ cs (jf h hk (by decide)) h) (fun j cs hj _ h=>⟨s2 j _ cs (by omega) h,by simp⟩)
 refine⟨s1,A,c,K,kc,L,lc,rfl,MV.mono (fun b hb=>?_) _ _ (MV.keep k1 _ _ hr),hb.trans (s3 _ hw)⟩;rcases k2 b hb with h|⟨h1,h2,h3⟩
 ·exact .inl (h.mono (by omega))
 ·exact .inr ⟨by omega,h2,h3⟩
abbrev lfv(m:MX)(A:Oa)(c:Nat)(K:Oa)(kc:Nat):Value:= .agg #[.int .i64 m.kd,.int .i64 m.rl,.int .i64 m.p.lv,.bool m.p.ng,.slice A m.p.ds.length c,.slice K m.p.ks.length kc,.slice none 0 0]
def zM(M:MX)(w:World)(e:Ending)(w':World):Prop:=M.ks=[]/\∃A c K kc,e= .returned (lfv M A c K kc)/\RB w' w.heap.size M.p (qe M.p A c K kc)/\Below w.heap.size w w'
theorem Jz{w V:World}{g base:Nat}{M:MX}{A K:Oa}{c kc:Nat}(hM:M.ks=[])(hk:qf V g 32 #[.int .i64 0,.int .i64 0,.int .i64 0,.bool false,.slice none 0 0,.slice none 0 0,.slice none 0 0])(hr:RB V base M.p (qe M.p A c K kc))(hg:g<base)(hw:w.heap.size<=g)(hb:Below w.heap.size w V):
 qf (set7 V g (.int .i64 M.kd) (.int .i64 M.rl) (.int .i64 M.p.lv) (.bool M.p.ng) (.slice A M.p.ds.length c) (.slice K M.p.ks.length kc) (.slice none 0 0)) g 32 #[.int .i64 M.kd,.int .i64 M.rl,.int .i64 M.p.lv,.bool M.p.ng,.slice A M.p.ds.length c,.slice K M.p.ks.length kc,.slice none 0 0]/\
 zM M w (.returned (lfv M A c K kc)) (set7 V g (.int .i64 M.kd) (.int .i64 M.rl) (.int .i64 M.p.lv) (.bool M.p.ng) (.slice A M.p.ds.length c) (.slice K M.p.ks.length kc) (.slice none 0 0)):=by
 obtain⟨s1,s2,s3⟩:=Qd hk (.int .i64 M.kd) (.int .i64 M.rl) (.int .i64 M.p.lv) (.bool M.p.ng) (.slice A M.p.ds.length c) (.slice K M.p.ks.length kc) (.slice none 0 0);exact⟨s1,hM,A,c,K,kc,rfl,RB.mono (RB.keep (base':=base) hr (fun j cs h=>s2 j _ cs (jf h hk (by decide)) h) (fun j cs _ h=>s2 j _ cs (jf h hk (by decide)) h) (Gr _)) (by omega),hb.trans (s3 _ hw)⟩
def AtM(rel:Int)(t:RP)(M:MX):Prop:=
 ((qn t).lv=0/\M=tfM (qkK rel (qP (qj (qn t).ng (qn t).ds))))∨
 ((qn t).lv≠0/\∃T,SgT t T/\M= .mk 2 (QA (if ldT (qn t)<0 then YQ (JU rel)else JU rel)) T [])
theorem qjQ(rel z:Int):(bits BinOp.and IntKind.i64 (JU rel) (qhX (qP z)) != 0)=qkK rel (qP z):=by
 have hs:qP z=-1∨qP z=0∨qP z=1:=by unfold qP;split<;>(try split)<;>simp
 generalize qP z=s at*;unfold JU qkK;by_cases h1:rel=1
 ·rw[if_pos h1,if_pos h1];rcases hs with rfl|rfl|rfl<;>decide
 rw[if_neg h1,if_neg h1];by_cases h2:rel=2
 ·rw[if_pos h2,if_pos h2];rcases hs with rfl|rfl|rfl<;>decide
 rw[if_neg h2,if_neg h2];by_cases h4:rel=4
 ·rw[if_pos h4,if_pos h4];rcases hs with rfl|rfl|rfl<;>decide
 rw[if_neg h4,if_neg h4];by_cases h5:rel=5
 ·rw[if_pos h5,if_pos h5];rcases hs with rfl|rfl|rfl<;>decide
 rw[if_neg h5,if_neg h5];by_cases h6:rel=6
 ·rw[if_pos h6,if_pos h6];rcases hs with rfl|rfl|rfl<;>decide
 rw[if_neg h6,if_neg h6];rcases hs with rfl|rfl|rfl<;>decide
theorem Yd:∀(L:Nat)(ts:List Tm),qF (qZ L ts)
 |L,[]=>by rw[yo];unfold qh;simp[qF,zd,jg]
 |0,t::r=>by rw[qZ];unfold jy;simp only[qF,zd];exact⟨qA _,trivial⟩
 |L+1,t::r=>by
  rw[qZ]
  split
  ·exact Yd L (t::r)
  ·simp only[qF];exact⟨by simp[jg],zd.mem.2 (Qj (Q:=qF) (qZ L) L _ _ _ (by have:=Yd 0 [];rwa[yo]at this) (fun l _=>Yd L l))⟩
theorem jb.dig{t T:RP}(h:jb t T)(hd:qF t):qF T:=by
 rcases h with⟨_,rfl⟩|⟨_,P,_,_,rfl⟩
 ·exact hd
 ·exact Yd 4 P
theorem qbu{b:Int}(hb:b=1∨b=2∨b=3∨b=4∨b=5∨b=6):YQ b=1∨YQ b=2∨YQ b=3∨YQ b=4∨YQ b=5∨YQ b=6:=by
 rcases hb with rfl|rfl|rfl|rfl|rfl|rfl<;>decide
theorem qaq(dg:Nat)(Xr:dg<=500)(rel:Int)(t:RP)(hf:yz dg t)(Ul:yP 1000 (qn t))(A:Oa)(c:Nat)(K:Oa)(kc B:Nat)(w:World)(hB:B<=w.heap.size)(h:RV w (· <B) t (qe t A c K kc)):
 Calls Tryz.prog 22 #[qm t A c K kc,.int .i64 rel] w fun e w'=>jb t (qn t)/\∃M,AtM rel t M/\zM M w e w':=by
 have HX:=Gh (qR w 28 32 (Gx t A c K kc) Gy);have Rm:=Gh (fun(W:World)(hW:Below w.heap.size w W)=>qeR dg Xr t hf A c K kc B W (Gl hB hW.size) (h.below (hW.mono hB)));have B2:=Gh (fun(W:World)(hW:Below w.heap.size w W)=>yh dg Xr t hf A c K kc B W (Gl hB hW.size) (h.below (hW.mono hB)));have TY:=Gh (fun(W:World)(hW:Below w.heap.size w W)=>qgJ dg Xr t hf A c K kc B W (Gl hB hW.size) (h.below (hW.mono hB)));have HFI:=Gh (fun(hc:qv (qn t)=true) A c K kc (W:World)(h:RV W (· <W.heap.size) (qn t) (qe (qn t) A c K kc))=>qgk 1000 (by omega) (qn t) hc Ul A c K kc W.heap.size W (Gr _) h);have Uo:=Ul.at_.1;have HDT:=Gh (h.digT);have ST:=Gh (fun(W:World)=>Jj rel W);unfold qes at Rm;unfold J0 at B2;unfold qS at TY;unfold qm at Rm B2 TY HFI ⊢;clear h hf Ul Xr hB;generalize hU:qn t=U at*;have HU:=Gh hU;go_enter Tryz.func22,Tryz.ntmps22
 go_wp2_with fail
 obtain⟨Xb,k0,k1,hs⟩:=HX.out;generalize (w.alloc (.cells (Gx t A c K kc) 28)).alloc (.cells Gy 32)=W0 at*;have Vv:=Gh (Rm W0 Xb);have Xd:=Gh Xb;have Xo:=Gh k0;have Xu:=Gh k1;clear HX Rm Xb k0 k1 hs;refine Vv.out.mono ?_;rintro e w1 ⟨Vz,Xp,Ry⟩;have UR:=Gh Vz;have UK:=Gh (Gt Xd Xp);have WV:=Gh (Xo.out.old Xp);have Dj:=Gh (Xu.out.old Xp);clear Vv Xd Xo Xu Vz Xp;rcases Ry with⟨SM,rfl⟩|⟨SM,z,Az,cz,hz,rfl,R7,hnz⟩
 ·have KD:=Gh SM;have UF:=Gh UR.out.can.1;have Xc:=Gb w1 (.cells #[.bool false,.slice none 0 0] 25);have k0:=WV.out.old Xc;have k1:=Dj.out.old Xc;have Xd:=Gh (Gt UK Xc);clear Xc WV Dj UK SM;go_upto_region 4 with(fail)
  generalize w1.alloc (.cells #[.bool false,.slice none 0 0] 25)=W at*;have KF:=Gh (fun(V:World)(hV:Below W.heap.size W V)=>And.intro (k0.old hV) (k1.old hV));obtain⟨c0,c1,c2,c3⟩:=G4 k0;have Ts:=Gh (B2 W Xd);clear k0 k1 B2;go_wp2_with fail
  refine(ST _).mono ?_;rintro e w2 ⟨rfl,rfl⟩;go_wp2_with fail
  refine Ts.out.mono ?_;rintro e w4 ⟨A4,c4,K4,kc4,rfl,_,TR,XB⟩;have hb:=XB;have Bh:=Gh (HFI UF A4 c4 K4 kc4 w4 TR.rv);clear c0 c1 c2 c3 TR XB Ts HFI;go_wp2_with fail
  refine Bh.out.mono ?_;rintro e w5 ⟨rfl,XL⟩
  replace hb:=Gt hb XL
  obtain⟨k0,k1⟩:=KF.out _ hb;obtain⟨c0,c1,c2,c3⟩:=G4 k0;have XZ:=Gh (Gt Xd hb);have Eg:=Gh (TY w5 XZ);have Xu:=Gh k1;have Cp:=Jy rel;have IM:=qbu Cp;have UQ:=Gh Cp;have FL:=Gh (show w.heap.size+1<w5.heap.size from k1.lt);clear XL k0 k1 Bh TY hb KF;by_cases Te:ldT U<0
  ·have e1:decide (qP (ldT U)<0)=true:=by simpa using(Qw _).2 Te
   have Nk:=Gh (fun(W:World)=>qaK (YQ (JU rel)) IM W);have HOP:=Gh (fun(W:World)=>qjS (JU rel) Cp W);have B4:=Gh (fun(T:RP)(hT:SgT t T)=>show AtM rel t (.mk 2 (QA (YQ (JU rel))) T [])from .inr ⟨by rw[HU.out];exact KD,T,hT,by rw[HU,if_pos Te]⟩);clear Cp IM Te;generalize JU rel=xb at*;generalize YQ xb=yb at*;generalize qP (ldT U)=zz at*;go_wp2_with fail
   refine(HOP _).mono ?_;rintro e w2 ⟨rfl,rfl⟩;go_wp2_with fail
   refine(Nk _).mono ?_;rintro e w2 ⟨rfl,rfl⟩;go_wp2_with fail
   refine Eg.out.mono ?_;rintro e w6 ⟨T,hT,A6,c6,K6,kc6,rfl,Eq,XY⟩;have k6:=Xu.out.old XY;have Xg:=Gh (Jz (w:=w) (M:= .mk 2 (QA yb) T []) rfl k6 Eq FL (Nat.le_succ _) (Gt XZ XY));have Wu:=Gh (B4 T hT);obtain⟨d0,d1,d2,d3⟩:=G4 k6;have d4:=k6.cell 4;have d5:=k6.cell 5;have d6:=k6.cell 6;have f0:=k6.frozen 0;have f1:=k6.frozen 1;have f2:=k6.frozen 2;have f3:=k6.frozen 3;have f4:=k6.frozen 4;have f5:=k6.frozen 5;have f6:=k6.frozen 6;have z0:=k6.lt;clear k6 Eq XY hT Eg;go_wp2_with fail
   exact qo Tryz.results22 rfl rfl Xg.out.1 Tryz.underlying32 rfl Tryz.sizeMat ⟨UR,_,Wu,Xg.out.2⟩
  ·have e1:decide (qP (ldT U)<0)=false:=by
    rw[decide_eq_false_iff_not,Qw];exact Te
   have Nk:=Gh (fun(W:World)=>qaK (JU rel) Cp W);have B4:=Gh (fun(T:RP)(hT:SgT t T)=>show AtM rel t (.mk 2 (QA (JU rel)) T [])from .inr ⟨by rw[HU.out];exact KD,T,hT,by rw[HU,if_neg Te]⟩);clear Cp IM Te;generalize JU rel=yb at*;generalize qP (ldT U)=zz at*;go_wp2_with fail
   refine(Nk _).mono ?_;rintro e w2 ⟨rfl,rfl⟩;go_wp2_with fail
   refine Eg.out.mono ?_;rintro e w6 ⟨T,hT,A6,c6,K6,kc6,rfl,Eq,XY⟩;have k6:=Xu.out.old XY;have Xg:=Gh (Jz (w:=w) (M:= .mk 2 (QA yb) T []) rfl k6 Eq FL (Nat.le_succ _) (Gt XZ XY));have Wu:=Gh (B4 T hT);obtain⟨d0,d1,d2,d3⟩:=G4 k6;have d4:=k6.cell 4;have d5:=k6.cell 5;have d6:=k6.cell 6;have f0:=k6.frozen 0;have f1:=k6.frozen 1;have f2:=k6.frozen 2;have f3:=k6.frozen 3;have f4:=k6.frozen 4;have f5:=k6.frozen 5;have f6:=k6.frozen 6;have z0:=k6.lt;clear k6 Eq XY hT Eg;go_wp2_with fail
   exact qo Tryz.results22 rfl rfl Xg.out.1 Tryz.underlying32 rfl Tryz.sizeMat ⟨UR,_,Wu,Xg.out.2⟩
 ·have HM:=Gh (show AtM rel t (tfM (bits BinOp.and IntKind.i64 (JU rel) (qhX (qP z)) != 0))from .inl ⟨by rw[HU.out];exact SM,by rw[HU,<-hz,qjQ]⟩);have HZN:=Gh (show qx w1 w1.heap.size Az cz (dig z.natAbs)from yf hnz R7);have Ur:(dig z.natAbs).length<=1000:=by
   rw[hz,je];have Xr:=(UR.out.dig HDT).at_.1;exact Gl (qw Xr) Uo
  clear SM hz R7 hnz;have Xc:=Gb w1 (.cells #[.bool (decide (z<0)),.slice Az (dig z.natAbs).length cz] 25);have k5:=qf.new w1 25 #[.bool (decide (z<0)),.slice Az (dig z.natAbs).length cz];have k1:=Dj.out.old Xc;have Xd:=Gh (Gt UK Xc);have EY:=Gh (fun(W:World)(hW:Below (w1.alloc (.cells #[.bool (decide (z<0)),.slice Az (dig z.natAbs).length cz] 25)).heap.size (w1.alloc (.cells #[.bool (decide (z<0)),.slice Az (dig z.natAbs).length cz] 25)) W)=>
   (zI (decide (z<0)) Az cz w1.heap.size (dig z.natAbs) W (Gl Xc.size hW.size) ((HZN.out.below Xc).below (hW.mono Xc.size)) (by omega)).mono (R':=fun e w'=>e= .returned (.int .i64 (qP z))/\Below W.heap.size W w') (by
     rintro e w' ⟨he,rfl⟩;rw[jM]at he;exact⟨he,(Below.refl _ _).alloc (Gr _) _⟩))
  have VD:=Gh (fun(W:World)=>qji (qP z) W);have VV:=Gh (fun(b:Bool)(W:World)=>ZV b W);have Tu:=Gh (show w.heap.size+1<w1.heap.size from Dj.out.lt);clear Xc WV Dj UK;go_upto_region 3 with(fail)
  generalize qP z=sz at*;generalize JU rel=xb at*;generalize qhX sz=yb at*;generalize (dig z.natAbs).length=nz at*;generalize decide (z<0)=gz at*;generalize w1.alloc (.cells #[.bool gz,.slice Az nz cz] 25)=W at*;have KF:=Gh (fun(V:World)(hV:Below W.heap.size W V)=>(⟨(k5.old hV).cell 0,(k5.old hV).cell 1⟩:
   V.cell? ⟨w1.heap.size,0,none⟩=some (.bool gz)/\V.cell? ⟨w1.heap.size,1,none⟩=some (.slice Az nz cz)))
  have KS:=Gh (fun(V:World)(hV:Below W.heap.size W V)(x0 x1 x2 x3 x4 x5 x6:Value)=>(⟨((((((((k5.old hV).far (p:=⟨w.heap.size+1,0,none⟩) (fun e=>absurd Tu.out (by show¬_;have e:w1.heap.size=w.heap.size+1:=e;omega)) x0).far (p:=⟨w.heap.size+1,1,none⟩) (fun e=>absurd Tu.out (by show¬_;have e:w1.heap.size=w.heap.size+1:=e;omega)) x1).far (p:=⟨w.heap.size+1,2,none⟩) (fun e=>absurd Tu.out (by show¬_;have e:w1.heap.size=w.heap.size+1:=e;omega)) x2).far (p:=⟨w.heap.size+1,3,none⟩) (fun e=>absurd Tu.out (by show¬_;have e:w1.heap.size=w.heap.size+1:=e;omega)) x3).far (p:=⟨w.heap.size+1,4,none⟩) (fun e=>absurd Tu.out (by show¬_;have e:w1.heap.size=w.heap.size+1:=e;omega)) x4).far (p:=⟨w.heap.size+1,5,none⟩) (fun e=>absurd Tu.out (by show¬_;have e:w1.heap.size=w.heap.size+1:=e;omega)) x5).far (p:=⟨w.heap.size+1,6,none⟩) (fun e=>absurd Tu.out (by show¬_;have e:w1.heap.size=w.heap.size+1:=e;omega)) x6).cell 0,((((((((k5.old hV).far (p:=⟨w.heap.size+1,0,none⟩) (fun e=>absurd Tu.out (by show¬_;have e:w1.heap.size=w.heap.size+1:=e;omega)) x0).far (p:=⟨w.heap.size+1,1,none⟩) (fun e=>absurd Tu.out (by show¬_;have e:w1.heap.size=w.heap.size+1:=e;omega)) x1).far (p:=⟨w.heap.size+1,2,none⟩) (fun e=>absurd Tu.out (by show¬_;have e:w1.heap.size=w.heap.size+1:=e;omega)) x2).far (p:=⟨w.heap.size+1,3,none⟩) (fun e=>absurd Tu.out (by show¬_;have e:w1.heap.size=w.heap.size+1:=e;omega)) x3).far (p:=⟨w.heap.size+1,4,none⟩) (fun e=>absurd Tu.out (by show¬_;have e:w1.heap.size=w.heap.size+1:=e;omega)) x4).far (p:=⟨w.heap.size+1,5,none⟩) (fun e=>absurd Tu.out (by show¬_;have e:w1.heap.size=w.heap.size+1:=e;omega)) x5).far (p:=⟨w.heap.size+1,6,none⟩) (fun e=>absurd Tu.out (by show¬_;have e:w1.heap.size=w.heap.size+1:=e;omega)) x6).cell 1⟩:
   (((((((V.setCell ⟨w.heap.size+1,0,none⟩ x0).setCell ⟨w.heap.size+1,1,none⟩ x1).setCell ⟨w.heap.size+1,2,none⟩ x2).setCell ⟨w.heap.size+1,3,none⟩ x3).setCell ⟨w.heap.size+1,4,none⟩ x4).setCell ⟨w.heap.size+1,5,none⟩ x5).setCell ⟨w.heap.size+1,6,none⟩ x6).cell? ⟨w1.heap.size,0,none⟩=some (.bool gz)/\(((((((V.setCell ⟨w.heap.size+1,0,none⟩ x0).setCell ⟨w.heap.size+1,1,none⟩ x1).setCell ⟨w.heap.size+1,2,none⟩ x2).setCell ⟨w.heap.size+1,3,none⟩ x3).setCell ⟨w.heap.size+1,4,none⟩ x4).setCell ⟨w.heap.size+1,5,none⟩ x5).setCell ⟨w.heap.size+1,6,none⟩ x6).cell? ⟨w1.heap.size,1,none⟩=some (.slice Az nz cz)))
  have KR:=Gh (fun(V:World)(hV:Below W.heap.size W V)=>(⟨(k1.old hV).cell 0,(k1.old hV).cell 1,(k1.old hV).cell 2,(k1.old hV).cell 3,(k1.old hV).cell 4,(k1.old hV).cell 5,(k1.old hV).cell 6,(k1.old hV).frozen 0,(k1.old hV).frozen 1,(k1.old hV).frozen 2,(k1.old hV).frozen 3,(k1.old hV).frozen 4,(k1.old hV).frozen 5,(k1.old hV).frozen 6,(k1.old hV).lt⟩:
   Gd V (w.heap.size+1) (.int .i64 0) (.int .i64 0) (.int .i64 0) (.bool false) (V.cell? ⟨w.heap.size+1,4,none⟩=some (.slice none 0 0)/\V.cell? ⟨w.heap.size+1,5,none⟩=some (.slice none 0 0)/\V.cell? ⟨w.heap.size+1,6,none⟩=some (.slice none 0 0)/\V.frozen? ⟨w.heap.size+1,0,none⟩=false/\V.frozen? ⟨w.heap.size+1,1,none⟩=false/\V.frozen? ⟨w.heap.size+1,2,none⟩=false/\V.frozen? ⟨w.heap.size+1,3,none⟩=false/\V.frozen? ⟨w.heap.size+1,4,none⟩=false/\V.frozen? ⟨w.heap.size+1,5,none⟩=false/\V.frozen? ⟨w.heap.size+1,6,none⟩=false/\w.heap.size+1<V.heap.size)))
  have RS:=Gh k1;have hb:Below W.heap.size W W.drew:=(qt.drew _).below _;have Tb:Below W.heap.size W W:=Below.refl _ _;have PU:=Gh (fun(V:World)(hV:Below W.heap.size W V)=>EY V hV);clear EY;go_region_held3 (fun w'=>w'.cell? ⟨w1.heap.size,0,none⟩=some (.bool gz)/\w'.cell? ⟨w1.heap.size,1,none⟩=some (.slice Az nz cz))
   (first|(with_reducible exact KF.out _ hb)|(with_reducible exact KF.out _ Tb)|(with_reducible exact KS.out _ hb _ _ _ _ _ _ _))
   (first
     |(go_at_call 50;(with_reducible refine(ST.out _).mono ?_);rintro e v0 ⟨rfl,rfl⟩;have Sn:=hb.size)
     |(go_at_call 52;(with_reducible refine(PU.out _ hb).mono ?_);rintro e v1 ⟨rfl,hk⟩;replace hb:=Gt hb hk;have Rg:=hb.size)
     |(go_at_call 51;(with_reducible refine(VD.out _).mono ?_);rintro e v2 ⟨rfl,rfl⟩;have RL:=hb.size)
     |(go_at_call 49;(with_reducible refine(VV.out _ _).mono ?_);rintro e v3 ⟨rfl,hk⟩;replace hb:=Gt hb hk;obtain⟨d0,d1,d2,d3,d4,d5,d6,f0,f1,f2,f3,f4,f5,f6,z0⟩:=KR.out _ hb))
  have k2:=RS.out.old hb;have Cw:=RS.out.lt;have Xg:=Gh (Jz (w:=w) (M:=tfM (bits BinOp.and IntKind.i64 xb yb != 0)) (base:=w.heap.size+1+1) (A:=none) (K:=none) (c:=0) (kc:=0) rfl k2 RB.zero (Nat.lt_succ_self _) (Nat.le_succ _) (Gt Xd hb));clear hb Tb KF KS KR PU k2;go_wp2_with fail
  exact qo Tryz.results22 rfl rfl Xg.out.1 Tryz.underlying32 rfl Tryz.sizeMat ⟨UR,_,HM,Xg.out.2⟩
set_option maxHeartbeats 1000000
theorem zN(L:Oa)(n lc:Nat)(w:World):Calls Tryz.prog 39 #[.slice L n lc] w fun e w'=>e= .returned (.agg #[.int .i64 3,.int .i64 0,.int .i64 0,.bool false,.slice none 0 0,.slice none 0 0,.slice L n lc])/\Below w.heap.size w w':=by
 go_enter Tryz.func39,Tryz.ntmps39
 go_wp2_with fail
 exact qo Tryz.results39 rfl rfl (qf.new w _ _) Tryz.underlying32 rfl Tryz.sizeMat ⟨rfl,Gb w _⟩
theorem Zx(L:Oa)(n lc:Nat)(w:World):Calls Tryz.prog 65 #[.slice L n lc] w fun e w'=>e= .returned (.agg #[.int .i64 4,.int .i64 0,.int .i64 0,.bool false,.slice none 0 0,.slice none 0 0,.slice L n lc])/\Below w.heap.size w w':=by
 go_enter Tryz.func65,Tryz.ntmps65
 go_wp2_with fail
 exact qo Tryz.results65 rfl rfl (qf.new w _ _) Tryz.underlying32 rfl Tryz.sizeMat ⟨rfl,Gb w _⟩
def qjY(r:Int):Int:=if r=2 then 1 else if r=5 then 6 else r
theorem qai(r:Int)(w:World):Calls Tryz.prog 66 #[.int .i64 r] w fun e w'=>e= .returned (.int .i64 (qjY r))/\w'=w:=by
 unfold qjY;by_cases h1:r=2
 ·subst h1;go_enter Tryz.func66,Tryz.ntmps66
  go_wp2_with fail
  go_ret
  exact⟨rfl,rfl⟩
 rw[if_neg h1];have e1:(r==2)=false:=by simpa using h1
 by_cases h2:r=5
 ·subst h2;clear h1 e1;go_enter Tryz.func66,Tryz.ntmps66
  go_wp2_with fail
  go_ret
  exact⟨rfl,rfl⟩
 rw[if_neg h2];have e2:(r==5)=false:=by simpa using h2
 clear h1 h2;go_enter Tryz.func66,Tryz.ntmps66
 go_wp2_with fail
 go_ret
 exact⟨rfl,rfl⟩
def jT(w:World)(B:Nat)(A:Oa)(ts:List RP):Prop:=∃rows,ju w (· <B) 4 A ts.length rows.flatten/\qG w (· <B) ts rows
section
variable {w w':World} {B B':Nat} {A:Oa} {ts:List RP}
theorem jT.below(h:jT w B A ts)(hb:Below B w w'):jT w' B A ts:=by
 obtain⟨rows,h1,h2⟩:=h;exact⟨rows,h1.keep (fun b hS o=>hb.cell (p:=⟨b,o,none⟩) hS),qG.keep (fun b hS o=>hb.cell (p:=⟨b,o,none⟩) hS) _ _ h2⟩
theorem jT.kid(h:jT w B A ts){i:Nat}{u:RP}(hi:ts[i]? =some u):
 ∃b o A' c' K' kc',A=some ⟨b,o,none⟩/\b<B/\w.cell? ⟨b,o+i*4,none⟩=some (.int .i64 u.lv)/\w.cell? ⟨b,o+i*4+1,none⟩=some (.bool u.ng)/\
  w.cell? ⟨b,o+i*4+2,none⟩=some (.slice A' u.ds.length c')/\w.cell? ⟨b,o+i*4+3,none⟩=some (.slice K' u.ks.length kc')/\RV w (· <B) u (qe u A' c' K' kc'):=by
 obtain⟨rows,h6,h7⟩:=h;have hl:i<ts.length:=(Gi.1 hi).1;obtain⟨a1,a2,a3⟩:=qG.at_ ts rows h7;obtain⟨r,hr,hv⟩:=a3 i u hi;obtain⟨A',c',K',kc',rfl⟩:=hv.cells;obtain⟨b,o,hA,hb,hc⟩:=h6.2 (by omega);have f:=fun j hj v (hv:(qe u A' c' K' kc')[j]? =some v)=>hc (i*4+j) v ((Ja rows a1 i _ hr j hj).trans hv);exact⟨b,o,A',c',K',kc',hA,hb,f 0 (by omega) _ rfl,f 1 (by omega) _ rfl,f 2 (by omega) _ rfl,f 3 (by omega) _ rfl,hv⟩
theorem jT.of_row{g m:Nat}{cur:Array Value}{rows:List (List Value)}(h:jh w g m (· <B) ts cur rows)(hg:g<B):jT w B (some ⟨g,0,none⟩) ts:=
 ⟨rows,⟨by rw[jt h.four,h.len,h.kl],fun _=>⟨g,0,rfl,hg,fun j u hu=>by rw[Nat.zero_add];exact(h.row.cell j).trans (h.at_ j u hu)⟩⟩,h.kids⟩
end
theorem qu.seven_newJ(w:World)(cs:List Value)(h:cs.length=7)(t:TypeId):qu (w.alloc (.cells cs.toArray t)) (w.heap.size+1) 7 (some ⟨w.heap.size,0,none⟩) 1 cs:=by
 refine⟨by omega,fun _=>⟨_,_,rfl,by omega,fun j x hj=>?_⟩⟩;have:=(qf.new w t cs.toArray).cell j;rw[Nat.zero_add,this];simpa using hj
theorem qgX(kd:Int)(h0:0<=kd)(h4:kd<=4)(x1 x2 x3 x4 x5 x6:Value)(w:World):Calls Tryz.prog 89 #[.agg #[.int .i64 kd,x1,x2,x3,x4,x5,x6]] w fun e w'=>e= .returned (.int .i64 kd)/\Below w.heap.size w w':=by
 have HB:=Gh (Gb w (.cells #[.int .i64 kd,x1,x2,x3,x4,x5,x6] 32));go_enter Tryz.func89,Tryz.ntmps89
 go_wp2_with fail
 go_ret
 exact⟨rfl,HB⟩
section
variable {kd:Int} {Ws W W1 W2:World} {b0 g:Nat} {u u':Value} {xs:List MX} {a:MX} {rows:List (List Value)} {news:List Value}
end
mutual
theorem ZI:∀(t:RP)(m:Mo),qF t->∀x∈jH t m,jg x.1.2
 | .mk l g ds ks,m,h,x,hx=>by
   simp only[qF]at h;simp only[jH]at hx
   split at hx
   ·rw[List.mem_singleton]at hx;subst hx;exact h.1
   ·split at hx
    ·cases hx
    ·exact qcX _ ks m _ h.2 x hx
theorem qcX(i:Nat):∀(ts:List RP)(m:Mo)(e:Int),zd ts->∀x∈jo i ts m e,jg x.1.2
 |[],_,_,_,x,hx=>by simp[jo]at hx
 |t::ts,m,e,h,x,hx=>by
  simp only[zd]at h;simp only[jo]at hx;rcases List.mem_append.1 hx with hx|hx
  ·exact ZI t _ h.1 x hx
  ·exact qcX i ts m (e+1) h.2 x hx
end
theorem qcA(d:Nat):1000*pw d<pw (d+1):=by
 have h:pw (d+1)=pw d*4294967296:=Nat.pow_succ ..;have h0:0<pw d:=Nat.pow_pos (by decide);omega
