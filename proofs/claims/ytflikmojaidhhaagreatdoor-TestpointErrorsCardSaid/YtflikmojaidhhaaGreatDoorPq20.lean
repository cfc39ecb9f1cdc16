import Derived.Test.YtflikmojaidhhaaGreatDoorPq19
import Derived.Test.YtflikmojaidhhaaGreatDoorPqA
namespace Go.Proofs.YtflikmojaidhhaaGreatDoor
open Go.RowKit
def Yg(k:Int)(t:RP)(w:World)(e:Ending)(w':World):Prop:=
 jb t (qn t)/\Below w.heap.size w w'/\((qI (qn t)=true/\e= .returned (.slice none 0 0))∨
  (qI (qn t)=false/\(∀c∈JS k (zW k (qn t)) (qn t),jb c (qn c))/\∃g cur rows,w.heap.size<=g/\e= .returned (.slice (some ⟨g,0,none⟩) (qD k t).length (qD k t).length)/\jh w' g (qD k t).length (yB w' (g+1)) (qD k t) cur rows))
set_option maxHeartbeats 4000000
set_option maxRecDepth 100000
theorem JM(dg:Nat)(Xr:dg<=500)(k:Int)(Xx:0<k)(Xj:k<=4)(t:RP)(hf:yz dg t)(Ul:yz dg (qn t))(A:Oa)(c:Nat)(K:Oa)(kc B:Nat)(w:World)(hB:B<=w.heap.size)(h:RV w (· <B) t (qe t A c K kc)):
 Calls Tryz.prog 42 #[qm t A c K kc,.int .i64 k] w (Yg k t w):=by
 have Xb:=Gb w (.cells (Gx t A c K kc) 28);have Ty:=qf.new w 28 (Gx t A c K kc);have HN:=Gh (yh dg Xr t hf A c K kc B _ (Gl hB Xb.size) (h.below (Xb.mono hB)));have Xd:=Gh Xb;have Xo:=Gh Ty;have XJ:=Gh Ty.lt;unfold J0 at HN;have HZ:=Gh (fun A c K kc (W:World)(h:RV W (· <W.heap.size) (qn t) (qe (qn t) A c K kc))=>JJ dg Xr (qn t) Ul A c K kc W.heap.size W (Gr _) h);have Uh:=ym.sm (X:=1000) (by omega) (by omega) _ Ul.few;have Uo:zW k (qn t)<=40:=qeI k _ (qaJ _ Ul.few);have HD:=Gh (fun(hc:qv (qn t)=true) A c K kc (W:World)(h:RV W (· <W.heap.size) (qn t) (qe (qn t) A c K kc))=>Yj 1000 (by omega) k (qC (qn t)) (qn t) (Gr _) hc Uh A c K kc W.heap.size W (Gr _) h Xx Xj);have Uc:=Gh (fun(hc:qv (qn t)=true) A c K kc (W:World)(h:RV W (· <W.heap.size) (qn t) (qe (qn t) A c K kc))=>YK 1000 (by omega) k Xx Xj (zW k (qn t)) (by omega) (qC (qn t)) (qn t) (Gr _) hc Uh (Gr _) A c K kc W.heap.size W (Gr _) h);have HFC:=Gh (Ul.co k (zW k (qn t)));have UO:=Gh (fun(u:RP)(hu:yz dg u) A c K kc (W:World)(h:RV W (· <W.heap.size) u (qe u A c K kc))=>yh dg Xr u hu A c K kc W.heap.size W (Gr _) h);unfold J0 at UO;have DI:=Gh (fun(h:qI (qn t)=false)=>show qD k t=(JS k (zW k (qn t)) (qn t)).map qn by unfold qD;rw[if_neg (by rw[h];decide)]);have SS:=Gh (Yc k (zW k (qn t)) (qn t));unfold qfy at Uc;unfold Yg;generalize qD k t=cfs at*;unfold qm at HN HZ HD Uc UO ⊢;clear h hf Ul Xr hB Xb Ty Uh;generalize hT:qn t=T at*;generalize hn:zW k T=n at*;go_enter Tryz.func42,Tryz.ntmps42
 go_wp2_with fail
 generalize w.alloc (.cells (Gx t A c K kc) 28)=W0 at*;refine HN.out.mono ?_;rintro e w1 ⟨A1,c1,K1,kc1,rfl,Vz,Uy,Xp⟩;have kk:=Xo.out.old Xp;have d0:w1.cell? ⟨w.heap.size,0,none⟩=some (.int .i64 t.lv):=kk.cell 0;have d1:w1.cell? ⟨w.heap.size,1,none⟩=some (.bool t.ng):=kk.cell 1;have d2:w1.cell? ⟨w.heap.size,2,none⟩=some (.slice A t.ds.length c):=kk.cell 2;have d3:w1.cell? ⟨w.heap.size,3,none⟩=some (.slice K t.ks.length kc):=kk.cell 3;obtain⟨f0,f1,f2,f3,z0⟩:=G5 kk;have SV:=Gh (qay kk rfl Uy XJ (Gt Xd Xp));have UR:=Gh Vz;clear kk Uy Xp Vz HN Xo Xd XJ;go_upto_region 2 with(fail)
 generalize (((w1.setCell ⟨w.heap.size,0,none⟩ (.int .i64 T.lv)).setCell ⟨w.heap.size,1,none⟩ (.bool T.ng)).setCell ⟨w.heap.size,2,none⟩ (.slice A1 T.ds.length c1)).setCell ⟨w.heap.size,3,none⟩ (.slice K1 T.ks.length kc1)=W2 at*;clear d0 d1 d2 d3 f0 f1 f2 f3 z0;obtain⟨k2,r2,b2⟩:=SV.out;have c0:W2.cell? ⟨w.heap.size,0,none⟩=some (.int .i64 T.lv):=k2.cell 0;have c1':W2.cell? ⟨w.heap.size,1,none⟩=some (.bool T.ng):=k2.cell 1;have c2:W2.cell? ⟨w.heap.size,2,none⟩=some (.slice A1 T.ds.length c1):=k2.cell 2;have c3:W2.cell? ⟨w.heap.size,3,none⟩=some (.slice K1 T.ks.length kc1):=k2.cell 3;have Vc:=Gh (HZ A1 c1 K1 kc1 W2 r2.rv);have XA:=Gh k2;have Sw:=Gh r2;have Xw:=Gh b2;clear SV k2 r2 b2 HZ;go_wp2_with fail
 refine Vc.out.mono ?_;rintro e w3 ⟨rfl,_,Xz⟩;have HE:=Gh (qQ UR.out.can.1);have Um:=Gh (Gt Xw Xz);have k3:=XA.out.old Xz;have FN:=Gh (show RV w3 (· <w3.heap.size) T (qe T A1 c1 K1 kc1)from(Sw.out.old Xz).rv);rw[HE.out];clear c0 c1' c2 c3 Vc Xw XA Sw Xz
 cases hz:qI T with
 |true=>
  have Nb:=Gh hz;clear hz DI k3;go_wp2_with fail
  go_ret
  exact⟨UR,Um,.inl ⟨Nb,rfl⟩⟩
 |false=>
  have Ut:=Gh (DI hz);have Nb:=Gh hz;have e4:(decide (1<=k)&&decide (k<=4))=true:=by simp;omega
  have HL:=Gh (fun(W:World)=>Qi k W);rw[e4]at HL;clear hz DI e4;have Uk:=Gh k3;have c0:w3.cell? ⟨w.heap.size,0,none⟩=some (.int .i64 T.lv):=k3.cell 0;have c1':w3.cell? ⟨w.heap.size,1,none⟩=some (.bool T.ng):=k3.cell 1;have c2:w3.cell? ⟨w.heap.size,2,none⟩=some (.slice A1 T.ds.length c1):=k3.cell 2;have c3:w3.cell? ⟨w.heap.size,3,none⟩=some (.slice K1 T.ks.length kc1):=k3.cell 3;clear k3;go_wp2_with fail
  refine(HL _).mono ?_;rintro e w4 ⟨rfl,rfl⟩;go_wp2_with fail
  have KF:=Gh (fun(V:World)(hV:Below w3.heap.size w3 V)=>(⟨(Uk.out.old hV).cell 0,(Uk.out.old hV).cell 1,(Uk.out.old hV).cell 2,(Uk.out.old hV).cell 3⟩:
   Gc V w.heap.size (.int .i64 T.lv) (.bool T.ng) (.slice A1 T.ds.length c1) (.slice K1 T.ks.length kc1)))
  have hb:Below w3.heap.size w3 w3.drew:=(qt.drew _).below _;have Xb:Below w3.heap.size w3 w3:=Below.refl _ _;have Ex:=Gh (fun(V:World)(hV:Below w3.heap.size w3 V)=>(FN.out.below hV).more hV.size);have Sj:=Gh (fun(V:World)(hV:Below w3.heap.size w3 V)=>HD UR.out.can.1 A1 c1 K1 kc1 V (Ex V hV));have Vv:=Gh (fun(V:World)(hV:Below w3.heap.size w3 V)=>Uc UR.out.can.1 A1 c1 K1 kc1 V (Ex V hV));go_region_held3 (fun w'=>Gc w' w.heap.size (.int .i64 T.lv) (.bool T.ng) (.slice A1 T.ds.length c1) (.slice K1 T.ks.length kc1))
   (first|(with_reducible exact KF.out _ hb)|(with_reducible exact KF.out _ Xb))
   (first
     |(go_at_call 33;(with_reducible refine(Sj.out _ hb).mono ?_);rintro e w5 ⟨rfl,hk⟩;replace hb:=Gt hb hk;have On:=hb.size)
     |(go_at_call 80;(with_reducible refine(Vv.out _ hb).mono ?_);rintro e w6 ⟨g,cur,rows,rfl,hg,Xk,hk⟩;replace hb:=Gt hb hk))
  have FM:=Gh (show jh w6 g (n+1) (NeG g w6) (((JS k n T).take 0).map qn++(JS k n T).drop 0) cur rows by
   rw[List.take_zero,List.drop_zero,List.map_nil,List.nil_append];exact Xk.mono fun b Ux=>by
    have h1:=Xk.row.lt;have h2:=hk.size;rcases Ux with Ux|Ux
    ·exact⟨by omega,by omega⟩
    ·exact Ux.2)
  have TL:=Gh (Gt Um hb);have T0:=Gh (show w.heap.size<=g by have:=Um.out.size;omega);generalize Lv:JS k n T=us at*;have Wq:=Gh Lv;have hn13:n<=40:=Uo;clear c0 c1' c2 c3 KF Ex Sj Vv HD Uc Uk FN HL Xk hk hb Xb Lv On hg Uo;go_wp2_with fail
  go_loopg [6,26] (n+1) (fun gn _ ix wr=>∃(j:Nat)(cur:Array Value)(rows:List (List Value)),j<=n+1/\gn=n+1-j/\ix= .int .i64 j/\Below w.heap.size w wr/\jh wr g (n+1) (NeG g wr) ((us.take j).map qn++us.drop j) cur rows/\(∀u∈us.take j,jb u (qn u))/\qG wr (yB wr (g+1)) ((us.take j).map qn) (rows.take j))
  case atStart=>exact⟨0,cur,rows,Nat.zero_le _,rfl,rfl,TL,FM,by simp,by simp[qG]⟩
  case round=>
   clear TL FM;obtain⟨j,cur,rows,hj,XI,rfl,Xe,Xk,CZ,BM⟩:=hrel;have HFR:=Gh BM;clear BM;have HG:=Gh XI;clear XI;by_cases Xi:j<n+1
   ·obtain⟨u,hu⟩:∃u,us[j]? =some u:=⟨_,Gn (by have:=SS.out;omega)⟩;obtain⟨A3,q3,K3,r3,x0,x1,x2,x3,S4⟩:=Xk.get (qhG hu);have Vv:=Gh (UO u (HFC u (Gk hu)) A3 q3 K3 r3 wr (RV.mono (fun b hb=>hb.1) _ _ S4));have EF:=Xk.siz;have U7:=Gh Xk;have Xh:=Gh Xe;have XQ:=Gh CZ;have HU:=Gh hu;have i3:(0:Int)<=(j:Int):=by omega
    have i4:(j:Int)<((n+1:Nat):Int):=by omega
    have i5:(j:Int)<(n:Int)+1:=by omega
    clear hu S4 Xk Xe CZ;generalize u.ds.length=ud at*;generalize u.ks.length=uk at*;generalize u.ng=ug at*;generalize u.lv=ul at*;go_wp2_with fail
    refine Vv.out.mono ?_;rintro e w2 ⟨A4,q4,K4,r4,rfl,Ss,Uy,Xf⟩;have XK:=U7.out.old Xf (fun b hb=>hb.1);have VT:=U7.out.row.lt;have ex:∀i,i<4->∃v,cur[j*4+i]? =some v:=fun j hj=>⟨_,Array.getElem?_eq_getElem (by omega)⟩;obtain⟨p0,s0⟩:=ex 0 (by omega);obtain⟨p1,s1⟩:=ex 1 (by omega);obtain⟨p2,s2⟩:=ex 2 (by omega);obtain⟨p3,s3⟩:=ex 3 (by omega);have d0:w2.cell? ⟨g,j*4,none⟩=some p0:=(XK.row.cell _).trans s0;have d1:w2.cell? ⟨g,j*4+1,none⟩=some p1:=(XK.row.cell _).trans s1;have d2:w2.cell? ⟨g,j*4+2,none⟩=some p2:=(XK.row.cell _).trans s2;have d3:w2.cell? ⟨g,j*4+3,none⟩=some p3:=(XK.row.cell _).trans s3;have f0:=XK.row.frozen (j*4);have f1:=XK.row.frozen (j*4+1);have f2:=XK.row.frozen (j*4+2);have f3:=XK.row.frozen (j*4+3);have z4:=XK.row.lt;have Lw:∀b,NeG g wr b->NeG g w2 b:=fun b hb=>⟨Gm hb.1 Xf.size,hb.2⟩;have HP:=Gh ((XK.mono Lw).put (fun b hb=>hb.2) (e:=j) Xi (Uy.neg XK.row VT));rw[qg4 HU.out]at HP;have Xg:=Gh (show qG (set4 w2 g (j*4) (.int .i64 (qn u).lv) (.bool (qn u).ng) (.slice A4 (qn u).ds.length q4) (.slice K4 (qn u).ks.length r4)) (yB (set4 w2 g (j*4) (.int .i64 (qn u).lv) (.bool (qn u).ng) (.slice A4 (qn u).ds.length q4) (.slice K4 (qn u).ks.length r4)) (g+1)) ((us.take (j+1)).map qn) ((rows.set j (qe (qn u) A4 q4 K4 r4)).take (j+1))by
     obtain⟨Fp,e⟩:=Gi.1 HU.out;have SI:j<rows.length:=by rw[U7.out.len];exact Xi
     have ht:(rows.set j (qe (qn u) A4 q4 K4 r4)).take (j+1)=rows.take j++[qe (qn u) A4 q4 K4 r4]:=by
      rw[List.set_eq_take_append_cons_drop,if_pos SI,show rows.take j++qe (qn u) A4 q4 K4 r4::rows.drop (j+1)=(rows.take j++[qe (qn u) A4 q4 K4 r4])++rows.drop (j+1)by simp,List.take_left' (by rw[List.length_append,List.length_take,List.length_singleton];omega)]
     obtain⟨s1,s2,s3⟩:=jm (k:=j*4) XK.row (.int .i64 (qn u).lv) (.bool (qn u).ng) (.slice A4 (qn u).ds.length q4) (.slice K4 (qn u).ks.length r4);obtain⟨k1,k2⟩:=yB.keep (w:=w2) (w':=set4 w2 g (j*4) (.int .i64 (qn u).lv) (.bool (qn u).ng) (.slice A4 (qn u).ds.length q4) (.slice K4 (qn u).ks.length r4)) (base:=g+1) (base':=g+1) s2 (fun i ds hg hi=>s3 i ds hg hi) (Gr _);obtain⟨m1,m2⟩:=yB.keep (w:=wr) (w':=w2) (base:=g+1) (base':=g+1) (fun _ _ q=>q.old Xf) (fun _ _ _ q=>q.old Xf) (Gr _);rw[ht,List.take_succ_eq_append_getElem Fp,e,List.map_append];exact qG.mono k2 _ _ (qG.keep k1 _ _ (qG.snoc (qG.mono m2 _ _ (qG.keep m1 _ _ HFR)) (RV.mono (fun b h=>yB.mono h VT) _ _ Uy))))
    have Xw:=Gh (qy (g:=g) (o:=j*4) (Gt Xh Xf) T0 (.int .i64 (qn u).lv) (.bool (qn u).ng) (.slice A4 (qn u).ds.length q4) (.slice K4 (qn u).ks.length r4));have Tk:=Gh (show∀v∈us.take (j+1),jb v (qn v)from fun v hv=>by
     obtain⟨Fp,e⟩:=Gi.1 HU.out;rw[List.take_succ_eq_append_getElem Fp,e]at hv;rcases List.mem_append.1 hv with hv|hv
     ·exact XQ v hv
     ·rw[List.mem_singleton]at hv;rw[hv];exact Ss)
    clear Uy Xf XK ex s0 s1 s2 s3 EF Lw Ss VT Vv U7 Xh XQ HU x0 x1 x2 x3;generalize (qn u).ds.length=vd at*;generalize (qn u).ks.length=vk at*;generalize (qn u).ng=vg at*;generalize (qn u).lv=vl at*;go_wp2_with fail
    obtain⟨cur',hp⟩:=HP.out;go_roundg (n+1-(j+1))
    case rel=>exact⟨j+1,cur',_,by omega,rfl,by go_num,Xw,hp.mono (fun b hb=>by unfold NeG at hb ⊢; rw[jP];exact hb),Tk,Xg⟩
    case measure=>have:=HG.out;omega
   ·obtain rfl:j=n+1:=by omega
    have U7:=Gh Xk;have Xh:=Gh Xe;have XQ:=Gh CZ;clear Xk Xe CZ Xi;go_wp2_with fail
    go_ret
    have hr:=U7.out;have hc:=XQ.out;rw[List.take_of_length_le (by have:=SS.out;omega)]at hr hc;rw[List.drop_of_length_le (by have:=SS.out;omega),List.append_nil,<-Ut.out]at hr;have hl:cfs.length=n+1:=by rw[Ut,List.length_map,SS.out]
    have hk:=HFR.out;rw[List.take_of_length_le (l:=us) (by have:=SS.out;omega),List.take_of_length_le (l:=rows) (by rw[hr.len];exact Gr _),<-Ut.out]at hk;refine⟨UR,Xh,.inr ⟨by first|rfl|exact Nb,by rw[Wq.out];exact hc,g,cur,rows,T0,by rw[hl];rfl,?_⟩⟩;rw[hl];exact{hr with kids:=hk}
def qeW(k:Int)(t:RP)(w:World)(e:Ending)(w':World):Prop:=
 jb t (qn t)/\Below w.heap.size w w'/\((qI (qn t)=true/\e= .returned (.slice none 0 0))∨
  (qI (qn t)=false/\(∀c∈JS k (zW k (qn t)) (qn t),jb c (qn c))/\∃g cur rows,w.heap.size<=g/\e= .returned (.slice (some ⟨g,0,none⟩) (qD k t).length (qD k t).length)/\jh w' g (qD k t).length (NeG g w') (qD k t) cur rows))
theorem qey(dg:Nat)(Xr:dg<=500)(k:Int)(Xx:0<k)(Xj:k<=4)(t:RP)(hf:yz dg t)(Ul:yz dg (qn t))(A:Oa)(c:Nat)(K:Oa)(kc B:Nat)(w:World)(hB:B<=w.heap.size)(h:RV w (· <B) t (qe t A c K kc)):
 Calls Tryz.prog 42 #[qm t A c K kc,.int .i64 k] w (qeW k t w):=by
 refine(JM dg Xr k Xx Xj t hf Ul A c K kc B w hB h).mono ?_;rintro e w' ⟨h1,h2,h3⟩;refine⟨h1,h2,h3.imp id ?_⟩;rintro⟨h4,h5,g,cur,rows,h6,h7,h8⟩;exact⟨h4,h5,g,cur,rows,h6,h7,h8.mono fun b hb=>⟨hb.lt,(yB.ne hb h8.row)⟩⟩
noncomputable def dL(cs:List RP)(q:Nat):List RP:=(List.range q).map (fun j:Nat=>yN ((j:Int)+1) (qn (cs.getD (j+1) qh)))++cs.drop q
theorem qk6(cs:List RP){q:Nat}(h:q<=cs.length):(dL cs q).length=cs.length:=by
 unfold dL;rw[List.length_append,List.length_map,List.length_range,List.length_drop];omega
theorem qkm(cs:List RP):dL cs 0=cs:=by simp[dL]
theorem qk3{cs:List RP}{q:Nat}{u:RP}(hu:cs[q+1]? =some u):(dL cs q)[q+1]? =some u:=by
 unfold dL;rw[List.getElem?_append_right (by simp),List.length_map,List.length_range,List.getElem?_drop,show q+(q+1-q)=q+1 by omega];exact hu
theorem qj2{cs:List RP}{q:Nat}{u:RP}(hu:cs[q+1]? =some u):(dL cs q).set q (yN ((q:Int)+1) (qn u))=dL cs (q+1):=by
 have hl:=(Gi.1 hu).1;unfold dL;rw[List.set_append_right _ _ (by simp),List.length_map,List.length_range,Nat.sub_self,List.range_succ,List.map_append,List.append_assoc];have e:cs.drop q=cs[q]::cs.drop (q+1):=List.drop_eq_getElem_cons (by omega);rw[e,List.set_cons_zero];show _=_++(yN ((q:Int)+1) (qn (cs.getD (q+1) qh))::cs.drop (q+1));rw[getD_some qh hu]
theorem Zy{V:World}{g q:Nat}{cur:Array Value}(hk:qf V g 28 cur)(o':Nat)(h:q*4+4<=o')(x0 x1 x2 x3:Value):(set4 V g (q*4) x0 x1 x2 x3).cell? ⟨g,o',none⟩=V.cell? ⟨g,o',none⟩:=by
 have h1:=(jm (k:=q*4) hk x0 x1 x2 x3).1.cell o';rw[Array.getElem?_setIfInBounds_ne (by omega),Array.getElem?_setIfInBounds_ne (by omega),Array.getElem?_setIfInBounds_ne (by omega),Array.getElem?_setIfInBounds_ne (by omega)]at h1;exact h1.trans (hk.cell o').symm
noncomputable def qaT(k:Int)(t:RP):RP:=if qI (qn t)=true then qh else qn (.mk k false [] ((dL (qD k t) ((qD k t).length-1)).take ((qD k t).length-1)))
theorem qgz(dg:Nat)(Xr:dg<=500)(k:Int)(Xx:0<k)(Xj:k<=4)(t:RP)(hf:yz dg t)(Ul:yz dg (qn t))(Tl:∀u∈qD k t,yz dg u/\yP 1000 (qn u))(BM:qI (qn t)=false->yz dg (.mk k false [] ((dL (qD k t) ((qD k t).length-1)).take ((qD k t).length-1))))(XC:(qD k t).length<=1000)(SC:qI (qn t)=false->0<(qD k t).length)
 (A:Oa)(c:Nat)(K:Oa)(kc B:Nat)(w:World)(hB:B<=w.heap.size)(h:RV w (· <B) t (qe t A c K kc)):
 Calls Tryz.prog 71 #[qm t A c K kc,.int .i64 k] w (qS (qaT k t) w):=by
 obtain⟨Xb,k0,k1,hs⟩:=qR w 28 28 (Gx t A c K kc) Gz;have HC:=Gh (fun(W:World)(hW:Below w.heap.size w W)=>qey dg Xr k Xx Xj t hf Ul A c K kc B W (Gl hB hW.size) (h.below (hW.mono hB)));have HJ:=Gh (fun(hz:qI (qn t)=false)(A:Oa)(c B:Nat)(W:World)(hB:B<=W.heap.size)(h:jT W B A ((dL (qD k t) ((qD k t).length-1)).take ((qD k t).length-1)))(hc:((dL (qD k t) ((qD k t).length-1)).take ((qD k t).length-1)).length<=c)=>qdz dg Xr k Xx Xj _ (BM hz) A c B W hB h hc);have Ep:=Gh SC;have Ej:=Gh Tl;have FW:=Gh (fun(u:RP)(hu:u∈qD k t)(z:Int)(hz:z≠0)(A:Oa)(c:Nat)(K:Oa)(kc:Nat)(g:Bool)(ds:List Nat)(RK:qj g ds=z)(D:Oa)(cd:Nat)(W:World)(h:RV W (· <W.heap.size) u (qe u A c K kc))(hn:qx W W.heap.size D cd ds)(hm:ds.length<=1000)=>QM dg Xr u (Tl u hu).1 (Tl u hu).2 z hz A c K kc g ds RK D cd W.heap.size W (Gr _) h hn hm);have TX:=Gh (fun(q:Nat)(hq:q<=1000)(W:World)=>Jc ((q:Int)+1) (by omega) (by omega) W);have HL:=Gh (fun(W:World)=>Qi k W);have DX:(decide (1<=k)&&decide (k<=4))=true:=by simp;omega
 rw[DX]at HL;have Fw:=Gh (fun(hz:qI (qn t)=true)=>show qaT k t=qh by unfold qaT;rw[if_pos hz]);have Tq:=Gh (fun(hz:qI (qn t)=false)=>show qaT k t=qn (.mk k false [] ((dL (qD k t) ((qD k t).length-1)).take ((qD k t).length-1)))by unfold qaT;rw[if_neg (by rw[hz];decide)]);unfold qeW at HC;unfold qS at HJ FW ⊢;unfold qX at TX;unfold qm at HC HJ FW ⊢;have Xo:=Gh k0;have Xu:=Gh k1;have Xd:=Gh Xb;clear h hf Ul BM hB SC Xb k0 k1 hs Tl DX;generalize qaT k t=R at*;go_enter Tryz.func71,Tryz.ntmps71
 go_upto_region 1 with(fail)
 generalize (w.alloc (.cells (Gx t A c K kc) 28)).alloc (.cells Gz 28)=W at*;obtain⟨x0,x1,x2,x3⟩:=G4 Xo.out;go_wp2_with fail
 refine(HL W).mono ?_;rintro e w2 ⟨rfl,rfl⟩;clear HL;go_wp2_with fail
 refine(HC W Xd).mono ?_;rintro e w2 ⟨U0,Xf,Ry⟩;clear x0 x1 x2 x3 HC;have kk:=Xu.out.old Xf;have Xw:=Gh (Gt Xd Xf);have AM:w.heap.size+1<W.heap.size:=Xu.out.lt;rcases Ry with⟨hz,rfl⟩|⟨hz,-,g,cur,rows,hg,rfl,Ua⟩
 ·obtain⟨d0,d1,d2,d3⟩:=G4 kk;obtain⟨f0,f1,f2,f3,z0⟩:=G5 kk;have HT:=Gh (Fw hz);have Xg:=Gh (jj kk rfl (RB.zero (base:=w.heap.size+1+1)) (Nat.lt_succ_self _) (by omega) Xw);clear hz kk Xf U0;go_wp2_with fail
  have hT:=HT.out;subst hT;exact qo Tryz.results71 rfl rfl Xg.out.1 Tryz.underlying28 rfl Tryz.sizeRec Xg.out.2
 ·have hp:=Ep.out hz;have HT:=Gh (Tq hz);have HZ:=Gh hz;have Tt:=Gh kk;have Nj:=Gh Ua;have VG:w.heap.size+1<g:=by omega
  obtain⟨cs,XE⟩:∃cs,cs=qD k t:=⟨_,rfl⟩;rw[<-XE]at hp XC HJ Nj HT FW Ej;rw[<-XE];have hb2X:=Xf;clear XE Ua Xf U0 kk hz Fw Tq Ep;obtain⟨n,hn⟩:∃n,cs.length=n:=⟨_,rfl⟩;rw[hn]at hp XC HJ Nj HT ⊢;have HN:=Gh hn;clear hn;have X7:((n:Int)==0)=false:=Qk _ (by omega);go_wp2_with fail
  have Sy:=Gh hb2X;go_loopg [6] n (fun gn ix wr=>∃q:Nat,q+1<=n/\gn=n-q/\ix= .int .i64 ((q:Int)+1)/\Below W.heap.size W wr/\∃cur rows,jh wr g n (NeG g wr) (dL cs q) cur rows)
  case atStart=>exact⟨0,by omega,rfl,rfl,Sy,cur,rows,by rw[qkm];exact Nj⟩
  case round=>
   clear Nj Sy;obtain⟨q,hq,FH,rfl,Xe,cur,rows,Xk⟩:=hrel;have HG:=Gh FH;have Xh:=Gh Xe;clear FH Xe;by_cases Xi:q+1<n
   ·obtain⟨u,hu⟩:∃u,cs[q+1]? =some u:=⟨_,Gn (by rw[HN.out];exact Xi)⟩;obtain⟨A3,q3,K3,r3,x0,x1,x2,x3,S4⟩:=Xk.get (qk3 hu);have hvw:RV wr (· <wr.heap.size) u (qe u A3 q3 K3 r3):=RV.mono (fun b hb=>hb.1) _ _ S4;have Vu:=Gh (qj2 hu);have VT:=Xk.row.lt;have KF:=Gh (fun(V:World)(hV:Below wr.heap.size wr V)=>(⟨(hV.cell (p:=⟨g,(q+1)*4,none⟩) VT).trans x0,(hV.cell (p:=⟨g,(q+1)*4+1,none⟩) VT).trans x1,(hV.cell (p:=⟨g,(q+1)*4+2,none⟩) VT).trans x2,(hV.cell (p:=⟨g,(q+1)*4+3,none⟩) VT).trans x3⟩:V.cell? ⟨g,(q+1)*4,none⟩=some (.int .i64 u.lv)/\V.cell? ⟨g,(q+1)*4+1,none⟩=some (.bool u.ng)/\V.cell? ⟨g,(q+1)*4+2,none⟩=some (.slice A3 u.ds.length q3)/\V.cell? ⟨g,(q+1)*4+3,none⟩=some (.slice K3 u.ks.length r3)));have KS:=Gh (fun(V:World)(hV:Below wr.heap.size wr V)(y0 y1 y2 y3:Value)=>(⟨(Zy (Xk.row.old hV) _ (by omega) y0 y1 y2 y3).trans (KF V hV).1,(Zy (Xk.row.old hV) _ (by omega) y0 y1 y2 y3).trans (KF V hV).2.1,(Zy (Xk.row.old hV) _ (by omega) y0 y1 y2 y3).trans (KF V hV).2.2.1,(Zy (Xk.row.old hV) _ (by omega) y0 y1 y2 y3).trans (KF V hV).2.2.2⟩:(set4 V g (q*4) y0 y1 y2 y3).cell? ⟨g,(q+1)*4,none⟩=some (.int .i64 u.lv)/\(set4 V g (q*4) y0 y1 y2 y3).cell? ⟨g,(q+1)*4+1,none⟩=some (.bool u.ng)/\(set4 V g (q*4) y0 y1 y2 y3).cell? ⟨g,(q+1)*4+2,none⟩=some (.slice A3 u.ds.length q3)/\(set4 V g (q*4) y0 y1 y2 y3).cell? ⟨g,(q+1)*4+3,none⟩=some (.slice K3 u.ks.length r3)));have XV:=Xk.siz;have ex:∀i,i<4->∃v,cur[q*4+i]? =some v:=fun j hj=>⟨_,Array.getElem?_eq_getElem (by omega)⟩;obtain⟨p0,s0⟩:=ex 0 (by omega);obtain⟨p1,s1⟩:=ex 1 (by omega);obtain⟨p2,s2⟩:=ex 2 (by omega);obtain⟨p3,s3⟩:=ex 3 (by omega);have KR:=Gh (fun(V:World)(hV:Below wr.heap.size wr V)=>(⟨((Xk.row.old hV).cell _).trans s0,((Xk.row.old hV).cell _).trans s1,((Xk.row.old hV).cell _).trans s2,((Xk.row.old hV).cell _).trans s3,(Xk.row.old hV).frozen _,(Xk.row.old hV).frozen _,(Xk.row.old hV).frozen _,(Xk.row.old hV).frozen _,(Xk.row.old hV).lt⟩:
     V.cell? ⟨g,q*4,none⟩=some p0/\V.cell? ⟨g,q*4+1,none⟩=some p1/\V.cell? ⟨g,q*4+2,none⟩=some p2/\V.cell? ⟨g,q*4+3,none⟩=some p3/\V.frozen? ⟨g,q*4,none⟩=false/\V.frozen? ⟨g,q*4+1,none⟩=false/\V.frozen? ⟨g,q*4+2,none⟩=false/\V.frozen? ⟨g,q*4+3,none⟩=false/\g<V.heap.size))
    have TH:=Gh (fun(V:World)(hV:Below wr.heap.size wr V)(D:Oa)(cd:Nat)(hl:(dig ((q:Int)+1).natAbs).length<=cd)(hn:qL V D (dig ((q:Int)+1).natAbs))=>FW u (Gk hu) ((q:Int)+1) (by omega) A3 q3 K3 r3 (decide ((q:Int)+1<0)) (dig ((q:Int)+1).natAbs) (jM _) D cd V ((hvw.below hV).more hV.size) ⟨hn.reads,qA _,hl⟩ (Gl (qK (n:=1) (by omega)) (by omega)));have Vi:=Gh (fun(V:World)(hV:Below wr.heap.size wr V)(T:RP)(A K:Oa)(c kc b0:Nat)(Xb:wr.heap.size<=b0)(hT:RB V b0 T (qe T A c K kc))=>((Xk.old hV (fun b hb=>hb.1)).mono (fun b (hb:NeG g wr b)=>show NeG g V b from⟨Gm hb.1 hV.size,hb.2⟩)).put (fun b hb=>hb.2) (e:=q) (by omega) (hT.neg (Xk.row.old hV) (Gm VT Xb)));have HOQ:=Gh (fun(V:World)=>TX q (by omega) V);have i1:(0:Int)<=(q:Int)+1:=by omega
    have i2:(q:Int)+1<(n:Int):=by omega
    have i3:(q:Int)+1-1=(q:Int):=by omega
    have i4:(0:Int)<=(q:Int):=by omega
    have i5:(q:Int)<(n:Int):=by omega
    have i6:((q:Int)+1).toNat=q+1:=by omega
    have e2:IntKind.i64.wrap ((q:Int)+1-1)=(q:Int):=by rw[i3];exact IntWalk.i64_in _ (by omega)
    have e3:IntKind.i64.wrap (q:Int)=(q:Int):=IntWalk.i64_in _ (by omega);have hb:Below wr.heap.size wr wr.drew:=(qt.drew _).below _;have Tb:Below wr.heap.size wr wr:=Below.refl _ _;clear Xk x0 x1 x2 x3 S4 hvw hu ex s0 s1 s2 s3 XV FW Ej;generalize hUU:yN ((q:Int)+1) (qn u)=U at*;clear hUU;generalize u.ds.length=ud at*;generalize u.ks.length=uk at*;generalize u.ng=ug at*;generalize u.lv=ul at*;generalize dig ((q:Int)+1).natAbs=d1 at*;generalize decide ((q:Int)+1<0)=b1 at*;go_upto_region 9 with(fail)
    go_region_held3 (fun w'=>w'.cell? ⟨g,(q+1)*4,none⟩=some (.int .i64 ul)/\w'.cell? ⟨g,(q+1)*4+1,none⟩=some (.bool ug)/\w'.cell? ⟨g,(q+1)*4+2,none⟩=some (.slice A3 ud q3)/\w'.cell? ⟨g,(q+1)*4+3,none⟩=some (.slice K3 uk r3))
     (first|(with_reducible exact KF.out _ hb)|(with_reducible exact KF.out _ Tb)|(with_reducible exact KS.out _ hb _ _ _ _))
     (first
       |(go_at_call 35;(with_reducible refine(HOQ.out _).mono ?_);rintro e v0 ⟨A6,c6,rfl,l6,n6,hk⟩;replace hb:=Gt hb hk;have Sn:=hb.size)
       |(go_at_call 45;(with_reducible refine(TH.out _ hb A6 c6 l6 n6).mono ?_);rintro e v1 ⟨⟨A7,c7,K7,kc7,rfl,CU,hk⟩,hct7⟩;have hs7:=hb.size;replace hb:=Gt hb hk;obtain⟨d0,d1',d2,d3,f0,f1,f2,f3,z0⟩:=KR.out _ hb))
    have HP:=Gh (Vi _ hb U A7 K7 c7 kc7 _ hs7 CU);rw[Vu.out]at HP;have XZ:=Gh (qy (o:=q*4) (Gt Xh hb) hg (.int .i64 U.lv) (.bool U.ng) (.slice A7 U.ds.length c7) (.slice K7 U.ks.length kc7));clear hb Tb CU hct7 KF KS KR TH Vi HOQ;go_wp2_with fail
    obtain⟨cur',Du⟩:=HP.out;go_roundg (n-(q+1))
    case rel=>exact⟨q+1,by omega,rfl,by go_num,XZ,cur',_,Du.mono (fun b hb=>by unfold NeG at hb ⊢; rw[jP];exact hb)⟩
    case measure=>have:=HG.out;omega
   ·obtain rfl:q+1=n:=by omega
    have Uo:=qk6 cs (q:=q) (by rw[HN.out];omega);have UG:=(jT.of_row (Xk.mono (fun b hb=>hb.1)) Xk.row.lt).take (n:=q) (by rw[Uo,HN.out];omega);have S6:((dL cs q).take q).length=q:=by rw[List.length_take,Uo,HN.out];omega
    rw[show q+1-1=q by omega]at HJ HT;have DN:=Gh (HJ HZ (some ⟨g,0,none⟩) (q+1) wr.heap.size wr (Gr _) UG (by omega));rw[S6,<-HT.out]at DN;have RI:=Gh (Xu.out.old Xh);have Rb:=Gh (Gt Xd Xh);have EE:=Tryz.slice_to g 0 (q+1) (q+1) q (by omega) wr;have TC:((q+1:Nat):Int)-1=(q:Int):=by omega
    have VY:(q:Int)+1-1=(q:Int):=by omega
    have e9:IntKind.i64.wrap (q:Int)=(q:Int):=IntWalk.i64_in _ (by omega);have hlt':¬((q:Int)+1<((q+1:Nat):Int)):=by omega
    clear Xk Uo UG S6 HJ HT FW Ej TX Xi;go_wp2_with fail
    refine DN.out.mono ?_;rintro e w3 ⟨-,A3,c3,K3,kc3,rfl,UL,Xz⟩;have kk:=RI.out.old Xz;have RL:=Rb.out.size;have Xg:=Gh (jj (w:=w) kk rfl UL RI.out.lt (by omega) (Gt Rb Xz));obtain⟨d0,d1,d2,d3⟩:=G4 kk;obtain⟨f0,f1,f2,f3,z0⟩:=G5 kk;clear kk UL Xz;go_wp2_with fail
    exact qo Tryz.results71 rfl rfl Xg.out.1 Tryz.underlying28 rfl Tryz.sizeRec Xg.out.2
theorem qc9(k:Int):∀ks:List RP,JD k ks=0↔∀u∈ks,zW k u=0
 |[]=>by simp[JD]
 |x::ks=>by
  have h2:=qc9 k ks;simp only[JD];refine⟨fun he u hu=>?_,fun he=>?_⟩
  ·rcases List.mem_cons.1 hu with rfl|hu
   ·omega
   ·exact h2.1 (by omega) u hu
  ·have a:=he x List.mem_cons_self;have b:=h2.2 fun u hu=>he u (List.mem_cons_of_mem _ hu);omega
theorem qkp{k:Int}(hk:0<k):∀(t:RP),qv t=true->(zW k t=0↔zo k t=false)
 |t,hc=>by
  rw[QO,jc];rcases qz hc with⟨a,b,_⟩|⟨a,_,_,_,c2,c,_⟩
  ·rw[if_pos (by omega),b];exact⟨fun _=>⟨by omega,by simp⟩,fun _=>rfl⟩
  ·by_cases h1:t.lv<k
   ·rw[if_pos h1];exact⟨fun _=>⟨by omega,fun u hu=>qcl u (c u hu).2 (by have:=(c u hu).1;omega)⟩,fun _=>rfl⟩
   ·rw[if_neg h1];by_cases h2:t.lv=k
    ·rw[if_pos h2];exact⟨fun h=>by omega,fun h=>absurd h2 h.1⟩
    ·rw[if_neg h2,qc9];have hu:∀u∈t.ks,(zW k u=0↔zo k u=false):=fun u hu=>qkp hk u (c u hu).2;exact⟨fun h=>⟨h2,fun u hx=>(hu u hx).1 (h u hx)⟩,fun h u hx=>(hu u hx).2 (h.2 u hx)⟩
termination_by t=>qC t
decreasing_by exact qY hu
theorem qh6{k:Int}(hk:0<k)(h4:k<=4){t:RP}(hc:qv (qn t)=true):0<yr k t↔zo k (qn t)=true:=by
 have h:=qkp hk (qn t) hc;unfold yr
 split
 ·rename_i hz;rw[Qv hc hz,zy hk];simp
 ·rw[if_pos (by simp;omega)]
  cases ho:zo k (qn t)with
  |false=>have:=h.2 ho;simp;omega
  |true=>
   have:zW k (qn t)≠0:=fun e=>by rw[h.1 e]at ho;cases ho
   simp;omega
mutual
def YA:RP->Prop
 | .mk l _ _ ks=>qc6 l ks
def qc6(l:Int):List RP->Prop
 |[]=>True
 |t::ts=>(1<=l->t.lv<l)/\YA t/\qc6 l ts
end
theorem qc6.mem{l:Int}{ts:List RP}:qc6 l ts↔∀u∈ts,(1<=l->u.lv<l)/\YA u:=by
 induction ts with
 |nil=>simp[qc6]
 |cons t ts ih=>simp[qc6,ih,and_assoc]
theorem YA.at_{t:RP}(h:YA t):∀u∈t.ks,(1<=t.lv->u.lv<t.lv)/\YA u:=by
 cases t
 simp only[YA]at h;exact qc6.mem.1 h
theorem YA.mk{l:Int}{g:Bool}{ds:List Nat}{ks:List RP}(h:∀u∈ks,(1<=l->u.lv<l)/\YA u):YA (.mk l g ds ks):=by
 simp only[YA];exact qc6.mem.2 h
theorem YA.zero:YA qh:=YA.mk (by simp)
theorem qb1:∀(t:RP),qv t=true->YA t
 |t,h=>by
  rw[show t=RP.mk t.lv t.ng t.ds t.ks by cases t;rfl];refine YA.mk fun u hu=>?_;rcases qz h with⟨_,k,_⟩|⟨_,_,_,_,_,c,_⟩
  ·rw[k]at hu;cases hu
  ·exact⟨fun _=>(c u hu).1,qb1 u (c u hu).2⟩
termination_by t=>qC t
decreasing_by exact qY hu
theorem qhy(k:Int)(n:Nat):∀(t:RP),qv t=true->∀c∈JS k n t,YA c/\c.lv<=t.lv
 |t,hc,c,hm=>by
  have h0:=(qJ hc).1;have hz:YA qh/\qh.lv<=t.lv:=⟨YA.zero,h0⟩;rw[JZ]at hm
  split at hm
  ·rcases List.mem_cons.1 hm with rfl|hm
   ·exact⟨qb1 _ hc,Int.le_refl _⟩
   ·rw[(List.mem_replicate.1 hm).2];exact hz
  ·split at hm
   ·rcases List.mem_append.1 hm with hm|hm
    ·have UE:=List.mem_of_mem_take hm;have:=(qb1 _ hc).at_ c UE;refine⟨this.2,?_⟩;rcases qz hc with⟨_,k,_⟩|⟨a,_⟩
     ·rw[k]at UE;cases UE
     ·have:=this.1 a;omega
    ·rw[(List.mem_replicate.1 hm).2];exact hz
   ·obtain⟨i,_,rfl⟩:=List.mem_map.1 hm;refine⟨YA.mk fun u hu=>?_,Int.le_refl _⟩;obtain⟨x,hx,rfl⟩:=List.mem_map.1 hu;rcases qz hc with⟨_,k,_⟩|⟨a,_,_,_,_,c,_⟩
    ·rw[k]at hx;cases hx
    ·have BP:=c x hx;have:=zK (i:=i) (d:=qh) (Q:=fun u:RP=>YA u/\u.lv<=x.lv) (qhy k n x BP.2) ⟨YA.zero,(qJ BP.2).1⟩;exact⟨fun _=>by have:=this.2;omega,this.1⟩
termination_by t=>qC t
decreasing_by exact qY hx
theorem qhi(k:Int)(n:Nat):∀(t:RP),qF t->∀c∈JS k n t,qF c
 |t,hw,c,hm=>by
  rw[JZ]at hm
  split at hm
  ·rcases List.mem_cons.1 hm with rfl|hm
   ·exact hw
   ·rw[(List.mem_replicate.1 hm).2];exact qF.zero
  ·split at hm
   ·rcases List.mem_append.1 hm with hm|hm
    ·exact hw.at_.2 c (List.mem_of_mem_take hm)
    ·rw[(List.mem_replicate.1 hm).2];exact qF.zero
   ·obtain⟨i,_,rfl⟩:=List.mem_map.1 hm;refine qF.mk (by simp[jg]) fun u hu=>?_;obtain⟨x,hx,rfl⟩:=List.mem_map.1 hu;exact zK (qhi k n x (hw.at_.2 x hx)) qF.zero
termination_by t=>qC t
decreasing_by exact qY hx
mutual
theorem qbb{d n:Nat}:∀(t:RP)(m:Mo)(i:Nat),i<4->YA t->qN d n t->gt m i<=0->∀x∈jH t m,gt x.2 i+1<=max (n:Int) 1
 | .mk l g ds ks,m,i,hi,h,hw,hm,x,hx=>by
   simp only[qN]at hw;simp only[jH]at hx;have c:=h.at_
   split at hx
   ·rw[List.mem_singleton]at hx;subst hx;show gt m i+1<=_;omega
   ·split at hx
    ·cases hx
    ·have c:∀u∈ks,(1<=l->u.lv<l)/\YA u:=c;by_cases he:i=l.toNat-1
     ·subst he;rw[Yw m hi]at hx;have:=qba (n:=n) ks m (l.toNat-1) _ hi (fun u hu=>by have:=c u hu;exact⟨by have:=this.1 (by omega);omega,this.2⟩) x hx;omega
     ·exact qal ks m (l.toNat-1) _ i (by omega) hi he (fun u hu=>(c u hu).2) hw.2.2 hm x hx
theorem qba{n:Nat}:∀(ks:List RP)(m:Mo)(i:Nat)(e:Int),i<4->(∀u∈ks,u.lv<=(i:Int)/\YA u)->∀x∈jo i ks m e,gt x.2 i+1<=e+ks.length
 |[],_,_,_,_,_,x,hx=>by simp[jo]at hx
 |k::ks,m,i,e,hi,h,x,hx=>by
  simp only[jo]at hx;rcases List.mem_append.1 hx with hx|hx
  ·have:=qc5 k (jU m i e) i hi (h k List.mem_cons_self).1 (h k List.mem_cons_self).2 x hx;rw[this,yp m e hi hi,if_pos rfl];simp only[List.length_cons];omega
  ·have:=qba (n:=n) ks m i (e+1) hi (fun u hu=>h u (List.mem_cons_of_mem _ hu)) x hx;simp only[List.length_cons];omega
theorem qal{d n:Nat}:∀(ks:List RP)(m:Mo)(j:Nat)(e:Int)(i:Nat),j<4->i<4->i≠j->(∀u∈ks,YA u)->zO d n ks->gt m i<=0->∀x∈jo j ks m e,gt x.2 i+1<=max (n:Int) 1
 |[],_,_,_,_,_,_,_,_,_,_,x,hx=>by simp[jo]at hx
 |k::ks,m,j,e,i,hj,hi,CA,h,hw,hm,x,hx=>by
  simp only[zO]at hw;simp only[jo]at hx;rcases List.mem_append.1 hx with hx|hx
  ·exact qbb k (jU m j e) i hi (h k List.mem_cons_self) hw.1 (by rw[yp m e hj hi,if_neg CA];exact hm) x hx
  ·exact qal ks m j (e+1) i hj hi CA (fun u hu=>h u (List.mem_cons_of_mem _ hu)) hw.2 hm x hx
theorem qc5:∀(t:RP)(m:Mo)(i:Nat),i<4->t.lv<=(i:Int)->YA t->∀x∈jH t m,gt x.2 i=gt m i
 | .mk l g ds ks,m,i,hi,hl,h,x,hx=>by
   simp only[jH]at hx;have c:=h.at_
   split at hx
   ·rw[List.mem_singleton]at hx;subst hx;rfl
   ·split at hx
    ·cases hx
    ·have c:∀u∈ks,(1<=l->u.lv<l)/\YA u:=c;have hl:l<=(i:Int):=hl;exact qcE ks m (l.toNat-1) _ i (by omega) hi (by omega) (fun u hu=>by have:=c u hu;exact⟨by have:=this.1 (by omega);omega,this.2⟩) x hx
theorem qcE:∀(ks:List RP)(m:Mo)(j:Nat)(e:Int)(i:Nat),j<4->i<4->j<i->(∀u∈ks,u.lv<=(i:Int)/\YA u)->∀x∈jo j ks m e,gt x.2 i=gt m i
 |[],_,_,_,_,_,_,_,_,x,hx=>by simp[jo]at hx
 |k::ks,m,j,e,i,hj,hi,LP,h,x,hx=>by
  simp only[jo]at hx;rcases List.mem_append.1 hx with hx|hx
  ·rw[qc5 k (jU m j e) i hi (h k List.mem_cons_self).1 (h k List.mem_cons_self).2 x hx,yp m e hj hi,if_neg (by omega)]
  ·exact qcE ks m j (e+1) i hj hi LP (fun u hu=>h u (List.mem_cons_of_mem _ hu)) x hx
end
theorem Qh{d:Nat}{T:RP}(hc:qv T=true)(hw:qN d 4 T)(hd:d<=400):yz 400 T:=by
 obtain⟨a,_,c⟩:=Y5 hc (qN.mono (Gr _) (show 4<=5 by omega) _ hw);exact⟨by omega,qN.few (n:=5) (by omega) _ (qN.mono hd (by omega) _ hw),by omega⟩
theorem qeB{d n:Nat}(hn:1<=n){c:RP}(hx:∀x∈jH c (0,0,0,0),∀i,i<4->gt x.2 i+1<=(n:Int))(hw:qN d n c)(hf:yz d c)(hd:qF c):qN (d+1) n (qn c):=by
 rcases jS c with⟨_,e⟩|⟨_,P,hP,Tl,e⟩
 ·rw[e];exact qN.mono (by omega) (Gr _) _ hw
 ·rw[e];refine qaP hn 4 _ (by omega) fun s hs=>?_;refine⟨zL ?_,fun i hi=>?_⟩
  ·have h2:=Qu hs;have h3:=hP.nrm_le Tl;have h4:=qdO hf hd;have h5:=qfC d;omega
  ·obtain⟨x,Lr,e⟩:=Yh hP Tl hs;have:=hx x Lr i hi;rw[<-e];omega
theorem qej{k:Int}{T:RP}(h:T.lv<k):zW k T=0:=by rw[QO,if_pos h]
theorem qkv{k:Int}{T:RP}(h:T.lv=k):zW k T=T.ks.length-1:=by rw[QO,if_neg (by omega),if_pos h]
theorem qh7{k:Int}{b:Nat}:∀{ks:List RP},(∀u∈ks,zW k u<=b)->JD k ks<=b
 |[],_=>by simp[JD]
 |u::us,h=>by
  simp only[JD];exact Nat.max_le.2 ⟨h u List.mem_cons_self,qh7 fun v hv=>h v (List.mem_cons_of_mem _ hv)⟩
theorem qdW{k:Nat}{N:Nat}:∀(L:Nat)(ts:List Tm),L<=4->(∀t∈ts,gt t.2 k+1<=(N:Int))->zW ((k:Int)+1) (qZ L ts)+1<=max N 1
 |L,[],_,_=>by rw[yo,qej (show qh.lv<_ by show(0:Int)<_;omega)];omega
 |0,t::r,_,h=>by rw[qZ,qej (show(jy t.1).lv<_ by show(0:Int)<_;omega)];omega
 |L+1,t::r,hL,h=>by
  rw[qZ]
  split
  ·exact qdW L (t::r) (by omega) h
  ·rw[QO]
   split
   ·omega
   ·split
    ·rename_i h1 h2;have h2:(L:Int)+1=(k:Int)+1:=h2;obtain rfl:L=k:=by omega
     show(jJ (qZ L) L (t::r).length (t::r) (List.replicate ((gt t.2 L).toNat+1) qh)).length-1+1<=_;rw[JB,List.length_replicate];have:=h t List.mem_cons_self;omega
    ·have:JD ((k:Int)+1) (jJ (qZ L) L (t::r).length (t::r) (List.replicate ((gt t.2 L).toNat+1) qh))<=max N 1-1:=qh7 fun u hu=>by
      have:=Qj (Q:=fun u=>zW ((k:Int)+1) u+1<=max N 1) (qZ L) L _ _ _ (by rw[qej (show qh.lv<_ by show(0:Int)<_;omega)];omega) (fun l hl=>qdW L l (by omega) fun x hx=>h x (hl x hx)) u hu;omega
     exact Gl (Nat.succ_le_succ this) (by omega)
theorem qiE{k N:Nat}{c:RP}(hx:∀x∈jH c (0,0,0,0),gt x.2 k+1<=(N:Int))(hc:qv c=true->zW ((k:Int)+1) c+1<=max N 1):zW ((k:Int)+1) (qn c)+1<=max N 1:=by
 rcases jS c with⟨h,e⟩|⟨_,P,hP,Tl,e⟩
 ·rw[e];exact hc h
 ·rw[e];refine qdW 4 _ (by omega) fun s hs=>?_;obtain⟨x,Lr,e⟩:=Yh hP Tl hs;rw[<-e];exact hx x Lr
theorem qi7{k:Nat}(hk:k<4){t:RP}{d:Nat}(hw:qN d 4 (qn t))(hd:qF (qn t)):∀c∈qD ((k:Int)+1) t,Vp ((k:Int)+1) (d+1) 3 c:=by
 intro c hc;have U0:=(jS t).can.1;unfold qD at hc
 split at hc
 ·cases hc
 ·obtain⟨c0,h0,rfl⟩:=List.mem_map.1 hc;have hx:=jS c0;have h1:=qhm ((k:Int)+1) _ (qn t) hw c0 h0;have h2:=qhi ((k:Int)+1) _ (qn t) hd c0 h0;have h3:=qd3 ((k:Int)+1) _ (qn t) c0 h0;have h4:=Y5 U0 (qN.mono (Gr _) (show 4<=5 by omega) _ hw);have h5:=qdZ ((k:Int)+1) _ (qn t) c0 h0;have hf:yz d c0:=⟨by omega,qN.few (n:=4) (by omega) _ h1,by omega⟩;refine⟨hx.can.1,qeB (by omega) (fun x hx i hi=>?_) h1 hf h2,hx.oc hk (qkw _ _ U0 c0 h0),hx.dig h2⟩;have:=qbb (d:=d) (n:=4) c0 (0,0,0,0) i hi (qhy _ _ _ U0 c0 h0).1 h1 (by rcases Yy hi with rfl|rfl|rfl|rfl<;>exact Int.le_refl _) x hx;omega
theorem qaH{k:Nat}{t:RP}{m:Nat}(h:zW ((k:Int)+1) (qn t)+1<=m):(qD ((k:Int)+1) t).length<=m:=by
 unfold qD
 split
 ·exact Nat.zero_le _
 ·rw[List.length_map,Yc];exact h
theorem qa1{k:Nat}(hk:k<4){d:Nat}(m:Mo)(hm:∀i,i<4->gt m i<=0):∀(ds:List RP)(e:Int),(∀u∈ds,Vp ((k:Int)+1) d 3 u)->∀x∈jo k ds m e,(∀i,i<4->i≠k->gt x.2 i+1<=4)/\gt x.2 k<e+ds.length
 |[],_,_,x,hx=>by simp[jo]at hx
 |u::us,e,h,x,hx=>by
  simp only[jo]at hx;simp only[List.length_cons];rcases List.mem_append.1 hx with hx|hx
  ·have hu:=h u List.mem_cons_self;refine⟨fun i hi hik=>?_,?_⟩
   ·have:=ZM (d:=d) (n:=4) u (jU m k e) i hi hu.can hu.lw (by rw[yp m e hk hi,if_neg hik];exact hm i hi) x hx;omega
   ·rw[qb9 hk u _ hu.oc x hx,yp m e hk hk,if_pos rfl];omega
  ·have:=qa1 hk m hm us (e+1) (fun v hv=>h v (List.mem_cons_of_mem _ hv)) x hx;exact⟨this.1,by omega⟩
theorem qc1{k:Nat}(hk:k<4){d:Nat}{ds:List RP}(h:∀u∈ds,Vp ((k:Int)+1) d 3 u):∀x∈jH (.mk ((k:Int)+1) false [] ds) (0,0,0,0),(∀i,i<4->i≠k->gt x.2 i+1<=4)/\gt x.2 k<ds.length:=by
 have hm:∀i,i<4->gt ((0,0,0,0):Mo) i<=0:=fun i hi=>by rcases Yy hi with rfl|rfl|rfl|rfl<;>exact Int.le_refl _
 intro x hx;simp only[jH]at hx;rw[if_neg (by omega),if_neg (by omega),show(((k:Int)+1).toNat-1)=k by omega,Yw _ hk]at hx;have:=qa1 hk _ hm ds _ h x hx;have h0:=hm k hk;exact⟨this.1,by omega⟩
theorem qiV{b:Nat}:∀{ds:List RP},(∀u∈ds,jW u<=b)->yy ds<=ds.length*b
 |[],_=>by simp[yy]
 |u::us,h=>by
  simp only[yy,List.length_cons,Nat.succ_mul];have h1:=h u List.mem_cons_self;have h2:=qiV fun v hv=>h v (List.mem_cons_of_mem _ hv);omega
theorem qhA{b:Nat}:∀{ds:List RP},(∀u∈ds,qC u<=b)->Jm ds<=b
 |[],_=>by simp[Jm]
 |u::us,h=>by
  simp only[Jm];exact Nat.max_le.2 ⟨h u List.mem_cons_self,qhA fun v hv=>h v (List.mem_cons_of_mem _ hv)⟩
theorem Q8{k:Int}{d:Nat}{ds:List RP}(h:∀u∈ds,Vp k d 3 u)(hl:ds.length<=4):yz d (.mk k false [] ds)/\qN d 4 (.mk k false [] ds)/\qF (.mk k false [] ds):=by
 have hs:∀u∈ds,qC u<=5/\ym d u/\jW u<=1000:=fun u hu=>Y5 (h u hu).can (qN.mono (Gr _) (show 4<=5 by omega) _ (h u hu).lw);have h1:=qhA (b:=5) fun u hu=>(hs u hu).1;have h2:=qiV (b:=1000) fun u hu=>(hs u hu).2.2;have hw:qN d 4 (.mk k false [] ds):=qN.mk (Nat.zero_le _) hl fun u hu=>(h u hu).lw;refine⟨⟨?_,qN.few (n:=4) (by omega) _ hw,?_⟩,hw,qF.mk (by simp[jg]) fun u hu=>(h u hu).dig⟩
 ·simp only[qC];omega
 ·simp only[jW];have:=Nat.mul_le_mul_right 1000 hl;omega
structure QB (k:Int) (d m:Nat) (T:RP):Prop where
 fit:yz 400 T
 lw:qN d 4 (qn T)
 dig:qF (qn T)
 len:(qD k T).length<=m
theorem QB.fitc{k:Int}{d m:Nat}{T:RP}(h:QB k d m T)(hd:d<=400):yz 400 (qn T):=Qh (jS T).can.1 h.lw hd
theorem QB.cfs{k d m:Nat}{T:RP}(h:QB ((k:Int)+1) d m T)(hk:k<4):∀c∈qD ((k:Int)+1) T,Vp ((k:Int)+1) (d+1) 3 c:=qi7 hk h.lw h.dig
theorem QB.mono{k:Int}{d d' m m':Nat}{T:RP}(h:QB k d m T)(hd:d<=d')(hm:m<=m'):QB k d' m' T:=⟨h.fit,qN.mono hd (Gr _) _ h.lw,h.dig,Gl h.len hm⟩
theorem qko(cs:List RP)(q:Nat):(dL cs q).take q=(List.range q).map (fun j:Nat=>yN ((j:Int)+1) (qn (cs.getD (j+1) qh))):=by
 unfold dL;rw[List.take_append_of_le_length (by simp),List.take_of_length_le (by simp)]
theorem qc8{k d:Nat}{cs:List RP}(XE:∀c∈cs,Vp ((k:Int)+1) d 3 c)(hl:cs.length<=5):(∀u∈(dL cs (cs.length-1)).take (cs.length-1),Vp ((k:Int)+1) (d+1) 3 u)/\((dL cs (cs.length-1)).take (cs.length-1)).length=cs.length-1:=by
 rw[qko];refine⟨fun u hu=>?_,by simp⟩;obtain⟨j,hj,rfl⟩:=List.mem_map.1 hu;have Fp:=List.mem_range.1 hj;have hv:Vp ((k:Int)+1) d 3 (cs.getD (j+1) qh):=zK XE (Vp.zero (by omega));rw[qQ hv.can];exact⟨(ZH _ _ hv.can).1,qbo (e:=1) (by omega) _ hv.lw hv.dig,qfI (by omega) _ _ hv.oc,ZO _ _⟩
theorem QB.der{k d m:Nat}(hk:k<4){T:RP}(h:QB ((k:Int)+1) d (m+1) T)(hd:d<=300)(hm:1<=m)(AK:m<=4):QB ((k:Int)+1) (d+3) m (qaT ((k:Int)+1) T):=by
 unfold qaT
 split
 ·have hz:qn qh=qh:=qQ (by decide);refine⟨Qh (d:=0) (by decide) (qN.zero _ _) (by omega),by rw[hz];exact qN.zero _ _,by rw[hz];exact qF.zero,?_⟩;unfold qD;rw[hz,if_pos (by decide)];exact Nat.zero_le _
 ·obtain⟨hu,SG⟩:=qc8 (h.cfs hk) (Gl h.len (by omega));have TD:=h.len;generalize (dL (qD ((k:Int)+1) T) ((qD ((k:Int)+1) T).length-1)).take ((qD ((k:Int)+1) T).length-1)=ds at*;have Uo:ds.length<=m:=by omega
  obtain⟨hf,hw,Xr⟩:=Q8 hu (by omega);have hx:=jS (.mk ((k:Int)+1) false [] ds);have Da:=qc1 hk hu;have Cw:=qeB (d:=d+1+1) (n:=4) (by omega) (fun x hx i hi=>by
   by_cases e:i=k
   ·subst e;have:=(Da x hx).2;omega
   ·exact(Da x hx).1 i hi e) hw hf Xr
  have CS:qn (qn (.mk ((k:Int)+1) false [] ds))=qn (.mk ((k:Int)+1) false [] ds):=qQ hx.can.1;refine⟨Qh hx.can.1 Cw (by omega),by rw[CS];exact Cw,by rw[CS];exact hx.dig Xr,qaH ?_⟩;rw[CS];have:=qiE (k:=k) (N:=ds.length) (fun x hx=>by have:=(Da x hx).2;omega) (fun _=>by
   rw[qkv (k:=(k:Int)+1) (T:= .mk ((k:Int)+1) false [] ds) rfl];show ds.length-1+1<=_;omega)
  omega
theorem qbW{k:Nat}(hk:k<4){T:RP}(h:0<yr ((k:Int)+1) T):2<=(qD ((k:Int)+1) T).length:=by
 unfold yr at h
 split at h
 ·omega
 ·rename_i hz;rw[if_pos (by simp;omega)]at h;unfold qD;rw[if_neg hz,List.length_map,Yc];omega
def Ju(w:World)(B:Nat)(cs:Array Value)(o:Nat)(q:RP):Prop:=∃A c K kc,cs[o]? =some (.int .i64 q.lv)/\cs[o+1]? =some (.bool q.ng)/\cs[o+2]? =some (.slice A q.ds.length c)/\cs[o+3]? =some (.slice K q.ks.length kc)/\RV w (· <B) q (qe q A c K kc)
def CfN(gs:List Nat)(W:World)(R:Oa)(cs:List RP):Prop:=∀(i:Nat)(u:RP),cs[i]? =some u->∃(g:Nat)(cur:Array Value)(A:Oa)(c:Nat)(K:Oa)(kc:Nat),R=some ⟨g,0,none⟩/\g∉gs/\qf W g 28 cur/\
 cur[i*4]? =some (.int .i64 u.lv)/\cur[i*4+1]? =some (.bool u.ng)/\cur[i*4+2]? =some (.slice A u.ds.length c)/\cur[i*4+3]? =some (.slice K u.ks.length kc)/\RV W (NB gs W) u (qe u A c K kc)
section
variable {w W W':World} {gs gs':List Nat} {g gT:Nat} {R:Oa} {cs:List RP} {pcs:Array Value} {k:Int} {d n d' n':Nat}
theorem CfN.old(h:CfN gs W R cs)(hb:Below W.heap.size W W'):CfN gs W' R cs:=fun i u hu=>by
 obtain⟨g,cur,A,c,K,kc,h1,h2,h3,h4,h5,h6,h7,h8⟩:=h i u hu;exact⟨g,cur,A,c,K,kc,h1,h2,h3.old hb,h4,h5,h6,h7,NB.old h8 hb⟩
theorem CfN.add(h:CfN gs W R cs)(hb:Below W.heap.size W W')(hg:W.heap.size<=g):CfN (g::gs) W' R cs:=fun i u hu=>by
 obtain⟨g1,cur,A,c,K,kc,h1,h2,h3,h4,h5,h6,h7,h8⟩:=h i u hu;exact⟨g1,cur,A,c,K,kc,h1,fun e=>by
  rcases List.mem_cons.1 e with rfl|e
  ·have:=h3.lt;omega
  ·exact h2 e,h3.old hb,h4,h5,h6,h7,NB.add h8 hb hg⟩
theorem CfN.sub(h:CfN gs W R cs)(hs:∀x∈gs',x∈gs):CfN gs' W R cs:=fun i u hu=>by
 obtain⟨g,cur,A,c,K,kc,h1,h2,h3,h4,h5,h6,h7,h8⟩:=h i u hu;exact⟨g,cur,A,c,K,kc,h1,fun e=>h2 (hs _ e),h3,h4,h5,h6,h7,NB.sub h8 hs⟩
theorem CfN.set4(h:CfN gs W R cs)(hg:g∈gs)(x y z u:Value):CfN gs (set4 W g 0 x y z u) R cs:=fun i v hv=>by
 obtain⟨g1,cur,A,c,K,kc,h1,h2,h3,h4,h5,h6,h7,h8⟩:=h i v hv;exact⟨g1,cur,A,c,K,kc,h1,h2,h3.set4_far (fun e=>h2 (e▸hg)) 0 x y z u,h4,h5,h6,h7,NB.set4 h8 hg x y z u⟩
theorem CfN.of_row{m:Nat}{cur:Array Value}{rows:List (List Value)}(h:jh W g m (yB W (g+1)) cs cur rows)(UA:∀x∈gs,x<g/\∃cs,qf W x 28 cs):CfN gs W (some ⟨g,0,none⟩) cs:=fun i u hu=>by
 obtain⟨A,c,K,kc,x0,x1,x2,x3,hr⟩:=h.get hu;have hk:=h.row;exact⟨g,cur,A,c,K,kc,rfl,fun e=>by have:=(UA g e).1;omega,hk,(hk.cell _).symm.trans x0,(hk.cell _).symm.trans x1,(hk.cell _).symm.trans x2,(hk.cell _).symm.trans x3,NB.of_rb hr fun x hx=>⟨by have:=(UA x hx).1;omega,(UA x hx).2⟩⟩
structure VaI (w W:World) (gs:List Nat) (gT:Nat) (pcs:Array Value) (R:Oa) (cs:List RP):Prop where
 bel:Below w.heap.size w W
 ge:∀x∈gs,w.heap.size<=x/\x≠gT/\∃cs,qf W x 28 cs
 pt:qf W gT 34 pcs
 cf:CfN gs W R cs
theorem VaI.old(h:VaI w W gs gT pcs R cs)(hb:Below W.heap.size W W'):VaI w W' gs gT pcs R cs:=
 ⟨Gt h.bel hb,fun x hx=>by obtain⟨h1,h2,cs,h3⟩:=h.ge x hx;exact⟨h1,h2,cs,h3.old hb⟩,h.pt.old hb,h.cf.old hb⟩
theorem VaI.make(h:VaI w W gs gT pcs R cs)(c:Array Value):VaI w (W.alloc (.cells c 28)) (W.heap.size::gs) gT pcs R cs:=by
 have hb:=Gb W (.cells c 28);have ho:=h.old hb;refine⟨ho.bel,fun x hx=>?_,ho.pt,h.cf.add hb (Gr _)⟩;rcases List.mem_cons.1 hx with rfl|hx
 ·exact⟨h.bel.size,by have:=h.pt.lt;omega,_,qf.new W 28 c⟩
 ·exact ho.ge x hx
theorem VaI.sub(h:VaI w W gs gT pcs R cs)(hs:∀x∈gs',x∈gs):VaI w W gs' gT pcs R cs:=⟨h.bel,fun x hx=>h.ge x (hs x hx),h.pt,h.cf.sub hs⟩
theorem VaI.set4(h:VaI w W gs gT pcs R cs)(hg:g∈gs)(x y z u:Value):VaI w (Go.Proofs.YtflikmojaidhhaaGreatDoor.set4 W g 0 x y z u) gs gT pcs R cs:=by
 obtain⟨h1,h2,_⟩:=h.ge g hg;refine⟨qy h.bel h1 _ _ _ _,fun b hb=>?_,h.pt.set4_far (Ne.symm h2) 0 x y z u,h.cf.set4 hg x y z u⟩;obtain⟨q1,q2,cs,q3⟩:=h.ge b hb;refine⟨q1,q2,?_⟩;by_cases e:b=g
 ·subst e;exact⟨_,(jm (k:=0) q3 x y z u).1⟩
 ·exact⟨cs,q3.set4_far e 0 x y z u⟩
theorem VaI.blk(h:VaI w W gs gT pcs R cs):∀x∈gs,∃cs,qf W x 28 cs:=fun x hx=>(h.ge x hx).2.2
def JR(k:Int)(d n:Nat)(gs:List Nat)(W:World)(g:Nat):Prop:=∃T A c K kc,Qp k d n T/\QI gs W g T A c K kc
theorem JR.old(h:JR k d n gs W g)(hb:Below W.heap.size W W'):JR k d n gs W' g:=by
 obtain⟨T,A,c,K,kc,h1,h2⟩:=h;exact⟨T,A,c,K,kc,h1,h2.old hb⟩
theorem JR.make(h:JR k d n gs W g)(c:Array Value):JR k d n (W.heap.size::gs) (W.alloc (.cells c 28)) g:=by
 obtain⟨T,A,c',K,kc,h1,h2⟩:=h;exact⟨T,A,c',K,kc,h1,h2.add (Gb W (.cells c 28)) (Gr _)⟩
theorem JR.sub(h:JR k d n gs W g)(hs:∀x∈gs',x∈gs):JR k d n gs' W g:=by
 obtain⟨T,A,c,K,kc,h1,h2⟩:=h;exact⟨T,A,c,K,kc,h1,h2.sub hs⟩
theorem JR.mono(h:JR k d n gs W g)(hd:d<=d')(hn:n<=n'):JR k d' n' gs W g:=by
 obtain⟨T,A,c,K,kc,h1,h2⟩:=h;exact⟨T,A,c,K,kc,h1.mono hd hn,h2⟩
theorem JR.far{g':Nat}(h:JR k d n gs W g)(hg:g'∈gs)(Xl:g≠g')(x y z u:Value):JR k d n gs (Go.Proofs.YtflikmojaidhhaaGreatDoor.set4 W g' 0 x y z u) g:=by
 obtain⟨T,A,c,K,kc,h1,h2⟩:=h;exact⟨T,A,c,K,kc,h1,h2.far hg Xl x y z u⟩
theorem JR.put{T':RP}{A' K':Oa}{c' kc':Nat}(h:JR k d n gs W g)(hg:g∈gs)(hq:Qp k d' n' T')(ht:RV W (NB gs W) T' (qe T' A' c' K' kc')):JR k d' n' gs (Go.Proofs.YtflikmojaidhhaaGreatDoor.set4 W g 0 (.int .i64 T'.lv) (.bool T'.ng) (.slice A' T'.ds.length c') (.slice K' T'.ks.length kc')) g:=by
 obtain⟨T,A,c,K,kc,h1,h2⟩:=h;exact⟨T',A',c',K',kc',hq,h2.put hg ht⟩
end
theorem Yg.un{k:Int}{t:RP}{w w':World}{e:Ending}{gs:List Nat}(h:Yg k t w e w')(UA:∀x∈gs,∃cs,qf w x 28 cs):∃R,e= .returned (.slice R (qD k t).length (qD k t).length)/\Below w.heap.size w w'/\CfN gs w' R (qD k t):=by
 obtain⟨_,hb,⟨hz,rfl⟩|⟨_,_,g,cur,rows,hg,rfl,hr⟩⟩:=h
 ·have e:qD k t=[]:=by unfold qD;rw[if_pos hz]
  rw[e];exact⟨none,rfl,hb,fun i u hu=>by simp at hu⟩
 ·exact⟨_,rfl,hb,.of_row hr fun x hx=>by
   obtain⟨cs,h1⟩:=UA x hx;exact⟨Gm h1.lt hg,cs,h1.old hb⟩⟩
