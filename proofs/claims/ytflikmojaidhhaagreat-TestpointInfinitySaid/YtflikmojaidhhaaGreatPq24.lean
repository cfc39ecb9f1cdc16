import Derived.Test.YtflikmojaidhhaaGreatPq23
namespace Go.Proofs.YtflikmojaidhhaaGreat
open Go.RowKit
def zW(zs:List Int):Nat→Nat
 |0=>0
 |n+1=>if zs.getD n 0=0 then zW zs n else n+1
theorem qaH(zs:List Int):∀n,zW zs n≤n
 |0=>Nat.le_refl _
 |n+1=>by
  rw[zW]
  split
  ·have:=qaH zs n;omega
  ·exact Nat.le_refl _
def seN(zs:List Int)(n:Nat):Int:=if zW zs n=0 then 0 else if(zW zs n-1)%2=1 then-qB (zs.getD (zW zs n-1) 0)else qB (zs.getD (zW zs n-1) 0)
def JC(zs:List Int):List Rat:=zs.map fun z:Int=>(z:Rat)
theorem Qt{z:Int}:qB z=0↔z=0:=by
 unfold qB
 split
 ·omega
 ·split<;>omega
theorem qhC(zs:List Int):∀n,n≤zs.length→zy (JC (zs.take n))=seN zs n
 |0,_=>by simp[JC,zy,seN,zW]
 |n+1,hn=>by
  have ih:=qhC zs n (by omega);have ht:zs.take (n+1)=zs.take n++[zs.getD n 0]:=by
   rw[List.take_succ_eq_append_getElem (by omega),List.getD_eq_getElem?_getD,List.getElem?_eq_getElem (by omega)];rfl
  unfold JC at ih ⊢;rw[ht,List.map_append,List.map_cons,List.map_nil,qam,ih,qfF,List.length_map,List.length_take,Nat.min_eq_left (by omega)];unfold seN;rw[zW];by_cases h0:zs.getD n 0=0
  ·rw[if_pos (Qt.2 h0),if_pos h0]
  ·rw[if_neg (fun h=>h0 (Qt.1 h)),if_neg h0,if_neg (show¬n+1=0 by omega),Nat.add_sub_cancel]
theorem qjb(zs:List Int):zy (JC zs)=seN zs zs.length:=by
 have:=qhC zs zs.length (Nat.le_refl _);rw[List.take_length]at this;exact this
theorem qd3(zs:List Int):∀n j,zW zs n≤j→j<n→zs.getD j 0=0
 |0,j,_,h=>by omega
 |n+1,j,h,hj=>by
  rw[zW]at h
  split at h
  ·rename_i hz;by_cases e:j=n
   ·rw[e];exact hz
   ·exact qd3 zs n j h (by omega)
  ·omega
theorem ZS(y:Rat):∀(l:List Rat)(n:Nat),(∀j,n≤j→j<l.length→l.getD j 0=0)→pvR y (l.take n)=pvR y l
 |[],n,_=>by simp
 |a::l,0,h=>by
  have h0:=h 0 (Nat.le_refl _) (by simp);have ih:=ZS y l 0 fun j _ hj=>h (j+1) (Nat.zero_le _) (by simpa using hj);rw[List.take_zero]at ih ⊢;simp only[pvR]at ih ⊢;rw[←ih,show a=0 from h0]
  grind
 |a::l,n+1,h=>by
  rw[List.take_succ_cons];simp only[pvR];rw[ZS y l n fun j hn hj=>h (j+1) (by omega) (by simpa using hj)]
theorem qjG(zs:List Int)(y:Rat):pvR y (JC (zs.take (zW zs zs.length)))=pvR y (JC zs):=by
 unfold JC;rw[List.map_take];refine ZS y _ _ fun j hj hl=>?_;rw[List.length_map]at hl;have h:=qd3 zs zs.length j hj hl;rw[List.getD_eq_getElem?_getD,List.getElem?_eq_getElem hl]at h;rw[List.getD_eq_getElem?_getD,List.getElem?_map,List.getElem?_eq_getElem hl];have h':zs[j]=0:=h;simp[h']
abbrev yV(zs:List ZT):List Int:=zs.map ZT.z
theorem qeW{zs:List ZT}{j:Nat}{x:ZT}(h:zs[j]? =some x):(yV zs).getD j 0=x.z:=by
 rw[List.getD_eq_getElem?_getD];unfold yV;rw[List.getElem?_map,h];rfl
theorem qR.take{w:World}{B:Nat}{P:Option Addr}{zs:List ZT}(h:qR w B P zs){n:Nat}(hn:n≤zs.length):qR w B P (zs.take n):=by
 have hl:(zs.take n).length=n:=by rw[List.length_take];omega
 refine⟨⟨Qr _,fun hp=>?_⟩,fun x hx=>h.nn x (List.mem_of_mem_take hx)⟩;obtain⟨b,o,e,hb,hc⟩:=h.rd.2 (by omega);refine⟨b,o,e,hb,fun j u hu=>hc j u ?_⟩;have hsp:Zw zs=Zw (zs.take n)++Zw (zs.drop n):=by unfold Zw;rw[←List.flatMap_append,List.take_append_drop]
 rw[hsp,List.getElem?_append_left (by have:=(List.getElem?_eq_some_iff.1 hu).1;exact this)];exact hu
theorem qhT(ng:Bool)(A:Option Addr)(c B:Nat)(ds:List Nat)(w:World)(hB:B≤w.heap.size)(h:qh w B A c ds)(hm:ds.length≤1000000):
 Calls Tryz.prog 18 #[.agg #[.bool ng,.slice A ds.length c]] w fun e w'=>e= .returned (.int .i64 (qB (qb ng ds)))∧Below w.heap.size w w':=
 (zQ ng A c B ds w hB h hm).mono fun e w' he=>⟨he.1,by rw[he.2];exact(Below.refl _ w).alloc (Nat.le_refl _) _⟩
theorem Tryz.slice_uni(P:Option Addr)(n c a:Nat)(h:a≤c)(hn:P=none→c=0)(W:World):(Instr.slice 38 (.slice P n c) none (some (.int .i64 (a:Int))) none).run Tryz.prog W= .ok (.slice P a c) W:=by
 cases P with
 |none=>
  have:=hn rfl;obtain rfl:a=0:=by omega
  subst this;simp[Instr.slice,run_underlying Tryz.underlying38,go_sem]
 |some x=>
  simp[Instr.slice,run_underlying Tryz.underlying38,go_sem];intro hh;omega
set_option maxHeartbeats 4000000
set_option maxRecDepth 100000
theorem YV(zs:List ZT)(hn:zs.length≤100000)(hl:∀x∈zs,x.ds.length≤100000)(P:Option Addr)(c B:Nat)(w:World)(hB:B≤w.heap.size)(h:qR w B P zs)(hc:zs.length≤c)(hPn:P=none→c=0):
 Calls Tryz.prog 42 #[.slice P zs.length c] w fun e w'=>e= .returned (.slice P (zW (yV zs) zs.length) c)∧Below w.heap.size w w':=by
 have HR:=Lib.hid (fun(W:World)(hW:Below w.heap.size w W)=>h.below (hW.mono hB));have HB:=Lib.hid hB;have HL:=Lib.hid hl;have HC:=Lib.hid hc;have HSG:=Lib.hid (fun(g:Bool)(A:Option Addr)(c:Nat)(ds:List Nat)(W:World)(hW:B≤W.heap.size)(h:qh W B A c ds)(hm:ds.length≤1000000)=>qhT g A c B ds W hW h hm);have HPN:=Lib.hid hPn;have HN0:=Lib.hid hn;clear h hl hB hPn hn hc;generalize hnn:zs.length=n at*;have HN:=Lib.hid hnn;clear hnn;go_enter Tryz.func42,Tryz.ntmps42
 go_wp2_with fail
 go_loopg [3] n (fun gn i wr=>∃(k:Nat),k≤n∧gn=k∧i= .int .i64 k∧zW (yV zs) k=zW (yV zs) n∧Below w.heap.size w wr)
 case atStart=>exact⟨_,Nat.le_refl _,rfl,rfl,rfl,Below.refl _ _⟩
 case round=>
  obtain⟨k,hk,hgk,rfl,hz,hbw⟩:=hrel;have HG:=Lib.hid hgk;have HZZ:=Lib.hid hz;have HBW:=Lib.hid hbw;have hn0:=HN0.out;clear hgk hz;by_cases h0:0<k
  ·obtain⟨k,rfl⟩:∃k',k=k'+1:=⟨k-1,by omega⟩;obtain⟨x,hx⟩:∃x,zs[k]? =some x:=⟨_,List.getElem?_eq_getElem (by rw[HN.out];omega)⟩;obtain⟨b,o,rfl,hbB,x0,x1,hxn⟩:=(HR.out wr hbw).at_ hx;have i1:(k:Int)<(n:Int):=by omega
   have i2:(n:Int)≤(c:Int):=by have:=HC.out;omega
   have hkk:((k+1:Nat):Int)-1=(k:Int):=by omega
   have HXZ:=Lib.hid (qeW hx);have hsg:=HSG.out x.ng x.A x.c x.ds wr (Nat.le_trans HB.out hbw.size) hxn (by have:=HL.out x (List.mem_of_getElem? hx);omega);rw[show qb x.ng x.ds=x.z from rfl]at hsg;have HS:=Lib.hid hsg;clear hx hxn hsg hbw;by_cases hz:x.z=0
   ·have HX:=Lib.hid (show zW (yV zs) k=zW (yV zs) (k+1)by rw[zW,HXZ.out,if_pos hz]);have hs0:qB x.z=0:=Qt.2 hz;rw[hs0]at HS;clear hz hs0 HXZ;generalize x.ds.length=xl at*;generalize x.ng=xg at*;go_wp2_with fail
    refine HS.out.mono ?_;rintro e w4 ⟨rfl,hb4⟩;have HB4:=Lib.hid (HBW.out.trans (hb4.mono HBW.out.size));clear hb4 x0 x1;go_wp2_with fail
    go_roundg k
    case rel=>exact⟨k,by omega,rfl,by go_num,by rw[HX.out];exact HZZ.out,HB4.out⟩
    case measure=>have:=HG.out;omega
   ·have HX:=Lib.hid (show zW (yV zs) (k+1)=k+1 by rw[zW,HXZ.out,if_neg hz]);have hs0:qB x.z≠0:=fun h=>hz (Qt.1 h);have hs1:(qB x.z==0)=false:=by simpa using hs0
    have hsl:=fun W=>Tryz.slice_uni (some ⟨b,o,none⟩) n c (k+1) (by omega) (fun h=>by cases h) W;clear hz hs0 HXZ;generalize x.ds.length=xl at*;generalize x.ng=xg at*;generalize qB x.z=sx at*;go_wp2_with fail
    refine HS.out.mono ?_;rintro e w4 ⟨rfl,hb4⟩;have HB4:=Lib.hid (HBW.out.trans (hb4.mono HBW.out.size));clear hb4 x0 x1;go_wp2_with fail
    go_ret
    exact⟨by rw[←HZZ.out,HX.out];rfl,HB4.out⟩
  ·obtain rfl:k=0:=by omega
   have hsl:=fun W=>Tryz.slice_uni P n c 0 (by omega) HPN.out W;clear h0 hbw;go_wp2_with fail
   go_ret
   exact⟨by rw[←HZZ.out];rfl,HBW.out⟩
structure yB (w W:World) (g:Nat) (vs:List Int) (cur:List ZT):Prop where
 bel:Below w.heap.size w W
 blk:qd W g 25 (Zw cur).toArray
 eq:cur.map ZT.z=vs
 nb:∀x∈cur,qk W x.A x.ds∧x.ds.length≤x.c
 cn:∀x∈cur,x.ds=dig x.z.natAbs
section
variable {w W W1:World} {g:Nat} {vs:List Int} {cur:List ZT}
theorem yB.len(h:yB w W g vs cur):cur.length=vs.length:=by
 have:=congrArg List.length h.eq;rwa[List.length_map]at this
theorem yB.start{n:Nat}(hb:Below w.heap.size w W):yB w (W.alloc (.cells (madeCells #[.bool false,.slice none 0 0] (n*2)) 25)) W.heap.size (List.replicate n 0) (List.replicate n ⟨false,[],none,0⟩):=by
 refine⟨hb.alloc hb.size _,?_,?_,fun x hx=>?_,fun x hx=>?_⟩
 ·rw[←qcX];exact qd.new W 25 _
 ·rw[List.map_replicate];rfl
 ·rw[(List.mem_replicate.1 hx).2];exact⟨.inl rfl,Nat.le_refl _⟩
 ·rw[(List.mem_replicate.1 hx).2];exact qt.symm
theorem yB.old(h:yB w W g vs cur)(h1:Below W.heap.size W W1):yB w W1 g vs cur:=
 ⟨h.bel.trans (h1.mono h.bel.size),h.blk.old h1,h.eq,fun x hx=>⟨(h.nb x hx).1.old h1,(h.nb x hx).2⟩,h.cn⟩
theorem qdW(z:Int):qb (decide (z<0)) (dig z.natAbs)=z:=q7 z
theorem yB.put(h:yB w W g vs cur)(hg:w.heap.size≤g){j:Nat}(hj:j<vs.length){z:Int}{A:Option Addr}{c:Nat}(h1:Below W.heap.size W W1)(hl:(dig z.natAbs).length≤c)(hn:qk W1 A (dig z.natAbs)):
 yB w ((W1.setCell ⟨g,j*2,none⟩ (.bool (decide (z<0)))).setCell ⟨g,j*2+1,none⟩ (.slice A (dig z.natAbs).length c)) g (vs.set j z) (cur.set j ⟨decide (z<0),dig z.natAbs,A,c⟩):=by
 have h0:=h.old h1;have hk:=(h0.blk.set_ (j*2) (.bool (decide (z<0)))).set_ (j*2+1) (.slice A (dig z.natAbs).length c);have hns:∀{A':Option Addr} {ds:List Nat},qk W1 A' ds→qk ((W1.setCell ⟨g,j*2,none⟩ (.bool (decide (z<0)))).setCell ⟨g,j*2+1,none⟩ (.slice A (dig z.natAbs).length c)) A' ds:=fun hn'=>
  (hn'.far h0.blk (by decide) _ _).far (h0.blk.set_ (j*2) (.bool (decide (z<0)))) (by decide) _ _
 refine⟨(h0.bel.setCell (p:=⟨g,j*2,none⟩) hg _).setCell (p:=⟨g,j*2+1,none⟩) hg _,?_,?_,fun x hx=>?_,fun x hx=>?_⟩
 ·have e:=qcj cur j ⟨decide (z<0),dig z.natAbs,A,c⟩ (by rw[h.len];exact hj);rw[←e];simpa using hk
 ·rw[List.map_set,h.eq]
  congr 1
  exact qdW z
 ·rcases List.mem_or_eq_of_mem_set hx with hx|rfl
  ·exact⟨hns (h0.nb x hx).1,(h0.nb x hx).2⟩
  ·exact⟨hns hn,hl⟩
 ·rcases List.mem_or_eq_of_mem_set hx with hx|rfl
  ·exact h0.cn x hx
  ·show dig z.natAbs=dig (qb (decide (z<0)) (dig z.natAbs)).natAbs;rw[qdW]
theorem yB.nat(h:yB w W g vs cur){x:ZT}(hx:x∈cur):qh W W.heap.size x.A x.c x.ds:=by
 have h1:=h.nb x hx;have h2:=h.cn x hx;rw[h2]at h1 ⊢;exact qV h1.1 h1.2
theorem yB.ints(h:yB w W g vs cur):qR W W.heap.size (some ⟨g,0,none⟩) cur:=
 qR.of_blk h.blk h.blk.lt fun _ hx=>h.nat hx
theorem yB.at_(h:yB w W g vs cur){j:Nat}(hj:j<vs.length):∃x,cur[j]? =some x∧vs[j]? =some x.z∧x∈cur:=by
 have hc:j<cur.length:=by rw[h.len];exact hj
 refine⟨cur[j],List.getElem?_eq_getElem hc,?_,List.getElem_mem hc⟩;rw[←h.eq,List.getElem?_map,List.getElem?_eq_getElem hc];rfl
theorem yB.cell(h:yB w W g vs cur)(h1:Below W.heap.size W W1){j:Nat}(hj:j<vs.length):∃v0 v1,W1.cell? ⟨g,j*2,none⟩=some v0∧W1.cell? ⟨g,j*2+1,none⟩=some v1∧W1.frozen? ⟨g,j*2,none⟩=false∧W1.frozen? ⟨g,j*2+1,none⟩=false∧g<W1.heap.size:=by
 have hk:=h.blk.old h1;have hz:(Zw cur).toArray.size=vs.length*2:=by rw[List.size_toArray,Qr,h.len]
 have ex:∀i,i<2→∃v,(Zw cur).toArray[j*2+i]? =some v:=fun i hi=>⟨_,Array.getElem?_eq_getElem (by omega)⟩;obtain⟨v0,q0⟩:=ex 0 (by omega);obtain⟨v1,q1⟩:=ex 1 (by omega);exact⟨v0,v1,(hk.cell _).trans q0,(hk.cell _).trans q1,hk.frozen _,hk.frozen _,hk.lt⟩
end
theorem qb8{vs:List Int}{n j:Nat}(hj:j<n){z:Int}(hz:vs[j]? =some z):(vs.take j++List.replicate (n-j) 0).set j z=vs.take (j+1)++List.replicate (n-(j+1)) 0:=by
 obtain⟨hj',e⟩:=List.getElem?_eq_some_iff.1 hz;obtain⟨r,hr⟩:∃r,n-j=r+1:=⟨n-j-1,by omega⟩;have hl:(vs.take j).length=j:=by rw[List.length_take];omega
 rw[List.set_append_right _ _ (by omega),hl,Nat.sub_self,hr,List.replicate_succ,List.set_cons_zero,List.take_succ_eq_append_getElem hj',List.append_assoc,e,show n-(j+1)=r by omega];rfl
theorem Tryz.make_uni(n:Nat)(hn:n≤1000000)(w:World):(Instr.makeSlice 38 (.int .i64 (n:Int)) (.int .i64 (n:Int))).run Tryz.prog w= .ok (.slice (some ⟨w.heap.size,0,none⟩) n n) (w.alloc (.cells (madeCells #[.bool false,.slice none 0 0] (n*2)) 25)):=by
 obtain⟨i0,hi0,hz0,hz1,hz2⟩:=qZ Tryz.infoInt2;have hr:=run_make (P:=Tryz.prog) w 38 25 i0 _ Tryz.underlying38 hi0 hz0 .i64 .i64 n n (by omega) (by omega) (by rw[hz2];omega) (by omega);simp only[Int.toNat_natCast,hz1,Value.cells]at hr;exact hr
def jI(vs:List Int)(w:World)(e:Ending)(w':World):Prop:=∃g zs,e= .returned (.slice (some ⟨g,0,none⟩) vs.length vs.length)∧yB w w' g vs zs
set_option maxHeartbeats 1000000
theorem qeQ(zs:List ZT)(hn:zs.length≤100000)(hl:∀x∈zs,x.ds.length≤100000)(P:Option Addr)(c B:Nat)(w:World)(hB:B≤w.heap.size)(h:qR w B P zs)(hc:zs.length≤c):
 Calls Tryz.prog 115 #[.slice P zs.length c,.func (.func 43) #[] #[]] w (jI (yV zs) w):=by
 have HR:=Lib.hid (fun(W:World)(hW:Below w.heap.size w W)=>h.below (hW.mono hB));have HB:=Lib.hid hB;have HL:=Lib.hid hl;have HC:=Lib.hid hc;have HNM:=Lib.hid (fun(g:Bool)(A:Option Addr)(c:Nat)(ds:List Nat)(W:World)(hW:B≤W.heap.size)(h:qh W B A c ds)(hm:ds.length≤1000000)=>jH g A c B ds W hW h hm);unfold qy at HNM;have hmk:=fun(W:World)=>Tryz.make_uni zs.length (by omega) W;have HST:=Lib.hid (yB.start (w:=w) (W:=w) (n:=zs.length) (Below.refl _ _));have HVL:=Lib.hid (show(yV zs).length=zs.length from List.length_map _);have HPOST:=Lib.hid (fun(W:World)(g:Nat)(cur:List ZT)(h:yB w W g (yV zs) cur)=>show jI (yV zs) w (.returned (.slice (some ⟨g,0,none⟩) zs.length zs.length)) W from⟨g,cur,by rw[List.length_map],h⟩);generalize jI (yV zs) w=Post at*;clear h hl hB hc;generalize hvs:yV zs=vs at*;have HVS:=Lib.hid hvs;clear hvs;generalize hnn:zs.length=n at*;have HN:=Lib.hid hnn;clear hnn;have hmk0:=hmk w;go_enter Tryz.func115,Tryz.ntmps115
 go_wp2_with fail
 clear hmk hmk0;generalize w.alloc (.cells (madeCells #[.bool false,.slice none 0 0] (n*2)) 25)=W0 at*;go_loopg [6,13] n (fun gn _ ix wr=>∃(j:Nat)(cur:List ZT),j≤n∧gn=n-j∧ix= .int .i64 j∧yB w wr w.heap.size (vs.take j++List.replicate (n-j) 0) cur)
 case atStart=>exact⟨0,_,Nat.zero_le _,rfl,rfl,by rw[List.take_zero,List.nil_append,Nat.sub_zero];exact HST.out⟩
 case round=>
  clear HST;obtain⟨j,cur,hj,hgj,rfl,hci⟩:=hrel;have HG:=Lib.hid hgj;have HCI:=Lib.hid hci;have hbw:Below w.heap.size w wr:=hci.bel;clear hgj hci;by_cases hlt:j<n
  ·obtain⟨x,hx⟩:∃x,zs[j]? =some x:=⟨_,List.getElem?_eq_getElem (by rw[HN.out];exact hlt)⟩;obtain⟨b,o,rfl,hbB,x0,x1,hxn⟩:=(HR.out wr hbw).at_ hx;have hxm:=List.mem_of_getElem? hx;have HVX:=Lib.hid (show vs[j]? =some x.z by rw[←HVS.out,List.getElem?_map,hx];rfl);have i3:(0:Int)≤(j:Int):=by omega
   have i4:(j:Int)<(n:Int):=by omega
   have i5:(n:Int)≤(c:Int):=by have:=HC.out;omega
   have hal:=(Below.refl wr.heap.size wr).alloc (Nat.le_refl _) (.cells #[.bool x.ng,.slice x.A x.ds.length x.c] 25);have hnb:=qd.new wr 25 #[.bool x.ng,.slice x.A x.ds.length x.c];have hBw:B≤wr.heap.size:=Nat.le_trans HB.out hbw.size;have hnm:=HNM.out x.ng x.A x.c x.ds (wr.alloc (.cells #[.bool x.ng,.slice x.A x.ds.length x.c] 25)) (Nat.le_trans hBw hal.size) (hxn.below (hal.mono hBw)) (by have:=HL.out x hxm;omega);rw[show qb x.ng x.ds=x.z from rfl]at hnm;have HM:=Lib.hid hnm;have HAL:=Lib.hid hal;have hvl:(vs.take j++List.replicate (n-j) (0:Int)).length=n:=by
    have:=HVL.out;simp;omega
   have HCL:=Lib.hid (fun(V:World)(hV:Below wr.heap.size wr V)=>HCI.out.cell hV (j:=j) (by rw[hvl];exact hlt));have HPT:=Lib.hid (fun(V:World)(hV:Below wr.heap.size wr V)(A:Option Addr)(c:Nat)(hl:(dig x.z.natAbs).length≤c)(hn:qk V A (dig x.z.natAbs))=>HCI.out.put (Nat.le_refl _) (by rw[hvl];exact hlt) hV hl hn);rw[qb8 hlt HVX.out]at HPT;clear hx hxm hxn hnm hbw hBw hvl HVX HCI;generalize x.z=z at*;generalize x.ds.length=xl at*;generalize x.ng=xg at*;go_upto_region 5 with(fail)
   generalize wr.alloc (.cells #[.bool xg,.slice x.A xl x.c] 25)=V at*;have y0:=hnb.cell 0;have y1:=hnb.cell 1;clear x0 x1 hnb hal;go_wp2_with fail
   refine HM.out.mono ?_;rintro e w4 ⟨A4,c4,rfl,l4,n4,hb4⟩;have hb5:=HAL.out.trans (hb4.mono HAL.out.size);have HN5:=Lib.hid (HPT.out w4 hb5 A4 c4 l4 n4);obtain⟨v0,v1,d0,d1,f0,f1,zl⟩:=HCL.out w4 hb5;clear n4 l4 hb4 hb5 HM HAL HPT HCL y0 y1;go_wp2_with fail
   go_roundg (n-(j+1))
   case rel=>exact⟨j+1,_,by omega,rfl,by go_num,HN5.out⟩
   case measure=>have:=HG.out;omega
  ·obtain rfl:j=n:=by omega
   have HF:=Lib.hid (show yB w wr w.heap.size vs cur by
    have:=HCI.out;rw[List.take_of_length_le (by rw[HVL.out];exact Nat.le_refl _),Nat.sub_self,List.replicate_zero,List.append_nil]at this;exact this)
   clear HCI hbw;go_wp2_with fail
   exact HPOST.out wr _ cur HF.out
theorem qdC(zs:List ZT)(hn:zs.length≤100000)(hl:∀x∈zs,x.ds.length≤100000)(P:Option Addr)(c B:Nat)(w:World)(hB:B≤w.heap.size)(h:qR w B P zs)(hc:zs.length≤c)(hPn:P=none→c=0):
 Calls Tryz.prog 83 #[.slice P zs.length c] w (jI ((yV zs).take (zW (yV zs) zs.length)) w):=by
 have HT:=Lib.hid (YV zs hn hl P c B w hB h hc hPn);have hle:=qaH (yV zs) zs.length;have hln:(zs.take (zW (yV zs) zs.length)).length=zW (yV zs) zs.length:=by rw[List.length_take];omega
 have HR:=Lib.hid (fun(W:World)(hW:Below w.heap.size w W)=>by
  have:=qeQ (zs.take (zW (yV zs) zs.length)) (by omega) (fun x hx=>hl x (List.mem_of_mem_take hx)) P c B W (Nat.le_trans hB hW.size) ((h.below (hW.mono hB)).take hle) (by omega);rw[hln,show yV (zs.take (zW (yV zs) zs.length))=(yV zs).take (zW (yV zs) zs.length)from List.map_take]at this;exact this)
 have HPOST:=Lib.hid (fun(W:World)(hW:Below w.heap.size w W)(e:Ending)(W':World)(h:jI ((yV zs).take (zW (yV zs) zs.length)) W e W')=>show jI ((yV zs).take (zW (yV zs) zs.length)) w e W' by
  obtain⟨g,cur,he,hci⟩:=h;exact⟨g,cur,he,hW.trans (hci.bel.mono hW.size),hci.blk,hci.eq,hci.nb,hci.cn⟩)
 clear hn hl hB h hc hPn hle hln;generalize (yV zs).take (zW (yV zs) zs.length)=us at*;generalize zW (yV zs) zs.length=n at*;generalize zs.length=m at*;unfold jI at HR;generalize hPo:jI us w=Post at*;go_enter Tryz.func83,Tryz.ntmps83
 go_wp2_with fail
 refine HT.out.mono ?_;rintro e w1 ⟨rfl,hb1⟩;have HB1:=Lib.hid hb1;clear hb1 HT;go_wp2_with fail
 refine(HR.out w1 HB1.out).mono ?_;rintro e w2 ⟨g,cur,rfl,hci⟩;have HF:=Lib.hid (HPOST.out w1 HB1.out _ w2 ⟨g,cur,rfl,hci⟩);clear hci HR HPOST;generalize us.length=ul at*;go_wp2_with fail
 exact HF.out
def QV(vs:List Int)(n:Nat):Int:=if zW vs n=0 then 0 else vs.getD (zW vs n-1) 0
theorem qiK(vs:List Int)(n:Nat):seN vs n=if((zW vs n:Int)-1).tmod 2 != 0 then-qB (QV vs n)else qB (QV vs n):=by
 unfold seN QV;by_cases h0:zW vs n=0
 ·rw[h0];rfl
 ·rw[if_neg h0,if_neg h0];obtain⟨k,hk⟩:∃k,zW vs n=k+1:=⟨zW vs n-1,by omega⟩;rw[hk,Nat.add_sub_cancel,show((k+1:Nat):Int)-1=(k:Int)by omega,Int.tmod_eq_emod_of_nonneg (by omega)];by_cases h2:k%2=1
  ·rw[if_pos h2,if_pos (by simp;omega)]
  ·rw[if_neg h2,if_neg (by simp;omega)]
theorem qgY(zs:List ZT)(hn:zs.length≤100000)(hl:∀x∈zs,x.ds.length≤100000)(P:Option Addr)(c B:Nat)(w:World)(hB:B≤w.heap.size)(h:qR w B P zs)(hc:zs.length≤c)(hPn:P=none→c=0):
 Calls Tryz.prog 19 #[.slice P zs.length c] w (qy (QV (yV zs) zs.length) w):=by
 have hb0:=(Below.refl w.heap.size w).alloc (Nat.le_refl _) (.cells #[.bool false,.slice none 0 0] 25);have hk0:=qd.new w 25 #[.bool false,.slice none 0 0];have HB0:=Lib.hid hb0;have HK0:=Lib.hid hk0;have HT:=Lib.hid (fun(W:World)(hW:Below w.heap.size w W)=>YV zs hn hl P c B W (Nat.le_trans hB hW.size) (h.below (hW.mono hB)) hc hPn);have HR:=Lib.hid (fun(W:World)(hW:Below w.heap.size w W)=>h.below (hW.mono hB));have HNM:=Lib.hid (fun(g:Bool)(A:Option Addr)(c:Nat)(ds:List Nat)(W:World)(hW:B≤W.heap.size)(h:qh W B A c ds)(hm:ds.length≤1000000)=>jH g A c B ds W hW h hm);have hle:=qaH (yV zs) zs.length;have HLD:=Lib.hid (show QV (yV zs) zs.length=if zW (yV zs) zs.length=0 then 0 else(yV zs).getD (zW (yV zs) zs.length-1) 0 from rfl);have HB:=Lib.hid hB;have HL:=Lib.hid hl;have HC:=Lib.hid hc;unfold qy at HNM ⊢;clear hb0 hk0 h hl hB hPn;generalize QV (yV zs) zs.length=z at*;generalize zW (yV zs) zs.length=n at*;generalize hm:zs.length=m at*;have HM:=Lib.hid hm;clear hm;go_enter Tryz.func19,Tryz.ntmps19
 go_wp2_with fail
 generalize w.alloc (.cells #[.bool false,.slice none 0 0] 25)=W0 at*;refine(HT.out W0 HB0.out).mono ?_;rintro e w1 ⟨rfl,hb1⟩;have HB1:=Lib.hid (HB0.out.trans (hb1.mono HB0.out.size));have hk1:=HK0.out.old hb1;have HK1:=Lib.hid hk1;have d0:=hk1.cell 0;have d1:=hk1.cell 1;have f0:=hk1.frozen 0;have f1:=hk1.frozen 1;have zl:=hk1.lt;clear hb1 hk1 HT HB0 HK0;by_cases h0:n=0
 ·have hz:z=0:=by rw[HLD.out,if_pos h0]
  have e1:((n:Int)==0)=true:=by simp[h0]
  subst hz;clear h0 HLD;go_wp2_with fail
  exact qg Tryz.results19 rfl rfl ((HK1.out.set_ 0 _).set_ 1 _) Tryz.underlying25 rfl Tryz.sizeInt ⟨none,0,by rw[show dig (0:Int).natAbs=[]from qt];rfl,by rw[show dig (0:Int).natAbs=[]from qt];exact Nat.le_refl _,by rw[show dig (0:Int).natAbs=[]from qt];exact .inl rfl,(HB1.out.setCell (p:=⟨w.heap.size,0,none⟩) (Nat.le_refl _) _).setCell (p:=⟨w.heap.size,1,none⟩) (Nat.le_refl _) _⟩
 ·obtain⟨k,rfl⟩:∃k,n=k+1:=⟨n-1,by omega⟩;have e1:(((k+1:Nat):Int)==0)=false:=by simp;omega
  obtain⟨x,hx⟩:∃x,zs[k]? =some x:=⟨_,List.getElem?_eq_getElem (by rw[HM.out];omega)⟩;have hz:z=x.z:=by rw[HLD.out,if_neg h0,Nat.add_sub_cancel,qeW hx]
  obtain⟨b,o,rfl,hbB,x0,x1,hxn⟩:=(HR.out w1 HB1.out).at_ hx;have hnm:=HNM.out x.ng x.A x.c x.ds w1 (Nat.le_trans HB.out HB1.out.size) hxn (by have:=HL.out x (List.mem_of_getElem? hx);omega);rw[show qb x.ng x.ds=z from hz.symm]at hnm;have HN:=Lib.hid hnm;have hkk:((k+1:Nat):Int)-1=(k:Int):=by omega
  have i3:(0:Int)≤(k:Int):=by omega
  have i4:(k:Int)<((k+1:Nat):Int):=by omega
  have i5:((k+1:Nat):Int)≤(c:Int):=by omega
  have i6:(k:Int)<(k:Int)+1:=by omega
  have i7:(k:Int)+1≤(c:Int):=by omega
  clear hx hz hxn hnm h0 HLD HNM;generalize x.ds.length=xl at*;generalize x.ng=xg at*;go_wp2_with fail
  refine HN.out.mono ?_;rintro e w2 ⟨A2,c2,rfl,l2,n2,hb2⟩;have hk2:=HK1.out.old hb2;have HB2:=Lib.hid (HB1.out.trans (hb2.mono HB1.out.size));have HK2:=Lib.hid hk2;have HN2:=Lib.hid n2;have HL2:=Lib.hid l2;clear d0 d1 f0 f1 zl;have d0:=hk2.cell 0;have d1:=hk2.cell 1;have f0:=hk2.frozen 0;have f1:=hk2.frozen 1;have zl:=hk2.lt;clear hk2 n2 l2 hb2 HN x0 x1;go_wp2_with fail
  exact qg Tryz.results19 rfl rfl ((HK2.out.set_ 0 _).set_ 1 _) Tryz.underlying25 rfl Tryz.sizeInt ⟨A2,c2,rfl,HL2.out,HN2.out.store2 HK2.out (by decide) _ _,(HB2.out.setCell (p:=⟨w.heap.size,0,none⟩) (Nat.le_refl _) _).setCell (p:=⟨w.heap.size,1,none⟩) (Nat.le_refl _) _⟩
theorem qhe(zs:List ZT)(hn:zs.length≤100000)(hl:∀x∈zs,x.ds.length≤100000)(P:Option Addr)(c B:Nat)(w:World)(hB:B≤w.heap.size)(h:qR w B P zs)(hc:zs.length≤c)(hPn:P=none→c=0):
 Calls Tryz.prog 20 #[.slice P zs.length c] w fun e w'=>e= .returned (.int .i64 ((zW (yV zs) zs.length:Int)-1))∧Below w.heap.size w w':=by
 have HT:=Lib.hid (YV zs hn hl P c B w hB h hc hPn);have hle:=qaH (yV zs) zs.length;clear h hl hB hPn hc;generalize zW (yV zs) zs.length=n at*;generalize zs.length=m at*;have hw:IntKind.i64.wrap ((n:Int)-1)=(n:Int)-1:=IntWalk.i64_in _ (by omega);go_enter Tryz.func20,Tryz.ntmps20
 go_wp2_with fail
 refine HT.out.mono ?_;rintro e w1 ⟨rfl,hb1⟩;have HB1:=Lib.hid hb1;clear hb1 HT;go_wp2_with fail
 go_ret
 exact⟨rfl,HB1.out⟩
theorem qhY(zs:List ZT)(hn:zs.length≤100000)(hl:∀x∈zs,x.ds.length≤100000)(P:Option Addr)(c B:Nat)(w:World)(hB:B≤w.heap.size)(h:qR w B P zs)(hc:zs.length≤c)(hPn:P=none→c=0):
 Calls Tryz.prog 8 #[.slice P zs.length c,.bool true] w fun e w'=>e= .returned (.int .i64 (seN (yV zs) zs.length))∧Below w.heap.size w w':=by
 have HLD:=Lib.hid (qgY zs hn hl P c B w hB h hc hPn);have HDG:=Lib.hid (fun(W:World)(hW:Below w.heap.size w W)=>qhe zs hn hl P c B W (Nat.le_trans hB hW.size) (h.below (hW.mono hB)) hc hPn);have hle:=qaH (yV zs) zs.length;have HE:=Lib.hid (qiK (yV zs) zs.length);have HLL:=Lib.hid (show(dig (QV (yV zs) zs.length).natAbs).length≤100000 by
  obtain⟨L,hL⟩:∃L,L=100000:=⟨_,rfl⟩;have hl:∀x∈zs,x.ds.length≤L:=by rw[hL];exact hl
  rw[←hL];clear hL;unfold QV
  split
  ·rw[show dig (0:Int).natAbs=[]from qt];exact Nat.zero_le _
  ·rename_i h0;obtain⟨x,hx⟩:∃x,zs[zW (yV zs) zs.length-1]? =some x:=⟨_,List.getElem?_eq_getElem (by omega)⟩;rw[qeW hx];have hm:=List.mem_of_getElem? hx;refine qC ?_;show(qb x.ng x.ds).natAbs<_;rw[qz];exact Nat.lt_of_lt_of_le (qT (h.nn x hm).dg) (Nat.pow_le_pow_right (by decide) (hl x hm)))
 unfold qy at HLD;have HSG:=Lib.hid (fun(g:Bool)(A:Option Addr)(c:Nat)(ds:List Nat)(W:World)(h:qh W W.heap.size A c ds)(hm:ds.length≤1000000)=>qhT g A c W.heap.size ds W (Nat.le_refl _) h hm);clear h hl hB hPn hc;generalize QV (yV zs) zs.length=z at*;generalize seN (yV zs) zs.length=r at*;generalize zW (yV zs) zs.length=n at*;generalize zs.length=m at*;go_enter Tryz.func8,Tryz.ntmps8
 go_wp2_with fail
 refine HLD.out.mono ?_;rintro e w1 ⟨A1,c1,rfl,l1,n1,hb1⟩;have hsg:=HSG.out (decide (z<0)) A1 c1 (dig z.natAbs) w1 (qV n1 l1) (by have:=HLL.out;omega);rw[q7]at hsg;have HS:=Lib.hid hsg;have HB1:=Lib.hid hb1;clear hsg l1 n1 hb1 HLD HSG;go_wp2_with fail
 refine HS.out.mono ?_;rintro e w2 ⟨rfl,hb2⟩;have HB2:=Lib.hid (HB1.out.trans (hb2.mono HB1.out.size));have HD:=Lib.hid (HDG.out w2 HB2.out);clear hb2 HS HDG HB1;have hsz:qB z=-1∨qB z=0∨qB z=1:=by unfold qB;split<;>(try split)<;>simp
 generalize qB z=s at*;have hw2:IntKind.i64.wrap (((n:Int)-1).tmod 2)=((n:Int)-1).tmod 2:=IntWalk.i64_in _ (by
  rcases Nat.eq_zero_or_pos n with h|h
  ·subst h;decide
  ·rw[Int.tmod_eq_emod_of_nonneg (by omega)];omega)
 have hws:IntKind.i64.wrap (-s)=-s:=by rcases hsz with rfl|rfl|rfl<;>rfl
 by_cases hp:(((n:Int)-1).tmod 2 != 0)=true
 ·have HR:=Lib.hid (show r=-s by rw[HE.out,if_pos hp]);clear HE hsz;go_wp2_with fail
  refine HD.out.mono ?_;rintro e w3 ⟨rfl,hb3⟩;have HB3:=Lib.hid (HB2.out.trans (hb3.mono HB2.out.size));clear hb3 HD HB2;go_wp2_with fail
  go_ret
  exact⟨by rw[HR.out];rfl,HB3.out⟩
 ·have HR:=Lib.hid (show r=s by rw[HE.out,if_neg hp]);have hp':(((n:Int)-1).tmod 2 != 0)=false:=by simpa using hp
  clear HE hsz hws hp;go_wp2_with fail
  refine HD.out.mono ?_;rintro e w3 ⟨rfl,hb3⟩;have HB3:=Lib.hid (HB2.out.trans (hb3.mono HB2.out.size));clear hb3 HD HB2;go_wp2_with fail
  go_ret
  exact⟨by rw[HR.out];rfl,HB3.out⟩
def Y9(t:Tm):List Tm→List Tm
 |[]=>[t]
 |s::r=>if Ze s.2 t.2 then t::s::r else if s.2=t.2 then(if s.1+t.1=0 then r else(s.1+t.1,s.2)::r)else s::Y9 t r
theorem qdv{t:Tm}:∀{l:List Tm} {x:Tm},x∈Y9 t l→x.2=t.2∨∃y∈l,y.2=x.2
 |[],x,h=>by
  simp only[Y9,List.mem_singleton]at h;exact .inl (by rw[h])
 |s::r,x,h=>by
  rw[Y9]at h
  split at h
  ·rcases List.mem_cons.1 h with rfl|h
   ·exact .inl rfl
   ·exact .inr ⟨x,h,rfl⟩
  ·split at h
   ·split at h
    ·exact .inr ⟨x,List.mem_cons_of_mem _ h,rfl⟩
    ·rcases List.mem_cons.1 h with rfl|h
     ·exact .inr ⟨s,List.mem_cons_self,rfl⟩
     ·exact .inr ⟨x,List.mem_cons_of_mem _ h,rfl⟩
   ·rcases List.mem_cons.1 h with rfl|h
    ·exact .inr ⟨x,List.mem_cons_self,rfl⟩
    ·rcases qdv h with h|⟨y,hy,e⟩
     ·exact .inl h
     ·exact .inr ⟨y,List.mem_cons_of_mem _ hy,e⟩
theorem qdn{t:Tm}(h0:t.1≠0)(hv:yH t.2=true):∀{l:List Tm},qI l→qI (Y9 t l)
 |[],_=>⟨by simp[Y9,h0],by simp[Y9,hv],by simp[Y9]⟩
 |s::r,h=>by
  have hp:=List.pairwise_cons.1 h.so;rw[Y9]
  split
  ·rename_i hlt;refine⟨fun x hx=>?_,fun x hx=>?_,List.pairwise_cons.2 ⟨fun x hx=>?_,h.so⟩⟩
   ·rcases List.mem_cons.1 hx with rfl|hx
    ·exact h0
    ·exact h.ne x hx
   ·rcases List.mem_cons.1 hx with rfl|hx
    ·exact hv
    ·exact h.vl x hx
   ·rcases List.mem_cons.1 hx with rfl|hx
    ·exact hlt
    ·exact Qv (hp.1 x hx) hlt
  ·split
   ·split
    ·exact h.tail
    ·rename_i hne;refine⟨fun x hx=>?_,fun x hx=>?_,List.pairwise_cons.2 ⟨fun x hx=>hp.1 x hx,hp.2⟩⟩
     ·rcases List.mem_cons.1 hx with rfl|hx
      ·exact hne
      ·exact h.tail.ne x hx
     ·rcases List.mem_cons.1 hx with rfl|hx
      ·exact h.vl s List.mem_cons_self
      ·exact h.tail.vl x hx
   ·rename_i hlt hne;have ih:=qdn h0 hv h.tail;refine⟨fun x hx=>?_,fun x hx=>?_,List.pairwise_cons.2 ⟨fun x hx=>?_,ih.so⟩⟩
    ·rcases List.mem_cons.1 hx with rfl|hx
     ·exact h.ne x List.mem_cons_self
     ·exact ih.ne x hx
    ·rcases List.mem_cons.1 hx with rfl|hx
     ·exact h.vl x List.mem_cons_self
     ·exact ih.vl x hx
    ·rcases qdv hx with e|⟨y,hy,e⟩
     ·rw[e];rcases Yr s.2 t.2 with k|k|k
      ·exact absurd k hlt
      ·exact absurd k hne
      ·exact k
     ·rw[←e];exact hp.1 y hy
theorem qdh(f:Mo→Int){t:Tm}:∀{l:List Tm},yr f (Y9 t l)=yr f l+yr f [t]
 |[]=>by simp[Y9,yr]
 |s::r=>by
  rw[Y9]
  split
  ·simp only[yr];omega
  ·split
   ·rename_i he
    split
    ·rename_i h0;have e:s.1*f s.2+t.1*f t.2=0:=by
      rw[he,←Int.add_mul,h0,Int.zero_mul]
     simp only[yr,he]at e ⊢
     split<;>omega
    ·have e:(s.1+t.1)*f s.2=s.1*f s.2+t.1*f s.2:=Int.add_mul ..;simp only[yr,he]at e ⊢
     split<;>omega
   ·simp only[yr];have ih:=qdh f (t:=t) (l:=r);simp only[yr]at ih;omega
theorem qcT:∀l:List Tm,∃P,qI P∧∀m,cf P m=cf l m
 |[]=>⟨[],qI.nil,fun _=>rfl⟩
 |t::l=>by
  obtain⟨P,hP,h⟩:=qcT l;by_cases h0:t.1≠0∧yH t.2=true
  ·refine⟨Y9 t P,qdn h0.1 h0.2 hP,fun m=>?_⟩;have h1:=h m;unfold cf at h1 ⊢;rw[qdh,h1];simp only[yr];omega
  ·refine⟨P,hP,fun m=>?_⟩;rw[h m];unfold cf;simp only[yr];by_cases hv:yH t.2=true
   ·have:t.1=0:=by
     apply Classical.byContradiction;intro e;exact h0 ⟨e,hv⟩
    rw[this,Int.zero_mul];simp
   ·rw[if_neg hv];omega
theorem jJ(t:RP):jg t (qq t):=by
 have h:∃T,jg t T:=by
  cases hc:qj t with
  |true=>exact⟨t,.inl ⟨hc,rfl⟩⟩
  |false=>
   obtain⟨P,hP,h⟩:=qcT (jY t);exact⟨qO 4 P,.inr ⟨hc,P,hP,h,rfl⟩⟩
 obtain⟨T,hT⟩:=h;rw[QH hT];exact hT
structure YT (Q:RP→Prop) (n:Nat) (M:MX):Prop where
 nm:Ji M=M
 gn:Yd Q M
 ln:(Zz M).length≤n
 al:∀p∈Zz M,Q p
section
variable {Q:RP→Prop}
theorem YT.more{n m:Nat}{M:MX}(h:YT Q n M)(hn:n≤m):YT Q m M:={h with ln:=Nat.le_trans h.ln hn}
theorem YT.tf(b:Bool):YT Q 1 (QN b):=by
 have hp:Zz (QN b)=[]:=by
  rw[qef]
  cases b with
  |true=>rw[if_neg (show¬(QN true).kd=2 by decide)];rfl
  |false=>rw[if_neg (show¬(QN false).kd=2 by decide)];rfl
 refine⟨?_,?_,by rw[hp];exact Nat.zero_le _,fun p h=>by rw[hp]at h;cases h⟩
 ·exact qkW b
 ·refine Yd.mk (fun h=>?_) (Nat.zero_le _) (by intro u hu;cases hu)
  cases b with
  |true=>exact absurd h (by decide)
  |false=>exact absurd h (by decide)
theorem YT.atom{r:Int}(h1:1≤r)(h6:r≤6){T:RP}(hT:qj T=true)(hQ:Q T):YT Q 1 (.mk 2 r T []):=by
 have hp:Zz (.mk 2 r T [])=[T]:=by simp[Zz]
 refine⟨?_,?_,by rw[hp];exact Nat.le_refl _,fun p h=>by rw[hp]at h;rw[List.mem_singleton.1 h];exact hQ⟩
 ·rw[nm2,qfl h1 h6,qw hT]
 ·exact Yd.mk (fun _=>hQ) (Nat.zero_le _) (by intro u hu;cases hu)
theorem qfS:∀{xs:List MX} {p:RP},p∈QG xs→∃x∈xs,p∈Zz x
 |[],p,h=>by simp[QG]at h
 |x::xs,p,h=>by
  rw[QG]at h;rcases List.mem_append.1 h with h|h
  ·exact⟨x,List.mem_cons_self,h⟩
  ·obtain⟨y,hy,hp⟩:=qfS h;exact⟨y,List.mem_cons_of_mem _ hy,hp⟩
theorem YT.node{k:Int}(hk:k=3∨k=4){xs:List MX}{n:Nat}(hl:xs.length≤1000)(h:∀x∈xs,∃n,YT Q n x)(hn:(QG xs).length≤n):YT Q n (.mk k 0 qa xs):=by
 have hp:Zz (.mk k 0 qa xs)=QG xs:=by
  rw[qef,if_neg (by show¬k=2;omega)];rfl
 have hm:xs.map Ji=xs:=by
  have:∀l:List MX,(∀x∈l,x∈xs)→l.map Ji=l:=by
   intro l
   induction l with
   |nil=>intro _;rfl
   |cons x l ih=>
    intro hx;obtain⟨n,hk⟩:=h x (hx x List.mem_cons_self);rw[List.map_cons,ih fun y hy=>hx y (List.mem_cons_of_mem _ hy),hk.nm]
  exact this xs fun _ h=>h
 refine⟨?_,?_,by rw[hp];exact hn,fun p hpp=>?_⟩
 ·rcases hk with rfl|rfl
  ·rw[nm3,hm]
  ·rw[nm4,hm]
 ·refine Yd.mk (fun h2=>?_) hl fun u hu=>?_
  ·have:k=2:=h2;omega
  ·obtain⟨n,hx⟩:=h u hu;exact hx.gn
 ·rw[hp]at hpp;obtain⟨x,hx,hpx⟩:=qfS hpp;obtain⟨n,hk⟩:=h x hx;exact hk.al p hpx
def SgQ(Q:RP→Prop)(c:RP):Prop:=∀T,SgT c T→Q T
theorem QR.mok{rel:Int}{t:RP}{M:MX}(h:QR rel t M)(hQ:SgQ Q t):YT Q 1 M∧YT Q 1 (Zv M):=by
 have hcase:(∃b,M=QN b)∨∃r T,1≤r∧r≤6∧SgT t T∧M= .mk 2 r T []:=by
  rcases h with⟨_,rfl⟩|⟨_,T,hT,rfl⟩
  ·exact .inl ⟨_,rfl⟩
  ·exact .inr ⟨_,T,(Qw _).1,(Qw _).2,hT,rfl⟩
 rcases hcase with⟨b,rfl⟩|⟨r,T,h1,h6,hT,rfl⟩
 ·refine⟨YT.tf b,?_⟩;unfold Zv
  cases b with
  |true=>rw[if_pos (show(QN true).kd=1 from rfl)];exact YT.tf false
  |false=>rw[if_neg (show¬(QN false).kd=1 by decide),if_neg (show¬(QN false).kd=2 by decide)];exact YT.tf true
 ·refine⟨YT.atom h1 h6 hT.can (hQ T hT),?_⟩;have e:Zv (.mk 2 r T [])= .mk 2 (Zb r) T []:=rfl;rw[e];have hp:1≤Zb r∧Zb r≤6:=by
   unfold Zb
   split<;>(try split)<;>(try split)<;>(try split)<;>(try split)<;>omega
  exact YT.atom hp.1 hp.2 hT.can (hQ T hT)
theorem yE.mok{r:Int}:∀{cs:List RP} {xs:List MX},yE r cs xs→(∀c∈cs,SgQ Q c)→∀x∈xs,YT Q 1 x∧YT Q 1 (Zv x)
 |[],xs,h,_,x,hx=>by
  have:xs=[]:=List.eq_nil_of_length_eq_zero h.len;rw[this]at hx
  cases hx
 |c::cs,xs,h,hc,x,hx=>by
  obtain⟨y,ys,rfl,⟨h1,h2⟩,h3⟩:=h;rcases List.mem_cons.1 hx with rfl|hx
  ·exact h1.mok (hc c List.mem_cons_self)
  ·exact yE.mok h3 (fun u hu=>hc u (List.mem_cons_of_mem _ hu)) x hx
theorem qcv:∀{xs:List MX},(∀x∈xs,(Zz x).length≤1)→(QG xs).length≤xs.length
 |[],_=>by simp[QG]
 |x::xs,h=>by
  rw[QG,List.length_append,List.length_cons];have h1:=h x List.mem_cons_self;have h2:=qcv fun y hy=>h y (List.mem_cons_of_mem _ hy);omega
theorem Qy.mok{r:Int}{cs:List RP}(hc:∀c∈cs,SgQ Q c)(hs:∀c∈cs,∀i,SgQ Q (sgc i c)):∀(i:Nat)(M:MX),i<cs.length→Qy r cs i M→YT Q (2*i+1) M
 |0,M,hi,h=>by
  have h':QR r (cs.getD 0 qa) M:=h;exact(h'.mok (hc _ (yt hi))).1.more (by omega)
 |i+1,M,hi,h=>by
  obtain⟨a,b,M',h1,h2,h3,_,_,rfl⟩:=h;have ih:=Qy.mok hc hs i M' (by omega) h1;have hq:=hs _ (yt (d:=qa) hi) (i+1);have ka:=(h2.mok hq).1;have kb:=(h3.mok hq).1;have e1:(QG [b,M']).length≤2*i+2:=by
   simp only[QG,List.length_append,List.length_nil];have:=kb.ln;have:=ih.ln;omega
  have k3:YT Q (2*i+2) (.mk 3 0 qa [b,M']):=YT.node (.inl rfl) (by simp) (by
   intro x hx;simp only[List.mem_cons,List.not_mem_nil,or_false]at hx;rcases hx with rfl|rfl
   ·exact⟨_,kb⟩
   ·exact⟨_,ih⟩) e1
  refine YT.node (.inr rfl) (by simp) (by
   intro x hx;simp only[List.mem_cons,List.not_mem_nil,or_false]at hx;rcases hx with rfl|rfl
   ·exact⟨_,ka⟩
   ·exact⟨_,k3⟩) ?_
  simp only[QG,List.length_append,List.length_nil];have:=ka.ln;have:=k3.ln;omega
theorem Zx.mok{r:Int}{cs:List RP}{M:MX}(h:Zx r cs M)(hl:cs.length≤100)(h0:SgQ Q qa)(hc:∀c∈cs,SgQ Q c)(hs:∀c∈cs,∀i,SgQ Q (sgc i c)):YT Q 1000 M:=by
 rcases h with⟨rfl,xs,hx,rfl⟩|⟨h4,ho,xs,hx,rfl⟩|⟨ho,rfl,ha⟩|⟨ho,hne,hb⟩
 ·have hxl:=hx.len;refine YT.node (.inr rfl) (by rw[List.length_map];omega) (fun y hy=>?_) ?_
  ·obtain⟨x,hx',rfl⟩:=List.mem_map.1 hy;exact⟨1,(hx.mok hc x hx').2⟩
  ·have:=qcv (xs:=xs.map Zv) fun y hy=>by
    obtain⟨x,hx',rfl⟩:=List.mem_map.1 hy;exact(hx.mok hc x hx').2.ln
   rw[List.length_map]at this;omega
 ·have hxl:=hx.len;refine YT.node (.inl rfl) (by omega) (fun y hy=>⟨1,(hx.mok hc y hy).1⟩) ?_;have:=qcv (xs:=xs) fun y hy=>(hx.mok hc y hy).1.ln;omega
 ·exact(ha.mok h0).1.more (by omega)
 ·have hl:0<cs.length:=List.length_pos_iff.2 hne;exact(Qy.mok hc hs (cs.length-1) M (by omega) hb).more (by omega)
end
def AtC(k:Nat)(q:Rat)(T:RP):RP:=if qW T=true then T else atT ((k:Int)+1) q.num (fun j=>(q.den:Int)^j) (zo ((k:Int)+1) T) T
def pwV(d:Int)(n:Nat):List Int:=(List.range (n+1)).map fun j=>d^j
theorem qjM(d:Int)(n:Nat):(pwV d n).length=n+1:=by simp[pwV]
theorem qh1(d:Int)(n:Nat){j:Nat}(h:j≤n):(pwV d n)[j]? =some (d^j):=by
 unfold pwV;rw[List.getElem?_map,List.getElem?_range (by omega)];rfl
theorem qd.set3R{V:World}{g g':Nat}{t:TypeId}{cs:Array Value}(h:qd V g t cs)(hne:g≠g')(a b c:Value):qd (((V.setCell ⟨g',0,none⟩ a).setCell ⟨g',1,none⟩ b).setCell ⟨g',2,none⟩ c) g t cs:=
 ((h.far (p:=⟨g',0,none⟩) hne a).far (p:=⟨g',1,none⟩) hne b).far (p:=⟨g',2,none⟩) hne c
theorem RV.set3R{V:World}{S:Nat→Prop}{g:Nat}{T:RP}{vs:List Value}(h:RV V S T vs)(hne:∀b,S b→b≠g)(a b c:Value):RV (((V.setCell ⟨g,0,none⟩ a).setCell ⟨g,1,none⟩ b).setCell ⟨g,2,none⟩ c) S T vs:=
 RV.keep (fun b' hb o=>by rw[World.cell?_setCell_far _ _ _ _ (Ne.symm (hne b' hb)),World.cell?_setCell_far _ _ _ _ (Ne.symm (hne b' hb)),World.cell?_setCell_far _ _ _ _ (Ne.symm (hne b' hb))]) _ _ h
theorem qkj(dg:Nat)(hdg:dg≤500)(k:Nat)(hk:k<4)(t:RP)(hf:zU dg t)(X d e N:Nat)(hX:X≤10000)(hlw:qM d N (qq t))(hN:N≤X)(hg1:zo ((k:Int)+1) (qq t)≤1000)(hdX:d+(e+2)*zo ((k:Int)+1) (qq t)+1≤X)(he:0<e)(heX:e≤X)(x:QT)(hx1:x.ds.length≤e)(hx2:x.es.length≤e)
 (A:Option Addr)(c:Nat)(K:Option Addr)(kc B:Nat)(w:World)(hB:B≤w.heap.size)(h:RV w (· <B) t (qc t A c K kc))(hxn:qh w B x.A x.c x.ds)(hxd:qh w B x.D x.cd x.es):
 Calls Tryz.prog 44 #[qn t A c K kc,.int .i64 ((k:Int)+1),x.v] w (q8 (AtC k x.q (qq t)) w):=by
 have HX:=Lib.hid (jF w 28 30 28 #[.int .i64 t.lv,.bool t.ng,.slice A t.ds.length c,.slice K t.ks.length kc] #[.bool x.ng,.slice x.A x.ds.length x.c,.slice x.D x.es.length x.cd] #[.int .i64 0,.bool false,.slice none 0 0,.slice none 0 0]);have HCA:=Lib.hid (fun(W:World)(hW:Below w.heap.size w W)=>JQ dg hdg t hf.dep hf.few hf.cnt A c K kc B W (Nat.le_trans hB hW.size) (h.below (hW.mono hB)));have HRN:=Lib.hid (fun(W:World)(hW:Below w.heap.size w W)=>qdD x.ng x.A x.c x.ds x.D x.cd x.es B W (Nat.le_trans hB hW.size) (hxn.below (hW.mono hB)) (hxd.below (hW.mono hB)) (by omega) (by omega));have hrl:RL x.q e:=qdl he hxn.dg hxd.dg hx1 hx2;have HQ:=Lib.hid (show mkRat (qb x.ng x.ds) (val x.es)=x.q from rfl);have hcan:=(jJ t).can.1;have HDT:=Lib.hid ((jJ t).dig (RV.digT _ _ h));have HLV:=Lib.hid (fun(W:World)=>qae ((k:Int)+1) W);have HTR:=Lib.hid (fun(T:RP)(h:jg t T)=>QH h);have HEQ:=Lib.hid (show AtC k x.q (qq t)=if qW (qq t)=true then qq t else atT ((k:Int)+1) x.q.num (fun j=>(x.q.den:Int)^j) (zo ((k:Int)+1) (qq t)) (qq t)from rfl);have hsm:yf X (qq t):=hlw.sm (by omega) hN;have HB:=Lib.hid hB;generalize AtC k x.q (qq t)=R at*;generalize hU:qq t=U at*;generalize x.q=q at*;have hr1:(dig q.num.natAbs).length≤e:=hrl.n;have hr2:(dig q.den).length≤e:=hrl.d;have hr3:q.num.natAbs<4294967296^e:=hrl.1;have hr4:q.den<4294967296^e:=hrl.2;clear hrl;have HSM:Hid (yf 100000 U):=Lib.hid (hlw.sm (by omega) (by omega));have HCP:=Lib.hid (fun(T:RP)(hc:qj T=true)(hs:yf 100000 T)(A:Option Addr)(c:Nat)(K:Option Addr)(kc:Nat)(W:World)(h:RV W (· <W.heap.size) T (qc T A c K kc))=>qbs T hc hs A c K kc W h);have HDG:=Lib.hid (fun(A:Option Addr)(c:Nat)(K:Option Addr)(kc:Nat)(W:World)(h:RV W (· <W.heap.size) U (qc U A c K kc))=>qc9 X (by omega) ((k:Int)+1) (qv U) U (Nat.le_refl _) hcan hsm A c K kc W.heap.size W (Nat.le_refl _) h (by omega) (by omega));unfold qfg at HCA;unfold qN at HRN;unfold q8 qn at HCP ⊢;unfold qn at HCA HDG;have e0:(decide (1≤(k:Int)+1)&&decide ((k:Int)+1≤4))=true:=by simp;omega
 rw[e0]at HLV;clear h hf hdg hB hxn hxd hx1 hx2 e0;rw[HQ.out]at HRN;clear HQ;go_enter Tryz.func44,Tryz.ntmps44
 go_upto_region 1 with(fail)
 obtain⟨hb0,k0,k1,k2,hs⟩:=HX.out;clear HX;generalize ((w.alloc (.cells #[.int .i64 t.lv,.bool t.ng,.slice A t.ds.length c,.slice K t.ks.length kc] 28)).alloc (.cells #[.bool x.ng,.slice x.A x.ds.length x.c,.slice x.D x.es.length x.cd] 30)).alloc (.cells #[.int .i64 0,.bool false,.slice none 0 0,.slice none 0 0] 28)=W at*;have HC1:=Lib.hid (HCA.out W hb0);have HB0:=Lib.hid hb0;have HK0:=Lib.hid k0;have HK1:=Lib.hid k1;have HK2:=Lib.hid k2;have HSW:=Lib.hid (show w.heap.size+1+1<W.heap.size from k2.lt);have y0:=k0.cell 0;have y1:=k0.cell 1;have y2:=k0.cell 2;have y3:=k0.cell 3;clear HCA hb0 k0 k1 k2 hs;go_wp2_with fail
 refine HC1.out.mono ?_;rintro e w1 ⟨T,A1,c1,K1,kc1,hct,rfl,hrv,hsm1,hb1⟩;have hTU:T=U:=(HTR.out T hct).symm;subst hTU;have kk:=HK0.out.old hb1;have d0:=kk.cell 0;have d1:=kk.cell 1;have d2:=kk.cell 2;have d3:=kk.cell 3;have f0:=kk.frozen 0;have f1:=kk.frozen 1;have f2:=kk.frozen 2;have f3:=kk.frozen 3;have z0:=kk.lt;have hsw:=HSW.out;have HOV:=Lib.hid (YJ kk rfl hrv HB.out (by omega) (HB0.out.trans (hb1.mono HB0.out.size)));have HR5:=Lib.hid ((HK1.out.old hb1).set4_far (g:=w.heap.size) (by omega) 0 (.int .i64 T.lv) (.bool T.ng) (.slice A1 T.ds.length c1) (.slice K1 T.ks.length kc1));have HR6:=Lib.hid ((HK2.out.old hb1).set4_far (g:=w.heap.size) (by omega) 0 (.int .i64 T.lv) (.bool T.ng) (.slice A1 T.ds.length c1) (.slice K1 T.ks.length kc1));clear kk hrv hb1 hct hsm1 HC1 HK0 HK1 HK2 HB0 y0 y1 y2 y3 hU HTR;go_upto_region 2 with(fail)
 generalize hW2:(((w1.setCell ⟨w.heap.size,0,none⟩ (.int .i64 T.lv)).setCell ⟨w.heap.size,1,none⟩ (.bool T.ng)).setCell ⟨w.heap.size,2,none⟩ (.slice A1 T.ds.length c1)).setCell ⟨w.heap.size,3,none⟩ (.slice K1 T.ks.length kc1)=W2 at*;have HW2:=Lib.hid (show jl w1 w.heap.size 0 (.int .i64 T.lv) (.bool T.ng) (.slice A1 T.ds.length c1) (.slice K1 T.ks.length kc1)=W2 from hW2);rw[HW2.out]at HOV HR5 HR6;clear d0 d1 d2 d3 f0 f1 f2 f3 z0 hW2 HW2;obtain⟨k2,r2,b2⟩:=HOV.out;have hBW:B≤W2.heap.size:=Nat.le_trans HB.out b2.size;have HNE:=Lib.hid (fun(b:Nat)(hb:OkC B W.heap.size W2 b)=>show b<W2.heap.size∧b≠w.heap.size+1∧b≠w.heap.size+2 from by
  have h1:=OkC.lt hBW b hb;have h2:=HB.out;rcases hb with hb|⟨cs,hb⟩|⟨hb,_⟩
  ·omega
  ·exact⟨h1,jr hb HR5.out (by decide),jr hb HR6.out (by decide)⟩
  ·omega)
 have HRV:Hid (RV W2 (fun b=>b<W2.heap.size∧b≠w.heap.size+1∧b≠w.heap.size+2) T (qc T A1 c1 K1 kc1)):=Lib.hid (RV.mono HNE.out _ _ r2);have HK2:=Lib.hid k2;have HB2:=Lib.hid b2;have c0:=k2.cell 0;have c1':=k2.cell 1;have c2:=k2.cell 2;have c3:=k2.cell 3;clear HOV k2 r2 b2 hBW HNE;go_wp2_with fail
 refine(HLV.out W2).mono ?_;rintro e w3 ⟨rfl,rfl⟩;have HZ:=Lib.hid (Jz T A1 c1 K1 kc1 W2);unfold qn at HZ
 cases hz:qW T with
 |true=>
  have hRT:R=T:=by rw[HEQ.out,if_pos hz]
  subst hRT;rw[hz]at HZ;clear hz HEQ HDG HRN hr1 hr2 hr3 hr4 hdX;go_wp2_with fail
  refine HZ.out.mono ?_;rintro e w3 ⟨rfl,hb3⟩;have hk3:=HK2.out.old hb3;have HB3:=Lib.hid (HB2.out.trans (hb3.mono HB2.out.size));have HR3:=Lib.hid (HR6.out.old hb3);have HC3:=Lib.hid (HCP.out R hcan HSM.out A1 c1 K1 kc1 w3 (RV.mono (fun b hb=>Nat.lt_of_lt_of_le hb.1 hb3.size) _ _ (RV.keep (fun b hb o=>hb3.cell (p:=⟨b,o,none⟩) hb.1) _ _ HRV.out)));clear c0 c1' c2 c3;have c0:=hk3.cell 0;have c1':=hk3.cell 1;have c2:=hk3.cell 2;have c3:=hk3.cell 3;clear hk3 hb3 HZ HK2 HB2 HR6 HR5;go_wp2_with fail
  refine HC3.out.mono ?_;rintro e w4 ⟨A4,c4,K4,kc4,rfl,hr4,hb4⟩;have hk6:=HR3.out.old hb4;have hl3:=HR3.out.lt;have HFN:=Lib.hid (jL (w:=w) hk6 rfl hr4 hl3 (by omega) (HB3.out.trans (hb4.mono HB3.out.size)));have d0:=hk6.cell 0;have d1:=hk6.cell 1;have d2:=hk6.cell 2;have d3:=hk6.cell 3;have f0:=hk6.frozen 0;have f1:=hk6.frozen 1;have f2:=hk6.frozen 2;have f3:=hk6.frozen 3;have zl:=hk6.lt;clear hk6 hl3 hr4 hb4 HC3 HR3;go_wp2_with fail
  exact qg Tryz.results44 rfl rfl HFN.out.1 Tryz.underlying28 rfl Tryz.sizeRec HFN.out.2
 |false=>
  have HR0:=Lib.hid (show R=atT ((k:Int)+1) q.num (fun j=>(q.den:Int)^j) (zo ((k:Int)+1) T) T by rw[HEQ.out,if_neg (by rw[hz];decide)]);rw[hz]at HZ;clear hz HEQ;go_wp2_with fail
  refine HZ.out.mono ?_;rintro e w3 ⟨rfl,hb3⟩;have hbw3:=HB2.out.trans (hb3.mono HB2.out.size);have HN3:=Lib.hid (HRN.out w3 hbw3);have k5:=HR5.out.old hb3;have y0:=k5.cell 0;have y1:=k5.cell 1;have y2:=k5.cell 2;have HB3:=Lib.hid hbw3;have HKB:=Lib.hid (And.intro (HK2.out.old hb3) (And.intro k5 (HR6.out.old hb3)));have HRV3:Hid (RV w3 (fun b=>b<w3.heap.size∧b≠w.heap.size+1∧b≠w.heap.size+2) T (qc T A1 c1 K1 kc1)):=Lib.hid (RV.mono (fun b hb=>⟨Nat.lt_of_lt_of_le hb.1 hb3.size,hb.2⟩) _ _ (RV.keep (fun b hb o=>hb3.cell (p:=⟨b,o,none⟩) hb.1) _ _ HRV.out));clear k5 hb3 HZ HK2 HB2 HR6 HR5 HRV HRN hbw3 c0 c1' c2 c3;go_wp2_with fail
  refine HN3.out.mono ?_;rintro e w4 ⟨A3,c3,D3,d3,rfl,l1,l2,n1,n2,hb4⟩;have k5:=HKB.out.2.1.old hb4;have x0:=k5.cell 0;have x1:=k5.cell 1;have x2:=k5.cell 2;have f0:=k5.frozen 0;have f1:=k5.frozen 1;have f2:=k5.frozen 2;have zl:=k5.lt;have HS5:=Lib.hid ((k5.set_ 0 (.bool (decide (q.num<0)))).set_ 1 (.slice A3 (dig q.num.natAbs).length c3) |>.set_ 2 (.slice D3 (dig q.den).length d3));have HS3:=Lib.hid ((HKB.out.1.old hb4).set3R (g':=w.heap.size+1) (by omega) (.bool (decide (q.num<0))) (.slice A3 (dig q.num.natAbs).length c3) (.slice D3 (dig q.den).length d3));have HS6:=Lib.hid ((HKB.out.2.2.old hb4).set3R (g':=w.heap.size+1) (by omega) (.bool (decide (q.num<0))) (.slice A3 (dig q.num.natAbs).length c3) (.slice D3 (dig q.den).length d3));have HSN:=Lib.hid (qk.keepTwo k5 (by decide) (.bool (decide (q.num<0))) (.slice A3 (dig q.num.natAbs).length c3) (.slice D3 (dig q.den).length d3) n1);have HSD:=Lib.hid (qk.keepTwo k5 (by decide) (.bool (decide (q.num<0))) (.slice A3 (dig q.num.natAbs).length c3) (.slice D3 (dig q.den).length d3) n2);have HSV:=Lib.hid (RV.set3R (g:=w.heap.size+1) (RV.keep (w':=w4) (fun b hb o=>hb4.cell (p:=⟨b,o,none⟩) hb.1) _ _ HRV3.out) (fun b hb=>hb.2.1) (.bool (decide (q.num<0))) (.slice A3 (dig q.num.natAbs).length c3) (.slice D3 (dig q.den).length d3));have hbl:=HB3.out.trans (hb4.mono HB3.out.size);have HBL:=Lib.hid (((hbl.setCell (p:=⟨w.heap.size+1,0,none⟩) (Nat.le_succ _) (.bool (decide (q.num<0)))).setCell (p:=⟨w.heap.size+1,1,none⟩) (Nat.le_succ _) (.slice A3 (dig q.num.natAbs).length c3)).setCell (p:=⟨w.heap.size+1,2,none⟩) (Nat.le_succ _) (.slice D3 (dig q.den).length d3));have HL1:=Lib.hid l1;have HL2:=Lib.hid l2;have HSZ:=Lib.hid (show w3.heap.size≤w4.heap.size from hb4.size);have HSZ4:=Lib.hid (show w3.heap.size≤(((w4.setCell ⟨w.heap.size+1,0,none⟩ (.bool (decide (q.num<0)))).setCell ⟨w.heap.size+1,1,none⟩ (.slice A3 (dig q.num.natAbs).length c3)).setCell ⟨w.heap.size+1,2,none⟩ (.slice D3 (dig q.den).length d3)).heap.size from by rw[World.size_setCell,World.size_setCell,World.size_setCell];exact hb4.size);clear k5 n1 n2 hb4 hbl l1 l2 HN3 HKB HRV3 HB3 y0 y1 y2;go_upto_region 5 with(fail)
  generalize hW5:((w4.setCell ⟨w.heap.size+1,0,none⟩ (.bool (decide (q.num<0)))).setCell ⟨w.heap.size+1,1,none⟩ (.slice A3 (dig q.num.natAbs).length c3)).setCell ⟨w.heap.size+1,2,none⟩ (.slice D3 (dig q.den).length d3)=W5 at*;clear x0 x1 x2 f0 f1 f2 zl hW5;have hs5:w3.heap.size≤W5.heap.size:=HSZ4.out;have x2:=HS5.out.cell 2;have HFR:=Lib.hid (YH q.den d3 D3 W5 HL2.out (by omega) HSD.out);clear HSZ HSZ4;generalize hnd:q.den=nd at*;generalize hnm:q.num=nm at*;go_wp2_with fail
  refine HFR.out.mono ?_;rintro e w6 ⟨A7,c7,rfl,l7,n7,hb6⟩;have hal:=(Below.refl w6.heap.size w6).alloc (Nat.le_refl _) (.cells #[.bool false,.slice A7 (dig nd).length c7] 25);have hn7:=qd.new w6 25 #[.bool false,.slice A7 (dig nd).length c7];have hbb:=hb6.trans (hal.mono hb6.size);have h56:=hb6.size;have HP:=Lib.hid (fun(V:World)(hV:Below (w6.alloc (.cells #[.bool false,.slice A7 (dig nd).length c7] 25)).heap.size (w6.alloc (.cells #[.bool false,.slice A7 (dig nd).length c7] 25)) V)=>
   have hV5:=hbb.trans (hV.mono hbb.size)
   And.intro (HS3.out.old hV5) (And.intro (HS5.out.old hV5) (And.intro (HS6.out.old hV5) (And.intro (hn7.old hV) (And.intro (HSN.out.old hV5) (And.intro ((n7.old hal).old hV) (RV.keep (w':=V) (fun b hb o=>hV5.cell (p:=⟨b,o,none⟩) (Nat.lt_of_lt_of_le hb.1 hs5)) _ _ HSV.out)))))))
  have HB7:=Lib.hid (HBL.out.trans (hbb.mono HBL.out.size));have HL7:=Lib.hid l7;have m0:=(HS3.out.old hbb).cell 0;have m1:=(HS3.out.old hbb).cell 1;have m2:=(HS3.out.old hbb).cell 2;have m3:=(HS3.out.old hbb).cell 3;have HRVV:=Lib.hid (fun(V:World)(hV:Below (w6.alloc (.cells #[.bool false,.slice A7 (dig nd).length c7] 25)).heap.size (w6.alloc (.cells #[.bool false,.slice A7 (dig nd).length c7] 25)) V)=>show RV V (· <V.heap.size) T (qc T A1 c1 K1 kc1)from RV.mono (fun b hb=>by have:=hV.size;have:=hbb.size;omega) _ _ (HP.out V hV).2.2.2.2.2.2);clear hal hn7 n7 l7 hb6 HFR x2 HS3 HS5 HS6 HSN HSD HSV HBL;go_upto_region 6 with(fail)
  generalize hg7:w6.heap.size=g7 at*;have HG7':=Lib.hid hg7;generalize w6.alloc (.cells #[.bool false,.slice A7 (dig nd).length c7] 25)=W7 at*;clear hbb h56 hs5;have HD:=Lib.hid (HDG.out A1 c1 K1 kc1 W7 (HRVV.out W7 (Below.refl _ _)));have hmk:=fun(W:World)=>Tryz.make_int (zo ((k:Int)+1) T+1) (by omega) W;have HAT:=Lib.hid (fun(zs:List ZT)(hzl:zs.length=zo ((k:Int)+1) T+1)(hz:∀j x,zs[j]? =some x→x.z=(nd:Int)^j∧x.ds.length≤X)(V:World)(hV:Below W7.heap.size W7 V)(P:Option Addr)(hP:qR V V.heap.size P zs)=>
   qe6 X d e N (zo ((k:Int)+1) T) hX hdX hN hg1 ((k:Int)+1) (by omega) (fun j=>(nd:Int)^j) (fun j=>by
    rw[Int.natAbs_pow,Int.natAbs_natCast,Nat.pow_succ,Nat.pow_mul];have h1:=Nat.pow_le_pow_left (Nat.le_of_lt hr4) j;have h2:0<(4294967296^e)^j:=Nat.pow_pos (Nat.pow_pos (by decide));generalize (4294967296^e)^j=y at*;omega) (decide (nm<0)) (dig nm.natAbs) (by rw[q7];exact hr3) (by omega) zs hzl hz (qv T) T (Nat.le_refl _) hcan hlw (Nat.le_refl _) A1 c1 K1 kc1 A3 c3 P zs.length V.heap.size V (Nat.le_refl _) (HRVV.out V hV) (qV (HP.out V hV).2.2.2.2.1 HL1.out) hP (Nat.le_refl _))
  have HRC:=Lib.hid (show qj R=true∧yf 100000 R by
   rw[HR0.out];refine⟨(qcB (by omega) T hcan).1,(qjg (d:=d) (e:=e) (N:=N) (n:=zo ((k:Int)+1) T) hr3 (fun j=>by
    rw[Int.natAbs_pow,Int.natAbs_natCast,Nat.pow_succ,Nat.pow_mul];have h1:=Nat.pow_le_pow_left (Nat.le_of_lt hr4) j;have h2:0<(4294967296^e)^j:=Nat.pow_pos (Nat.pow_pos (by decide));generalize (4294967296^e)^j=y at*;omega) T (Nat.le_refl _) hlw HDT.out).sm (by omega) (by omega)⟩)
  have HPL:=Lib.hid (fun(j:Nat)(hj:j≤zo ((k:Int)+1) T)=>show(dig ((nd:Int)^j).natAbs).length≤X from by
   have h1:(dig ((nd:Int)^j).natAbs).length≤e*j+1:=qC (by
    rw[Int.natAbs_pow,Int.natAbs_natCast,Nat.pow_succ,Nat.pow_mul];have h1:=Nat.pow_le_pow_left (Nat.le_of_lt hr4) j;have h2:0<(4294967296^e)^j:=Nat.pow_pos (Nat.pow_pos (by decide));generalize (4294967296^e)^j=y at*;omega)
   have h2:=Nat.mul_le_mul (show e≤e+2 by omega) hj;omega)
  rw[q7,←HR0.out]at HAT;clear hr1 hr3 hdX hlw hcan hsm HSM HDT HR0 hnm hnd he hN;generalize hn:zo ((k:Int)+1) T=n at*;clear hn;obtain⟨m,hm⟩:∃m,m=n+1:=⟨_,rfl⟩;rw[←hm]at hmk HAT;have HM:=Lib.hid hm;have hnm1:(n:Int)+1=(m:Int):=by omega
  have hwm:IntKind.i64.wrap (m:Int)=(m:Int):=IntWalk.i64_in _ (by omega);have hm1:1≤m:=by omega
  have hmX:m≤1001:=by omega
  clear hm;unfold q8 qn at HAT;go_wp2_with fail
  refine HD.out.mono ?_;rintro e w8 ⟨rfl,hb8⟩;have hal:=(Below.refl w8.heap.size w8).alloc (Nat.le_refl _) (.cells (madeCells #[.bool false,.slice none 0 0] (m*2)) 25);have HC0:=Lib.hid (yB.start (w:=w8) (W:=w8) (n:=m) (Below.refl _ _));have HB8:=Lib.hid hb8;have hmk8:=hmk w8;have HG7:=Lib.hid (show g7<w8.heap.size from Nat.lt_of_lt_of_le (HP.out W7 (Below.refl _ _)).2.2.2.1.lt HB8.out.size);have HP8:=Lib.hid (fun(V:World)(hV:Below w8.heap.size w8 V)=>HP.out V (HB8.out.trans (hV.mono HB8.out.size)));clear hb8 HD HDG;go_upto_region 7 with(fail)
  clear hmk hmk8 m0 m1 m2 m3;generalize hg:w8.heap.size=g at*;have HG8:=Lib.hid hg;generalize w8.alloc (.cells (madeCells #[.bool false,.slice none 0 0] (m*2)) 25)=W9 at*;obtain⟨z1,hz1⟩:∃z:Int,z=1:=⟨_,rfl⟩;have HI1:Hid (Calls Tryz.prog 35 #[.int .i64 1] W9 (qy z1 W9)):=Lib.hid (by rw[hz1];exact JP 1 (by omega) (by omega) W9);unfold qy at HI1;go_wp2_with fail
  refine HI1.out.mono ?_;rintro e w10 ⟨A10,c10,rfl,l10,n10,hb10⟩;obtain⟨v0,v1,d0,d1,f0,f1,zl⟩:=HC0.out.cell hb10 (j:=0) (by rw[List.length_replicate];omega);have HCI:=Lib.hid (HC0.out.put (by rw[HG8.out];exact Nat.le_refl _) (j:=0) (by rw[List.length_replicate];omega) hb10 l10 n10);have hz0:=qb8 (vs:=pwV (nd:Int) n) (n:=m) (j:=0) (z:=z1) (by omega) (by rw[qh1 _ _ (Nat.zero_le _),hz1];rfl);rw[List.take_zero,List.nil_append,Nat.sub_zero,Nat.zero_add]at hz0;rw[hz0]at HCI;have HVS:=Lib.hid (fun(j:Nat)(hj:j≤n)=>qh1 (nd:Int) n hj);have HVL:=Lib.hid (show(pwV (nd:Int) n).length=m by rw[qjM,HM.out]);generalize pwV (nd:Int) n=vs at*;clear hz0 n10 l10 hb10 HI1 HC0 hal hz1;go_wp2_with fail
  clear d0 d1 f0 f1 zl;rw[Nat.zero_mul,Nat.zero_add]at HCI;generalize (w10.setCell ⟨g,0,none⟩ (.bool (decide (z1<0)))).setCell ⟨g,1,none⟩ (.slice A10 (dig z1.natAbs).length c10)=W11 at*;go_loopg [9] (m-1) (fun gn iv wr=>∃(i:Nat)(cur:List ZT),1≤i∧i≤m∧gn=m-i∧iv= .int .i64 i∧yB w8 wr g (vs.take i++List.replicate (m-i) 0) cur)
  case atStart=>exact⟨1,_,Nat.le_refl _,hm1,rfl,rfl,HCI.out⟩
  case round=>
   clear HCI;obtain⟨i,cur,hi1,hi,hgi,rfl,hci⟩:=hrel;have HG:=Lib.hid hgi;have HCI:=Lib.hid hci;have hbw:=hci.bel;have HPW:=Lib.hid (HP8.out wr (by rw[←HG8.out];exact hbw));clear hgi;by_cases hlt:i<m
   ·obtain⟨j,hij⟩:∃j,i=j+1:=⟨i-1,by omega⟩;have HIJ:=Lib.hid hij;have hvl:(vs.take i++List.replicate (m-i) (0:Int)).length=m:=by
     have:=HVL.out;simp;omega
    obtain⟨y,hy,hyz,hym⟩:=hci.at_ (j:=j) (by rw[hvl];omega);have hyd:y.z=(nd:Int)^j:=by
     have h1:=HVS.out j (by have:=HM.out;omega);rw[List.getElem?_append_left (by rw[List.length_take,HVL.out];omega),List.getElem?_take,if_pos (by omega),h1]at hyz
     injection hyz with e
     exact e.symm
    have hyn:=hci.nat hym;have hycn:=hci.cn y hym;have hyl:y.ds.length≤X:=by rw[hycn,hyd];exact HPL.out j (by have:=HM.out;omega)
    have hc0:(Zw cur)[j*2]? =some (Value.bool y.ng):=qco cur j 0 y hy (by omega);have hc1:(Zw cur)[j*2+1]? =some (Value.slice y.A y.ds.length y.c):=qco cur j 1 y hy (by omega);have HMU:=Lib.hid (fun(V:World)(hV:Below wr.heap.size wr V)=>show Calls Tryz.prog 81 #[.agg #[.bool y.ng,.slice y.A y.ds.length y.c],.agg #[.bool false,.slice A7 (dig nd).length c7]] V (qy ((nd:Int)^i) V)from by
     have:=Qj y.ng false y.A A7 y.c c7 V.heap.size y.ds (dig nd) V (Nat.le_refl _) ((hci.old hV).nat hym) (qV ((HPW.out.2.2.2.2.2.1).old hV) HL7.out) (by omega);rw[show qb y.ng y.ds=(nd:Int)^j from hyd,show qb false (dig nd)=(nd:Int)by unfold qb;rw[qp];rfl,←Int.pow_succ,show j.succ=i from hij.symm]at this;exact this)
    unfold qy at HMU;have HPT:=Lib.hid (fun(V:World)(hV:Below wr.heap.size wr V)(A:Option Addr)(c:Nat)(hl:(dig ((nd:Int)^i).natAbs).length≤c)(hn:qk V A (dig ((nd:Int)^i).natAbs))=>HCI.out.put (by rw[HG8.out];exact Nat.le_refl _) (j:=i) (by rw[hvl];exact hlt) hV hl hn);rw[qb8 hlt (HVS.out i (by have:=HM.out;omega))]at HPT;have HCL:=Lib.hid (fun(V:World)(hV:Below wr.heap.size wr V)=>HCI.out.cell hV (j:=i) (by rw[hvl];exact hlt));have hkb:=hci.blk;have hk7:=HPW.out.2.2.2.1;have j1:(0:Int)≤(j:Int):=by omega
    have j2:(j:Int)<(m:Int):=by omega
    have j3:(i:Int)<(m:Int):=by omega
    have j4:(0:Int)≤(i:Int):=by omega
    have jk:(i:Int)-1=(j:Int):=by omega
    have hwj:IntKind.i64.wrap (j:Int)=(j:Int):=IntWalk.i64_in _ (by omega);have hg7:g7≠g:=by
     have h1:=hk7.lt;have h2:g7<g:=HG7.out;omega
    have hi2:i*2≠j*2:=by omega
    have hi3:i*2≠j*2+1:=by omega
    clear hy hyz hym hyd hyn hycn hyl hvl hci hbw hij;generalize hzz:(nd:Int)^i=z at*;clear hzz;generalize y.ds.length=yl at*;generalize (dig nd).length=dl at*;have KF:=Lib.hid (fun(V:World)(hV:Below wr.heap.size wr V)=>(⟨((hkb.old hV).cell (j*2)).trans (by simpa using hc0),((hkb.old hV).cell (j*2+1)).trans (by simpa using hc1),(hk7.old hV).cell 0,(hk7.old hV).cell 1⟩:
     V.cell? ⟨g,j*2,none⟩=some (.bool y.ng)∧V.cell? ⟨g,j*2+1,none⟩=some (.slice y.A yl y.c)∧V.cell? ⟨g7,0,none⟩=some (.bool false)∧V.cell? ⟨g7,1,none⟩=some (.slice A7 dl c7)))
    have KS:=Lib.hid (fun(V:World)(hV:Below wr.heap.size wr V)(a b:Value)=>(⟨by
     rw[(((hkb.old hV).set_ (i*2) a).set_ (i*2+1) b).cell (j*2),Array.getElem?_setIfInBounds_ne (by have:=HIJ.out;omega),Array.getElem?_setIfInBounds_ne (by have:=HIJ.out;omega)];simpa using hc0,by
     rw[(((hkb.old hV).set_ (i*2) a).set_ (i*2+1) b).cell (j*2+1),Array.getElem?_setIfInBounds_ne (by have:=HIJ.out;omega),Array.getElem?_setIfInBounds_ne (by have:=HIJ.out;omega)];simpa using hc1,(((hk7.old hV).far (p:=⟨g,i*2,none⟩) hg7 a).far (p:=⟨g,i*2+1,none⟩) hg7 b).cell 0,(((hk7.old hV).far (p:=⟨g,i*2,none⟩) hg7 a).far (p:=⟨g,i*2+1,none⟩) hg7 b).cell 1⟩:
     ((V.setCell ⟨g,i*2,none⟩ a).setCell ⟨g,i*2+1,none⟩ b).cell? ⟨g,j*2,none⟩=some (.bool y.ng)∧((V.setCell ⟨g,i*2,none⟩ a).setCell ⟨g,i*2+1,none⟩ b).cell? ⟨g,j*2+1,none⟩=some (.slice y.A yl y.c)∧((V.setCell ⟨g,i*2,none⟩ a).setCell ⟨g,i*2+1,none⟩ b).cell? ⟨g7,0,none⟩=some (.bool false)∧((V.setCell ⟨g,i*2,none⟩ a).setCell ⟨g,i*2+1,none⟩ b).cell? ⟨g7,1,none⟩=some (.slice A7 dl c7)))
    have hb:Below wr.heap.size wr wr.drew:=(qm.drew _).below _;have hbz:Below wr.heap.size wr wr:=Below.refl _ _;clear hkb hk7 hc0 hc1;go_wp2_with fail
    go_region_held3 (fun w'=>w'.cell? ⟨g,j*2,none⟩=some (.bool y.ng)∧w'.cell? ⟨g,j*2+1,none⟩=some (.slice y.A yl y.c)∧w'.cell? ⟨g7,0,none⟩=some (.bool false)∧w'.cell? ⟨g7,1,none⟩=some (.slice A7 dl c7))
     (first|(with_reducible exact KF.out _ hb)|(with_reducible exact KF.out _ hbz)|(with_reducible exact KS.out _ hb _ _))
     (first
       |(go_at_call 81;(with_reducible refine(HMU.out _ hb).mono ?_);rintro e w12 ⟨A5,c5,rfl,l5,n5,hk⟩;replace hb:=hb.trans (hk.mono hb.size);obtain⟨v0,v1,d0,d1,f0,f1,zl⟩:=HCL.out _ hb))
    have HN:=Lib.hid (HPT.out w12 hb A5 c5 l5 n5);clear n5 l5 hb hbz KF KS HMU HPT HCL;go_wp2_with fail
    go_roundg (m-(i+1))
    case rel=>exact⟨i+1,_,by omega,by omega,rfl,by go_num,HN.out⟩
    case measure=>have:=HG.out;omega
   ·obtain rfl:i=m:=by omega
    have HCF:=Lib.hid (show yB w8 wr g vs cur by
     have:=HCI.out;rw[List.take_of_length_le (by rw[HVL.out];exact Nat.le_refl _),Nat.sub_self,List.replicate_zero,List.append_nil]at this;exact this)
    have hcl:cur.length=i:=by rw[HCF.out.len,HVL.out]
    have hbw8:Below W7.heap.size W7 wr:=HB8.out.trans (hbw.mono HB8.out.size);have hat:=HAT.out cur hcl (fun j x hx=>by
     have hj:j<cur.length:=(List.getElem?_eq_some_iff.1 hx).1;have h1:=HVS.out j (by have:=HM.out;omega);have h2:vs[j]? =some x.z:=by rw[←HCF.out.eq,List.getElem?_map,hx];rfl
     have h3:x.z=(nd:Int)^j:=by
      rw[h1]at h2
      injection h2 with e
      exact e.symm
     refine⟨h3,?_⟩;rw[HCF.out.cn x (List.mem_of_getElem? hx),h3];exact HPL.out j (by have:=HM.out;omega)) wr hbw8 (some ⟨g,0,none⟩) HCF.out.ints
    rw[hcl]at hat;have HA:=Lib.hid hat;obtain⟨p3,p5,p6,_⟩:=HPW.out;have m0:=p3.cell 0;have m1:=p3.cell 1;have m2:=p3.cell 2;have m3:=p3.cell 3;have q0:=p5.cell 0;have q1:=p5.cell 1;have HP6:=Lib.hid p6;have HBW:=Lib.hid (HB7.out.trans (hbw8.mono HB7.out.size));clear hat hcl hbw8 p3 p5 p6 hci hbw HCI HAT HPL hlt;go_wp2_with fail
    refine HA.out.mono ?_;rintro e w12 ⟨A5,c5,K5,kc5,rfl,hr5,hb5⟩;have HCC:=Lib.hid (HCP.out R HRC.out.1 HRC.out.2 A5 c5 K5 kc5 w12 (hr5:RB w12 _ R _).rv);have HB5:=Lib.hid (HBW.out.trans (hb5.mono HBW.out.size));have HP5:=Lib.hid (HP6.out.old hb5);clear hr5 hb5 HA m0 m1 m2 m3 q0 q1 HP6 HBW;go_wp2_with fail
    refine HCC.out.mono ?_;rintro e w13 ⟨A6,c6,K6,kc6,rfl,hr6,hb6⟩;have hk6:=HP5.out.old hb6;have hl3:=HP5.out.lt;have HFN:=Lib.hid (jL (w:=w) hk6 rfl hr6 hl3 (by omega) (HB5.out.trans (hb6.mono HB5.out.size)));have d0:=hk6.cell 0;have d1:=hk6.cell 1;have d2:=hk6.cell 2;have d3:=hk6.cell 3;have f0:=hk6.frozen 0;have f1:=hk6.frozen 1;have f2:=hk6.frozen 2;have f3:=hk6.frozen 3;have zl:=hk6.lt;clear hk6 hl3 hr6 hb6 HCC HP5;go_wp2_with fail
    exact qg Tryz.results44 rfl rfl HFN.out.1 Tryz.underlying28 rfl Tryz.sizeRec HFN.out.2
