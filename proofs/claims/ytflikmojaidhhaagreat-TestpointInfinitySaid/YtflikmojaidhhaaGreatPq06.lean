import Derived.Test.YtflikmojaidhhaaGreatSortLay
import Derived.Test.YtflikmojaidhhaaGreatPq05
namespace Go.Proofs.YtflikmojaidhhaaGreat
open Go.RowKit
structure jW (w:World) (base:Nat) (v:Value) (ps:List PT):Prop where
 row:w.ownsRow base 137 6 v ps.length (ps.flatMap PT.cells)
 dg:∀p∈ps,qk w p.A p.ds∧p.ds.length≤p.c
 cn:∀p∈ps,Cn p
theorem jW.nil(w:World)(base:Nat):jW w base (.slice none 0 0) []:=⟨⟨rfl,.inl ⟨rfl,rfl⟩⟩,fun _ h=>by simp at h,fun _ h=>by simp at h⟩
theorem jW.old{w w':World}{base:Nat}{v:Value}{ps:List PT}(h:jW w base v ps)(hb:Below w.heap.size w w'):jW w' base v ps:=⟨qQ h.row hb,fun p hp=>⟨(h.dg p hp).1.old hb,(h.dg p hp).2⟩,h.cn⟩
theorem jW.mono{w:World}{base base':Nat}{v:Value}{ps:List PT}(h:jW w base v ps)(hb:base'≤base):jW w base' v ps:=⟨⟨h.row.1,h.row.2.imp id fun⟨g,cap,cur,h1,h2,h3⟩=>⟨g,cap,cur,h1,Nat.le_trans hb h2,h3⟩⟩,h.dg,h.cn⟩
theorem jW.nin{w:World}{base:Nat}{v:Value}{ps:List PT}(h:jW w base v ps){p:PT}(hp:p∈ps):qh w w.heap.size p.A p.c p.ds:=by
 obtain⟨h1,h2⟩:=h.dg p hp;have e:=(h.cn p hp).ds;exact⟨h1.reads,by rw[e];exact qu _,h2⟩
theorem jW.polyIn{w:World}{base c n:Nat}{A:Option Addr}{ps:List PT}(h:jW w base (.slice A n c) ps):jE w w.heap.size A ps:=by
 refine⟨?_,fun p hp=>h.nin hp⟩;obtain⟨A',c',e⟩:=qJ h.row
 injection e with e1 e2 e3
 subst e1;subst e2;subst e3;exact qi.of_own h.row
def ZJ(F:Mo→Int)(N:Nat)(w:World)(e:Ending)(w':World):Prop:=
 ∃A c ps,e= .returned (.slice A ps.length c)∧jW w' w.heap.size (.slice A ps.length c) ps∧qI (ps.map PT.tm)∧(∀m,cf (ps.map PT.tm) m=F m)∧ps.length≤N∧Below w.heap.size w w'
def qih(p:PT):Bool:= !decide (p.tm.1=0)
def flt(ps:List PT)(k:Nat):List PT:=(ps.take k).filter qih
theorem qjy{ps:List PT}{k:Nat}{p:PT}(hk:ps[k]? =some p)(h:p.tm.1≠0):flt ps (k+1)=flt ps k++[p]:=by
 have hl:k<ps.length:=(List.getElem?_eq_some_iff.1 hk).1;have e:ps[k]=p:=(List.getElem?_eq_some_iff.1 hk).2;unfold flt;rw[List.take_succ_eq_append_getElem hl,List.filter_append,e];simp[qih,h]
theorem qlc{ps:List PT}{k:Nat}{p:PT}(hk:ps[k]? =some p)(h:p.tm.1=0):flt ps (k+1)=flt ps k:=by
 have hl:k<ps.length:=(List.getElem?_eq_some_iff.1 hk).1;have e:ps[k]=p:=(List.getElem?_eq_some_iff.1 hk).2;unfold flt;rw[List.take_succ_eq_append_getElem hl,List.filter_append,e];simp[qih,h]
theorem qjD(ps:List PT)(k:Nat):(flt ps k).length≤k:=Nat.le_trans (List.length_filter_le _ _) (by simp;omega)
end Go.Proofs.YtflikmojaidhhaaGreat
namespace Go.Proofs.YtflikmojaidhhaaGreat
open Go.RowKit Go.Sort Go.Shelf Go.Lib
def cfT(x y:PT):Int:=qcq y.m x.m
theorem ltT(x y:PT):ltOf cfT x y=decide (Ze y.m x.m):=by
 unfold ltOf cfT;rw[decide_eq_decide];exact qjE
theorem ql0:SWO (ltOf cfT) where
 irrefl x:=by rw[ltT];simp[yP]
 trans x y z h1 h2:=by
  rw[ltT]at*;simp only[decide_eq_true_eq]at*;exact Qv h2 h1
 ntrans x y z h1 h2:=by
  rw[ltT]at*;simp only[decide_eq_false_iff_not]at*;intro h;rcases Yr y.m x.m with k|k|k
  ·exact h1 k
  ·rw[k]at h2;exact h2 h
  ·exact h2 (Qv h k)
set_option maxHeartbeats 1000000
theorem qjC(p q:PT)(W:World):Calls Tryz.prog 131 #[.agg p.cells.toArray,.agg q.cells.toArray] W fun e w'=>e= .returned (.int .i64 (cfT p q))∧∃k os',w'=grow (W.drewN k) os':=by
 have hc:=fun W'=>qf2 q.m p.m W';have hl:zx W ((W.alloc (.cells p.cells.toArray 137)).alloc (.cells q.cells.toArray 137)):=((zx.refl W).alloc _).alloc _;unfold Jo at hc;unfold cfT;generalize qcq q.m p.m=r at*;have HC:=Lib.hid hc;have HL:=Lib.hid hl;clear hc hl;simp only[PT.cells]at*;generalize p.m.1=p0 at*;generalize p.m.2.1=p1 at*;generalize p.m.2.2.1=p2 at*;generalize p.m.2.2.2=p3 at*;generalize q.m.1=q0 at*;generalize q.m.2.1=q1 at*;generalize q.m.2.2.1=q2 at*;generalize q.m.2.2.2=q3 at*;go_enter Tryz.func131,Tryz.ntmps131
 go_wp2_with (first|(go_at_call 132;refine(HC.out _).mono ?_;rintro e w' ⟨rfl,hl2⟩))
 go_ret
 exact⟨rfl,HL.out.trans hl2⟩
theorem qhP(blk off size:Nat)(w:World):CmpLays Tryz.prog 131 #[] PT.cells 6 cfT blk off size w:=
 fun _ _ _ _ x y=>qjC x y _
theorem qbl(x:PT):x.cells.length=6:=rfl
theorem qaO(x:PT):∀v∈x.cells,v.oneCell'=true:=by
 intro u hp;simp[PT.cells]at hp;rcases hp with rfl|rfl|rfl|rfl|rfl|rfl<;>rfl
set_option maxHeartbeats 2000000
set_option maxRecDepth 100000
theorem qgu(blk cap:Nat)(d:Array PT)(w:World)(hH:HoldsK PT.cells 6 w blk 0 d)(hblk:blk<w.heap.size)(hsz:d.size<1000000):
 Calls Tryz.prog 130 #[.slice (some ⟨blk,0,none⟩) d.size cap,.func (.func 131) #[] #[]] w fun e w'=>
  e= .returned (.tuple #[])∧∃d' n os,PermIn 0 d.size d d'∧SortedIn (ltOf cfT) 0 d.size d'∧w'=sortWorldK PT.cells 6 w blk 0 n d' os:=by
 have eg:∀args w,(callFunc 131 args).run Tryz.prog w= .ok (.enter 131 args) w:=enters_of Tryz.func131 (by kernel_rfl) rfl;have hlim:Lib.bitLen d.size<4611686018427387904:=Nat.lt_of_le_of_lt (Lib.bitLen_le d.size 62 (by omega) (by omega)) (by omega);have hp:=AnyQ.pdqsortCmpFunc_all (P:=Tryz.prog) (ρ:=Tryz.pdqT_ren) Tryz.pdqT 6 Tryz.isAgg137 Tryz.sizeOf137 PT.cells cfT 131 #[] ql0 blk 0 cap d w eg (qhP blk 0 d.size w) ⟨qbl,qaO,hH,hblk⟩ (d.size+1) 0 d.size (Lib.bitLen d.size) d w (by omega) rfl (SWK.start hH) (Nat.zero_le _) (Nat.le_refl _) (by omega) hlim (Or.inl rfl);have hl:Calls Tryz.prog 144 #[.int .u64 (d.size:Int)] w fun e w'=>e= .returned (.int .i64 (Lib.bitLen d.size:Nat))∧w'=w:=by
  have h:=Any.bits_Len (SlLaysF0.n15.bits (P:=Tryz.prog) (ρ:=Tryz.pdqT_ren) {Tryz.pdqT with}) (d.size:Int) w (by omega) (by omega);rwa[Int.toNat_natCast]at h
 have hq:=pdq_sorts (ltOf cfT) ql0 d 0 d.size (Lib.bitLen d.size) true true (Nat.zero_le _) (Nat.le_refl _) (Or.inl rfl);change Calls Tryz.prog 143 _ _ _ at hp;have wr:IntKind.u64.wrap (d.size:Int)=d.size:=by simp[IntKind.wrap,IntKind.bits,IntKind.signed];omega
 have HP:=Lib.hid hp;have HL:=Lib.hid hl;have HQ:=Lib.hid hq;clear hH hp hl hq hlim;go_enter Tryz.func130,Tryz.ntmps130
 go_wp2_with (first|(go_at_call 144;refine HL.out.mono ?_;rintro e w' ⟨rfl,rfl⟩)|(go_at_call 143;refine HP.out.mono ?_;rintro e w' ⟨rfl,n,os,rfl⟩))
 go_end0
 exact⟨rfl,_,n,os,HQ.out.1,HQ.out.2,rfl⟩
open Go.RowKit Go.Sort Go.Shelf Go.Lib
theorem qcZ(ps:List PT):(flatK PT.cells 6 ps.toArray).toList=ps.flatMap PT.cells:=by
 apply List.ext_getElem?;intro t;by_cases h:t<ps.length*6
 ·have hlt:t/6<ps.length:=by omega
  have h1:=get_flatK PT.cells 6 ps.toArray t (by simpa using h);have hp:ps[t/6]? =some ps[t/6]:=List.getElem?_eq_getElem hlt;have h2:=yk ps (t/6) (t%6) _ hp (by omega);have e:t/6*6+t%6=t:=by omega
  rw[e]at h2;rw[h2];have hs:t<(flatK PT.cells 6 ps.toArray).size:=by simpa using h
  rw[Array.getElem?_toList,Array.getElem?_eq_getElem hs];rw[getElem!_pos _ t hs]at h1;rw[h1];have e2:ps.toArray[t/6]! =ps[t/6]:=by simp[hlt]
  rw[e2];have hl:t%6<ps[t/6].cells.length:=by rw[qbl];omega
  rw[List.getElem?_eq_getElem hl,getElem!_pos _ (t%6) hl]
 ·rw[List.getElem?_eq_none (by simp;omega),List.getElem?_eq_none (by rw[qdB];omega)]
theorem qeB{w:World}{g n:Nat}{os:Array Obj}{e:TypeId}{cur:Array Value}(ps:List PT)(hb:qd w g e cur):qd (sortWorldK PT.cells 6 w g 0 n ps.toArray os) g e (putCells id 0 (flatK PT.cells 6 ps.toArray) cur):=by
 have hl:=hb.lt;unfold qd at*;unfold sortWorldK putRowK putRow;rw[heap_grow_old _ _ (by simpa[mapBlock,ahead]using hl)];simp[mapBlock,Array.getElem?_modify,hb,onCells]
theorem qbo{w:World}{g n k:Nat}{os:Array Obj}(ps:List PT)(hk:k<w.heap.size)(hne:k≠g):(sortWorldK PT.cells 6 w g 0 n ps.toArray os).heap[k]? =w.heap[k]?:=by
 unfold sortWorldK putRowK putRow;rw[heap_grow_old _ _ (by simpa[mapBlock,ahead]using hk)];have:g≠k:=fun e=>hne e.symm;simp[mapBlock,Array.getElem?_modify,this]
theorem qeY(w:World)(g n:Nat)(os:Array Obj)(ps:List PT):w.heap.size≤(sortWorldK PT.cells 6 w g 0 n ps.toArray os).heap.size:=by
 unfold sortWorldK putRowK putRow;rw[size_grow];simp[mapBlock]
theorem qdS{w:World}{base g n:Nat}{os:Array Obj}(ps:List PT)(hb:base≤w.heap.size)(hg:base≤g):RowKit.Below base w (sortWorldK PT.cells 6 w g 0 n ps.toArray os):=
 ⟨rfl,rfl,rfl,qeY ..,fun _ hk=>qbo ps (by omega) (by omega)⟩
theorem qgV(cur:Array Value)(F:Array Value)(h:F.size≤cur.size):(putCells id 0 F cur).toList.take F.size=F.toList:=by
 apply List.ext_getElem?;intro j;by_cases hj:j<F.size
 ·rw[List.getElem?_take_of_lt hj,Array.getElem?_toList];simp[putCells,hj,show j<cur.size by omega]
 ·rw[List.getElem?_take_eq_none (by omega),List.getElem?_eq_none (by simp;omega)]
theorem qgL{w:World}{base g cap n:Nat}{os:Array Obj}{ps ps':List PT}(hl:ps'.length=ps.length)(h:w.ownsRow base 137 6 (.slice (some ⟨g,0,none⟩) ps.length cap) ps.length (ps.flatMap PT.cells)):
 (sortWorldK PT.cells 6 w g 0 n ps'.toArray os).ownsRow base 137 6 (.slice (some ⟨g,0,none⟩) ps'.length cap) ps'.length (ps'.flatMap PT.cells):=by
 obtain⟨h0,h⟩:=h;rcases h with⟨h,_⟩|⟨g',cap',cur,hv,hb,hh,h1,h2,h3,h4⟩
 ·cases h
 ·injection hv with hv _ hc
  injection hv with hv
  injection hv with hv
  subst hv;subst hc;have hF:(flatK PT.cells 6 ps'.toArray).size=ps'.length*6:=by simp
  refine⟨qdB ps',.inr ⟨g,cap,_,rfl,hb,qeB ps' hh,by omega,h2,by simp[putCells,h3],?_⟩⟩;have hle:ps'.length*6≤cap*6:=by rw[hl];exact Nat.mul_le_mul_right 6 h1
  rw[←qcZ,←hF];exact qgV cur _ (by rw[hF,h3];exact hle)
theorem qgf{w:World}{base g cap:Nat}{ps:List PT}(h:w.ownsRow base 137 6 (.slice (some ⟨g,0,none⟩) ps.length cap) ps.length (ps.flatMap PT.cells)):HoldsK PT.cells 6 w g 0 ps.toArray:=by
 obtain⟨cur,hk,_,_,hc⟩:=jx h;intro j hj;have hs:j<(flatK PT.cells 6 ps.toArray).size:=hj;refine⟨?_,hk.frozen _⟩;rw[hk.cell,Nat.zero_add];refine hc j _ ?_;rw[←qcZ,Array.getElem?_toList,Array.getElem?_eq_getElem hs,id_eq,getElem!_pos _ j hs]
theorem qjl{ps:List PT}{d':Array PT}(h:PermIn 0 ps.toArray.size ps.toArray d'):d'.toList.Perm ps∧d'.size=ps.length:=by
 obtain⟨h1,_,h3⟩:=h;refine⟨?_,by simpa using h1⟩;have e1:(d'.extract 0 ps.toArray.size).toList=d'.toList:=by rw[←h1];simp
 have e2:(ps.toArray.extract 0 ps.toArray.size).toList=ps:=by simp
 rw[e1,e2]at h3;exact h3
theorem qgj{ps:List PT}{d':Array PT}(hs:d'.size=ps.length)(h:SortedIn (ltOf cfT) 0 ps.toArray.size d'):(d'.toList.map PT.tm).Pairwise fun s t=>¬Ze s.2 t.2:=by
 rw[List.pairwise_iff_getElem];intro i j hi hj hij;have hi':i<d'.size:=by simpa using hi
 have hj':j<d'.size:=by simpa using hj
 have:=h i j (Nat.zero_le _) hij (by simp;omega);rw[ltT,getElem!_pos _ i hi',getElem!_pos _ j hj']at this;simp only[decide_eq_false_iff_not]at this;simpa[PT.tm]using this
end Go.Proofs.YtflikmojaidhhaaGreat
namespace Go.Proofs.YtflikmojaidhhaaGreat
open Go.RowKit Go.Sort
theorem qhJ(ps:List PT):((flt ps ps.length).map PT.tm)=(ps.map PT.tm).filter fun t=> !decide (t.1=0):=by
 unfold flt;rw[List.take_length,List.filter_map];rfl
theorem qgd{ts:List Tm}{ps qs:List PT}(hI:zB ts (ps.map PT.tm))(hp:qs.Perm (flt ps ps.length))(hs:(qs.map PT.tm).Pairwise fun s t=>¬Ze s.2 t.2):
 qI (qs.map PT.tm)∧(∀m,cf (qs.map PT.tm) m=cf ts m)∧qs.length≤ts.length:=by
 have h:=hI.canon (q:=qs.map PT.tm) (by rw[←qhJ];exact hp.map _) hs;simpa using h
set_option maxHeartbeats 1000000
set_option maxRecDepth 100000
theorem qkA(v u:Value)(w:World):Calls Tryz.prog 157 #[v,.int .i64 0,.int .i64 0,u] w fun e w'=>e= .returned (.tuple #[])∧w=w':=by
 go_enter Tryz.func157,Tryz.ntmps157
 go_wp2_with fail
 go_loopg [8] 0 (fun gn i wr=>gn=0∧i= .int .i64 1∧w=wr)
 case atStart=>exact⟨rfl,rfl,rfl⟩
 case round=>
  obtain⟨_,rfl,rfl⟩:=hrel;go_wp2_with fail
  go_end0
  exact⟨rfl,rfl⟩
theorem qkv(v u:Value)(x:Int)(w:World):Calls Tryz.prog 143 #[v,.int .i64 0,.int .i64 0,.int .i64 x,u] w fun e w'=>e= .returned (.tuple #[])∧w=w':=by
 go_enter Tryz.func143,Tryz.ntmps143
 go_wp2_with fail
 go_loopg [1,2] 0 (fun gn a b wr=>gn=0∧a= .int .i64 0∧b= .int .i64 0∧w=wr)
 case atStart=>exact⟨rfl,rfl,rfl,rfl⟩
 case round=>
  obtain⟨_,rfl,rfl,rfl⟩:=hrel;go_wp2_with (first|(go_at_call 157;refine(qkA _ _ _).mono ?_;rintro e w' ⟨rfl,rfl⟩))
  refine bodyPost_ret (v:= .tuple #[]) (results_none rfl _ _ _) rfl ?_;exact⟨rfl,rfl⟩
theorem qjh(A:Option Addr)(c:Nat)(u:Value)(w:World):Calls Tryz.prog 130 #[.slice A 0 c,u] w fun e w'=>e= .returned (.tuple #[])∧w=w':=by
 have hl:Calls Tryz.prog 144 #[.int .u64 0] w fun e w'=>e= .returned (.int .i64 ((Go.Lib.bitLen 0:Nat):Int))∧w'=w:=Go.Proofs.Any.bits_Len (Go.Proofs.SlLaysF0.n15.bits (P:=Tryz.prog) (ρ:=Tryz.pdqT_ren) {Tryz.pdqT with}) 0 w (by omega) (by omega);have HL:=Lib.hid hl;clear hl;go_enter Tryz.func130,Tryz.ntmps130
 go_wp2_with (first|(go_at_call 144;refine HL.out.mono ?_;rintro e w' ⟨rfl,rfl⟩)|(go_at_call 143;refine(qkv _ _ _ _).mono ?_;rintro e w' ⟨rfl,rfl⟩))
 go_end0
 exact⟨rfl,rfl⟩
theorem qlj{w:World}{base n size:Nat}{e:TypeId}{v:Value}{xs:List Value}(h:w.ownsRow base e size v n xs){q:Nat}(hq:v.ownBlock=some q):base≤q:=by
 rcases h.2 with⟨rfl,_⟩|⟨g,cap,cur,rfl,hb,_⟩
 ·simp[Value.ownBlock]at hq
 ·simp[Value.ownBlock]at hq;omega
set_option maxHeartbeats 4000000
theorem qhZ(base g mb:Nat)(v:Value)(ts:List Tm)(ps:List PT)(w:World)(hG:GAt w base g mb v ps)(hI:zB ts (ps.map PT.tm))(hlen:ps.length≤100000)(hbig:nrm ts<Big):
 Calls Tryz.prog 110 #[.pointer (some ⟨g,0,none⟩)] w (ZJ (cf ts) ts.length w):=by
 obtain⟨i0,hi0,hz0,hz1,hz2⟩:=qZ Tryz.infoTerm;obtain⟨As,cs,rfl⟩:=qJ hG.row;have hin:jE w w.heap.size As ps:=jW.polyIn ⟨hG.row,hG.dg,hG.cn⟩;have HIN:=Lib.hid hin;have HPP:=Lib.hid (fun(qs:List PT)=>@qgd ts ps qs hI);have HPL:=Lib.hid (fun(p:PT)(hp:p∈ps)=>show p.ds.length≤600 by
  rw[(hG.cn p hp).ds];exact zX (Nat.lt_of_le_of_lt (hI.mem_nrm (List.mem_map.2 ⟨p,hp,rfl⟩)) hbig))
 have HDG:=Lib.hid hG.dg;have HCN:=Lib.hid hG.cn;have g1:w.cell? ⟨g,1,none⟩=some (.slice As ps.length cs):=hG.gb.cell 1;have hcap:ps.length≤cs:=by
  rcases hG.row.2 with⟨h,h'⟩|⟨_,_,_,hv,_,_,hc,_⟩
  ·omega
  ·injection hv with _ _ e;omega
 generalize hpn:ps.length=pn at*;have HPN:=Lib.hid hpn;clear hpn hG hI hin hbig;go_enter Tryz.func110,Tryz.ntmps110
 go_wp2_with fail
 go_loopg [3,5,11] pn (fun gn rv _ ix wr=>∃(k:Nat),k≤pn∧gn=pn-k∧ix= .int .i64 k∧wr.ownsRow w.heap.size 137 6 rv (flt ps k).length ((flt ps k).flatMap PT.cells)∧Below w.heap.size w wr)
 case atStart=>exact⟨0,Nat.zero_le _,rfl,rfl,⟨rfl,.inl ⟨rfl,rfl⟩⟩,Below.refl _ _⟩
 case round=>
  obtain⟨k,hk,hgk,rfl,hown,hbl⟩:=hrel;have HG:=Lib.hid hgk;clear hgk;have hfl:=qjD ps k;obtain⟨Ar,cr,rfl⟩:=qJ hown;by_cases hlt:k<pn
  ·obtain⟨p,hp⟩:∃p,ps[k]? =some p:=⟨_,List.getElem?_eq_getElem (by have:=HPN.out;omega)⟩;have hpm:=List.mem_of_getElem? hp;obtain⟨b,o,rfl,hbb,c0,c1,c2,c3,c4,c5⟩:=(HIN.out.below hbl).at_ hp;have hnin:=(HIN.out.below hbl).nt p hpm;have hpl:=HPL.out p hpm;have i1:(k:Int)<(pn:Int):=by omega
   have i2:(0:Int)≤(k:Int):=by omega
   have HY:=Lib.hid (fun(h:p.tm.1≠0)=>qjy hp h);have HNo:=Lib.hid (fun(h:p.tm.1=0)=>qlc hp h);have HSG:=Lib.hid (fun(W:World)(hW:Below w.heap.size wr W)=>zQ p.ng p.A p.c w.heap.size p.ds W (Nat.le_trans hbl.size hW.size) (hnin.below hW) (by omega));have HPC:=Lib.hid (show p.cells=[.bool p.ng,.slice p.A p.ds.length p.c,.int .i64 p.m.1,.int .i64 p.m.2.1,.int .i64 p.m.2.2.1,.int .i64 p.m.2.2.2]from rfl);have htm:p.tm.1=qb p.ng p.ds:=rfl;rw[htm]at HY HNo;clear htm hnin;generalize p.m.1=m0 at*;generalize p.m.2.1=m1 at*;generalize p.m.2.2.1=m2 at*;generalize p.m.2.2.2=m3 at*;generalize qb p.ng p.ds=zz at*;generalize p.ng=ng at*;generalize p.A=A1 at*;generalize p.c=c1' at*;generalize p.ds=ds at*;have HX:=Lib.hid (qK wr 137 25 #[.bool ng,.slice A1 ds.length c1',.int .i64 m0,.int .i64 m1,.int .i64 m2,.int .i64 m3] #[.bool ng,.slice A1 ds.length c1']);have HRD:=Lib.hid (fun(X:World)=>qi.six_new X ([.bool ng,.slice A1 ds.length c1',.int .i64 m0,.int .i64 m1,.int .i64 m2,.int .i64 m3]:List Value) rfl 137);by_cases hz:zz=0
   ·have HF:=Lib.hid (HNo.out hz);have hs0:qB zz=0:=by rw[hz];rfl
    rw[hs0]at HSG;clear hs0 hz HY HNo;go_wp2_with fail
    refine(HSG.out _ ((Below.refl _ _).alloc hbl.size _)).mono ?_;rintro e w1 ⟨rfl,rfl⟩;obtain⟨hx0,_,_,_⟩:=HX.out;go_wp2_with fail
    go_roundg (pn-(k+1))
    case rel=>exact⟨k+1,by omega,rfl,by go_num,by rw[HF.out];exact qQ hown hx0,hbl.trans (hx0.mono hbl.size)⟩
    case measure=>have:=HG.out;omega
   ·have HF:=Lib.hid (HY.out hz);have hs0:(qB zz != 0)=true:=by unfold qB;split<;>simp
    generalize qB zz=sg at*;clear hz HY HNo;go_wp2_with fail
    refine(HSG.out _ ((Below.refl _ _).alloc hbl.size _)).mono ?_;rintro e w1 ⟨rfl,rfl⟩;obtain⟨hx0,k0,k1,hs⟩:=HX.out;clear HX HSG;generalize (wr.alloc (.cells #[.bool ng,.slice A1 ds.length c1',.int .i64 m0,.int .i64 m1,.int .i64 m2,.int .i64 m3] 137)).alloc (.cells #[.bool ng,.slice A1 ds.length c1'] 25)=X at*;have HS:=Lib.hid hs;clear hs;have d0:X.cell? ⟨wr.heap.size,0,none⟩=some (.bool ng):=k0.cell 0;have d1:X.cell? ⟨wr.heap.size,1,none⟩=some (.slice A1 ds.length c1'):=k0.cell 1;have d2:X.cell? ⟨wr.heap.size,2,none⟩=some (.int .i64 m0):=k0.cell 2;have d3:X.cell? ⟨wr.heap.size,3,none⟩=some (.int .i64 m1):=k0.cell 3;have d4:X.cell? ⟨wr.heap.size,4,none⟩=some (.int .i64 m2):=k0.cell 4;have d5:X.cell? ⟨wr.heap.size,5,none⟩=some (.int .i64 m3):=k0.cell 5;have hrd:=HRD.out X;have hone:∀u∈([.bool ng,.slice A1 ds.length c1',.int .i64 m0,.int .i64 m1,.int .i64 m2,.int .i64 m3]:List Value),u.oneCell'=true:=by rw[show([.bool ng,.slice A1 ds.length c1',.int .i64 m0,.int .i64 m1,.int .i64 m2,.int .i64 m3]:List Value)=p.cells from HPC.out.symm];exact qaO p
    have HONE:=Lib.hid hone;have hx1:=(hx0.alloc hx0.size (.cells #[.bool ng,.slice A1 ds.length c1',.int .i64 m0,.int .i64 m1,.int .i64 m2,.int .i64 m3] 137));have hro:=qQ hown hx1;clear hone;go_wp2_with (first|(at_builtin;refine jy _ rfl (.tmp 19) (.tmp 21) 109 rfl w.heap.size 137 i0 _ 6 64 Tryz.underlying109 hi0 hz0 hz1 hz2 rfl (by decide) (.slice Ar (flt ps k).length cr) (flt ps k).length _ rfl hro (X.heap.size+1) (some ⟨X.heap.size,0,none⟩) 1 1 ([.bool ng,.slice A1 ds.length c1',.int .i64 m0,.int .i64 m1,.int .i64 m2,.int .i64 m3]:List Value) rfl hrd HONE.out (by unfold maxLen;omega) (by omega) (Nat.le_trans hbl.size hx1.size) ?_;intro v' w4 hown4 hg4 hat4))
    have hb4:Below w.heap.size w w4:=(hbl.trans (hx1.mono hbl.size)).grown hg4 (Nat.le_trans hbl.size hx1.size) (fun q hq=>qlj hro hq);go_roundg (pn-(k+1))
    case rel=>exact⟨k+1,by omega,rfl,by go_num,by rw[HF.out,YD,List.length_append,HPC.out];exact hown4,hb4⟩
    case measure=>have:=HG.out;omega
  ·obtain rfl:k=pn:=by omega
   have hdgr:∀q∈flt ps k,qk wr q.A q.ds∧q.ds.length≤q.c:=fun q hq=>by
    have hm:q∈ps:=List.mem_of_mem_take (List.mem_filter.1 hq).1;exact⟨(HDG.out q hm).1.old hbl,(HDG.out q hm).2⟩
   have hcnr:∀q∈flt ps k,Cn q:=fun q hq=>HCN.out q (List.mem_of_mem_take (List.mem_filter.1 hq).1);by_cases h0:(flt ps k).length=0
   ·have hnil:flt ps k=[]:=List.eq_nil_of_length_eq_zero h0;have HNIL:=Lib.hid hnil;rw[hnil]at hown;clear hnil h0 hdgr hcnr hfl;generalize flt ps k=fl at*;obtain rfl:=HNIL.out;go_wp2_with (first|(go_at_call 130;refine(qjh _ _ _ _).mono ?_;rintro e w' ⟨rfl,rfl⟩))
    go_ret
    obtain⟨h1,h2,h3⟩:=HPP.out [] (List.Perm.refl _) List.Pairwise.nil;exact⟨Ar,cr,[],rfl,⟨hown,fun _ h=>by simp at h,fun _ h=>by simp at h⟩,h1,h2,h3,hbl⟩
   ·obtain⟨rb,rcap,hv',hbr,hrl⟩:=hown.form (by omega)
    injection hv' with e1 _ e2
    subst e1;subst e2;have hH:=qgf hown;have hsn:=qgu rb cr (flt ps k).toArray wr hH hrl (by simp;omega);simp only[List.size_toArray]at hsn;have HSN:=Lib.hid hsn;have HOW:=Lib.hid hown;have HDR:=Lib.hid hdgr;have HCR:=Lib.hid hcnr;have HBE:=Lib.hid (fun(n:Nat)(os:Array Obj)(qs:List PT)=>qdS (n:=n) (os:=os) qs hbl.size hbr);clear hsn hH hown h0 hdgr hcnr;go_wp2_with (first|(go_at_call 130;refine HSN.out.mono ?_;rintro e w' ⟨rfl,d',n,os,hpm,hst,rfl⟩))
    go_ret
    obtain⟨hp1,hp2⟩:=qjl hpm;have hst':=qgj hp2 hst;obtain⟨h1,h2,h3⟩:=HPP.out d'.toList hp1 hst';have hdl:d'.toList.length=(flt ps k).length:=hp1.length_eq;have hown':=qgL (n:=n) (os:=os) hdl HOW.out;obtain⟨cur,hkr,_⟩:=jx HOW.out;refine⟨_,cr,d'.toList,by rw[←hdl];rfl,⟨hown',fun q hq=>?_,fun q hq=>HCR.out q (hp1.mem_iff.1 hq)⟩,h1,h2,h3,hbl.trans (HBE.out n os d'.toList)⟩;have hq':=hp1.mem_iff.1 hq;refine⟨(HDR.out q hq').1.keep fun g' cs' hb'=>?_,(HDR.out q hq').2⟩;have hne:g'≠rb:=fun e=>by
     subst e;unfold qd at hb' hkr;rw[hb']at hkr
     injection hkr with hkr
     injection hkr with _ ht
     exact absurd ht (by decide)
    exact(qbo d'.toList hb'.lt hne).trans hb'
end Go.Proofs.YtflikmojaidhhaaGreat
namespace Go.Proofs.YtflikmojaidhhaaGreat
open Go.RowKit
def MB(E:Int)(m:Mo):Prop:=m.1≤E∧m.2.1≤E∧m.2.2.1≤E∧m.2.2.2≤E
theorem MB.mono{E E':Int}{m:Mo}(h:MB E m)(hE:E≤E'):MB E' m:=by unfold MB at *; omega
theorem MB.wf{E:Int}{m:Mo}(h:MB E m)(hv:yH m=true)(hE:E≤9223372036854775807):WfM m:=by
 rw[ZF]at hv;unfold MB at h;unfold WfM WfI;omega
structure PIn (w:World) (B:Nat) (A:Option Addr) (ps:List PT) (N:Nat) (E:Int) (M:Nat):Prop where
 pin:jE w B A ps
 dl:∀p∈ps,p.ds.length≤1000
 wf:∀p∈ps,WfM p.m
 mb:∀p∈ps,yH p.m=true→MB E p.m
 len:ps.length≤N
 nm:nrm (ps.map PT.tm)≤M
theorem PIn.below{w w':World}{B N M:Nat}{E:Int}{A:Option Addr}{ps:List PT}(h:PIn w B A ps N E M)(hb:Below B w w'):PIn w' B A ps N E M:={h with pin:=h.pin.below hb}
theorem PIn.more{w:World}{B B' N M:Nat}{E:Int}{A:Option Addr}{ps:List PT}(h:PIn w B A ps N E M)(hb:B≤B'):PIn w B' A ps N E M:={h with pin:=h.pin.more hb}
theorem PIn.bound{w:World}{B N N' M M':Nat}{E E':Int}{A:Option Addr}{ps:List PT}(h:PIn w B A ps N E M)(hN:N≤N')(hE:E≤E')(hM:M≤M'):PIn w B A ps N' E' M':=
 {h with mb:=fun p hp hv=>(h.mb p hp hv).mono hE,len:=Nat.le_trans h.len hN,nm:=Nat.le_trans h.nm hM}
theorem PIn.old{w w':World}{N M:Nat}{E:Int}{A:Option Addr}{ps:List PT}(h:PIn w w.heap.size A ps N E M)(hb:Below w.heap.size w w'):PIn w' w'.heap.size A ps N E M:=(h.below hb).more hb.size
structure yD (w:World) (base:Nat) (v:Value) (ps:List PT) (F:Mo→Int) (N:Nat) (E:Int) (M:Nat):Prop where
 own:jW w base v ps
 can:qI (ps.map PT.tm)
 cf:∀m,cf (ps.map PT.tm) m=F m
 len:ps.length≤N
 mb:∀p∈ps,MB E p.m
 nm:nrm (ps.map PT.tm)≤M
def qer(F:Mo→Int)(N:Nat)(E:Int)(M:Nat)(w:World)(e:Ending)(w':World):Prop:=
 ∃A c ps,e= .returned (.slice A ps.length c)∧yD w' w.heap.size (.slice A ps.length c) ps F N E M∧Below w.heap.size w w'
theorem yD.vl{w:World}{base N M:Nat}{E:Int}{v:Value}{ps:List PT}{F:Mo→Int}(h:yD w base v ps F N E M){p:PT}(hp:p∈ps):yH p.m=true:=h.can.vl p.tm (List.mem_map.2 ⟨p,hp,rfl⟩)
theorem yD.dlen{w:World}{base N M:Nat}{E:Int}{v:Value}{ps:List PT}{F:Mo→Int}(h:yD w base v ps F N E M){k:Nat}(hM:M<pw k){p:PT}(hp:p∈ps):p.ds.length≤k:=by
 rw[(h.own.cn p hp).ds];exact zK (Nat.lt_of_le_of_lt (Nat.le_trans (Qs (List.mem_map.2 ⟨p,hp,rfl⟩)) h.nm) hM)
theorem yD.pin{w:World}{base c n N M:Nat}{E:Int}{A:Option Addr}{ps:List PT}{F:Mo→Int}(h:yD w base (.slice A n c) ps F N E M)(hE:E≤9223372036854775807)(hM:M<Big):PIn w w.heap.size A ps N E M where
 pin:=h.own.polyIn
 dl p hp:=Nat.le_trans (h.dlen (k:=600) hM hp) (by omega)
 wf p hp:=(h.mb p hp).wf (h.vl hp) hE
 mb p hp _:=h.mb p hp
 len:=h.len
 nm:=h.nm
theorem yD.old{w w':World}{base N M:Nat}{E:Int}{v:Value}{ps:List PT}{F:Mo→Int}(h:yD w base v ps F N E M)(hb:Below w.heap.size w w'):yD w' base v ps F N E M:={h with own:=h.own.old hb}
theorem ZJ.good{ts:List Tm}{N M:Nat}{E:Int}{w:World}{e:Ending}{w':World}(h:ZJ (Go.Proofs.YtflikmojaidhhaaGreat.cf ts) N w e w')(hE:∀t∈ts,yH t.2=true→MB E t.2)(hM:nrm ts≤M):qer (Go.Proofs.YtflikmojaidhhaaGreat.cf ts) N E M w e w':=by
 obtain⟨A,c,ps,he,h1,h2,h3,h4,h5⟩:=h;refine⟨A,c,ps,he,⟨h1,h2,h3,h4,fun p hp=>?_,Nat.le_trans (h2.nrm_le h3) hM⟩,h5⟩;obtain⟨s,hs,hv,e⟩:=h2.src h3 (List.mem_map.2 ⟨p,hp,rfl⟩);have:=hE s hs hv;rw[e]at this;exact this
theorem yG{ps:List PT}{k:Nat}{p:PT}(hk:ps[k]? =some p):(ps.take (k+1)).map PT.tm=(ps.take k).map PT.tm++[p.tm]:=by
 have hl:k<ps.length:=(List.getElem?_eq_some_iff.1 hk).1;have e:ps[k]=p:=(List.getElem?_eq_some_iff.1 hk).2;rw[List.take_succ_eq_append_getElem hl,List.map_append,e];rfl
theorem qdj(ts:List Tm)(k:Nat):nrm (ts.take k)≤nrm ts:=by
 have:=zN (ts.take k) (ts.drop k);rw[List.take_append_drop]at this;omega
theorem qc1(ps:List PT)(k:Nat):nrm ((ps.take k).map PT.tm)≤nrm (ps.map PT.tm):=by rw[List.map_take];exact qdj _ k
set_option maxHeartbeats 2000000
set_option maxRecDepth 100000
theorem yZ(A:Option Addr)(c B N:Nat)(E:Int)(M:Nat)(ps:List PT)(w:World)(hB:B≤w.heap.size)(h:PIn w B A ps N E M)(hN:N≤50000)(hM:M<Big):
 Calls Tryz.prog 75 #[.slice A ps.length c] w (qer (cf (ps.map PT.tm)) N E M w):=by
 have hmbt:∀t∈ps.map PT.tm,yH t.2=true→MB E t.2:=fun t ht hv=>by
  obtain⟨p,hp,rfl⟩:=List.mem_map.1 ht;exact h.mb p hp hv
 have HFIN:=Lib.hid (fun(W:World)(e:Ending)(w':World)(hr:ZJ (cf (ps.map PT.tm)) (ps.map PT.tm).length W e w')=>hr.good hmbt h.nm);have HLN:=Lib.hid (show(ps.map PT.tm).length≤N by rw[List.length_map];exact h.len);have hlen:=h.len;have H:=Lib.hid h;generalize hpn:ps.length=pn at*;have HPN:=Lib.hid hpn;have HNT:=Lib.hid (fun k=>Nat.le_trans (qc1 ps k) h.nm);clear hpn hmbt h;go_enter Tryz.func75,Tryz.ntmps75
 go_wp2_with fail
 refine(qhw w).mono ?_;rintro e W ⟨g,mb,rfl,hg0,hb0⟩;go_wp2_with fail
 go_loopg [5,9] pn (fun gn _ ix wr=>∃(k:Nat)(v:Value)(gs:List PT),k≤pn∧gn=pn-k∧ix= .int .i64 k∧GAt wr w.heap.size g mb v gs∧zB ((ps.take k).map PT.tm) (gs.map PT.tm)∧Below w.heap.size w wr)
 case atStart=>exact⟨0,_,[],Nat.zero_le _,rfl,rfl,hg0,zB.nil,hb0⟩
 case round=>
  obtain⟨k,v,gs,hk,hgk,rfl,hga,hgi,hbl⟩:=hrel;have HG:=Lib.hid hgk;clear hgk;by_cases hlt:k<pn
  ·obtain⟨p,hp⟩:∃p,ps[k]? =some p:=⟨_,List.getElem?_eq_getElem (by have:=HPN.out;omega)⟩;have hpm:=List.mem_of_getElem? hp;have hin:=H.out.below (hbl.mono hB);obtain⟨b,o,rfl,hbb,c0,c1,c2,c3,c4,c5⟩:=hin.pin.at_ hp;have hsz:=hbl.size;have hnin:=(hin.pin.nt p hpm).more (Nat.le_trans hB hsz);have hdl:=hin.dl p hpm;have hwf:=hin.wf p hpm;have i1:(k:Int)<(pn:Int):=by omega
   have i2:(0:Int)≤(k:Int):=by omega
   have HT:=Lib.hid (yG hp);have hlk:((ps.take k).map PT.tm).length≤100000:=by simp;omega
   have hnk:nrm ((ps.take k).map PT.tm)<Big:=Nat.lt_of_le_of_lt (HNT.out k) hM;have HA:=Lib.hid (fun(W':World)(hW:Below wr.heap.size wr W')=>qhA w.heap.size g mb v ((ps.take k).map PT.tm) gs p.m p.ng p.A p.c p.ds W' (hga.old hW) hgi (Nat.le_trans hsz hW.size) hwf ((hnin.below hW).more hW.size) hdl hlk hnk);have HTM:=Lib.hid (show p.tm=(qb p.ng p.ds,p.m)from rfl);clear hin hnin hdl hwf hlk hnk hga hgi;unfold Jo at HA;go_wp2_with fail
   refine(HA.out _ ((Below.refl _ _).alloc (Nat.le_refl _) _)).mono ?_;rintro e w1 ⟨rfl,v',gs',hga',hgi',ht',_⟩;have hb1:Below w.heap.size w w1:=(hbl.alloc hsz _).trans ht'.below;go_wp2_with fail
   go_roundg (pn-(k+1))
   case rel=>exact⟨k+1,v',gs',by omega,rfl,by go_num,hga',by rw[HT.out,HTM.out];exact hgi',hb1⟩
   case measure=>have:=HG.out;omega
  ·obtain rfl:k=pn:=by omega
   have hgl:gs.length≤100000:=by have:=hgi.len;simp at this;omega
   have hfull:(ps.take k).map PT.tm=ps.map PT.tm:=by rw[←HPN.out,List.take_length]
   rw[hfull]at hgi;have HP:=Lib.hid (qhZ w.heap.size g mb v (ps.map PT.tm) gs wr hga hgi hgl (Nat.lt_of_le_of_lt H.out.nm hM));clear hgi hga hfull;go_wp2_with fail
   refine HP.out.mono ?_;rintro e w1 hr;obtain⟨A1,c1,qs,rfl,hgd,hb2⟩:=HFIN.out _ _ _ hr;go_wp2_with fail
   go_ret
   exact⟨A1,c1,qs,rfl,{hgd with own:=hgd.own.mono hbl.size,len:=Nat.le_trans hgd.len HLN.out},hbl.trans (hb2.mono hbl.size)⟩
def jY(t:RP):List Tm:=(ji t (0,0,0,0)).map fun x=>(qb x.1.1 x.1.2,x.2)
def jg(t T:RP):Prop:=(qj t=true∧T=t)∨(qj t=false∧∃P,qI P∧(∀m,cf P m=cf (jY t) m)∧T=qO 4 P)
theorem jg.unique{t T T':RP}(h:jg t T)(h':jg t T'):T=T':=by
 rcases h with⟨a,rfl⟩|⟨a,P,h1,h2,rfl⟩
 ·rcases h' with⟨_,rfl⟩|⟨b,_⟩
  ·rfl
  ·rw[a]at b;cases b
 ·rcases h' with⟨b,_⟩|⟨_,P',k1,k2,rfl⟩
  ·rw[a]at b;cases b
  ·rw[h1.unique k1 fun m=>(h2 m).trans (k2 m).symm]
theorem qhF(qs:List PT):qs.map PT.tm=(qs.map PT.key).map fun x=>(qb x.1.1 x.1.2,x.2):=by
 rw[List.map_map];rfl
mutual
theorem Jt{dg:Nat}:∀(t:RP)(m:Mo)(X:Int),yz dg t→zm m X→∀x∈ji t m,x.1.2.length≤dg∧zm x.2 (X+12*qv t)
 | .mk l g ds ks,m,X,hf,hm,x,hx=>by
   simp only[yz]at hf;simp only[ji]at hx;simp only[qv]
   split at hx
   ·rw[List.mem_singleton]at hx;subst hx;refine⟨hf.1,?_⟩;obtain⟨⟨a0,b0⟩,⟨a1,b1⟩,⟨a2,b2⟩,⟨a3,b3⟩⟩:=hm;unfold zm;simp only[];omega
   ·split at hx
    ·cases hx
    ·have h1:=hm.at_ (l.toNat-1);have hX:0≤X:=by omega
     have:=qdQ (l.toNat-1) ks m X (Za m (l.toNat-1)) hf.2.2 hm h1.1 (by omega) x hx;refine⟨this.1,?_⟩;have h2:=this.2;have h3:(ks.length:Int)≤12:=by omega
     obtain⟨⟨a0,b0⟩,⟨a1,b1⟩,⟨a2,b2⟩,⟨a3,b3⟩⟩:=h2;unfold zm;omega
theorem qdQ{dg:Nat}(i:Nat):∀(ts:List RP)(m:Mo)(X e:Int),Jw dg ts→zm m X→0≤e→e≤X→∀x∈qX i ts m e,x.1.2.length≤dg∧zm x.2 (X+ts.length+12*Qb ts)
 |[],m,X,e,_,_,_,_,x,hx=>by simp[qX]at hx
 |t::ts,m,X,e,hf,hm,h0,h1,x,hx=>by
  simp only[Jw]at hf;simp only[qX]at hx;simp only[Qb,List.length_cons];rcases List.mem_append.1 hx with hx|hx
  ·have:=Jt t (js m i e) X hf.1 (hm.set i h0 h1 (Int.le_refl _)) x hx;refine⟨this.1,?_⟩;obtain⟨⟨a0,b0⟩,⟨a1,b1⟩,⟨a2,b2⟩,⟨a3,b3⟩⟩:=this.2;unfold zm;omega
  ·have hm':zm m (X+1):=by
    obtain⟨⟨a0,b0⟩,⟨a1,b1⟩,⟨a2,b2⟩,⟨a3,b3⟩⟩:=hm;unfold zm;omega
   have:=qdQ i ts m (X+1) (e+1) hf.2 hm' (by omega) (by omega) x hx;refine⟨this.1,?_⟩;obtain⟨⟨a0,b0⟩,⟨a1,b1⟩,⟨a2,b2⟩,⟨a3,b3⟩⟩:=this.2;unfold zm;omega
end
theorem Qn(f:List Tm→RP)(i:Nat):∀(n:Nat)(ts:List Tm)(ks:List RP),(jA f i n ts ks).length=ks.length
 |0,_,_=>rfl
 |_+1,[],_=>rfl
 |n+1,t::r,ks=>by
  rw[jA,Qn f i n,List.length_set]
theorem YG{Q:RP→Prop}(f:List Tm→RP)(i:Nat):∀(n:Nat)(ts:List Tm)(ks:List RP),(∀k∈ks,Q k)→(∀l:List Tm,(∀x∈l,x∈ts)→Q (f l))→∀k∈jA f i n ts ks,Q k
 |0,_,_,h,_=>h
 |_+1,[],_,h,_=>h
 |n+1,t::r,ks,h,hf=>by
  rw[jA];refine YG f i n _ _ (fun k hk=>?_) (fun l hl=>hf l fun x hx=>(List.dropWhile_sublist _).subset (hl x hx));rcases List.mem_or_eq_of_mem_set hk with hk|rfl
  ·exact h k hk
  ·exact hf _ fun x hx=>(List.takeWhile_sublist _).subset hx
theorem ZD{X:Nat}(hX:1≤X):∀(L:Nat)(ts:List Tm),L≤4→(∀t∈ts,(dig t.1.natAbs).length≤X∧∀i,i<4→gt t.2 i+1≤(X:Int))→yf X (qO L ts)
 |0,[],_,_=>by rw[qO];exact yf.mk (Nat.zero_le _) (Nat.zero_le _) (by simp)
 |0,t::r,_,h=>by rw[qO];exact yf.mk (h t List.mem_cons_self).1 (Nat.zero_le _) (by simp)
 |L+1,[],_,_=>by rw[qO];exact yf.mk (Nat.zero_le _) (Nat.zero_le _) (by simp)
 |L+1,t::r,hL,h=>by
  rw[qO]
  split
  ·exact ZD hX L (t::r) (by omega) h
  ·refine yf.mk (Nat.zero_le _) ?_ (YG _ _ _ _ _ (fun k hk=>?_) (fun l hl=>ZD hX L l (by omega) fun x hx=>h x (hl x hx)))
   ·rw[Qn,List.length_replicate];have:=(h t List.mem_cons_self).2 L (by omega);omega
   ·rw[(List.mem_replicate.1 hk).2];exact yf.mk (Nat.zero_le _) (Nat.zero_le _) (by simp)
theorem Jn:∀(ts:List Tm)(X:Nat),(∀t∈ts,t.1.natAbs≤X)→nrm ts≤ts.length*X
 |[],X,_=>by simp[nrm]
 |t::ts,X,h=>by
  have h1:=h t List.mem_cons_self;have h2:=Jn ts X fun s hs=>h s (List.mem_cons_of_mem _ hs);simp only[nrm,List.length_cons];rw[Nat.succ_mul];omega
theorem qk1{a b:Nat}(h:a<b):pw a<pw b:=Nat.pow_lt_pow_right (by omega) h
theorem yx{n k:Nat}(hn:n≤1000)(hk:k+1<600):n*pw k<Big:=by
 have h1:n*pw k≤4294967295*pw k:=Nat.mul_le_mul_right _ (by omega);have h2:pw (k+1)=pw k*4294967296:=Nat.pow_succ ..;have h3:pw (k+1)<Big:=qk1 hk;have h4:0<pw k:=Nat.pow_pos (by omega);generalize pw k=y at*;exact Nat.lt_of_le_of_lt h1 (Nat.lt_trans (by omega) (h2▸h3))
theorem Q1{ds:List Nat}(h:qP ds){k:Nat}(hk:ds.length≤k):val ds<pw k:=by
 unfold pw;exact Nat.lt_of_lt_of_le (qT h) (Nat.pow_le_pow_right (by omega) hk)
theorem yR.pin{w W:World}{A:Option Addr}{n c base B D:Nat}{t:RP}{qs:List PT}{dg:Nat}(h:yR w (.slice none 0 0) [] base B W (.slice A n c) qs)(hk:qs.map PT.key=ji t (0,0,0,0))(hf:yz dg t)(hdg:dg≤500)(hD:qv t≤D)(hD':D≤12)(hc:yj t≤1000)(hBW:B≤W.heap.size):
 PIn W W.heap.size A qs 1000 1000 (1000*pw 500):=by
 have hm:zm (0,0,0,0) 0:=by simp[zm]
 have hq:∀q∈qs,q.ds.length≤dg∧zm q.m (0+12*qv t):=fun q hq=>Jt t _ _ hf hm q.key (by rw[←hk];exact List.mem_map.2 ⟨q,hq,rfl⟩);have hl:qs.length≤1000:=by
  have:=congrArg List.length hk;rw[List.length_map]at this;have:=Qa t (0,0,0,0);omega
 have ho:W.ownsRow base 137 6 (.slice A n c) qs.length (qs.flatMap PT.cells):=h.own;have hr:=ho;obtain⟨A',c',e⟩:=qJ ho
 injection e with e1 e2 e3
 subst e2;refine⟨⟨qi.of_own hr,fun q hq'=>(h.dg q hq').more hBW⟩,fun q hq'=>by have:=(hq q hq').1;omega,fun q hq'=>?_,fun q hq' _=>?_,hl,?_⟩
 ·obtain⟨⟨a0,b0⟩,⟨a1,b1⟩,⟨a2,b2⟩,⟨a3,b3⟩⟩:=(hq q hq').2;unfold WfM WfI;omega
 ·obtain⟨⟨a0,b0⟩,⟨a1,b1⟩,⟨a2,b2⟩,⟨a3,b3⟩⟩:=(hq q hq').2;unfold MB;omega
 ·refine Nat.le_trans (Jn _ (pw 500) fun s hs=>?_) (Nat.mul_le_mul_right _ (by rw[List.length_map];exact hl));obtain⟨q,hq',rfl⟩:=List.mem_map.1 hs;show(qb q.ng q.ds).natAbs≤_;rw[qz];exact Nat.le_of_lt (Q1 (h.dg q hq').dg (Nat.le_trans (hq q hq').1 hdg))
def qkb(t:RP)(w:World)(e:Ending)(w':World):Prop:=∃T A c K kc,jg t T∧e= .returned (qn T A c K kc)∧RV w' (· <w'.heap.size) T (qc T A c K kc)∧yf 1001 T∧Below w.heap.size w w'
def OkC(B base:Nat)(W:World)(b:Nat):Prop:=b<B∨yK W base b
def qfg(t:RP)(B:Nat)(w:World)(e:Ending)(w':World):Prop:=∃T A c K kc,jg t T∧e= .returned (qn T A c K kc)∧RV w' (OkC B w.heap.size w') T (qc T A c K kc)∧yf 1001 T∧Below w.heap.size w w'
set_option maxHeartbeats 4000000
theorem JQ(dg:Nat)(hdg:dg≤500)(t:RP)(hD:qv t≤12)(hf:yz dg t)(hcn:yj t≤1000)(A:Option Addr)(c:Nat)(K:Option Addr)(kc B:Nat)(w:World)(hB:B≤w.heap.size)(h:RV w (· <B) t (qc t A c K kc)):
 Calls Tryz.prog 37 #[qn t A c K kc] w (qfg t B w):=by
 have HX:=Lib.hid (fun(cs ds:Array Value)=>qK w 28 28 cs ds);have HR:=Lib.hid (fun(W:World)(hW:Below w.heap.size w W)=>h.below (hW.mono hB));have HIS:=Lib.hid (fun(W:World)(hW:Below w.heap.size w W)=>qbq dg (by omega) (qv t) t (Nat.le_refl _) hf A c K kc B W (Nat.le_trans hB hW.size) (h.below (hW.mono hB)));have HSM:=Lib.hid (yz.sm (X:=1001) (by omega) (by omega) t hf);have HB:=Lib.hid hB;have HCO:=Lib.hid (fun(W:World)(hW:Below w.heap.size w W)=>Qh dg (by omega) (qv t) t (Nat.le_refl _) hf A c K kc B W.heap.size [] (.slice none 0 0) (0,0,0,0) 0 W (Nat.le_trans hB hW.size) (Nat.le_refl _) (h.below (hW.mono hB)) (jW.nil W W.heap.size).row (by rw[List.length_nil];omega) (by simp[zm]) (by omega));unfold Z0 at HCO;have HPI:=Lib.hid (fun(w0 W:World)(A:Option Addr)(n c base:Nat)(qs:List PT)(h:yR w0 (.slice none 0 0) [] base B W (.slice A n c) qs)(hk:qs.map PT.key=ji t (0,0,0,0))(hBW:B≤W.heap.size)=>h.pin hk hf hdg (Nat.le_refl _) hD hcn hBW);clear h hf hcn hD hdg hB;unfold qn at HIS HCO ⊢
 cases hcb:qj t with
 |true=>
  rw[hcb]at HIS;have HT:=Lib.hid (show jg t t from .inl ⟨hcb,rfl⟩);clear hcb;go_enter Tryz.func37,Tryz.ntmps37
  go_wp2_with fail
  obtain⟨hb0,k0,k1,hs⟩:=HX.out #[.int .i64 t.lv,.bool t.ng,.slice A t.ds.length c,.slice K t.ks.length kc] #[.int .i64 0,.bool false,.slice none 0 0,.slice none 0 0];generalize (w.alloc (.cells #[.int .i64 t.lv,.bool t.ng,.slice A t.ds.length c,.slice K t.ks.length kc] 28)).alloc (.cells #[.int .i64 0,.bool false,.slice none 0 0,.slice none 0 0] 28)=W at*;have HI1:=Lib.hid (HIS.out W hb0);refine HI1.out.mono ?_;rintro e w2 ⟨rfl,hb2⟩;have j0:=k0.old hb2;have j1:=k1.old hb2;have hbw:=hb0.trans (hb2.mono hb0.size);have HJ:=Lib.hid (jt (k:=0) j1 (.int .i64 t.lv) (.bool t.ng) (.slice A t.ds.length c) (.slice K t.ks.length kc)).1;have HBW:=Lib.hid ((((hbw.setCell (p:=⟨w.heap.size+1,0,none⟩) (Nat.le_add_right _ 1) (.int .i64 t.lv)).setCell (p:=⟨w.heap.size+1,1,none⟩) (Nat.le_add_right _ 1) (.bool t.ng)).setCell (p:=⟨w.heap.size+1,2,none⟩) (Nat.le_add_right _ 1) (.slice A t.ds.length c)).setCell (p:=⟨w.heap.size+1,3,none⟩) (Nat.le_add_right _ 1) (.slice K t.ks.length kc));have c0:w2.cell? ⟨w.heap.size,0,none⟩=some (.int .i64 t.lv):=j0.cell 0;have c1:w2.cell? ⟨w.heap.size,1,none⟩=some (.bool t.ng):=j0.cell 1;have c2:w2.cell? ⟨w.heap.size,2,none⟩=some (.slice A t.ds.length c):=j0.cell 2;have c3:w2.cell? ⟨w.heap.size,3,none⟩=some (.slice K t.ks.length kc):=j0.cell 3;have d0:w2.cell? ⟨w.heap.size+1,0,none⟩=some (.int .i64 0):=j1.cell 0;have d1:w2.cell? ⟨w.heap.size+1,1,none⟩=some (.bool false):=j1.cell 1;have d2:w2.cell? ⟨w.heap.size+1,2,none⟩=some (.slice none 0 0):=j1.cell 2;have d3:w2.cell? ⟨w.heap.size+1,3,none⟩=some (.slice none 0 0):=j1.cell 3;have f0:=j1.frozen 0;have f1:=j1.frozen 1;have f2:=j1.frozen 2;have f3:=j1.frozen 3;have z0:=j1.lt;clear hb0 k0 k1 hs HI1 hb2 j0 j1 hbw HX HIS;go_wp2_with fail
  refine qg Tryz.results37 rfl rfl HJ.out Tryz.underlying28 rfl Tryz.sizeRec ?_;exact⟨t,A,c,K,kc,HT.out,rfl,RV.mono (fun b hb=> .inl hb) _ _ (HR.out _ HBW.out),HSM.out,HBW.out⟩
 |false=>
  rw[hcb]at HIS;have HCB:=Lib.hid hcb;clear hcb;go_enter Tryz.func37,Tryz.ntmps37
  go_wp2_with fail
  obtain⟨hb0,k0,k1,hs⟩:=HX.out #[.int .i64 t.lv,.bool t.ng,.slice A t.ds.length c,.slice K t.ks.length kc] #[.int .i64 0,.bool false,.slice none 0 0,.slice none 0 0];generalize (w.alloc (.cells #[.int .i64 t.lv,.bool t.ng,.slice A t.ds.length c,.slice K t.ks.length kc] 28)).alloc (.cells #[.int .i64 0,.bool false,.slice none 0 0,.slice none 0 0] 28)=W at*;have HI1:=Lib.hid (HIS.out W hb0);refine HI1.out.mono ?_;rintro e w2 ⟨rfl,hb2⟩;have j0:=k0.old hb2;have j1:=k1.old hb2;have hbw:=hb0.trans (hb2.mono hb0.size);have HJ1:=Lib.hid j1;have HBW:=Lib.hid hbw;have HCO1:=Lib.hid (HCO.out w2 hbw);have c0:w2.cell? ⟨w.heap.size,0,none⟩=some (.int .i64 t.lv):=j0.cell 0;have c1:w2.cell? ⟨w.heap.size,1,none⟩=some (.bool t.ng):=j0.cell 1;have c2:w2.cell? ⟨w.heap.size,2,none⟩=some (.slice A t.ds.length c):=j0.cell 2;have c3:w2.cell? ⟨w.heap.size,3,none⟩=some (.slice K t.ks.length kc):=j0.cell 3;clear hb0 k0 k1 hs HI1 hb2 j0 j1 hbw HX HIS HCO HR;go_wp2_with fail
  refine HCO1.out.mono ?_;rintro e w3 ⟨v',qs,rfl,hcl,hkey⟩;obtain⟨A3,c3',rfl⟩:=qJ hcl.own;have hb3:Below w2.heap.size w2 w3:=⟨hcl.gro.os,hcl.gro.tape,hcl.gro.output,hcl.gro.size,fun k hk=>hcl.gro.block k hk (by simp[Value.ownBlock])⟩;have hbw3:=HBW.out.trans (hb3.mono HBW.out.size);have HPN:=Lib.hid (yZ A3 c3' w3.heap.size 1000 1000 (1000*pw 500) qs w3 (Nat.le_refl _) (HPI.out w2 w3 A3 _ c3' _ qs hcl hkey (Nat.le_trans HB.out hbw3.size)) (by omega) (yx (by omega) (by omega)));unfold qer at HPN;have HKY:=Lib.hid (show∀m,cf (qs.map PT.tm) m=cf (jY t) m from fun m=>by rw[qhF,hkey];rfl);have HJ3:=Lib.hid (HJ1.out.old hb3);have HBW3:=Lib.hid hbw3;clear hcl hkey hb3 hbw3 HCO1 HPI HBW HJ1 c0 c1 c2 c3;rw[List.nil_append];go_wp2_with fail
  refine HPN.out.mono ?_;rintro e w4 ⟨A4,c4,rs,rfl,hgd,hb4⟩;have hbw4:=HBW3.out.trans (hb4.mono HBW3.out.size);have hexp:∀p∈rs,∀i,i<4→0≤gt p.m i∧gt p.m i≤1000:=fun p hp i hi=>by
   have h1:=hgd.vl hp;have h2:=hgd.mb p hp;rw[ZF]at h1;unfold MB at h2;rcases(by omega:i=0∨i=1∨i=2∨i=3)with rfl|rfl|rfl|rfl<;>(simp only[gt];omega)
  have hdl:=fun p hp=>hgd.dlen (k:=600) (yx (by omega) (by omega)) (p:=p) hp;have hcap:rs.length≤c4:=by
   by_cases hr0:rs.length=0
   ·omega
   ·obtain⟨g',cap,hv',_⟩:=hgd.own.row.form (by omega)
    injection hv' with h1
    have hrow:=hgd.own.row;rw[h1]at hrow;exact(jx hrow).choose_spec.2.2.1
  have HBD:=Lib.hid (YE 5 4 (by omega) (by omega) rs A4 c4 w4.heap.size w4 (Nat.le_refl _) hgd.own.polyIn hgd.can.desc hgd.own.cn hexp hcap hgd.len hgd.own.dg);unfold qaB qn at HBD;have HCT:=Lib.hid (show jg t (qO 4 (rs.map PT.tm))from .inr ⟨HCB.out,_,hgd.can,fun m=>(hgd.cf m).trans (HKY.out m),rfl⟩);have HST:=Lib.hid (ZD (X:=1001) (by omega) 4 (rs.map PT.tm) (by omega) fun s hs=>by
   obtain⟨p,hp,rfl⟩:=List.mem_map.1 hs;refine⟨by rw[←(hgd.own.cn p hp).ds];have:=hdl p hp;omega,fun i hi=>?_⟩;have:=(hexp p hp i hi).2;show gt p.m i+1≤_;omega)
  have HJ4:=Lib.hid (HJ3.out.old hb4);have HBW4:=Lib.hid hbw4;have HSZ4:=Lib.hid hbw4.size;clear hgd hb4 hbw4 hexp hdl hcap HPN HJ3 HBW3 HKY;generalize qO 4 (rs.map PT.tm)=T at*;go_wp2_with fail
  refine HBD.out.mono ?_;rintro e w5 ⟨A5,c5,K5,kc5,rfl,hrb,hb5⟩;have j1:=HJ4.out.old hb5;obtain⟨s1,s2,s3⟩:=jt (k:=0) j1 (.int .i64 T.lv) (.bool T.ng) (.slice A5 T.ds.length c5) (.slice K5 T.ks.length kc5);have HS:=Lib.hid s1;have hwl:=HJ4.out.lt;have HRB:=Lib.hid (RB.keep (base':=w4.heap.size) hrb s2 (fun j ds hg hj=>s3 j ds (by omega) hj) (Nat.le_refl _));have hbw5:=HBW4.out.trans (hb5.mono HBW4.out.size);have HBF:=Lib.hid ((((hbw5.setCell (p:=⟨w.heap.size+1,0,none⟩) (Nat.le_add_right _ 1) (.int .i64 T.lv)).setCell (p:=⟨w.heap.size+1,1,none⟩) (Nat.le_add_right _ 1) (.bool T.ng)).setCell (p:=⟨w.heap.size+1,2,none⟩) (Nat.le_add_right _ 1) (.slice A5 T.ds.length c5)).setCell (p:=⟨w.heap.size+1,3,none⟩) (Nat.le_add_right _ 1) (.slice K5 T.ks.length kc5));have d0:w5.cell? ⟨w.heap.size+1,0,none⟩=some (.int .i64 0):=j1.cell 0;have d1:w5.cell? ⟨w.heap.size+1,1,none⟩=some (.bool false):=j1.cell 1;have d2:w5.cell? ⟨w.heap.size+1,2,none⟩=some (.slice none 0 0):=j1.cell 2;have d3:w5.cell? ⟨w.heap.size+1,3,none⟩=some (.slice none 0 0):=j1.cell 3;have f0:=j1.frozen 0;have f1:=j1.frozen 1;have f2:=j1.frozen 2;have f3:=j1.frozen 3;have z0:=j1.lt;clear hrb hb5 j1 s1 s2 s3 hbw5 HBD HJ4 HBW4 hwl;go_wp2_with fail
  refine qg Tryz.results37 rfl rfl HS.out Tryz.underlying28 rfl Tryz.sizeRec ?_;exact⟨T,A5,c5,K5,kc5,HCT.out,rfl,RV.mono (fun b hb=> .inr (hb.mono HSZ4.out)) _ _ HRB.out,HST.out,HBF.out⟩
theorem Y5(dg:Nat)(hdg:dg≤500)(t:RP)(hD:qv t≤12)(hf:yz dg t)(hcn:yj t≤1000)(A:Option Addr)(c:Nat)(K:Option Addr)(kc B:Nat)(w:World)(hB:B≤w.heap.size)(h:RV w (· <B) t (qc t A c K kc)):
 Calls Tryz.prog 37 #[qn t A c K kc] w (qkb t w):=by
 refine(JQ dg hdg t hD hf hcn A c K kc B w hB h).mono ?_;rintro e w' ⟨T,A1,c1,K1,kc1,h1,h2,h3,h4,h5⟩;exact⟨T,A1,c1,K1,kc1,h1,h2,RV.mono (fun b hb=>hb.elim (fun hb=>Nat.lt_of_lt_of_le hb (Nat.le_trans hB h5.size)) (fun hb=>hb.lt)) _ _ h3,h4,h5⟩
def qk7(t:RP)(w:World)(e:Ending)(w':World):Prop:=∃T A c K kc,jg t T∧e= .returned (qn (zu T) A c K kc)∧RB w' w.heap.size (zu T) (qc (zu T) A c K kc)∧Below w.heap.size w w'
theorem qgg(dg:Nat)(hdg:dg≤500)(t:RP)(hD:qv t≤12)(hf:yz dg t)(hcn:yj t≤1000)(A:Option Addr)(c:Nat)(K:Option Addr)(kc B:Nat)(w:World)(hB:B≤w.heap.size)(h:RV w (· <B) t (qc t A c K kc)):
 Calls Tryz.prog 16 #[qn t A c K kc] w (qk7 t w):=by
 have HX:=Lib.hid (fun(cs ds:Array Value)=>qK w 28 28 cs ds);have HCA:=Lib.hid (fun(W:World)(hW:Below w.heap.size w W)=>Y5 dg hdg t hD hf hcn A c K kc B W (Nat.le_trans hB hW.size) (h.below (hW.mono hB)));have HB:=Lib.hid hB;unfold qkb at HCA;have HCP:=Lib.hid (fun(T:RP)(hT:yf 1001 T)(A:Option Addr)(c:Nat)(K:Option Addr)(kc:Nat)(W:World)(h:RV W (· <W.heap.size) T (qc T A c K kc))=>QZ 1001 (by omega) (qv T) T (Nat.le_refl _) hT A c K kc W.heap.size W (Nat.le_refl _) h);unfold ZA at HCP;clear h hf hcn hD hdg hB;unfold qn at HCA HCP ⊢;go_enter Tryz.func16,Tryz.ntmps16
 go_wp2_with fail
 obtain⟨hb0,k0,k1,hs⟩:=HX.out #[.int .i64 t.lv,.bool t.ng,.slice A t.ds.length c,.slice K t.ks.length kc] #[.int .i64 0,.bool false,.slice none 0 0,.slice none 0 0];generalize (w.alloc (.cells #[.int .i64 t.lv,.bool t.ng,.slice A t.ds.length c,.slice K t.ks.length kc] 28)).alloc (.cells #[.int .i64 0,.bool false,.slice none 0 0,.slice none 0 0] 28)=W at*;have HI1:=Lib.hid (HCA.out W hb0);refine HI1.out.mono ?_;rintro e w2 ⟨T,A2,c2,K2,kc2,hT,rfl,hrv,hsm,hb2⟩;have HJ1:=Lib.hid (k1.old hb2);have HBW:=Lib.hid (hb0.trans (hb2.mono hb0.size));have HCT:=Lib.hid hT;have HI2:=Lib.hid (HCP.out T hsm A2 c2 K2 kc2 w2 hrv);clear hb0 k0 k1 hs HI1 hb2 HX HCA hT hrv hsm HCP;go_wp2_with fail
 refine HI2.out.mono ?_;rintro e w5 ⟨A5,c5,K5,kc5,rfl,hrb,hb5⟩;clear HI2;have j1:=HJ1.out.old hb5;obtain⟨s1,s2,s3⟩:=jt (k:=0) j1 (.int .i64 (zu T).lv) (.bool (zu T).ng) (.slice A5 (zu T).ds.length c5) (.slice K5 (zu T).ks.length kc5);have HS:=Lib.hid s1;have hwl:=HJ1.out.lt;have HRB:=Lib.hid (RB.keep (base':=w2.heap.size) hrb s2 (fun j ds hg hj=>s3 j ds (by omega) hj) (Nat.le_refl _));have hbw5:=HBW.out.trans (hb5.mono HBW.out.size);have HBF:=Lib.hid ((((hbw5.setCell (p:=⟨w.heap.size+1,0,none⟩) (Nat.le_add_right _ 1) (.int .i64 (zu T).lv)).setCell (p:=⟨w.heap.size+1,1,none⟩) (Nat.le_add_right _ 1) (.bool (zu T).ng)).setCell (p:=⟨w.heap.size+1,2,none⟩) (Nat.le_add_right _ 1) (.slice A5 (zu T).ds.length c5)).setCell (p:=⟨w.heap.size+1,3,none⟩) (Nat.le_add_right _ 1) (.slice K5 (zu T).ks.length kc5));have HSZ:=Lib.hid HBW.out.size;have d0:w5.cell? ⟨w.heap.size+1,0,none⟩=some (.int .i64 0):=j1.cell 0;have d1:w5.cell? ⟨w.heap.size+1,1,none⟩=some (.bool false):=j1.cell 1;have d2:w5.cell? ⟨w.heap.size+1,2,none⟩=some (.slice none 0 0):=j1.cell 2;have d3:w5.cell? ⟨w.heap.size+1,3,none⟩=some (.slice none 0 0):=j1.cell 3;have f0:=j1.frozen 0;have f1:=j1.frozen 1;have f2:=j1.frozen 2;have f3:=j1.frozen 3;have z0:=j1.lt;clear hrb hb5 j1 s1 s2 s3 hbw5 HJ1 HBW hwl;generalize hcp:zu T=U at*;have HCU:=Lib.hid hcp;clear hcp;go_wp2_with fail
 refine qg Tryz.results16 rfl rfl HS.out Tryz.underlying28 rfl Tryz.sizeRec ?_;exact⟨T,A5,c5,K5,kc5,HCT.out,by rw[HCU.out];rfl,by rw[HCU.out];exact HRB.out.mono HSZ.out,HBF.out⟩
