import Derived.RangeFuncNested
import Derived.RangeFuncBound
import Derived.RangeFuncCalls
import Derived.RangeFuncLeaves
import Derived.Shelf.Abstract
import Derived.Shelf.RegionOpen
import Derived.OwnWalkIn
import Derived.TacticsInMore
import Derived.LoopNIn
import Derived.LoopIn
import Derived.Sort.LoopGhostIn
import Derived.Test.YtflikmojaidhhaaGreatPq06
import Derived.Test.YtflikmojaidhhaaGreatPq10
namespace Go.Proofs.YtflikmojaidhhaaGreat
open Go.RowKit
structure RIn (w:World) (B:Nat) (q:Rat) (A:Option Addr) (c:Nat) (D:Option Addr) (cd:Nat):Prop where
 nm:qh w B A c (dig q.num.natAbs)
 dn:qh w B D cd (dig q.den)
theorem RIn.below{w w':World}{B:Nat}{q:Rat}{A D:Option Addr}{c cd:Nat}(h:RIn w B q A c D cd)(hb:Below B w w'):RIn w' B q A c D cd:=⟨h.nm.below hb,h.dn.below hb⟩
theorem RIn.more{w:World}{B B':Nat}{q:Rat}{A D:Option Addr}{c cd:Nat}(h:RIn w B q A c D cd)(hB:B≤B'):RIn w B' q A c D cd:=⟨h.nm.more hB,h.dn.more hB⟩
theorem RIn.made{w:World}{q:Rat}{A D:Option Addr}{c cd:Nat}(h1:(dig q.num.natAbs).length≤c)(h2:(dig q.den).length≤cd)(n1:qk w A (dig q.num.natAbs))(n2:qk w D (dig q.den)):RIn w w.heap.size q A c D cd:=⟨qV n1 h1,qV n2 h2⟩
abbrev rvl(q:Rat)(A:Option Addr)(c:Nat)(D:Option Addr)(cd:Nat):Value:= .agg #[.bool (decide (q.num<0)),.slice A (dig q.num.natAbs).length c,.slice D (dig q.den).length cd]
theorem qck(q:Rat):mkRat (qb (decide (q.num<0)) (dig q.num.natAbs)) (val (dig q.den))=q:=by rw[q7,qp,Rat.mkRat_self]
def RL(q:Rat)(L:Nat):Prop:=q.num.natAbs<4294967296^L∧q.den<4294967296^L
theorem RL.mono{q:Rat}{L L':Nat}(h:RL q L)(hl:L≤L'):RL q L':=⟨Nat.lt_of_lt_of_le h.1 (Nat.pow_le_pow_right (by decide) hl),Nat.lt_of_lt_of_le h.2 (Nat.pow_le_pow_right (by decide) hl)⟩
theorem RL.n{q:Rat}{L:Nat}(h:RL q L):(dig q.num.natAbs).length≤L:=qC h.1
theorem RL.d{q:Rat}{L:Nat}(h:RL q L):(dig q.den).length≤L:=qC h.2
theorem qau(n:Int)(d:Nat):(mkRat n d).num.natAbs≤n.natAbs∧(mkRat n d).den≤max d 1:=by
 rcases Nat.eq_zero_or_pos d with rfl|hd
 ·rw[Rat.num_mkRat,Rat.den_mkRat];simp
 ·obtain⟨k,hk,h1,h2⟩:=Zr n (Nat.ne_of_gt hd);have hkp:0<k:=Nat.pos_of_ne_zero hk;constructor
  ·conv=>rhs;rw[h1]
   rw[Int.natAbs_mul,Int.natAbs_natCast];exact Nat.le_mul_of_pos_right _ hkp
  ·refine Nat.le_trans ?_ (Nat.le_max_left d 1)
   conv=>rhs;rw[h2]
   exact Nat.le_mul_of_pos_right _ hkp
theorem qdl{ng:Bool}{ds es:List Nat}{L:Nat}(h0:0<L)(gd:qP ds)(ge:qP es)(hd:ds.length≤L)(he:es.length≤L):RL (mkRat (qb ng ds) (val es)) L:=by
 obtain⟨h1,h2⟩:=qau (qb ng ds) (val es);rw[qz]at h1;have h3:=Nat.lt_of_lt_of_le (qT gd) (Nat.pow_le_pow_right (n:=4294967296) (by decide) hd);have h4:=Nat.lt_of_lt_of_le (qT ge) (Nat.pow_le_pow_right (n:=4294967296) (by decide) he);have h5:1<4294967296^L:=Nat.one_lt_pow (by omega) (by decide);refine⟨Nat.lt_of_le_of_lt h1 h3,Nat.lt_of_le_of_lt h2 ?_⟩;rcases Nat.le_total (val es) 1 with h|h
 ·rw[Nat.max_eq_right h];exact h5
 ·rw[Nat.max_eq_left h];exact h4
theorem RL.mul{q r:Rat}{L M:Nat}(h:RL q L)(k:RL r M):RL (q*r) (L+M):=by
 have e:=Rat.mkRat_mul_mkRat q.num r.num q.den r.den;rw[Rat.mkRat_self,Rat.mkRat_self]at e;obtain⟨h1,h2⟩:=qau (q.num*r.num) (q.den*r.den);rw[e];rw[Int.natAbs_mul]at h1;refine⟨Nat.lt_of_le_of_lt h1 ?_,Nat.lt_of_le_of_lt h2 ?_⟩
 ·rw[Nat.pow_add];exact Nat.mul_lt_mul'' h.1 k.1
 ·have h3:q.den*r.den<4294967296^(L+M):=by rw[Nat.pow_add];exact Nat.mul_lt_mul'' h.2 k.2
  have h4:0<q.den*r.den:=Nat.mul_pos q.den_pos r.den_pos;rw[Nat.max_eq_left h4];exact h3
theorem RL.add{q r:Rat}{L M:Nat}(h:RL q L)(k:RL r M):RL (q+r) (L+M+1):=by
 have e:=Rat.mkRat_add_mkRat q.num r.num q.den_nz r.den_nz;rw[Rat.mkRat_self,Rat.mkRat_self]at e;obtain⟨h1,h2⟩:=qau (q.num*r.den+r.num*q.den) (q.den*r.den);rw[e];have h3:q.den*r.den<4294967296^(L+M):=by rw[Nat.pow_add];exact Nat.mul_lt_mul'' h.2 k.2
 have h4:0<q.den*r.den:=Nat.mul_pos q.den_pos r.den_pos;have h5:q.num.natAbs*r.den<4294967296^(L+M):=by rw[Nat.pow_add];exact Nat.mul_lt_mul'' h.1 k.2
 have h6:r.num.natAbs*q.den<4294967296^(L+M):=by rw[Nat.add_comm L,Nat.pow_add];exact Nat.mul_lt_mul'' k.1 h.2
 have h7:=Int.natAbs_add_le (q.num*(r.den:Int)) (r.num*(q.den:Int));rw[Int.natAbs_mul,Int.natAbs_mul,Int.natAbs_natCast,Int.natAbs_natCast]at h7;refine⟨Nat.lt_of_le_of_lt h1 ?_,Nat.lt_of_le_of_lt h2 ?_⟩
 ·rw[Nat.pow_succ];omega
 ·rw[Nat.max_eq_left h4,Nat.pow_succ];omega
theorem RL.int{z:Int}{L:Nat}(h0:0<L)(h:z.natAbs<4294967296^L):RL (z:Rat) L:=by
 unfold RL;rw[Rat.num_intCast,Rat.den_intCast];exact⟨h,Nat.one_lt_pow (by omega) (by decide)⟩
theorem RL.zero{L:Nat}(h0:0<L):RL 0 L:=RL.int (z:=0) h0 (Nat.pow_pos (by decide))
theorem qlm(q r:Rat)(A:Option Addr)(c:Nat)(D:Option Addr)(cd:Nat)(A':Option Addr)(c':Nat)(D':Option Addr)(cd':Nat)(B:Nat)(w:World)(hB:B≤w.heap.size)(h:RIn w B q A c D cd)(h':RIn w B r A' c' D' cd'){L M:Nat}(s:RL q L)(s':RL r M)(hL:L≤150000)(hM:M≤150000):
 Calls Tryz.prog 96 #[rvl q A c D cd,rvl r A' c' D' cd'] w (qN (q+r) w):=by
 have:=qhc (decide (q.num<0)) (decide (r.num<0)) A c _ D cd _ A' c' _ D' cd' _ B w hB h.nm h.dn h'.nm h'.dn (Nat.le_trans s.n hL) (Nat.le_trans s.d hL) (Nat.le_trans s'.n hM) (Nat.le_trans s'.d hM);rw[qck,qck]at this;exact this
set_option maxHeartbeats 2000000
set_option maxRecDepth 100000
theorem qdD(ng:Bool)(A:Option Addr)(c:Nat)(ds:List Nat)(D:Option Addr)(cd:Nat)(es:List Nat)(B:Nat)(w:World)(hB:B≤w.heap.size)
 (h1:qh w B A c ds)(h2:qh w B D cd es)(l1:ds.length≤400000)(l2:es.length≤399999):
 Calls Tryz.prog 79 #[.agg #[.bool ng,.slice A ds.length c,.slice D es.length cd]] w (qN (mkRat (qb ng ds) (val es)) w):=by
 obtain⟨hb0,k0,k1,hs⟩:=qK w 30 30 #[.bool ng,.slice A ds.length c,.slice D es.length cd] #[.bool false,.slice none 0 0,.slice none 0 0];have HP:=Lib.hid (zG ng A c B ds D cd es _ (Nat.le_trans hB hb0.size) (h1.below (hb0.mono hB)) (h2.below (hb0.mono hB)) (by omega));unfold jG at HP;have HFIN:=Lib.hid (fun(q:Rat)(hq:q=mkRat (qb ng ds) (val es))(w2:World)(A D:Option Addr)(c cd:Nat)(hk:qd w2 (w.heap.size+1) 30 #[.bool false,.slice none 0 0,.slice none 0 0]) l1 l2 n1 n2 hb=>qcL (q:=q) hq (w:=w) (w2:=w2) (g:=w.heap.size+1) (A:=A) (D:=D) (c:=c) (cd:=cd) hk (Nat.le_succ _) l1 l2 n1 n2 hb);have HB0:=Lib.hid hb0;have HK1:=Lib.hid k1;have HL:=Lib.hid (And.intro l1 l2);generalize qN (mkRat (qb ng ds) (val es)) w=Post at*;generalize mkRat (qb ng ds) (val es)=Q at*;clear h1 h2 l1 l2 hb0 k0 k1 hs hB;generalize ds.length=n0 at*;generalize es.length=m0 at*;go_enter Tryz.func79,Tryz.ntmps79
 go_wp2_with fail
 generalize (w.alloc (.cells #[.bool ng,.slice A n0 c,.slice D m0 cd] 30)).alloc (.cells #[.bool false,.slice none 0 0,.slice none 0 0] 30)=W0 at*;refine HP.out.mono ?_;rintro e w1 ⟨n1,ds1,es1,A1,c1,D1,d1,rfl,i1,i2,v1,r1,l1,l2,hb1⟩;have HR:=Lib.hid (qai n1 A1 c1 w1.heap.size ds1 D1 d1 es1 w1 (Nat.le_refl _) i1 i2 (by have:=HL.out;omega) (by have:=HL.out;omega) v1);rw[r1]at HR;unfold qN at HR;have HB1:=Lib.hid (HB0.out.trans (hb1.mono HB0.out.size));have HJ1:=Lib.hid (HK1.out.old hb1);clear i1 i2 v1 r1 l1 l2 hb1 HP HK1 HB0;generalize ds1.length=x1 at*;generalize es1.length=y1 at*;go_wp2_with fail
 refine HR.out.mono ?_;rintro e w2 ⟨A2,c2,D2,d2,rfl,l1,l2,n2,n3,hb2⟩;have kk:=HJ1.out.old hb2;have u0:w2.cell? ⟨w.heap.size+1,0,none⟩=some (.bool false):=kk.cell 0;have u1:w2.cell? ⟨w.heap.size+1,1,none⟩=some (.slice none 0 0):=kk.cell 1;have u2:w2.cell? ⟨w.heap.size+1,2,none⟩=some (.slice none 0 0):=kk.cell 2;have f0:=kk.frozen 0;have f1:=kk.frozen 1;have f2:=kk.frozen 2;have z0:=kk.lt;have HF:=Lib.hid (HFIN.out Q rfl w2 A2 D2 c2 d2 kk l1 l2 n2 n3 (HB1.out.trans (hb2.mono HB1.out.size)));clear kk hb2 l1 l2 n2 n3 HFIN;go_wp2_with fail
 exact qg Tryz.results79 rfl rfl HF.out.1 Tryz.underlying30 rfl Tryz.sizeRat HF.out.2
end Go.Proofs.YtflikmojaidhhaaGreat
namespace Go.Proofs.YtflikmojaidhhaaGreat
theorem MB.add{E E':Int}{a b:Mo}(h:MB E a)(k:MB E' b):MB (E+E') (qlR a b):=by
 unfold MB qlR at*;simp only;omega
end Go.Proofs.YtflikmojaidhhaaGreat
namespace Go.Proofs.YtflikmojaidhhaaGreat
open Go.RowKit
def qfy(F G:Mo→Int)(w:World)(e:Ending)(w':World):Prop:=∃b:Bool,(b=true↔∀m,F m=G m)∧e= .returned (.bool b)∧Below w.heap.size w w'
theorem qfy.no{F G:Mo→Int}{w:World}{e:Ending}{w':World}(h:qfy F G w e w'){m:Mo}(hFG:F m≠G m):e= .returned (.bool false)∧Below w.heap.size w w':=by
 obtain⟨b,hb,he,hw⟩:=h
 cases b with
 |true=>exact absurd (hb.1 rfl m) hFG
 |false=>exact⟨he,hw⟩
attribute [local go_sem ↓] Go.wp_at_zero Go.wp_at_succ
theorem yD.one{X:World}{base:Nat}(hb:base≤X.heap.size)(z:Int)(hz:z≠0)(A:Option Addr)(c:Nat)(m:Mo)(hv:yH m=true)(E:Int)(hE:MB E m)(hn:qk X A (dig z.natAbs))(hc:(dig z.natAbs).length≤c)(o:Array Value)(ho:o=(ZR z A c m).cells.toArray):
 yD (X.alloc (.cells o 137)) base (.slice (some ⟨X.heap.size,0,none⟩) 1 1) [ZR z A c m] (Go.Proofs.YtflikmojaidhhaaGreat.cf [(z,m)]) 1 E z.natAbs:=by
 subst ho;have hba:Below X.heap.size X (X.alloc (.cells (ZR z A c m).cells.toArray 137)):=(Below.refl _ X).alloc (Nat.le_refl _) _;refine⟨⟨⟨by simp[PT.cells],.inr ⟨X.heap.size,1,(ZR z A c m).cells.toArray,rfl,hb,qd.new X _ _,Nat.le_refl _,by decide,rfl,by simp[PT.cells]⟩⟩,fun p hp=>?_,fun p hp=>?_⟩,⟨fun t ht=>?_,fun t ht=>?_,by simp⟩,fun x=>?_,by simp,fun p hp=>?_,?_⟩
 ·simp at hp;subst hp;exact⟨hn.old hba,hc⟩
 ·simp at hp;subst hp;exact qaA _ _ _ _
 ·simp[yT]at ht;subst ht;exact hz
 ·simp[yT]at ht;subst ht;exact hv
 ·simp[yT]
 ·simp at hp;subst hp;exact hE
 ·simp[yT,nrm]
theorem yD.none(w:World)(base:Nat)(F:Mo→Int)(hF:∀m,F m=0)(N:Nat)(E:Int)(M:Nat):yD w base (.slice none 0 0) [] F N E M:=
 ⟨jW.nil w base,qI.nil,fun m=>by rw[hF];rfl,Nat.zero_le _,fun _ h=>by simp at h,Nat.zero_le _⟩
end Go.Proofs.YtflikmojaidhhaaGreat
namespace Go.Proofs.YtflikmojaidhhaaGreat
open Go.RowKit Go.Shelf
attribute [local go_sem] Oper.semAt_some
def qiu(F:Mo→Int)(N:Nat)(E:Int)(M:Nat)(w:World)(e:Ending)(w':World):Prop:=
 ∃b A c ps,e= .returned (.func (.func 156) #[] #[.pointer (some ⟨b,0,none⟩)])∧qd w' b 109 #[.slice A ps.length c]∧w.heap.size≤b∧yD w' w.heap.size (.slice A ps.length c) ps F N E M∧Below w.heap.size w w'
set_option maxHeartbeats 1000000
theorem qgN(A:Option Addr)(c B N:Nat)(E:Int)(M:Nat)(ps:List PT)(w:World)(hB:B≤w.heap.size)(h:PIn w B A ps N E M)(hN:N≤50000)(hM:M<Big):
 Calls Tryz.prog 141 #[.slice A ps.length c] w (qiu (cf (ps.map PT.tm)) N E M w):=by
 have HN:=Lib.hid (yZ A c B N E M ps w hB h hN hM);clear h;go_enter Tryz.func141,Tryz.ntmps141
 go_wp2_with fail
 refine HN.out.mono ?_;rintro e w1 ⟨A1,c1,qs,rfl,hg,hb⟩;have HG:=Lib.hid hg;clear hg;go_wp2_with fail
 go_ret
 have hba:=(Below.refl w1.heap.size w1).alloc (Nat.le_refl _) (.cells #[.slice A1 qs.length c1] 109);exact⟨_,A1,c1,qs,rfl,qd.new w1 _ _,hb.size,HG.out.old hba,hb.alloc hb.size _⟩
def qh5(x:PT):Array Value:=#[.agg (Jo x.m),.agg #[.bool x.ng,.slice x.A x.ds.length x.c]]
def KT(Bs base:Nat)(v:Value)(ps:List PT)(W W':World):Prop:=(jW W base v ps→jW W' base v ps)∧(qd W Bs 109 #[v]→qd W' Bs 109 #[v])∧W.heap.size≤W'.heap.size
theorem KT.trans{Bs base:Nat}{v:Value}{ps:List PT}{A B C:World}(h:KT Bs base v ps A B)(k:KT Bs base v ps B C):KT Bs base v ps A C:=⟨fun x=>k.1 (h.1 x),fun x=>k.2.1 (h.2.1 x),Nat.le_trans h.2.2 k.2.2⟩
theorem KT.old{Bs base:Nat}{v:Value}{ps:List PT}{W W':World}(h:Below W.heap.size W W'):KT Bs base v ps W W':=⟨fun x=>x.old h,fun x=>x.old h,h.size⟩
theorem jW.keep{W W':World}{base:Nat}{v:Value}{ps:List PT}(h:jW W base v ps)(hk:∀g t cs,qd W g t cs→(t=137∨t=134)→qd W' g t cs):jW W' base v ps:=by
 refine⟨⟨h.row.1,h.row.2.imp id ?_⟩,fun p hp=>⟨(h.dg p hp).1.keep fun g cs hb=>hk g _ cs hb (.inr rfl),(h.dg p hp).2⟩,h.cn⟩;rintro⟨g,cap,cur,h1,h2,h3,h4⟩;exact⟨g,cap,cur,h1,h2,hk g _ cur h3 (.inl rfl),h4⟩
theorem qd.ne_t{W:World}{g g':Nat}{t t':TypeId}{cs cs':Array Value}(h:qd W g t cs)(h':qd W g' t' cs')(hne:t≠t'):g≠g':=by
 rintro rfl;unfold qd at h h';rw[h]at h'
 injection h' with h'
 injection h' with _ e
 exact hne e
theorem KT.set{Bs base:Nat}{v:Value}{ps:List PT}{W:World}{g o:Nat}{t:TypeId}{cs:Array Value}(hb:qd W g t cs)(h1:t≠137)(h2:t≠134)(h3:t≠109)(u:Value):KT Bs base v ps W (W.setCell ⟨g,o,none⟩ u):=
 ⟨fun x=>x.keep fun g' t' cs' hb' ht=>hb'.far (hb'.ne_t hb (by rcases ht with rfl|rfl<;>exact fun e=>by first|exact h1 e.symm|exact h2 e.symm)) u,fun x=>x.far (x.ne_t hb (Ne.symm h3)) u,by simp⟩
theorem KT.put{Bs base:Nat}{v:Value}{ps:List PT}{W:World}{l:Nat}{o:Obj}(o':Obj)(hl:W.heap[l]? =some o)(ho:o.isCells=false):KT Bs base v ps W (W.putObj l o'):=by
 have hk:∀g t cs,qd W g t cs→qd (W.putObj l o') g t cs:=fun g t cs hb=>by
  have hne:g≠l:=by
   rintro rfl;unfold qd at hb;rw[hb]at hl
   injection hl with hl
   subst hl
   cases ho
  exact(World.putObj_heap_other hne).trans hb
 exact⟨fun x=>x.keep fun g t cs hb _=>hk g t cs hb,fun x=>hk _ _ _ x,by simp⟩
set_option maxRecDepth 100000
set_option maxHeartbeats 4000000
theorem qgH(n:Nat)(hn:1≤n)(l Bs base:Nat)(A:Option Addr)(c:Nat)(ps:List PT)(W0:World)(J Jx:List PT→World→Prop)(hJ:AbidesFrom W0.heap.size J)(hlen:ps.length≤100000)
 (hY:∀pre x W,J pre W→qh W W.heap.size x.A x.c x.ds→Cn x→x.ds.length≤1000→pre.map PT.tm++[x.tm]=(ps.take (pre.length+1)).map PT.tm→pre.length<ps.length→YieldAt Fence.wide (n-1) Tryz.prog l (qh5 x) W fun e W'=>
   (e= .returned (.bool true)∧J (pre++[x]) W'∧KT Bs base (.slice A ps.length c) ps W W')∨(e= .returned (.bool false)∧Jx (pre++[x]) W'))
 (hBs:qd W0 Bs 109 #[.slice A ps.length c])(hin:jW W0 base (.slice A ps.length c) ps)(hdl:∀p∈ps,p.ds.length≤1000)(h0:J [] W0):
 CallsIn Fence.wide n Tryz.prog 156 #[.func (.yield l) #[] #[],.pointer (some ⟨Bs,0,none⟩)] W0 fun e W'=>(∃v,e= .returned v)∧
  ((∃ys,ys.map PT.tm=ps.map PT.tm∧J ys W')∨(∃pre,(∃k,pre.map PT.tm=(ps.take k).map PT.tm)∧Jx pre W')):=by
 refine callsIn_of_wp Tryz.func156 rfl trivial ?_ rfl;simp only[Tryz.ntmps156,List.size_toArray,List.length_cons,List.length_nil,Nat.reduceAdd,Nat.reduceSub,Array.replicate_succ,Array.replicate_zero,List.push_toArray,List.append_toArray,List.nil_append,List.cons_append];have hBc:W0.cell? ⟨Bs,0,none⟩=some (.slice A ps.length c):=hBs.cell 0
 gi_wp2
 gi_loopw [4,7] (fun _ i wr=>∃(k:Nat)(pre:List PT),k≤ps.length∧i= .int .i64 k∧pre.length=k∧pre.map PT.tm=(ps.take k).map PT.tm∧J pre wr∧jW wr base (.slice A ps.length c) ps∧W0.heap.size≤wr.heap.size) (fun _ i _=>ps.length-(intOf i).toNat)
 case atStart=>exact⟨0,[],Nat.zero_le _,rfl,rfl,rfl,h0,hin,Nat.le_refl _⟩
 case round=>
  obtain⟨k,pre,hk,rfl,hpl,hpt,hJs,hown,hwl⟩:=hrel;by_cases hlt:k<ps.length
  ·obtain⟨p,hp⟩:∃p,ps[k]? =some p:=⟨_,List.getElem?_eq_getElem hlt⟩;have hpm:=List.mem_of_getElem? hp;obtain⟨b,o,rfl,hbb,d0,d1,d2,d3,d4,d5⟩:=hown.polyIn.at_ hp;have i1:(k:Int)<(ps.length:Int):=by omega
   have i0:(0:Int)≤(k:Int):=by omega
   have HIN:=Lib.hid (hown.nin hpm);have HP:=Lib.hid hp;have HPL:=Lib.hid hpl;have HPT:=Lib.hid hpt;have HC:=Lib.hid hown.cn;have HD:=Lib.hid hdl;clear hp hpl hpt hdl;have hbk:=(Below.refl wr.heap.size wr).alloc (Nat.le_refl _) (.cells p.cells.toArray 137);have HK:=Lib.hid (qd.new wr 137 p.cells.toArray);have HNN:=Lib.hid (fun(W:World)(hW:Below wr.heap.size wr W)=>jH p.ng p.A p.c wr.heap.size p.ds W hW.size (HIN.out.below hW) (by have:=HD.out p (List.mem_of_getElem? HP.out);omega));have HYY:=Lib.hid (fun(W3:World)(A3:Option Addr)(c3:Nat)(hW:Below wr.heap.size wr W3)(h4:qk W3 A3 (dig (qb p.ng p.ds).natAbs))(h3:(dig (qb p.ng p.ds).natAbs).length≤c3)=>
    show∃fn tmps assign body,(Instr.yield l #[.agg #[.int .i64 p.m.1,.int .i64 p.m.2.1,.int .i64 p.m.2.2.1,.int .i64 p.m.2.2.2],.agg #[.bool (decide (qb p.ng p.ds<0)),.slice A3 (dig (qb p.ng p.ds).natAbs).length c3]]).run Tryz.prog W3= .ok (.round l fn tmps assign body) W3∧
     RoundIn Fence.wide (n-1) Tryz.prog l fn tmps assign body W3 (fun e W'=>∃bb:Bool,e= .returned (.bool bb)∧((bb=true∧J (pre++[ZR (qb p.ng p.ds) A3 c3 p.m]) W'∧KT Bs base (.slice (some ⟨b,o,none⟩) ps.length c) ps W3 W')∨(bb=false∧Jx (pre++[ZR (qb p.ng p.ds) A3 c3 p.m]) W')))by
     have hJ3:J pre W3:=hJ pre wr W3 none hJs ⟨hW.os,hW.tape,hW.output,hW.size,fun k hk _=>hW.block k hk⟩ (fun r e=>by cases e);have hpm':=List.mem_of_getElem? HP.out;have hdz:(dig (qb p.ng p.ds).natAbs).length≤1000:=by
      have h1:=(HC.out p hpm').ds;have h2:=HD.out p hpm';rw[h1]at h2;exact h2
     obtain⟨fn,tmps,assign,body,hy,hR⟩:=hY pre (ZR (qb p.ng p.ds) A3 c3 p.m) W3 hJ3 (qV h4 h3) (qaA _ _ _ _) hdz (by rw[yT,HPT.out,HPL.out,yG HP.out];rfl) (by rw[HPL.out];exact hlt);refine⟨fn,tmps,assign,body,hy,hR.mono ?_⟩;rintro e W' (⟨rfl,h1,h2⟩|⟨rfl,h1⟩)
     ·exact⟨true,rfl,.inl ⟨rfl,h1,h2⟩⟩
     ·exact⟨false,rfl,.inr ⟨rfl,h1⟩⟩)
   have HTM:=Lib.hid (show p.tm=(qb p.ng p.ds,p.m)from rfl);have hmix:Tryz.prog.follows .mixedOrders=true:=by kernel_rfl
   simp only[PT.cells]at HK hbk;unfold qy at HNN;generalize qb p.ng p.ds=zz at*
   gi_wp2
   have hk:=HK.out;generalize wr.alloc (.cells #[.bool p.ng,.slice p.A p.ds.length p.c,.int .i64 p.m.1,.int .i64 p.m.2.1,.int .i64 p.m.2.2.1,.int .i64 p.m.2.2.2] 137)=X at*;have c0:X.cell? ⟨wr.heap.size,0,none⟩=some (.bool p.ng):=hk.cell 0;have c1:X.cell? ⟨wr.heap.size,1,none⟩=some (.slice p.A p.ds.length p.c):=hk.cell 1;have c2:X.cell? ⟨wr.heap.size,2,none⟩=some (.int .i64 p.m.1):=hk.cell 2;have c3:X.cell? ⟨wr.heap.size,3,none⟩=some (.int .i64 p.m.2.1):=hk.cell 3;have c4:X.cell? ⟨wr.heap.size,4,none⟩=some (.int .i64 p.m.2.2.1):=hk.cell 4;have c5:X.cell? ⟨wr.heap.size,5,none⟩=some (.int .i64 p.m.2.2.2):=hk.cell 5;have lx:=hk.lt;have hbd:Below wr.heap.size wr X.drew:=hbk.trans ((qm.drew _).below _);clear d0 d1 d2 d3 d4 d5
   gi_region_with_o (first|(refine⟨trivial,?_⟩;gi_at_call 43;refine(callsIn_wide.2 (HNN.out _ hbd)).mono ?_;rintro e w3 ⟨A3,c3',rfl,h3,h4,h5⟩;obtain⟨fn,tmps,assign,body,hy,hR⟩:=HYY.out w3 A3 c3' (hbd.trans (h5.mono hbd.size)) h4 h3;have z2:=(h5.cell lx).trans c2;have z3:=(h5.cell lx).trans c3;have z4:=(h5.cell lx).trans c4;have z5:=(h5.cell lx).trans c5)|(refine hR.mono ?_;rintro e W4 ⟨bb,rfl,hcs⟩))
   all_goals
    have hb4:=hbd.trans (h5.mono hbd.size);clear c0 c1 c2 c3 c4 c5 z2 z3 z4 z5 hy hR;rcases hcs with⟨rfl,hJ3,hk3⟩|⟨rfl,hJx3⟩
    ·gi_wp2
     go_roundw
     case rel=>exact⟨k+1,pre++[ZR zz A3 c3' p.m],by omega,by simp,by simp[HPL.out],by rw[List.map_append,List.map_cons,List.map_nil,yT,HPT.out,yG HP.out,HTM.out],hJ3,hk3.1 (hown.old hb4),Nat.le_trans hwl (Nat.le_trans hb4.size hk3.2.2)⟩
     case measure=>simp[intOf];omega
    ·gi_wp2
     refine bodyPost_ret (results_none rfl _ _ _) rfl ?_;exact⟨⟨_,rfl⟩,.inr ⟨_,⟨k+1,by rw[List.map_append,List.map_cons,List.map_nil,yT,HPT.out,yG HP.out,HTM.out]⟩,hJx3⟩⟩
  ·obtain rfl:k=ps.length:=by omega
   rw[List.take_length]at hpt;have HPT:=Lib.hid hpt;clear hpt
   gi_wp2
   go_end0
   exact⟨⟨_,rfl⟩,.inl ⟨pre,HPT.out,hJs⟩⟩
end Go.Proofs.YtflikmojaidhhaaGreat
namespace Go.Proofs.YtflikmojaidhhaaGreat
open Go.RowKit
attribute [local go_sem ↓] Go.wp_at_zero Go.wp_at_succ
theorem qhf(v:Nat)(hv:v≠0):(dig v).getD ((dig v).length-1) 0≠0:=by
 induction v using Nat.strongRecOn with
 |_ v ih=>
  rw[JT hv];by_cases h:v/4294967296=0
  ·rw[h,qt];simp;omega
  ·have hl:0<(dig (v/4294967296)).length:=jw.2 (by omega);have e:(v%4294967296::dig (v/4294967296)).length-1=((dig (v/4294967296)).length-1)+1:=by simp;omega
   rw[e,List.getD_cons_succ];exact ih _ (by omega) h
end Go.Proofs.YtflikmojaidhhaaGreat
namespace Go.Proofs.YtflikmojaidhhaaGreat
open Go.RowKit
attribute [local go_sem ↓] Go.wp_at_zero Go.wp_at_succ
end Go.Proofs.YtflikmojaidhhaaGreat
namespace Go.Proofs.YtflikmojaidhhaaGreat
open Go.RowKit
attribute [local go_sem ↓] Go.wp_at_zero Go.wp_at_succ
end Go.Proofs.YtflikmojaidhhaaGreat
namespace Go.Proofs.YtflikmojaidhhaaGreat
open Go.RowKit
theorem jW.snoc{X w4:World}{base:Nat}{v v':Value}{al:List PT}{q:PT}(h:jW X base v al)(hb:base≤X.heap.size)(hq:qk X q.A q.ds)(hqc:q.ds.length≤q.c)(hqn:Cn q)(o:Obj)
 (hown:w4.ownsRow base 137 6 v' (al.length+1) (al.flatMap PT.cells++q.cells))(hg:(X.alloc o).grownBy w4 v.ownBlock):jW w4 base v' (al++[q])∧Below base X w4:=by
 have hba:Below X.heap.size X (X.alloc o):=(Below.refl _ X).alloc (Nat.le_refl _) o;have row1:=qQ h.row hba;have t:ja base X w4:=(ja.of_below hb hba).trans (.grown (Nat.le_trans hb hba.size) row1 hg);refine⟨⟨by rw[YD,List.length_append];exact hown,fun p hp=>?_,fun p hp=>?_⟩,t.below⟩
 ·rcases List.mem_append.1 hp with k|k
  ·exact⟨t.natB (h.dg p k).1,(h.dg p k).2⟩
  ·simp at k;subst k;exact⟨t.natB hq,hqc⟩
 ·rcases List.mem_append.1 hp with k|k
  ·exact h.cn p k
  ·simp at k;subst k;exact hqn
end Go.Proofs.YtflikmojaidhhaaGreat
namespace Go.Proofs.YtflikmojaidhhaaGreat
def zD(f:Mo→Rat):List Tm→Rat
 |[]=>0
 |t::l=>(if yH t.2=true then(t.1:Rat)*f t.2 else 0)+zD f l
theorem Zl(f:Mo→Rat)(p q:List Tm):zD f (p++q)=zD f p+zD f q:=by
 induction p with
 |nil=>simp only[List.nil_append,zD];grind
 |cons t l ih=>simp only[List.cons_append,zD,ih];grind
theorem qeC(f:Mo→Rat)(m:Mo)(l:List Tm):zD f l=f m*(cf l m:Rat)+zD f (l.filter fun t=> !decide (t.2=m)):=by
 induction l with
 |nil=>simp only[zD,Qg,List.filter_nil,Rat.intCast_zero];grind
 |cons t l ih=>
  rw[jh];by_cases h:t.2=m
  ·subst h;simp only[zD,List.filter_cons,decide_true,Bool.not_true,Bool.false_eq_true,if_false];rw[ih];by_cases hv:yH t.2=true
   ·simp only[hv,if_true,true_and,Rat.intCast_add]
    grind
   ·simp only[hv,false_and,if_false,Rat.intCast_add,Bool.false_eq_true,Rat.intCast_zero]
    grind
  ·simp only[zD,List.filter_cons,h,decide_false,Bool.not_false,if_true,and_false,if_false,Int.zero_add];rw[ih]
   grind
theorem qcn(f:Mo→Rat):∀(n:Nat)(l:List Tm),l.length≤n→(∀m,cf l m=0)→zD f l=0:=by
 intro n
 induction n with
 |zero=>
  intro l hl _;obtain rfl:l=[]:=List.eq_nil_of_length_eq_zero (by omega);rfl
 |succ n ih=>
  intro l hl hz
  match l,hl,hz with
  |[],_,_=>rfl
  |t::l,hl,hz=>
   rw[qeC f t.2 (t::l),hz,Rat.intCast_zero,Rat.mul_zero,Rat.zero_add];refine ih _ ?_ (fun m=>?_)
   ·simp only[List.filter_cons,decide_true,Bool.not_true,Bool.false_eq_true,if_false];have:=List.length_filter_le (fun s:Tm=> !decide (s.2=t.2)) l;simp only[List.length_cons]at hl;omega
   ·rw[qbF]
    split
    ·rfl
    ·exact hz m
theorem qiV(f:Mo→Rat)(l:List Tm):zD f (qgy l)=-zD f l:=by
 induction l with
 |nil=>rfl
 |cons t l ih=>
  have ih':zD f (l.map fun t=>(-t.1,t.2))=-zD f l:=ih;simp only[qgy,List.map_cons,zD,ih',Rat.intCast_neg];by_cases h:yH t.2=true
  ·simp only[h,if_true];grind
  ·simp only[h,Bool.false_eq_true,if_false];grind
theorem qh6{p q:List Tm}(h:∀m,cf p m=cf q m)(f:Mo→Rat):zD f p=zD f q:=by
 have h0:=qcn f _ (p++qgy q) (Nat.le_refl _) fun m=>by
  rw[yS,h m];unfold cf;rw[qcf];omega
 rw[Zl,qiV]at h0
 grind
def qa0(pt:Nat→Rat)(m:Mo):Rat:=pt 0^m.1.toNat*pt 1^m.2.1.toNat*pt 2^m.2.2.1.toNat*pt 3^m.2.2.2.toNat
def evL(pt:Nat→Rat)(l:List Tm):Rat:=zD (qa0 pt) l
theorem qch(pt:Nat→Rat):evL pt []=0:=rfl
theorem ZX(pt:Nat→Rat)(p q:List Tm):evL pt (p++q)=evL pt p+evL pt q:=Zl _ p q
theorem qcd{p q:List Tm}(h:∀m,cf p m=cf q m)(pt:Nat→Rat):evL pt p=evL pt q:=qh6 h _
theorem qin(pt:Nat→Rat)(l:List Tm)(t:Tm):evL pt (l++[t])=evL pt l+if yH t.2=true then(t.1:Rat)*qa0 pt t.2 else 0:=by
 rw[ZX];show _+(_+(0:Rat))=_;rw[Rat.add_zero]
theorem RL.one{L:Nat}(h0:0<L):RL 1 L:=RL.int (z:=1) h0 (Nat.one_lt_pow (by omega) (by decide))
end Go.Proofs.YtflikmojaidhhaaGreat
namespace Go.Proofs.YtflikmojaidhhaaGreat
open Go.RowKit
mutual
def vT(pt:Nat→Rat):RP→Rat
 | .mk l g ds ks=>if l≤0 then((qb g ds:Int):Rat)else if 4<l then 0 else vL pt (pt (l.toNat-1)) ks
def vL(pt:Nat→Rat)(x:Rat):List RP→Rat
 |[]=>0
 |t::ts=>vT pt t+x*vL pt x ts
end
theorem zI(pt:Nat→Rat)(t:RP):vT pt t=if t.lv≤0 then((qb t.ng t.ds:Int):Rat)else if 4<t.lv then 0 else vL pt (pt (t.lv.toNat-1)) t.ks:=by
 cases t
 rw[vT];rfl
def zH(x:(Bool×List Nat)×Mo):Tm:=(qb x.1.1 x.1.2,x.2)
theorem zL(t:RP):jY t=(ji t (0,0,0,0)).map zH:=rfl
theorem QA{i:Nat}(h:i<4):i=0∨i=1∨i=2∨i=3:=by omega
theorem JI(m:Mo){i:Nat}(h:i<4):Za m i=gt m i:=by
 rcases QA h with rfl|rfl|rfl|rfl<;>rfl
theorem jV(m:Mo)(e:Int){i k:Nat}(hi:i<4)(hk:k<4):gt (js m i e) k=if k=i then e else gt m k:=by
 rcases QA hi with rfl|rfl|rfl|rfl<;>rcases QA hk with rfl|rfl|rfl|rfl<;>rfl
theorem qlL{a b:Mo}(h:∀k,k<4→gt a k=gt b k):a=b:=by
 obtain⟨a0,a1,a2,a3⟩:=a;obtain⟨b0,b1,b2,b3⟩:=b;have h0:=h 0 (by omega);have h1:=h 1 (by omega);have h2:=h 2 (by omega);have h3:=h 3 (by omega);simp only[gt]at h0 h1 h2 h3;subst h0;subst h1;subst h2;subst h3;rfl
theorem qbi(m:Mo){i:Nat}(hi:i<4):js m i (gt m i)=m:=
 qlL fun k hk=>by
  rw[jV m _ hi hk]
  split
  ·rename_i h;rw[h]
  ·rfl
theorem ZY{m:Mo}:yH m=true↔∀k,k<4→0≤gt m k:=by
 rw[ZF];constructor
 ·intro h k hk;rcases QA hk with rfl|rfl|rfl|rfl<;>(simp only[gt];omega)
 ·intro h;exact⟨h 0 (by omega),h 1 (by omega),h 2 (by omega),h 3 (by omega)⟩
theorem qaf{m:Mo}(h:yH m=true){i:Nat}(hi:i<4){e:Int}(he:0≤e):yH (js m i e)=true:=by
 rw[ZY]at h ⊢;intro k hk;rw[jV m e hi hk]
 split
 ·exact he
 ·exact h k hk
theorem qgo(pt:Nat→Rat)(m:Mo){i:Nat}(hi:i<4){e:Int}(he:0≤e):qa0 pt (js m i (e+1))=qa0 pt (js m i e)*pt i:=by
 have h:(e+1).toNat=e.toNat+1:=by omega
 rcases QA hi with rfl|rfl|rfl|rfl<;>(unfold qa0 js;simp only[h,Rat.pow_succ];grind)
mutual
theorem qdJ(pt:Nat→Rat):∀(t:RP)(m:Mo),yH m=true→evL pt ((ji t m).map zH)=qa0 pt m*vT pt t
 | .mk l g ds ks,m,hm=>by
   simp only[ji,vT]
   split
   ·show evL pt [(qb g ds,m)]=_;have:=qin pt [] (qb g ds,m);rw[List.nil_append,qch,if_pos hm]at this;rw[this]
    grind
   ·split
    ·rw[List.map_nil,qch,Rat.mul_zero]
    ·obtain⟨i,hi,hl⟩:∃i,i<4∧l.toNat-1=i:=⟨_,by omega,rfl⟩;rw[hl,qeb pt hi ks m (Za m i) hm (by rw[JI m hi];exact ZY.1 hm i hi),JI m hi,qbi m hi]
theorem qeb(pt:Nat→Rat){i:Nat}(hi:i<4):∀(ts:List RP)(m:Mo)(e:Int),yH m=true→0≤e→evL pt ((qX i ts m e).map zH)=qa0 pt (js m i e)*vL pt (pt i) ts
 |[],m,e,_,_=>by
  simp only[qX,vL,List.map_nil];rw[qch,Rat.mul_zero]
 |t::ts,m,e,hm,he=>by
  simp only[qX,vL,List.map_append];rw[ZX,qdJ pt t (js m i e) (qaf hm hi he),qeb pt hi ts m (e+1) hm (by omega),qgo pt m hi he]
  grind
end
theorem qiO(pt:Nat→Rat):qa0 pt (0,0,0,0)=1:=by
 unfold qa0;simp
theorem ZB(pt:Nat→Rat)(t:RP):evL pt (jY t)=vT pt t:=by
 rw[zL,qdJ pt t _ (by decide),qiO]
 grind
theorem qlV{t u:RP}(h:∀m,cf (jY t) m=cf (jY u) m)(pt:Nat→Rat):vT pt t=vT pt u:=by
 rw[←ZB,←ZB];exact qcd h pt
def ZW:Nat→Mo→Mo→Prop
 |0,_,_=>False
 |L+1,a,b=>gt b L<gt a L∨(gt b L=gt a L∧ZW L a b)
theorem qfD{L:Nat}{a b:Mo}(h:ZW (L+1) a b):gt b L≤gt a L:=by
 rcases h with h|⟨h,_⟩<;>omega
theorem qjY{L:Nat}{a b:Mo}(h:ZW (L+1) a b)(e:gt b L=gt a L):ZW L a b:=by
 rcases h with h|⟨_,h⟩
 ·omega
 ·exact h
theorem qe3{a b:Mo}(h:Ze b a):ZW 4 a b:=by
 simp only[ZW,gt];unfold Ze at h;omega
def zA(L:Nat)(l:List Tm):Prop:=l.Pairwise fun s t=>ZW L s.2 t.2
theorem qI.sdesc{l:List Tm}(h:qI l):zA 4 l:=h.so.imp fun h=>qe3 h
theorem zA.sub{L:Nat}{l m:List Tm}(h:zA L l)(hs:m.Sublist l):zA L m:=List.Pairwise.sublist hs h
theorem zA.down{L:Nat}{l:List Tm}(h:zA (L+1) l){e:Int}(he:∀t∈l,gt t.2 L=e):zA L l:=
 List.Pairwise.imp_of_mem (fun hs ht h=>qjY h ((he _ ht).trans (he _ hs).symm)) h
theorem zA.head{L:Nat}{t s:Tm}{r:List Tm}(h:zA (L+1) (t::r))(hs:s∈t::r):gt s.2 L≤gt t.2 L:=by
 rcases List.mem_cons.1 hs with rfl|hs
 ·exact Int.le_refl _
 ·exact qfD ((List.pairwise_cons.1 h).1 s hs)
theorem zA.cut{L:Nat}{t:Tm}{r:List Tm}(h:zA (L+1) (t::r)):
 (∀s∈(t::r).takeWhile (fun s=>decide (gt s.2 L=gt t.2 L)),gt s.2 L=gt t.2 L)∧(∀s∈(t::r).dropWhile (fun s=>decide (gt s.2 L=gt t.2 L)),gt s.2 L<gt t.2 L):=by
 refine⟨fun s hs=>?_,fun s hs=>?_⟩
 ·have:=List.all_takeWhile (p:=fun s:Tm=>decide (gt s.2 L=gt t.2 L)) (l:=t::r);rw[List.all_eq_true]at this;simpa using this s hs
 ·have hsub:=h.sub (List.dropWhile_sublist (fun s:Tm=>decide (gt s.2 L=gt t.2 L)));have hne:=List.head?_dropWhile_not (fun s:Tm=>decide (gt s.2 L=gt t.2 L)) (t::r);have hmem:∀x∈(t::r).dropWhile (fun s:Tm=>decide (gt s.2 L=gt t.2 L)),x∈t::r:=fun x hx=>(List.dropWhile_sublist _).subset hx;generalize (t::r).dropWhile (fun s:Tm=>decide (gt s.2 L=gt t.2 L))=d at*
  cases d with
  |nil=>cases hs
  |cons u d=>
   have h1:=hne;simp at h1;have h2:=h.head (hmem u List.mem_cons_self);have h3:=hsub.head hs;omega
theorem qdo(f:Mo→Int)(i:Nat):∀(ks:List RP)(m:Mo)(e:Int)(j:Nat)(u:RP),ks[j]? =some qa→
 yr f ((qX i (ks.set j u) m e).map zH)=yr f ((qX i ks m e).map zH)+yr f ((ji u (js m i (e+j))).map zH)
 |[],_,_,_,_,h=>by simp at h
 |k::ks,m,e,0,u,h=>by
  simp at h;subst h;simp only[List.set_cons_zero,qX,List.map_append,yU];have:yr f ((ji qa (js m i e)).map zH)=0:=by
   unfold qa;simp only[ji];rw[if_pos (by omega)];show(if _ then(0:Int)*_ else 0)+0=0;simp
  rw[this];simp;omega
 |k::ks,m,e,j+1,u,h=>by
  have:=qdo f i ks m (e+1) j u (by simpa using h);simp only[List.set_cons_succ,qX,List.map_append,yU];rw[this,show e+1+(j:Int)=e+((j+1:Nat):Int)by omega];omega
theorem qbc(F:List Tm→RP)(i:Nat):∀(n:Nat)(ts:List Tm)(ks:List RP)(j:Nat),(∀t∈ts,(gt t.2 i).toNat≠j)→(jA F i n ts ks)[j]? =ks[j]?
 |0,_,_,_,_=>rfl
 |_+1,[],_,_,_=>rfl
 |n+1,t::r,ks,j,h=>by
  rw[jA,qbc F i n _ _ j (fun s hs=>h s ((List.dropWhile_sublist _).subset hs)),List.getElem?_set_ne (h t List.mem_cons_self)]
def mxM:Nat→Mo→Mo→Mo
 |0,_,m=>m
 |L+1,a,m=>mxM L a (js m L (gt a L))
theorem qdw(f:Mo→Int){L:Nat}(hL:L<4){F:List Tm→RP}{m:Mo}(hF:∀(ts:List Tm)(e:Int),0≤e→zA L ts→(∀t∈ts,yH t.2=true)→yr f ((ji (F ts) (js m L e)).map zH)=yr (fun a=>f (mxM L a (js m L e))) ts):
 ∀(n:Nat)(ts:List Tm)(ks:List RP),ts.length≤n→zA (L+1) ts→(∀t∈ts,yH t.2=true)→(∀t∈ts,ks[(gt t.2 L).toNat]? =some qa)→
  yr f ((qX L (jA F L n ts ks) m 0).map zH)=yr f ((qX L ks m 0).map zH)+yr (fun a=>f (mxM (L+1) a m)) ts
 |0,ts,ks,hn,_,_,_=>by
  obtain rfl:ts=[]:=List.eq_nil_of_length_eq_zero (by omega);rw[jA];simp[yr]
 |n+1,[],ks,_,_,_,_=>by
  rw[jA];simp[yr]
 |n+1,t::r,ks,hn,hs,hv,hk=>by
  rw[jA];obtain⟨c1,c2⟩:=hs.cut;have hsp:=List.takeWhile_append_dropWhile (p:=fun s:Tm=>decide (gt s.2 L=gt t.2 L)) (l:=t::r);have hmt:∀s∈(t::r).takeWhile (fun s:Tm=>decide (gt s.2 L=gt t.2 L)),s∈t::r:=fun s h=>(List.takeWhile_sublist _).subset h;have hmd:∀s∈(t::r).dropWhile (fun s:Tm=>decide (gt s.2 L=gt t.2 L)),s∈t::r:=fun s h=>(List.dropWhile_sublist _).subset h;have hst:=hs.sub (List.takeWhile_sublist (fun s:Tm=>decide (gt s.2 L=gt t.2 L)));have hsd:=hs.sub (List.dropWhile_sublist (fun s:Tm=>decide (gt s.2 L=gt t.2 L)));have hdl:((t::r).dropWhile (fun s:Tm=>decide (gt s.2 L=gt t.2 L))).length≤n:=by
   have h1:t∈(t::r).takeWhile (fun s:Tm=>decide (gt s.2 L=gt t.2 L)):=by simp
   have h2:=congrArg List.length hsp;rw[List.length_append]at h2;have h3:=List.length_pos_of_mem h1;omega
  have h0:0≤gt t.2 L:=ZY.1 (hv t List.mem_cons_self) L hL;generalize (t::r).takeWhile (fun s:Tm=>decide (gt s.2 L=gt t.2 L))=ru at*;generalize (t::r).dropWhile (fun s:Tm=>decide (gt s.2 L=gt t.2 L))=re at*;rw[qdw f hL hF n re _ hdl hsd (fun s h=>hv s (hmd s h)) (fun s h=>by
   have h1:=c2 s h;have h2:=ZY.1 (hv s (hmd s h)) L hL;rw[List.getElem?_set_ne (by omega)];exact hk s (hmd s h)),qdo f L ks m 0 _ _ (hk t List.mem_cons_self)]
  rw[show(0:Int)+((gt t.2 L).toNat:Int)=gt t.2 L by omega,hF ru _ h0 (hst.down c1) (fun s h=>hv s (hmt s h))];have e:yr (fun a=>f (mxM L a (js m L (gt t.2 L)))) ru=yr (fun a=>f (mxM (L+1) a m)) ru:=qbH fun s h _=>by
   show _=f (mxM L s.2 (js m L (gt s.2 L)));rw[c1 s h]
  rw[e,←hsp,yU];omega
theorem qbb(f:Mo→Int)(i:Nat):∀(n:Nat)(m:Mo)(e:Int),yr f ((qX i (List.replicate n qa) m e).map zH)=0
 |0,_,_=>by simp[qX,yr]
 |n+1,m,e=>by
  simp only[List.replicate_succ,qX,List.map_append,yU];rw[qbb f i n m (e+1)];unfold qa;simp only[ji];rw[if_pos (by omega)];show((if _ then(0:Int)*_ else 0)+0)+0=0;simp
theorem qbZ(f:Mo→Int):∀(L:Nat),L≤4→∀(ts:List Tm)(m:Mo),zA L ts→(∀t∈ts,yH t.2=true)→yH m=true→(∀j,j<L→gt m j=0)→
 yr f ((ji (qO L ts) m).map zH)=yr (fun a=>f (mxM L a m)) ts
 |L,_,[],m,_,_,_,_=>by
  rw[yC];unfold qa;simp only[ji];rw[if_pos (by omega)];show(if _ then(0:Int)*_ else 0)+0=0;simp
 |0,_,t::r,m,hs,hv,hm,_=>by
  have hr:r=[]:=by
   cases r with
   |nil=>rfl
   |cons s r=>exact absurd ((List.pairwise_cons.1 hs).1 s List.mem_cons_self) (fun h=>h)
  subst hr;rw[qO];unfold ju;simp only[ji];rw[if_pos (by omega)];have hvt:=hv t List.mem_cons_self;show(if yH m=true then qb (decide (t.1<0)) (dig t.1.natAbs)*f m else 0)+0=(if yH t.2=true then t.1*f m else 0)+0;rw[q7,if_pos hm,if_pos hvt]
 |L+1,hL,t::r,m,hs,hv,hm,hz=>by
  rw[qO];by_cases h0:gt t.2 L=0
  ·rw[if_pos h0];have he:∀s∈t::r,gt s.2 L=0:=fun s h=>by
    have h1:=hs.head h;have h2:=ZY.1 (hv s h) L (by omega);omega
   rw[qbZ f L (by omega) (t::r) m (hs.down he) hv hm (fun j hj=>hz j (by omega))];refine qbH fun s h _=>?_;show _=f (mxM L s.2 (js m L (gt s.2 L)));rw[he s h,←hz L (by omega),qbi m (by omega)]
  ·rw[if_neg h0];have hgt:0≤gt t.2 L:=ZY.1 (hv t List.mem_cons_self) L (by omega);simp only[ji];rw[if_neg (by omega),if_neg (by omega),show((L:Int)+1).toNat-1=L by omega,JI m (by omega:L<4),hz L (by omega)];rw[qdw f (by omega) (m:=m) (fun ts e he hs' hv'=>qbZ f L (by omega) ts (js m L e) hs' hv' (qaf hm (by omega) he) (fun j hj=>by
    rw[jV m e (by omega) (by omega),if_neg (by omega)];exact hz j (by omega))) _ _ _ (Nat.le_refl _) hs hv (fun s h=>by
     have h1:=hs.head h;have h2:=ZY.1 (hv s h) L (by omega);rw[List.getElem?_replicate,if_pos (by omega)]),qbb,Int.zero_add]
theorem qhr{P:List Tm}(h:qI P)(m:Mo):cf (jY (qO 4 P)) m=cf P m:=by
 rw[zL];unfold cf;rw[qbZ _ 4 (by omega) P (0,0,0,0) h.sdesc h.vl (by decide) (fun j hj=>by rcases QA hj with rfl|rfl|rfl|rfl<;>rfl)];rfl
theorem qcS{z:Int}(hz:z≠0):YB (decide (z<0)) (dig z.natAbs)=true:=by
 unfold YB;have h:(dig z.natAbs).length≠0:=fun e=>by rw[Js]at e;omega
 rw[if_neg h];exact decide_eq_true (qhf _ (by omega))
theorem Qx:∀(L:Nat),L≤4→∀(ts:List Tm),zA L ts→(∀t∈ts,yH t.2=true)→(∀t∈ts,t.1≠0)→
 qj (qO L ts)=true∧(qO L ts).lv≤L∧(ts≠[]→qW (qO L ts)=false)
 |L,_,[],_,_,_=>by
  rw[yC];refine⟨by decide,by show(0:Int)≤L;omega,fun h=>absurd rfl h⟩
 |0,_,t::r,_,_,hz=>by
  rw[qO];have h:=hz t List.mem_cons_self;refine⟨?_,Int.le_refl _,fun _=>?_⟩
  ·unfold ju;rw[qj,if_pos rfl,if_neg (by simp)];exact qcS h
  ·unfold ju qW;have h:(dig t.1.natAbs).length≠0:=fun e=>by rw[Js]at e;omega
   simp only[RP.lv,RP.ds,h,decide_false,Bool.and_false]
 |L+1,hL,t::r,hs,hv,hz=>by
  rw[qO];by_cases h0:gt t.2 L=0
  ·rw[if_pos h0];have he:∀s∈t::r,gt s.2 L=0:=fun s h=>by
    have h1:=hs.head h;have h2:=ZY.1 (hv s h) L (by omega);omega
   obtain⟨a,b,c⟩:=Qx L (by omega) (t::r) (hs.down he) hv hz;exact⟨a,by omega,c⟩
  ·rw[if_neg h0];have hgt:0≤gt t.2 L:=ZY.1 (hv t List.mem_cons_self) L (by omega);have hrun:∀(n:Nat)(ts:List Tm)(ks:List RP),zA (L+1) ts→(∀s∈ts,yH s.2=true∧s.1≠0)→(∀k∈ks,qj k=true∧k.lv≤(L:Int))→∀k∈jA (qO L) L n ts ks,qj k=true∧k.lv≤(L:Int):=by
    intro n
    induction n with
    |zero=>intro ts ks _ _ h;rw[jA];exact h
    |succ n ih=>
     intro ts ks hs hvz h
     cases ts with
     |nil=>rw[jA];exact h
     |cons t r=>
      rw[jA];obtain⟨c1,_⟩:=hs.cut;refine ih _ _ (hs.sub (List.dropWhile_sublist _)) (fun s h=>hvz s ((List.dropWhile_sublist _).subset h)) (fun k hk=>?_);rcases List.mem_or_eq_of_mem_set hk with hk|rfl
      ·exact h k hk
      ·obtain⟨a,b,_⟩:=Qx L (by omega) _ ((hs.sub (List.takeWhile_sublist _)).down c1) (fun s h=>(hvz s ((List.takeWhile_sublist _).subset h)).1) (fun s h=>(hvz s ((List.takeWhile_sublist _).subset h)).2);exact⟨a,b⟩
   have hall:=hrun (t::r).length (t::r) (List.replicate ((gt t.2 L).toNat+1) qa) hs (fun s h=>⟨hv s h,hz s h⟩) (fun k hk=>by
    rw[(List.mem_replicate.1 hk).2];exact⟨by decide,by show(0:Int)≤L;omega⟩)
   have hlen:(jA (qO L) L (t::r).length (t::r) (List.replicate ((gt t.2 L).toNat+1) qa)).length=(gt t.2 L).toNat+1:=by rw[Qn,List.length_replicate]
   have hlast:∃u,(jA (qO L) L (t::r).length (t::r) (List.replicate ((gt t.2 L).toNat+1) qa))[(gt t.2 L).toNat]? =some u∧qW u=false:=by
    rw[List.length_cons,jA];obtain⟨c1,c2⟩:=hs.cut;refine⟨_,(qbc _ _ _ _ _ _ (fun s h=>?_)).trans (List.getElem?_set_self (by rw[List.length_replicate];omega)),?_⟩
    ·have h1:=c2 s h;have h2:=ZY.1 (hv s ((List.dropWhile_sublist _).subset h)) L (by omega);omega
    ·refine(Qx L (by omega) _ ((hs.sub (List.takeWhile_sublist _)).down c1) (fun s h=>hv s ((List.takeWhile_sublist _).subset h)) (fun s h=>hz s ((List.takeWhile_sublist _).subset h))).2.2 ?_;simp
   generalize jA (qO L) L (t::r).length (t::r) (List.replicate ((gt t.2 L).toNat+1) qa)=ks at*;have hcl:∀l:List RP,(∀k∈l,qj k=true∧k.lv≤(L:Int))→zV ((L:Int)+1) l=true:=by
    intro l
    induction l with
    |nil=>intro _;rw[zV]
    |cons k l ih=>
     intro h;have h1:=h k List.mem_cons_self;rw[zV,ih fun x hx=>h x (List.mem_cons_of_mem _ hx),h1.1,decide_eq_true (by omega)];rfl
   refine⟨?_,by show(L:Int)+1≤((L+1:Nat):Int);omega,fun _=>?_⟩
   ·obtain⟨u,hu,hz⟩:=hlast;rw[qj,if_neg (by omega),hcl ks hall];have e1:decide (1≤(L:Int)+1)=true:=decide_eq_true (by omega);have e2:decide ((L:Int)+1≤4)=true:=decide_eq_true (by omega);have e3:decide (2≤ks.length)=true:=decide_eq_true (by omega);rw[e1,e2,e3];simp only[List.length_nil,decide_true,Bool.not_false,Bool.and_true,Bool.true_eq_false,if_false];unfold Zs;rw[show ks.length-1=(gt t.2 L).toNat by omega,hu];simp[hz]
   ·unfold qW;rw[decide_eq_false (by show¬(L:Int)+1=0;omega)];rfl
theorem jg.can{t T:RP}(h:jg t T):qj T=true∧∀m,cf (jY T) m=cf (jY t) m:=by
 rcases h with⟨a,rfl⟩|⟨_,P,h1,h2,rfl⟩
 ·exact⟨a,fun _=>rfl⟩
 ·exact⟨(Qx 4 (by omega) P h1.sdesc h1.vl h1.ne).1,fun m=>(qhr h1 m).trans (h2 m)⟩
theorem jg.self{t T:RP}(h:jg t T)(hc:qj t=true):T=t:=by
 rcases h with⟨_,rfl⟩|⟨b,_⟩
 ·rfl
 ·rw[hc]at b;cases b
theorem jg.val{t T:RP}(h:jg t T)(pt:Nat→Rat):vT pt T=vT pt t:=qlV h.can.2 pt
attribute [local go_sem ↓] Go.wp_at_zero Go.wp_at_succ
theorem jW.upd{w:World}{base rb cap n:Nat}{ps:List PT}(h:jW w base (.slice (some ⟨rb,0,none⟩) n cap) ps)(hn0:ps.length=n){i:Nat}{p:PT}(hi:ps[i]? =some p)(z:Int)(A:Option Addr)(c:Nat)(hn:qk w A (dig z.natAbs))(hc:(dig z.natAbs).length≤c):
 jW ((w.setCell ⟨rb,i*6,none⟩ (.bool (decide (z<0)))).setCell ⟨rb,i*6+1,none⟩ (.slice A (dig z.natAbs).length c)) base (.slice (some ⟨rb,0,none⟩) n cap) (ps.set i (ZR z A c p.m))∧
  Below base w ((w.setCell ⟨rb,i*6,none⟩ (.bool (decide (z<0)))).setCell ⟨rb,i*6+1,none⟩ (.slice A (dig z.natAbs).length c)):=by
 subst hn0;obtain⟨cur,hk,hbr,_,_⟩:=jx h.row;have hk':=hk.set_ (i*6) (.bool (decide (z<0)));have ht:ja base w ((w.setCell ⟨rb,i*6,none⟩ (.bool (decide (z<0)))).setCell ⟨rb,i*6+1,none⟩ (.slice A (dig z.natAbs).length c)):=(ja.set_t hbr hk _).trans (ja.set_t hbr hk' _);refine⟨⟨?_,?_,?_⟩,ht.below⟩
 ·rw[qdX ps i p (ZR z A c p.m) hi rfl,List.length_set];exact ZG (ZG h.row _ _) _ _
 ·intro q hq;rcases List.mem_or_eq_of_mem_set hq with k|k
  ·exact⟨ht.natB (h.dg q k).1,(h.dg q k).2⟩
  ·subst k;exact⟨ht.natB hn,hc⟩
 ·intro q hq;rcases List.mem_or_eq_of_mem_set hq with k|k
  ·exact h.cn q k
  ·subst k;exact qaA _ _ _ _
end Go.Proofs.YtflikmojaidhhaaGreat
namespace Go.Proofs.YtflikmojaidhhaaGreat
def gcF(g:Nat)(l:List Tm):Nat:=l.foldl (fun g t=>Nat.gcd g t.1.natAbs) g
def JN(l:List Tm):Nat:=gcF 0 l
theorem qhn(g:Nat)(l:List Tm)(t:Tm):gcF g (l++[t])=Nat.gcd (gcF g l) t.1.natAbs:=by simp[gcF]
theorem qjf(l:List Tm)(t:Tm):JN (l++[t])=Nat.gcd (JN l) t.1.natAbs:=qhn 0 l t
theorem qe9:∀(l:List Tm)(g:Nat),gcF g l∣g∧∀t∈l,gcF g l∣t.1.natAbs
 |[],g=>⟨Nat.dvd_refl _,by simp⟩
 |s::l,g=>by
  obtain⟨h1,h2⟩:=qe9 l (Nat.gcd g s.1.natAbs);have e:gcF g (s::l)=gcF (Nat.gcd g s.1.natAbs) l:=rfl;rw[e];refine⟨Nat.dvd_trans h1 (Nat.gcd_dvd_left _ _),fun t ht=>?_⟩;rcases List.mem_cons.1 ht with rfl|ht
  ·exact Nat.dvd_trans h1 (Nat.gcd_dvd_right _ _)
  ·exact h2 t ht
theorem qbX{l:List Tm}{t:Tm}(h:t∈l):JN l∣t.1.natAbs:=(qe9 l 0).2 t h
theorem qbO{l:List Tm}(h:qI l)(hn:l≠[]):0<JN l:=by
 cases l with
 |nil=>exact absurd rfl hn
 |cons t l=>
  refine Nat.pos_of_ne_zero fun e=>?_;have:=qbX (l:=t::l) (t:=t) List.mem_cons_self;rw[e]at this;have h0:=h.ne t List.mem_cons_self;have:=Nat.eq_zero_of_zero_dvd this;omega
def hdN:List Tm→Bool
 |[]=>false
 |t::_=>decide (t.1<0)
def dvs(l:List Tm):Int:=if hdN l then -(JN l:Int)else(JN l:Int)
def Yl(d:Int)(l:List Tm):List Tm:=l.map fun t=>(t.1/d,t.2)
def snL(l:List Tm):List Tm:=Yl (dvs l) l
theorem qbS(l:List Tm):(dvs l).natAbs=JN l:=by unfold dvs;split<;>omega
theorem qcH{l:List Tm}(h:qI l)(hn:l≠[]):dvs l≠0:=by
 have:=qbO h hn;have:=qbS l;omega
theorem Q8{l:List Tm}{t:Tm}(h:t∈l):dvs l∣t.1:=by
 rw[←Int.natAbs_dvd_natAbs,qbS];exact qbX h
theorem qlv(l:List Tm):qia (dvs l) (snL l)=l:=by
 unfold qia snL Yl;rw[List.map_map];refine(List.map_congr_left fun t ht=>?_).trans (List.map_id l);have:=Int.ediv_mul_cancel (Q8 ht);show(t.1/dvs l*dvs l,t.2)=t;rw[this]
theorem qat{l:List Tm}(h:qI l):qI (snL l) where
 ne t ht:=by
  obtain⟨s,hs,rfl⟩:=List.mem_map.1 ht;intro e;have h1:=Int.ediv_mul_cancel (Q8 hs);have e':s.1/dvs l=0:=e;rw[e',Int.zero_mul]at h1;exact h.ne s hs h1.symm
 vl t ht:=by
  obtain⟨s,hs,rfl⟩:=List.mem_map.1 ht;exact h.vl s hs
 so:=by
  unfold snL Yl;rw[List.pairwise_map];exact h.so
theorem qlt(l:List Tm):(snL l).length=l.length:=by simp[snL,Yl]
theorem qh2(t d:Int)(hd:d∣t)(hd0:d≠0):t.natAbs/d.natAbs=(t/d).natAbs:=by
 obtain⟨k,rfl⟩:=hd;rw[Int.mul_ediv_cancel_left _ hd0,Int.natAbs_mul,Nat.mul_div_cancel_left];omega
theorem Z9(t d:Int)(hd:d∣t)(hd0:d≠0):(t/d).natAbs≤t.natAbs:=by
 rw[←qh2 t d hd hd0];exact Nat.div_le_self _ _
theorem qeo(f:Tm→Tm)(l:List Tm)(h:∀t∈l,(f t).1.natAbs≤t.1.natAbs):nrm (l.map f)≤nrm l:=by
 induction l with
 |nil=>exact Nat.le_refl _
 |cons t l ih=>
  have h1:=h t List.mem_cons_self;have h2:=ih fun s hs=>h s (List.mem_cons_of_mem _ hs);simp only[List.map_cons,nrm];omega
theorem qly{l:List Tm}(h:qI l):nrm (snL l)≤nrm l:=by
 cases l with
 |nil=>exact Nat.le_refl _
 |cons t l=>exact qeo _ _ fun s hs=>Z9 _ _ (Q8 hs) (qcH h (by simp))
theorem qaw{l:List Tm}(h:qI l):JN l≤nrm l:=by
 cases l with
 |nil=>exact Nat.le_refl _
 |cons t l=>
  have h1:=Nat.le_of_dvd (by have:=h.ne t List.mem_cons_self;omega) (qbX (l:=t::l) (t:=t) List.mem_cons_self);exact Nat.le_trans h1 (Qs List.mem_cons_self)
