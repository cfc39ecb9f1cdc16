import Derived.Test.YtflikmojaidhhaaGreatDoorPq06
import Derived.Test.YtflikmojaidhhaaGreatDoorPqA
namespace Go.Proofs.YtflikmojaidhhaaGreatDoor
open Go.RowKit Go.Sort
theorem qiO(ps:List PT):((Z5 ps ps.length).map PT.tm)=(ps.map PT.tm).filter fun t=> !decide (t.1=0):=by
 unfold Z5;rw[List.take_length,List.filter_map];rfl
theorem qgB{ts:List Tm}{ps qs:List PT}(hI:zB ts (ps.map PT.tm))(hp:qs.Perm (Z5 ps ps.length))(hs:(qs.map PT.tm).Pairwise fun s t=>¬Zc s.2 t.2):
 qW (qs.map PT.tm)/\(∀m,cf (qs.map PT.tm) m=cf ts m)/\qs.length<=ts.length:=by
 have h:=hI.canon (q:=qs.map PT.tm) (by rw[<-qiO];exact hp.map _) hs;simpa using h
set_option maxHeartbeats 1000000
set_option maxRecDepth 100000
theorem qjB(v u:Value)(w:World):Calls Tryz.prog 153 #[v,.int .i64 0,.int .i64 0,u] w fun e w'=>e= .returned (.tuple #[])/\w=w':=by
 go_enter Tryz.func153,Tryz.ntmps153
 go_wp2_with fail
 go_loopg [8] 0 (fun gn i wr=>gn=0/\i= .int .i64 1/\w=wr)
 case atStart=>exact⟨rfl,rfl,rfl⟩
 case round=>
  obtain⟨_,rfl,rfl⟩:=hrel;go_wp2_with fail
  go_end0
  exact⟨rfl,rfl⟩
theorem qjV(v u:Value)(x:Int)(w:World):Calls Tryz.prog 135 #[v,.int .i64 0,.int .i64 0,.int .i64 x,u] w fun e w'=>e= .returned (.tuple #[])/\w=w':=by
 go_enter Tryz.func135,Tryz.ntmps135
 go_wp2_with fail
 go_loopg [1,2] 0 (fun gn a b wr=>gn=0/\a= .int .i64 0/\b= .int .i64 0/\w=wr)
 case atStart=>exact⟨rfl,rfl,rfl,rfl⟩
 case round=>
  obtain⟨_,rfl,rfl,rfl⟩:=hrel;go_wp2_with (first|(go_at_call 153;refine(qjB _ _ _).mono ?_;rintro e w' ⟨rfl,rfl⟩))
  refine bodyPost_ret (v:= .tuple #[]) (results_none rfl _ _ _) rfl ?_;exact⟨rfl,rfl⟩
theorem qhk(A:Oa)(c:Nat)(u:Value)(w:World):Calls Tryz.prog 118 #[.slice A 0 c,u] w fun e w'=>e= .returned (.tuple #[])/\w=w':=by
 have hl:Calls Tryz.prog 136 #[.int .u64 0] w fun e w'=>e= .returned (.int .i64 ((Go.Lib.bitLen 0:Nat):Int))/\w'=w:=Go.Proofs.Any.bits_Len (Go.Proofs.SlLaysF0.n15.bits (P:=Tryz.prog) (ρ:=Tryz.pdqT_ren) {Tryz.pdqT with}) 0 w (by omega) (by omega);have HL:=Gh hl;clear hl;go_enter Tryz.func118,Tryz.ntmps118
 go_wp2_with (first|(go_at_call 136;refine HL.out.mono ?_;rintro e w' ⟨rfl,rfl⟩)|(go_at_call 135;refine(qjV _ _ _ _).mono ?_;rintro e w' ⟨rfl,rfl⟩))
 go_end0
 exact⟨rfl,rfl⟩
theorem qk4{w:World}{base n size:Nat}{e:TypeId}{v:Value}{xs:List Value}(h:w.ownsRow base e size v n xs){q:Nat}(hq:v.ownBlock=some q):base<=q:=by
 rcases h.2 with⟨rfl,_⟩|⟨g,cap,cur,rfl,hb,_⟩
 ·simp[Value.ownBlock]at hq
 ·simp[Value.ownBlock]at hq;omega
set_option maxHeartbeats 4000000
theorem qg9(base g mb:Nat)(v:Value)(ts:List Tm)(ps:List PT)(w:World)(hG:Z3 w base g mb v ps)(hI:zB ts (ps.map PT.tm))(XC:ps.length<=100000)(FT:nrm ts<Big):
 Calls Tryz.prog 99 #[.pointer (some ⟨g,0,none⟩)] w (ZE (cf ts) ts.length w):=by
 obtain⟨i0,Uw,XU,X7,Xy⟩:=qO Tryz.infoTerm;obtain⟨As,cs,rfl⟩:=jd hG.row;have Un:yI w w.heap.size As ps:=yl.polyIn ⟨hG.row,hG.dg,hG.cn⟩;have Rl:=Gh Un;have HPP:=Gh (fun(qs:List PT)=>@qgB ts ps qs hI);have Tr:=Gh (fun(p:PT)(hp:p∈ps)=>show p.ds.length<=600 by
  rw[(hG.cn p hp).ds];exact zU (Nat.lt_of_le_of_lt (hI.mem_nrm (List.mem_map.2 ⟨p,hp,rfl⟩)) FT))
 have Ra:=Gh hG.dg;have Tk:=Gh hG.cn;have g1:w.cell? ⟨g,1,none⟩=some (.slice As ps.length cs):=hG.gb.cell 1;have UP:ps.length<=cs:=by
  rcases hG.row.2 with⟨h,h'⟩|⟨_,_,_,hv,_,_,hc,_⟩
  ·omega
  ·injection hv with _ _ e;omega
 generalize Dt:ps.length=pn at*;have X9:=Gh Dt;clear Dt hG hI Un FT;go_enter Tryz.func99,Tryz.ntmps99
 go_wp2_with fail
 go_loopg [3,5,11] pn (fun gn rv _ ix wr=>∃(k:Nat),k<=pn/\gn=pn-k/\ix= .int .i64 k/\wr.ownsRow w.heap.size 127 6 rv (Z5 ps k).length ((Z5 ps k).flatMap PT.cells)/\Below w.heap.size w wr)
 case atStart=>exact⟨0,Nat.zero_le _,rfl,rfl,⟨rfl,.inl ⟨rfl,rfl⟩⟩,Below.refl _ _⟩
 case round=>
  obtain⟨k,hk,XG,rfl,Xn,XX⟩:=hrel;have HG:=Gh XG;clear XG;have OI:=qjG ps k;obtain⟨Ar,cr,rfl⟩:=jd Xn;by_cases Xi:k<pn
  ·obtain⟨p,hp⟩:∃p,ps[k]? =some p:=⟨_,Gn (by have:=X9.out;omega)⟩;have U4:=Gk hp;obtain⟨b,o,rfl,VA,c0,c1,c2,c3,c4,c5⟩:=(Rl.out.below XX).at_ hp;have DU:=(Rl.out.below XX).nt p U4;have U6:=Tr.out p U4;have i1:(k:Int)<(pn:Int):=by omega
   have i2:(0:Int)<=(k:Int):=by omega
   have HY:=Gh (fun(h:p.tm.1≠0)=>qki hp h);have O9:=Gh (fun(h:p.tm.1=0)=>qla hp h);have ST:=Gh (fun(W:World)(hW:Below w.heap.size wr W)=>zI p.ng p.A p.c w.heap.size p.ds W (Gl XX.size hW.size) (DU.below hW) (by omega));have Ba:=Gh (show p.cells=[.bool p.ng,.slice p.A p.ds.length p.c,.int .i64 p.m.1,.int .i64 p.m.2.1,.int .i64 p.m.2.2.1,.int .i64 p.m.2.2.2]from rfl);have htm:p.tm.1=qj p.ng p.ds:=rfl;rw[htm]at HY O9;clear htm DU;generalize p.m.1=m0 at*;generalize p.m.2.1=m1 at*;generalize p.m.2.2.1=m2 at*;generalize p.m.2.2.2=m3 at*;generalize qj p.ng p.ds=zz at*;generalize p.ng=ng at*;generalize p.A=A1 at*;generalize p.c=c1' at*;generalize p.ds=ds at*;have HX:=Gh (qR wr 127 25 #[.bool ng,.slice A1 ds.length c1',.int .i64 m0,.int .i64 m1,.int .i64 m2,.int .i64 m3] #[.bool ng,.slice A1 ds.length c1']);have Sv:=Gh (fun(X:World)=>qu.six_new X ([.bool ng,.slice A1 ds.length c1',.int .i64 m0,.int .i64 m1,.int .i64 m2,.int .i64 m3]:List Value) rfl 127);by_cases hz:zz=0
   ·have HF:=Gh (O9 hz);have Sn:qP zz=0:=by rw[hz];rfl
    rw[Sn]at ST;clear Sn hz HY O9;go_wp2_with fail
    refine(ST _ ((Below.refl _ _).alloc XX.size _)).mono ?_;rintro e w1 ⟨rfl,rfl⟩;obtain⟨Th,_,_,_⟩:=HX.out;go_wp2_with fail
    go_roundg (pn-(k+1))
    case rel=>exact⟨k+1,by omega,rfl,by go_num,by rw[HF.out];exact jB Xn Th,Gt XX Th⟩
    case measure=>have:=HG.out;omega
   ·have HF:=Gh (HY hz);have Sn:(qP zz != 0)=true:=by unfold qP;split<;>simp
    generalize qP zz=sg at*;clear hz HY O9;go_wp2_with fail
    refine(ST _ ((Below.refl _ _).alloc XX.size _)).mono ?_;rintro e w1 ⟨rfl,rfl⟩;obtain⟨Th,k0,k1,hs⟩:=HX.out;clear HX ST;generalize (wr.alloc (.cells #[.bool ng,.slice A1 ds.length c1',.int .i64 m0,.int .i64 m1,.int .i64 m2,.int .i64 m3] 127)).alloc (.cells #[.bool ng,.slice A1 ds.length c1'] 25)=X at*;have HS:=Gh hs;clear hs;have d0:X.cell? ⟨wr.heap.size,0,none⟩=some (.bool ng):=k0.cell 0;have d1:X.cell? ⟨wr.heap.size,1,none⟩=some (.slice A1 ds.length c1'):=k0.cell 1;have d2:X.cell? ⟨wr.heap.size,2,none⟩=some (.int .i64 m0):=k0.cell 2;have d3:X.cell? ⟨wr.heap.size,3,none⟩=some (.int .i64 m1):=k0.cell 3;have d4:X.cell? ⟨wr.heap.size,4,none⟩=some (.int .i64 m2):=k0.cell 4;have d5:X.cell? ⟨wr.heap.size,5,none⟩=some (.int .i64 m3):=k0.cell 5;have Xv:=Sv.out X;have XO:∀u∈([.bool ng,.slice A1 ds.length c1',.int .i64 m0,.int .i64 m1,.int .i64 m2,.int .i64 m3]:List Value),u.oneCell'=true:=by rw[show([.bool ng,.slice A1 ds.length c1',.int .i64 m0,.int .i64 m1,.int .i64 m2,.int .i64 m3]:List Value)=p.cells from Ba.out.symm];exact qaf p
    have NY:=Gh XO;have Fj:=(Th.alloc Th.size (.cells #[.bool ng,.slice A1 ds.length c1',.int .i64 m0,.int .i64 m1,.int .i64 m2,.int .i64 m3] 127));have Xk:=jB Xn Fj;clear XO;go_wp2_with (first|(at_builtin;refine qM _ rfl (.tmp 19) (.tmp 21) 107 rfl w.heap.size 127 i0 _ 6 64 Tryz.underlying107 Uw XU X7 Xy rfl (by decide) (.slice Ar (Z5 ps k).length cr) (Z5 ps k).length _ rfl Xk (X.heap.size+1) (some ⟨X.heap.size,0,none⟩) 1 1 ([.bool ng,.slice A1 ds.length c1',.int .i64 m0,.int .i64 m1,.int .i64 m2,.int .i64 m3]:List Value) rfl Xv NY (by unfold maxLen;omega) (by omega) (Gl XX.size Fj.size) ?_;intro v' w4 Ub hg4 Re))
    have XB:Below w.heap.size w w4:=(Gt XX Fj).grown hg4 (Gl XX.size Fj.size) (fun q hq=>qk4 Xk hq);go_roundg (pn-(k+1))
    case rel=>exact⟨k+1,by omega,rfl,by go_num,by rw[HF,qbk,List.length_append,Ba.out];exact Ub,XB⟩
    case measure=>have:=HG.out;omega
  ·obtain rfl:k=pn:=by omega
   have NN:∀q∈Z5 ps k,qL wr q.A q.ds/\q.ds.length<=q.c:=fun q hq=>by
    have hm:q∈ps:=List.mem_of_mem_take (List.mem_filter.1 hq).1;exact⟨(Ra q hm).1.old XX,(Ra q hm).2⟩
   have NP:∀q∈Z5 ps k,Cn q:=fun q hq=>Tk q (List.mem_of_mem_take (List.mem_filter.1 hq).1);by_cases h0:(Z5 ps k).length=0
   ·have Em:Z5 ps k=[]:=List.eq_nil_of_length_eq_zero h0;have HNIL:=Gh Em;rw[Em]at Xn;clear Em h0 NN NP OI;generalize Z5 ps k=fl at*;obtain rfl:=HNIL.out;go_wp2_with (first|(go_at_call 118;refine(qhk _ _ _ _).mono ?_;rintro e w' ⟨rfl,rfl⟩))
    go_ret
    obtain⟨h1,h2,h3⟩:=HPP.out [] (List.Perm.refl _) List.Pairwise.nil;exact⟨Ar,cr,[],rfl,⟨Xn,fun _ h=>by simp at h,fun _ h=>by simp at h⟩,h1,h2,h3,XX⟩
   ·obtain⟨rb,rcap,Dq,St,SI⟩:=Xn.form (by omega)
    injection Dq with e1 _ e2
    subst e1;subst e2;have hH:=qgh Xn;have LB:=qgn rb cr (Z5 ps k).toArray wr hH SI (by simp;omega);simp only[List.size_toArray]at LB;have C5:=Gh LB;have Nq:=Gh Xn;have HDR:=Gh NN;have Lh:=Gh NP;have CO:=Gh (fun(n:Nat)(os:Array Obj)(qs:List PT)=>qc4 (n:=n) (os:=os) qs XX.size St);clear LB hH Xn h0 NN NP;go_wp2_with (first|(go_at_call 118;refine C5.out.mono ?_;rintro e w' ⟨rfl,d',n,os,U4,Xs,rfl⟩))
    go_ret
    obtain⟨F8,F7⟩:=qj3 U4;have hst':=qgO F7 Xs;obtain⟨h1,h2,h3⟩:=HPP.out d'.toList F8 hst';have Uo:d'.toList.length=(Z5 ps k).length:=F8.length_eq;have Rx:=qgT (n:=n) (os:=os) Uo Nq.out;obtain⟨cur,Uv,_⟩:=own_blk Nq.out;refine⟨_,cr,d'.toList,by rw[<-Uo];rfl,⟨Rx,fun q hq=>?_,fun q hq=>Lh q (F8.mem_iff.1 hq)⟩,h1,h2,h3,XX.trans (CO n os d'.toList)⟩;have S7:=F8.mem_iff.1 hq;refine⟨(HDR q S7).1.keep fun g' cs' Ux=>?_,(HDR q S7).2⟩;have Xl:g'≠rb:=fun e=>by
     subst e;unfold qf at Ux Uv;rw[Ux]at Uv
     injection Uv with Uv
     injection Uv with _ ht
     exact absurd ht (by decide)
    exact(qbv d'.toList Ux.lt Xl).trans Ux
end Go.Proofs.YtflikmojaidhhaaGreatDoor
namespace Go.Proofs.YtflikmojaidhhaaGreatDoor
open Go.RowKit
def MB(E:Int)(m:Mo):Prop:=m.1<=E/\m.2.1<=E/\m.2.2.1<=E/\m.2.2.2<=E
theorem MB.wf{E:Int}{m:Mo}(h:MB E m)(hv:zD m=true)(hE:E<=9223372036854775807):WfM m:=by
 rw[ZC]at hv;unfold MB at h;unfold WfM WfI;omega
structure PIn (w:World) (B:Nat) (A:Oa) (ps:List PT) (N:Nat) (E:Int) (M:Nat):Prop where
 pin:yI w B A ps
 dl:∀p∈ps,p.ds.length<=1000
 wf:∀p∈ps,WfM p.m
 mb:∀p∈ps,zD p.m=true->MB E p.m
 len:ps.length<=N
 nm:nrm (ps.map PT.tm)<=M
theorem PIn.below{w w':World}{B N M:Nat}{E:Int}{A:Oa}{ps:List PT}(h:PIn w B A ps N E M)(hb:Below B w w'):PIn w' B A ps N E M:={h with pin:=h.pin.below hb}
structure zP (w:World) (base:Nat) (v:Value) (ps:List PT) (F:Mo->Int) (N:Nat) (E:Int) (M:Nat):Prop where
 own:yl w base v ps
 can:qW (ps.map PT.tm)
 cf:∀m,cf (ps.map PT.tm) m=F m
 len:ps.length<=N
 mb:∀p∈ps,MB E p.m
 nm:nrm (ps.map PT.tm)<=M
def qdU(F:Mo->Int)(N:Nat)(E:Int)(M:Nat)(w:World)(e:Ending)(w':World):Prop:=
 ∃A c ps,e= .returned (.slice A ps.length c)/\zP w' w.heap.size (.slice A ps.length c) ps F N E M/\Below w.heap.size w w'
theorem zP.vl{w:World}{base N M:Nat}{E:Int}{v:Value}{ps:List PT}{F:Mo->Int}(h:zP w base v ps F N E M){p:PT}(hp:p∈ps):zD p.m=true:=h.can.vl p.tm (List.mem_map.2 ⟨p,hp,rfl⟩)
theorem zP.dlen{w:World}{base N M:Nat}{E:Int}{v:Value}{ps:List PT}{F:Mo->Int}(h:zP w base v ps F N E M){k:Nat}(hM:M<pw k){p:PT}(hp:p∈ps):p.ds.length<=k:=by
 rw[(h.own.cn p hp).ds];exact zL (Nat.lt_of_le_of_lt (Gl (Qu (List.mem_map.2 ⟨p,hp,rfl⟩)) h.nm) hM)
theorem zP.pin{w:World}{base c n N M:Nat}{E:Int}{A:Oa}{ps:List PT}{F:Mo->Int}(h:zP w base (.slice A n c) ps F N E M)(hE:E<=9223372036854775807)(hM:M<Big):PIn w w.heap.size A ps N E M where
 pin:=h.own.polyIn
 dl p hp:=Gl (h.dlen (k:=600) hM hp) (by omega)
 wf p hp:=(h.mb p hp).wf (h.vl hp) hE
 mb p hp _:=h.mb p hp
 len:=h.len
 nm:=h.nm
theorem zP.old{w w':World}{base N M:Nat}{E:Int}{v:Value}{ps:List PT}{F:Mo->Int}(h:zP w base v ps F N E M)(hb:Below w.heap.size w w'):zP w' base v ps F N E M:={h with own:=h.own.old hb}
theorem ZE.good{ts:List Tm}{N M:Nat}{E:Int}{w:World}{e:Ending}{w':World}(h:ZE (Go.Proofs.YtflikmojaidhhaaGreatDoor.cf ts) N w e w')(hE:∀t∈ts,zD t.2=true->MB E t.2)(hM:nrm ts<=M):qdU (Go.Proofs.YtflikmojaidhhaaGreatDoor.cf ts) N E M w e w':=by
 obtain⟨A,c,ps,he,h1,h2,h3,h4,h5⟩:=h;refine⟨A,c,ps,he,⟨h1,h2,h3,h4,fun p hp=>?_,Gl (h2.nrm_le h3) hM⟩,h5⟩;obtain⟨s,hs,hv,e⟩:=h2.src h3 (List.mem_map.2 ⟨p,hp,rfl⟩);have:=hE s hs hv;rw[e]at this;exact this
theorem yK{ps:List PT}{k:Nat}{p:PT}(hk:ps[k]? =some p):(ps.take (k+1)).map PT.tm=(ps.take k).map PT.tm++[p.tm]:=by
 have hl:k<ps.length:=(Gi.1 hk).1;have e:ps[k]=p:=(Gi.1 hk).2;rw[List.take_succ_eq_append_getElem hl,List.map_append,e];rfl
theorem qdn(ts:List Tm)(k:Nat):nrm (ts.take k)<=nrm ts:=by
 have:=zQ (ts.take k) (ts.drop k);rw[List.take_append_drop]at this;omega
theorem qds(ps:List PT)(k:Nat):nrm ((ps.take k).map PT.tm)<=nrm (ps.map PT.tm):=by rw[List.map_take];exact qdn _ k
set_option maxHeartbeats 2000000
set_option maxRecDepth 100000
theorem yY(A:Oa)(c B N:Nat)(E:Int)(M:Nat)(ps:List PT)(w:World)(hB:B<=w.heap.size)(h:PIn w B A ps N E M)(hN:N<=50000)(hM:M<Big):
 Calls Tryz.prog 75 #[.slice A ps.length c] w (qdU (cf (ps.map PT.tm)) N E M w):=by
 have PC:∀t∈ps.map PT.tm,zD t.2=true->MB E t.2:=fun t ht hv=>by
  obtain⟨p,hp,rfl⟩:=List.mem_map.1 ht;exact h.mb p hp hv
 have Vl:=Gh (fun(W:World)(e:Ending)(w':World)(hr:ZE (cf (ps.map PT.tm)) (ps.map PT.tm).length W e w')=>hr.good PC h.nm);have CK:=Gh (show(ps.map PT.tm).length<=N by rw[List.length_map];exact h.len);have XC:=h.len;have H:=Gh h;generalize Dt:ps.length=pn at*;have X9:=Gh Dt;have WH:=Gh (fun k=>Gl (qds ps k) h.nm);clear Dt PC h;go_enter Tryz.func75,Tryz.ntmps75
 go_wp2_with fail
 refine(qg1 w).mono ?_;rintro e W ⟨g,mb,rfl,hg0,Xb⟩;go_wp2_with fail
 go_loopg [5,9] pn (fun gn _ ix wr=>∃(k:Nat)(v:Value)(gs:List PT),k<=pn/\gn=pn-k/\ix= .int .i64 k/\Z3 wr w.heap.size g mb v gs/\zB ((ps.take k).map PT.tm) (gs.map PT.tm)/\Below w.heap.size w wr)
 case atStart=>exact⟨0,_,[],Nat.zero_le _,rfl,rfl,hg0,zB.nil,Xb⟩
 case round=>
  obtain⟨k,v,gs,hk,XG,rfl,AP,RA,XX⟩:=hrel;have HG:=Gh XG;clear XG;by_cases Xi:k<pn
  ·obtain⟨p,hp⟩:∃p,ps[k]? =some p:=⟨_,Gn (by have:=X9.out;omega)⟩;have U4:=Gk hp;have Un:=H.out.below (XX.mono hB);obtain⟨b,o,rfl,VA,c0,c1,c2,c3,c4,c5⟩:=Un.pin.at_ hp;have XV:=XX.size;have DU:=(Un.pin.nt p U4).more (Gl hB XV);have Uo:=Un.dl p U4;have hwf:=Un.wf p U4;have i1:(k:Int)<(pn:Int):=by omega
   have i2:(0:Int)<=(k:Int):=by omega
   have HT:=Gh (yK hp);have EH:((ps.take k).map PT.tm).length<=100000:=by simp;omega
   have Vx:nrm ((ps.take k).map PT.tm)<Big:=Nat.lt_of_le_of_lt (WH k) hM;have HA:=Gh (fun(W':World)(hW:Below wr.heap.size wr W')=>qhh w.heap.size g mb v ((ps.take k).map PT.tm) gs p.m p.ng p.A p.c p.ds W' (AP.old hW) RA (Gl XV hW.size) hwf ((DU.below hW).more hW.size) Uo EH Vx);have O4:=Gh (show p.tm=(qj p.ng p.ds,p.m)from rfl);clear Un DU Uo hwf EH Vx AP RA;unfold Jv at HA;go_wp2_with fail
   refine(HA _ ((Below.refl _ _).alloc (Gr _) _)).mono ?_;rintro e w1 ⟨rfl,v',gs',hga',hgi',ht',_⟩;have Xp:Below w.heap.size w w1:=(XX.alloc XV _).trans ht'.below;go_wp2_with fail
   go_roundg (pn-(k+1))
   case rel=>exact⟨k+1,v',gs',by omega,rfl,by go_num,hga',by rw[HT,O4.out];exact hgi',Xp⟩
   case measure=>have:=HG.out;omega
  ·obtain rfl:k=pn:=by omega
   have VT:gs.length<=100000:=by have:=RA.len;simp at this;omega
   have Aw:(ps.take k).map PT.tm=ps.map PT.tm:=by rw[<-X9,List.take_length]
   rw[Aw]at RA;have HP:=Gh (qg9 w.heap.size g mb v (ps.map PT.tm) gs wr AP RA VT (Nat.lt_of_le_of_lt H.out.nm hM));clear RA AP Aw;go_wp2_with fail
   refine HP.out.mono ?_;rintro e w1 hr;obtain⟨A1,c1,qs,rfl,XF,Xf⟩:=Vl.out _ _ _ hr;go_wp2_with fail
   go_ret
   exact⟨A1,c1,qs,rfl,{XF with own:=XF.own.mono XX.size,len:=Gl XF.len CK.out},Gt XX Xf⟩
def JA(t:RP):List Tm:=(jH t (0,0,0,0)).map fun x=>(qj x.1.1 x.1.2,x.2)
def jb(t T:RP):Prop:=(qv t=true/\T=t)∨(qv t=false/\∃P,qW P/\(∀m,cf P m=cf (JA t) m)/\T=qZ 4 P)
theorem jb.unique{t T T':RP}(h:jb t T)(h':jb t T'):T=T':=by
 rcases h with⟨a,rfl⟩|⟨a,P,h1,h2,rfl⟩
 ·rcases h' with⟨_,rfl⟩|⟨b,_⟩
  ·rfl
  ·rw[a]at b;cases b
 ·rcases h' with⟨b,_⟩|⟨_,P',k1,k2,rfl⟩
  ·rw[a]at b;cases b
  ·rw[h1.unique k1 fun m=>(h2 m).trans (k2 m).symm]
theorem qg3(qs:List PT):qs.map PT.tm=(qs.map PT.key).map fun x=>(qj x.1.1 x.1.2,x.2):=by
 rw[List.map_map];rfl
mutual
theorem J8{dg:Nat}:∀(t:RP)(m:Mo)(X:Int),ym dg t->zh m X->∀x∈jH t m,x.1.2.length<=dg/\zh x.2 (X+40*qC t)
 | .mk l g ds ks,m,X,hf,hm,x,hx=>by
   simp only[ym]at hf;simp only[jH]at hx;simp only[qC]
   split at hx
   ·rw[List.mem_singleton]at hx;subst hx;refine⟨hf.1,?_⟩;obtain⟨⟨a0,b0⟩,⟨a1,b1⟩,⟨a2,b2⟩,⟨a3,b3⟩⟩:=hm;unfold zh;simp only[];omega
   ·split at hx
    ·cases hx
    ·have h1:=hm.at_ (l.toNat-1);have hX:0<=X:=by omega
     have:=qcF (l.toNat-1) ks m X (Zn m (l.toNat-1)) hf.2.2 hm h1.1 (by omega) x hx;refine⟨this.1,?_⟩;have h2:=this.2;have h3:(ks.length:Int)<=40:=by omega
     obtain⟨⟨a0,b0⟩,⟨a1,b1⟩,⟨a2,b2⟩,⟨a3,b3⟩⟩:=h2;unfold zh;omega
theorem qcF{dg:Nat}(i:Nat):∀(ts:List RP)(m:Mo)(X e:Int),Js dg ts->zh m X->0<=e->e<=X->∀x∈jo i ts m e,x.1.2.length<=dg/\zh x.2 (X+ts.length+40*Jm ts)
 |[],m,X,e,_,_,_,_,x,hx=>by simp[jo]at hx
 |t::ts,m,X,e,hf,hm,h0,h1,x,hx=>by
  simp only[Js]at hf;simp only[jo]at hx;simp only[Jm,List.length_cons];rcases List.mem_append.1 hx with hx|hx
  ·have:=J8 t (jU m i e) X hf.1 (hm.set i h0 h1 (Int.le_refl _)) x hx;refine⟨this.1,?_⟩;obtain⟨⟨a0,b0⟩,⟨a1,b1⟩,⟨a2,b2⟩,⟨a3,b3⟩⟩:=this.2;unfold zh;omega
  ·have UE:zh m (X+1):=by
    obtain⟨⟨a0,b0⟩,⟨a1,b1⟩,⟨a2,b2⟩,⟨a3,b3⟩⟩:=hm;unfold zh;omega
   have:=qcF i ts m (X+1) (e+1) hf.2 UE (by omega) (by omega) x hx;refine⟨this.1,?_⟩;obtain⟨⟨a0,b0⟩,⟨a1,b1⟩,⟨a2,b2⟩,⟨a3,b3⟩⟩:=this.2;unfold zh;omega
end
theorem JB(f:List Tm->RP)(i:Nat):∀(n:Nat)(ts:List Tm)(ks:List RP),(jJ f i n ts ks).length=ks.length
 |0,_,_=>rfl
 |_+1,[],_=>rfl
 |n+1,t::r,ks=>by
  rw[jJ,JB f i n,List.length_set]
theorem YJ{Q:RP->Prop}(f:List Tm->RP)(i:Nat):∀(n:Nat)(ts:List Tm)(ks:List RP),(∀k∈ks,Q k)->(∀l:List Tm,(∀x∈l,x∈ts)->Q (f l))->∀k∈jJ f i n ts ks,Q k
 |0,_,_,h,_=>h
 |_+1,[],_,h,_=>h
 |n+1,t::r,ks,h,hf=>by
  rw[jJ];refine YJ f i n _ _ (fun k hk=>?_) (fun l hl=>hf l fun x hx=>(List.dropWhile_sublist _).subset (hl x hx));rcases List.mem_or_eq_of_mem_set hk with hk|rfl
  ·exact h k hk
  ·exact hf _ fun x hx=>(List.takeWhile_sublist _).subset hx
theorem ZB{X:Nat}(hX:1<=X):∀(L:Nat)(ts:List Tm),L<=4->(∀t∈ts,(dig t.1.natAbs).length<=X/\∀i,i<4->gt t.2 i+1<=(X:Int))->yP X (qZ L ts)
 |0,[],_,_=>by rw[qZ];exact yP.mk (Nat.zero_le _) (Nat.zero_le _) (by simp)
 |0,t::r,_,h=>by rw[qZ];exact yP.mk (h t List.mem_cons_self).1 (Nat.zero_le _) (by simp)
 |L+1,[],_,_=>by rw[qZ];exact yP.mk (Nat.zero_le _) (Nat.zero_le _) (by simp)
 |L+1,t::r,hL,h=>by
  rw[qZ]
  split
  ·exact ZB hX L (t::r) (by omega) h
  ·refine yP.mk (Nat.zero_le _) ?_ (YJ _ _ _ _ _ (fun k hk=>?_) (fun l hl=>ZB hX L l (by omega) fun x hx=>h x (hl x hx)))
   ·rw[JB,List.length_replicate];have:=(h t List.mem_cons_self).2 L (by omega);omega
   ·rw[(List.mem_replicate.1 hk).2];exact yP.mk (Nat.zero_le _) (Nat.zero_le _) (by simp)
theorem Qx:∀(ts:List Tm)(X:Nat),(∀t∈ts,t.1.natAbs<=X)->nrm ts<=ts.length*X
 |[],X,_=>by simp[nrm]
 |t::ts,X,h=>by
  have h1:=h t List.mem_cons_self;have h2:=Qx ts X fun s hs=>h s (List.mem_cons_of_mem _ hs);simp only[nrm,List.length_cons];rw[Nat.succ_mul];omega
theorem qk5{a b:Nat}(h:a<b):pw a<pw b:=Nat.pow_lt_pow_right (by omega) h
theorem yA{n k:Nat}(hn:n<=40000)(hk:k+1<600):n*pw k<Big:=by
 have h1:n*pw k<=4294967295*pw k:=Nat.mul_le_mul_right _ (by omega);have h2:pw (k+1)=pw k*4294967296:=Nat.pow_succ ..;have h3:pw (k+1)<Big:=qk5 hk;have h4:0<pw k:=Nat.pow_pos (by omega);generalize pw k=y at*;exact Nat.lt_of_le_of_lt h1 (Nat.lt_trans (by omega) (h2▸h3))
theorem qcm{ds:List Nat}(h:jg ds){k:Nat}(hk:ds.length<=k):val ds<pw k:=by
 unfold pw;exact Gm (jr h) (Nat.pow_le_pow_right (by omega) hk)
theorem yW.pin{w W:World}{A:Oa}{n c base B D:Nat}{t:RP}{qs:List PT}{dg:Nat}(h:yW w (.slice none 0 0) [] base B W (.slice A n c) qs)(hk:qs.map PT.key=jH t (0,0,0,0))(hf:ym dg t)(Xr:dg<=500)(hD:qC t<=D)(hD':D<=12)(hc:jW t<=40000)(Na:B<=W.heap.size):
 PIn W W.heap.size A qs 40000 1000 (40000*pw 500):=by
 have hm:zh (0,0,0,0) 0:=by simp[zh]
 have hq:∀q∈qs,q.ds.length<=dg/\zh q.m (0+40*qC t):=fun q hq=>J8 t _ _ hf hm q.key (by rw[<-hk];exact List.mem_map.2 ⟨q,hq,rfl⟩);have hl:qs.length<=40000:=by
  have:=congrArg List.length hk;rw[List.length_map]at this;have:=Yi t (0,0,0,0);omega
 have ho:W.ownsRow base 127 6 (.slice A n c) qs.length (qs.flatMap PT.cells):=h.own;have hr:=ho;obtain⟨A',c',e⟩:=jd ho
 injection e with e1 e2 e3
 subst e2;refine⟨⟨qu.of_own hr,fun q S7=>(h.dg q S7).more Na⟩,fun q S7=>by have:=(hq q S7).1;omega,fun q S7=>?_,fun q S7 _=>?_,hl,?_⟩
 ·obtain⟨⟨a0,b0⟩,⟨a1,b1⟩,⟨a2,b2⟩,⟨a3,b3⟩⟩:=(hq q S7).2;unfold WfM WfI;omega
 ·obtain⟨⟨a0,b0⟩,⟨a1,b1⟩,⟨a2,b2⟩,⟨a3,b3⟩⟩:=(hq q S7).2;unfold MB;omega
 ·refine Gl (Qx _ (pw 500) fun s hs=>?_) (Nat.mul_le_mul_right _ (by rw[List.length_map];exact hl));obtain⟨q,S7,rfl⟩:=List.mem_map.1 hs;show(qj q.ng q.ds).natAbs<=_;rw[je];exact Nat.le_of_lt (qcm (h.dg q S7).dg (Gl (hq q S7).1 Xr))
def qcS(t:RP)(w:World)(e:Ending)(w':World):Prop:=∃T A c K kc,jb t T/\e= .returned (qm T A c K kc)/\RV w' (· <w'.heap.size) T (qe T A c K kc)/\yP 1001 T/\Below w.heap.size w w'
def OkC(B base:Nat)(W:World)(b:Nat):Prop:=b<B∨yB W base b
def qks(t:RP)(B:Nat)(w:World)(e:Ending)(w':World):Prop:=∃T A c K kc,jb t T/\e= .returned (qm T A c K kc)/\RV w' (OkC B w.heap.size w') T (qe T A c K kc)/\yP 1001 T/\Below w.heap.size w w'
set_option maxHeartbeats 4000000
theorem qaI(dg:Nat)(Xr:dg<=500)(t:RP)(hD:qC t<=12)(hf:ym dg t)(TW:jW t<=40000)(A:Oa)(c:Nat)(K:Oa)(kc B:Nat)(w:World)(hB:B<=w.heap.size)(h:RV w (· <B) t (qe t A c K kc)):
 Calls Tryz.prog 31 #[qm t A c K kc] w (qks t B w):=by
 have HX:=Gh (fun(cs ds:Array Value)=>qR w 28 28 cs ds);have HR:=Gh (fun(W:World)(hW:Below w.heap.size w W)=>h.below (hW.mono hB));have Dl:=Gh (fun(W:World)(hW:Below w.heap.size w W)=>qa7 dg (by omega) (qC t) t (Gr _) hf A c K kc B W (Gl hB hW.size) (h.below (hW.mono hB)));have Ui:=Gh (ym.sm (X:=1001) (by omega) (by omega) t hf);have HB:=Gh hB;have Uc:=Gh (fun(W:World)(hW:Below w.heap.size w W)=>J6 dg (by omega) (qC t) t (Gr _) hf A c K kc B W.heap.size [] (.slice none 0 0) (0,0,0,0) 0 W (Gl hB hW.size) (Gr _) (h.below (hW.mono hB)) (yl.nil W W.heap.size).row (by rw[List.length_nil];omega) (by simp[zh]) (by omega));unfold ZY at Uc;have C9:=Gh (fun(w0 W:World)(A:Oa)(n c base:Nat)(qs:List PT)(h:yW w0 (.slice none 0 0) [] base B W (.slice A n c) qs)(hk:qs.map PT.key=jH t (0,0,0,0))(Na:B<=W.heap.size)=>h.pin hk hf Xr (Gr _) hD TW Na);clear h hf TW hD Xr hB;unfold qm at Dl Uc ⊢
 cases XP:qv t with
 |true=>
  rw[XP]at Dl;have HT:=Gh (show jb t t from .inl ⟨XP,rfl⟩);clear XP;go_enter Tryz.func31,Tryz.ntmps31
  go_wp2_with fail
  obtain⟨Xb,k0,k1,hs⟩:=HX.out (Gx t A c K kc) Gz;generalize (w.alloc (.cells (Gx t A c K kc) 28)).alloc (.cells Gz 28)=W at*;have TZ:=Gh (Dl W Xb);refine TZ.out.mono ?_;rintro e w2 ⟨rfl,Xf⟩;have j0:=k0.old Xf;have j1:=k1.old Xf;have Xe:=Gt Xb Xf;have HJ:=Gh (jm (k:=0) j1 (.int .i64 t.lv) (.bool t.ng) (.slice A t.ds.length c) (.slice K t.ks.length kc)).1;have Xh:=Gh ((((Xe.setCell (p:=⟨w.heap.size+1,0,none⟩) (Nat.le_add_right _ 1) (.int .i64 t.lv)).setCell (p:=⟨w.heap.size+1,1,none⟩) (Nat.le_add_right _ 1) (.bool t.ng)).setCell (p:=⟨w.heap.size+1,2,none⟩) (Nat.le_add_right _ 1) (.slice A t.ds.length c)).setCell (p:=⟨w.heap.size+1,3,none⟩) (Nat.le_add_right _ 1) (.slice K t.ks.length kc));have c0:w2.cell? ⟨w.heap.size,0,none⟩=some (.int .i64 t.lv):=j0.cell 0;have c1:w2.cell? ⟨w.heap.size,1,none⟩=some (.bool t.ng):=j0.cell 1;have c2:w2.cell? ⟨w.heap.size,2,none⟩=some (.slice A t.ds.length c):=j0.cell 2;have c3:w2.cell? ⟨w.heap.size,3,none⟩=some (.slice K t.ks.length kc):=j0.cell 3;have d0:w2.cell? ⟨w.heap.size+1,0,none⟩=some (.int .i64 0):=j1.cell 0;have d1:w2.cell? ⟨w.heap.size+1,1,none⟩=some (.bool false):=j1.cell 1;have d2:w2.cell? ⟨w.heap.size+1,2,none⟩=some (.slice none 0 0):=j1.cell 2;have d3:w2.cell? ⟨w.heap.size+1,3,none⟩=some (.slice none 0 0):=j1.cell 3;obtain⟨f0,f1,f2,f3,z0⟩:=G5 j1;clear Xb k0 k1 hs TZ Xf j0 j1 Xe HX Dl;go_wp2_with fail
  refine qo Tryz.results31 rfl rfl HJ Tryz.underlying28 rfl Tryz.sizeRec ?_;exact⟨t,A,c,K,kc,HT,rfl,RV.mono (fun b hb=> .inl hb) _ _ (HR _ Xh),Ui,Xh⟩
 |false=>
  rw[XP]at Dl;have UF:=Gh XP;clear XP;go_enter Tryz.func31,Tryz.ntmps31
  go_wp2_with fail
  obtain⟨Xb,k0,k1,hs⟩:=HX.out (Gx t A c K kc) Gz;generalize (w.alloc (.cells (Gx t A c K kc) 28)).alloc (.cells Gz 28)=W at*;have TZ:=Gh (Dl W Xb);refine TZ.out.mono ?_;rintro e w2 ⟨rfl,Xf⟩;have j0:=k0.old Xf;have j1:=k1.old Xf;have Xe:=Gt Xb Xf;have Dj:=Gh j1;have Xh:=Gh Xe;have Ce:=Gh (Uc w2 Xe);have c0:w2.cell? ⟨w.heap.size,0,none⟩=some (.int .i64 t.lv):=j0.cell 0;have c1:w2.cell? ⟨w.heap.size,1,none⟩=some (.bool t.ng):=j0.cell 1;have c2:w2.cell? ⟨w.heap.size,2,none⟩=some (.slice A t.ds.length c):=j0.cell 2;have c3:w2.cell? ⟨w.heap.size,3,none⟩=some (.slice K t.ks.length kc):=j0.cell 3;clear Xb k0 k1 hs TZ Xf j0 j1 Xe HX Dl Uc HR;go_wp2_with fail
  refine Ce.out.mono ?_;rintro e w3 ⟨v',qs,rfl,XM,Tw⟩;obtain⟨A3,c3',rfl⟩:=jd XM.own;have Xz:Below w2.heap.size w2 w3:=⟨XM.gro.os,XM.gro.tape,XM.gro.output,XM.gro.size,fun k hk=>XM.gro.block k hk (by simp[Value.ownBlock])⟩;have Rd:=Gt Xh Xz;have X9:=Gh (yY A3 c3' w3.heap.size 40000 1000 (40000*pw 500) qs w3 (Gr _) (C9 w2 w3 A3 _ c3' _ qs XM Tw (Gl HB Rd.size)) (by omega) (yA (by omega) (by omega)));unfold qdU at X9;have TI:=Gh (show∀m,cf (qs.map PT.tm) m=cf (JA t) m from fun m=>by rw[qg3,Tw];rfl);have HJ3:=Gh (Dj.out.old Xz);have Rf:=Gh Rd;clear XM Tw Xz Rd Ce C9 Xh Dj c0 c1 c2 c3;rw[List.nil_append];go_wp2_with fail
  refine X9.out.mono ?_;rintro e w4 ⟨A4,c4,rs,rfl,XF,XB⟩;have FS:=Gt Rf XB;have Fa:∀p∈rs,∀i,i<4->0<=gt p.m i/\gt p.m i<=1000:=fun p hp i hi=>by
   have h1:=XF.vl hp;have h2:=XF.mb p hp;rw[ZC]at h1;unfold MB at h2;rcases(by omega:i=0∨i=1∨i=2∨i=3)with rfl|rfl|rfl|rfl<;>(simp only[gt];omega)
  have Uo:=fun p hp=>XF.dlen (k:=600) (yA (by omega) (by omega)) (p:=p) hp;have UP:rs.length<=c4:=by
   by_cases Oq:rs.length=0
   ·omega
   ·obtain⟨g',cap,Dq,_⟩:=XF.own.row.form (by omega)
    injection Dq with h1
    have Ua:=XF.own.row;rw[h1]at Ua;exact(own_blk Ua).choose_spec.2.2.1
  have DQ:=Gh (Y6 5 4 (by omega) (by omega) rs A4 c4 w4.heap.size w4 (Gr _) XF.own.polyIn XF.can.desc XF.own.cn Fa UP XF.len XF.own.dg);unfold ZS qm at DQ;have UR:=Gh (show jb t (qZ 4 (rs.map PT.tm))from .inr ⟨UF,_,XF.can,fun m=>(XF.cf m).trans (TI m),rfl⟩);have XH:=Gh (ZB (X:=1001) (by omega) 4 (rs.map PT.tm) (by omega) fun s hs=>by
   obtain⟨p,hp,rfl⟩:=List.mem_map.1 hs;refine⟨by rw[<-(XF.own.cn p hp).ds];have:=Uo p hp;omega,fun i hi=>?_⟩;have:=(Fa p hp i hi).2;show gt p.m i+1<=_;omega)
  have B9:=Gh (HJ3.out.old XB);have Cf:=Gh FS;have HSZ4:=Gh FS.size;clear XF XB FS Fa Uo UP X9 HJ3 Rf TI;generalize qZ 4 (rs.map PT.tm)=T at*;go_wp2_with fail
  refine DQ.out.mono ?_;rintro e w5 ⟨A5,c5,K5,kc5,rfl,Uy,XL⟩;have j1:=B9.out.old XL;obtain⟨s1,s2,s3⟩:=jm (k:=0) j1 (.int .i64 T.lv) (.bool T.ng) (.slice A5 T.ds.length c5) (.slice K5 T.ks.length kc5);have HS:=Gh s1;have Mh:=B9.out.lt;have RS:=Gh (RB.keep (base':=w4.heap.size) Uy s2 (fun j ds hg hj=>s3 j ds (by omega) hj) (Gr _));have D1:=Gt Cf XL;have RX:=Gh ((((D1.setCell (p:=⟨w.heap.size+1,0,none⟩) (Nat.le_add_right _ 1) (.int .i64 T.lv)).setCell (p:=⟨w.heap.size+1,1,none⟩) (Nat.le_add_right _ 1) (.bool T.ng)).setCell (p:=⟨w.heap.size+1,2,none⟩) (Nat.le_add_right _ 1) (.slice A5 T.ds.length c5)).setCell (p:=⟨w.heap.size+1,3,none⟩) (Nat.le_add_right _ 1) (.slice K5 T.ks.length kc5));have d0:w5.cell? ⟨w.heap.size+1,0,none⟩=some (.int .i64 0):=j1.cell 0;have d1:w5.cell? ⟨w.heap.size+1,1,none⟩=some (.bool false):=j1.cell 1;have d2:w5.cell? ⟨w.heap.size+1,2,none⟩=some (.slice none 0 0):=j1.cell 2;have d3:w5.cell? ⟨w.heap.size+1,3,none⟩=some (.slice none 0 0):=j1.cell 3;obtain⟨f0,f1,f2,f3,z0⟩:=G5 j1;clear Uy XL j1 s1 s2 s3 D1 DQ B9 Cf Mh;go_wp2_with fail
  refine qo Tryz.results31 rfl rfl HS Tryz.underlying28 rfl Tryz.sizeRec ?_;exact⟨T,A5,c5,K5,kc5,UR,rfl,RV.mono (fun b hb=> .inr (hb.mono HSZ4)) _ _ RS,XH,RX⟩
theorem jO(dg:Nat)(Xr:dg<=500)(t:RP)(hD:qC t<=12)(hf:ym dg t)(TW:jW t<=40000)(A:Oa)(c:Nat)(K:Oa)(kc B:Nat)(w:World)(hB:B<=w.heap.size)(h:RV w (· <B) t (qe t A c K kc)):
 Calls Tryz.prog 31 #[qm t A c K kc] w (qcS t w):=by
 refine(qaI dg Xr t hD hf TW A c K kc B w hB h).mono ?_;rintro e w' ⟨T,A1,c1,K1,kc1,h1,h2,h3,h4,h5⟩;exact⟨T,A1,c1,K1,kc1,h1,h2,RV.mono (fun b hb=>hb.elim (fun hb=>Gm hb (Gl hB h5.size)) (fun hb=>hb.lt)) _ _ h3,h4,h5⟩
def qle(t:RP)(w:World)(e:Ending)(w':World):Prop:=∃T A c K kc,jb t T/\e= .returned (qm (zg T) A c K kc)/\RB w' w.heap.size (zg T) (qe (zg T) A c K kc)/\Below w.heap.size w w'
theorem qfO(dg:Nat)(Xr:dg<=500)(t:RP)(hD:qC t<=12)(hf:ym dg t)(TW:jW t<=40000)(A:Oa)(c:Nat)(K:Oa)(kc B:Nat)(w:World)(hB:B<=w.heap.size)(h:RV w (· <B) t (qe t A c K kc)):
 Calls Tryz.prog 11 #[qm t A c K kc] w (qle t w):=by
 have HX:=Gh (fun(cs ds:Array Value)=>qR w 28 28 cs ds);have XQ:=Gh (fun(W:World)(hW:Below w.heap.size w W)=>jO dg Xr t hD hf TW A c K kc B W (Gl hB hW.size) (h.below (hW.mono hB)));have HB:=Gh hB;unfold qcS at XQ;have Vj:=Gh (fun(T:RP)(hT:yP 1001 T)(A:Oa)(c:Nat)(K:Oa)(kc:Nat)(W:World)(h:RV W (· <W.heap.size) T (qe T A c K kc))=>QY 1001 (by omega) (qC T) T (Gr _) hT A c K kc W.heap.size W (Gr _) h);unfold Zu at Vj;clear h hf TW hD Xr hB;unfold qm at XQ Vj ⊢;go_enter Tryz.func11,Tryz.ntmps11
 go_wp2_with fail
 obtain⟨Xb,k0,k1,hs⟩:=HX.out (Gx t A c K kc) Gz;generalize (w.alloc (.cells (Gx t A c K kc) 28)).alloc (.cells Gz 28)=W at*;have TZ:=Gh (XQ W Xb);refine TZ.out.mono ?_;rintro e w2 ⟨T,A2,c2,K2,kc2,hT,rfl,UD,Uh,Xf⟩;have Dj:=Gh (k1.old Xf);have Xh:=Gh (Gt Xb Xf);have UR:=Gh hT;have Ei:=Gh (Vj T Uh A2 c2 K2 kc2 w2 UD);clear Xb k0 k1 hs TZ Xf HX XQ hT UD Uh Vj;go_wp2_with fail
 refine Ei.out.mono ?_;rintro e w5 ⟨A5,c5,K5,kc5,rfl,Uy,XL⟩;clear Ei;have j1:=Dj.out.old XL;obtain⟨s1,s2,s3⟩:=jm (k:=0) j1 (.int .i64 (zg T).lv) (.bool (zg T).ng) (.slice A5 (zg T).ds.length c5) (.slice K5 (zg T).ks.length kc5);have HS:=Gh s1;have Mh:=Dj.out.lt;have RS:=Gh (RB.keep (base':=w2.heap.size) Uy s2 (fun j ds hg hj=>s3 j ds (by omega) hj) (Gr _));have D1:=Gt Xh XL;have RX:=Gh ((((D1.setCell (p:=⟨w.heap.size+1,0,none⟩) (Nat.le_add_right _ 1) (.int .i64 (zg T).lv)).setCell (p:=⟨w.heap.size+1,1,none⟩) (Nat.le_add_right _ 1) (.bool (zg T).ng)).setCell (p:=⟨w.heap.size+1,2,none⟩) (Nat.le_add_right _ 1) (.slice A5 (zg T).ds.length c5)).setCell (p:=⟨w.heap.size+1,3,none⟩) (Nat.le_add_right _ 1) (.slice K5 (zg T).ks.length kc5));have XJ:=Gh Xh.out.size;have d0:w5.cell? ⟨w.heap.size+1,0,none⟩=some (.int .i64 0):=j1.cell 0;have d1:w5.cell? ⟨w.heap.size+1,1,none⟩=some (.bool false):=j1.cell 1;have d2:w5.cell? ⟨w.heap.size+1,2,none⟩=some (.slice none 0 0):=j1.cell 2;have d3:w5.cell? ⟨w.heap.size+1,3,none⟩=some (.slice none 0 0):=j1.cell 3;obtain⟨f0,f1,f2,f3,z0⟩:=G5 j1;clear Uy XL j1 s1 s2 s3 D1 Dj Xh Mh;generalize Fr:zg T=U at*;have Nx:=Gh Fr;clear Fr;go_wp2_with fail
 refine qo Tryz.results11 rfl rfl HS Tryz.underlying28 rfl Tryz.sizeRec ?_;exact⟨T,A5,c5,K5,kc5,UR,by rw[Nx.out];rfl,by rw[Nx.out];exact RS.out.mono XJ,RX⟩
