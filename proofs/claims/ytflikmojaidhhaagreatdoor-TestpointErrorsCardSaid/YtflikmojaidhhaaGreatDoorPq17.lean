import Derived.Test.YtflikmojaidhhaaGreatDoorPq16
import Derived.Test.YtflikmojaidhhaaGreatDoorPqA
namespace Go.Proofs.YtflikmojaidhhaaGreatDoor
open Go.RowKit
theorem qu.four_newA(w:World)(cs:List Value)(h:cs.length=4)(t:TypeId):qu (w.alloc (.cells cs.toArray t)) (w.heap.size+1) 4 (some ⟨w.heap.size,0,none⟩) 1 cs:=by
 refine⟨by omega,fun _=>⟨_,_,rfl,by omega,fun j x hj=>?_⟩⟩;have:=(qf.new w t cs.toArray).cell j;rw[Nat.zero_add,this];simpa using hj
set_option maxHeartbeats 4000000
set_option maxRecDepth 100000
theorem qfQ(S:Nat->Prop)(B X:Nat)(SQ:∀b,S b->b<B)(hX:X<=10000)(E:Nat)(IH0:∀(ts:List RP),yX (E+1) ts->ts.length<=10000->(∀t∈ts,yP X t)->∀(P:Oa)(c:Nat)(w:World),B<=w.heap.size->yM w (· <w.heap.size) S P ts->ts.length<=c->
 Calls Tryz.prog 81 #[.slice P ts.length c] w (J5 S (jl (E+1) ts) w))(ts:List RP)(hL:(jR ts).1≠0)(Vg:yX (E+1+1) ts)(hn:ts.length<=10000)(Uh:∀t∈ts,yP X t)(P:Oa)(c:Nat)(w:World)(hB:B<=w.heap.size)(h:yM w (· <w.heap.size) S P ts)(hc:ts.length<=c):
 Calls Tryz.prog 81 #[.slice P ts.length c] w (J5 S (jl (E+1+1) ts) w):=by
 have IH:=Gh IH0;have HR:=Gh (fun(W:World)(hW:Below w.heap.size w W)=>h.old hW (fun b hb=>hb) (fun b hb=>Gm (SQ b hb) hB));have Xb:=Gb w (.cells Gz 28);have Xx:=qf.new w 28 Gz;have Xd:=Gh Xb;have Xo:=Gh Xx;have HC:=Gh hc;have EX:=Gh (fun(b:Nat)(hb:S b)=>show b<w.heap.size from Gm (SQ b hb) hB);have UQ:=Gh SQ;have Ui:=Gh Uh;have HNL:=Gh hn;have Sy:=Gh hB;have AB:=Gh (fun(i:Nat)=>Vg.part i);have Se:=Gh (fun(i:Nat)(u:RP)(hu:u∈jq (jR ts).1 i ts)=>show yP X u from by
  obtain⟨p,hp,hq⟩:=Jr hu;rcases hq with⟨_,b⟩|⟨_,rfl⟩
  ·exact(Uh p hp).at_.2.2 u b
  ·exact Uh _ hp)
 have X9:=Gh (fun(i:Nat)=>Gl (YE (jR ts).1 i ts) hn);have XV:(jR ts).2<=X:=qh1 fun p hp=>(Uh p hp).at_.2.1;have Fz:=Gh (show∀p∈ts,p.lv<=(jR ts).1 from fun p hp=>qd4 hp);have VV:=Gh (fun(S':Nat->Prop)(l:Int)(us:List RP)(hl:us.length<=X)(A:Oa)(W:World)(hS:∀b,S' b->b<W.heap.size)(h:yM W S' S' A us)=>qa3 S' l us (by omega) A us.length W hS h (Gr _));obtain⟨i0,Uw,XU,X7,Xy⟩:=qO Tryz.infoRec;have KL:=Gh (And.intro Uw (And.intro XU (And.intro X7 Xy)));have PA:=fun(W:World)=>Tryz.make_rec (jR ts).2 (by omega) W;have HMR:=Gh PA;have Ut:=Gh (show jl (E+1+1) ts=jI (jR ts).1 ((List.range (jR ts).2).map fun i=>jl (E+1) (jq (jR ts).1 i ts))from by rw[jl,if_neg hL]);have Be:=Gh (show jR ts=jR (ts.take ts.length)by rw[List.take_length]);unfold J5 qm at IH ⊢;unfold qm at VV;clear h Vg Uh hB hc Xb Xx SQ Uw XU X7 Xy PA IH0;generalize jl (E+1+1) ts=R at*;generalize SK:ts.length=n at*;have HN:=Gh SK;clear SK;go_enter Tryz.func81,Tryz.ntmps81
 go_wp2_with fail
 generalize w.alloc (.cells Gz 28)=W0 at*;go_loopg [3,4,17] n (fun gn lv sz ix wr=>∃j:Nat,j<=n/\gn=n-j/\ix= .int .i64 j/\lv= .int .i64 (jR (ts.take j)).1/\sz= .int .i64 ((jR (ts.take j)).2:Nat)/\Below W0.heap.size W0 wr)
 case atStart=>exact⟨0,Nat.zero_le _,rfl,rfl,rfl,rfl,Below.refl _ _⟩
 case round=>
  obtain⟨j,hj,XI,rfl,rfl,rfl,Xe⟩:=hrel;have HG:=Gh XI;clear XI;have Xh:=Gh (Gt Xd Xe);have Up:=Gh Xe;by_cases Xi:j<n
  ·obtain⟨u,hu⟩:∃u,ts[j]? =some u:=⟨_,Gn (by rw[HN.out];exact Xi)⟩;obtain⟨b,o,A1,q1,K1,r1,rfl,OS,x0,x1,x2,x3,XN⟩:=(HR wr Xh).kid hu;have XH:=Gh (qdb hu);have i3:(0:Int)<=(j:Int):=by omega
   have i4:(j:Int)<(n:Int):=by omega
   have i5:(n:Int)<=(c:Int):=by have:=HC.out;omega
   have El:=Gh (Xe.trans ((Gb wr (.cells #[.int .i64 u.lv,.bool u.ng,.slice A1 u.ds.length q1,.slice K1 u.ks.length r1] 28)).mono Xe.size));have LZ:yu (jR (ts.take j)) u=if(jR (ts.take j)).1<u.lv then(u.lv,max 0 u.ks.length)else if u.lv=(jR (ts.take j)).1 then((jR (ts.take j)).1,max (jR (ts.take j)).2 u.ks.length)else jR (ts.take j):=rfl
   have Uj:=Gh (XH.out.trans LZ);clear hu XN Xe XH LZ;generalize IJ:jR (ts.take j)=pj at*;clear IJ;obtain⟨lj,sj⟩:=pj;dsimp only at*;generalize u.ds.length=ud at*;generalize u.ks.length=uk at*;generalize u.ng=ug at*;generalize u.lv=ul at*;by_cases h1:lj<ul
   ·have RR:=Gh (show jR (ts.take (j+1))=(ul,max 0 uk)by rw[Uj,if_pos h1]);have e1:decide (lj<ul)=true:=decide_eq_true h1;clear Uj;go_wp2_with fail
    go_roundg (n-(j+1))
    case rel=>exact⟨j+1,by omega,rfl,by go_num,by rw[RR.out],by rw[RR.out];congr 1,El⟩
    case measure=>have:=HG.out;omega
   ·by_cases h2:ul=lj
    ·have RR:=Gh (show jR (ts.take (j+1))=(lj,max sj uk)by rw[Uj,if_neg h1,if_pos h2]);have e1:decide (lj<ul)=false:=decide_eq_false h1;subst h2;clear Uj h1;go_wp2_with fail
     go_roundg (n-(j+1))
     case rel=>exact⟨j+1,by omega,rfl,by go_num,by rw[RR.out],by rw[RR.out];congr 1;simp only[];omega,El⟩
     case measure=>have:=HG.out;omega
    ·have RR:=Gh (show jR (ts.take (j+1))=(lj,sj)by rw[Uj,if_neg h1,if_neg h2]);have e1:decide (lj<ul)=false:=decide_eq_false h1;have e2:(ul==lj)=false:=by simpa using h2
     clear Uj h1 h2;go_wp2_with fail
     go_roundg (n-(j+1))
     case rel=>exact⟨j+1,by omega,rfl,by go_num,by rw[RR.out],by rw[RR.out],El⟩
     case measure=>have:=HG.out;omega
  ·obtain rfl:j=n:=by omega
   rw[<-Be.out];have N9:=Gh (Xo.out.old Xe);clear Xe Be HG Xi hj;have Fw:=Gh (show R=jI (jR ts).1 ((List.range (jR ts).2).map fun i=>jl (E+1) (jq (jR ts).1 i ts))from Ut);have IH1:=Gh (fun(i:Nat)=>IH (jq (jR ts).1 i ts) (AB i) (X9 i) (Se i));have eL:((jR ts).1==0)=false:=by simpa using hL
   have Uz:=HMR.out wr;have hgg0:w.heap.size<wr.heap.size:=Gm (Xo.out.lt) Up.out.size;have Uc:=Gh (qaj.start (S:=S) (n:=(jR ts).2) (f:=fun i=>jl (E+1) (jq (jR ts).1 i ts)) Xh);have hZ:=XV;have HLV2:=Gh Fz.out;obtain⟨Uw,XU,X7,Xy⟩:=KL.out;clear hL Ut IH AB Se HMR XV Fz X9;generalize hLLe:(jR ts).1=L at*;generalize (jR ts).2=Z at*;have HRF:=Gh (show∃F:Nat->RP,F=fun i=>jl (E+1) (jq L i ts)from⟨_,rfl⟩);obtain⟨F,hF⟩:=HRF.out;rw[<-hF]at Uc Fw;have HF:=Gh hF;clear hF HRF hLLe;generalize RC:wr.heap.size=g at*;have Xu:=Gh (N9.out.alloc (.cells (madeCells Gz (Z*4)) 28));go_wp2_with fail
   generalize wr.alloc (.cells (madeCells Gz (Z*4)) 28)=W3 at*;go_loopg [11,12,62] Z (fun gn _ _ ix wr=>∃i:Nat,i<=Z/\gn=Z-i/\ix= .int .i64 i/\qaj S w wr g Z F i/\qf wr w.heap.size 28 Gz)
   case atStart=>exact⟨0,Nat.zero_le _,rfl,rfl,Uc,Xu⟩
   case round=>
    clear Uc Xu;obtain⟨i,hi,RA,rfl,Mw,X8⟩:=hrel;have HG:=Gh RA;have Uc:=Gh Mw;have RI:=Gh X8;have It:=Gh Mw.bel;clear RA Mw X8;by_cases Xi:i<Z
    ·have XH:=Gh (YR.start (S:=S) wr);go_wp2_with fail
     rename World=>wo
     have D5:=Gh (fun(b:Nat)(hb:S b)=>show b<wo.heap.size from Gm (EX b hb) It.out.size);go_loopg [12,67] j (fun gn v ix wr=>∃k:Nat,k<=j/\gn=j-k/\ix= .int .i64 k/\YR S wo wr v (jq L i (ts.take k)))
     case atStart=>exact⟨0,Nat.zero_le _,rfl,rfl,XH⟩
     case round=>
      obtain⟨k,hk,XG,rfl,Pn⟩:=hrel;have La:=Gh XG;have Tg:=Gh Pn;clear XG Pn XH;have Rd:Below w.heap.size w wr:=Gt It Tg.out.bel;by_cases EH:k<j
      ·obtain⟨u,hu⟩:∃u,ts[k]? =some u:=⟨_,Gn (by rw[HN.out];exact EH)⟩;obtain⟨b,o,A1,q1,K1,r1,rfl,OS,x0,x1,x2,x3,XN⟩:=(HR wr Rd).kid hu;have En:=Gh (qeu (l:=L) (i:=i) hu);have SG:u.lv<=L:=HLV2.out u (Gk hu);have Xc:=Gb wr (.cells #[.int .i64 u.lv,.bool u.ng,.slice A1 u.ds.length q1,.slice K1 u.ks.length r1] 28);have UU:=qf.new wr 28 #[.int .i64 u.lv,.bool u.ng,.slice A1 u.ds.length q1,.slice K1 u.ks.length r1];have Ly:=Tg.out.bel.size;have i3:(0:Int)<=(k:Int):=by omega
       have i4:(k:Int)<(j:Int):=by omega
       have i5:(j:Int)<=(c:Int):=by have:=HC.out;omega
       have U6:(jq L i (ts.take k)).length<=10000:=Gl (YE L i (ts.take k)) (by rw[List.length_take];omega);have PR:=RV.keep (w':=wr.alloc (.cells #[.int .i64 u.lv,.bool u.ng,.slice A1 u.ds.length q1,.slice K1 u.ks.length r1] 28)) (fun b hb o=>Xc.cell (p:=⟨b,o,none⟩) (Gm (D5 b hb) Ly)) _ _ XN;obtain⟨rows,Xk,BJ⟩:=Tg.out.row;have U7:=Gh Xk;have TY:=Gh BJ;clear Xk BJ hu XN;go_upto_region 26 with(fail)
       generalize hV:wr.alloc (.cells #[.int .i64 u.lv,.bool u.ng,.slice A1 u.ds.length q1,.slice K1 u.ks.length r1] 28)=V at*;have S9:=Gh Xc;have CL:=Gh PR;have HWV:=Gh (Gl Ly Xc.size);obtain⟨z0,z1,z2,z3⟩:=G4 UU;clear x0 x1 x2 x3 Xc UU hV PR Ly Rd;by_cases h1:u.lv=L
       ·by_cases h2:i<u.ks.length
        ·obtain⟨x,hx⟩:∃x,u.ks[i]? =some x:=⟨_,Gn h2⟩;have UT:=CL.out.node.2.2.2;obtain⟨b5,o5,A5,q5,K5,r5,rfl,hbS5,y0,y1,y2,y3,hkx⟩:=CL.out.kid hx;have DL:Hid (RV V S x [.int .i64 x.lv,.bool x.ng,.slice A5 x.ds.length q5,.slice K5 x.ks.length r5]):=Gh hkx;have CG:=Gh (show jq L i (ts.take (k+1))=jq L i (ts.take k)++[x]by
          rw[En.out];have:yH L i u=some x:=by unfold yH;rw[if_pos ⟨h1,h2⟩];exact hx
          rw[this])
         have j2:(i:Int)<(u.ks.length:Int):=by omega
         have j3:(u.ks.length:Int)<=(r1:Int):=by omega
         have j4:(0:Int)<=(i:Int):=by omega
         clear hx hkx En CL h2 UT SG;generalize u.ks.length=uk at*;generalize u.ds.length=ud at*;generalize u.ng=ug at*;generalize u.lv=ul at*;have e1:(ul==L)=true:=by simpa using h1
         clear h1;generalize x.lv=xl at*;generalize x.ng=xg at*;generalize x.ds.length=xd at*;generalize x.ks.length=xk at*;have Xv:=qu.four_newA V [.int .i64 xl,.bool xg,.slice A5 xd q5,.slice K5 xk r5] rfl 28;have Tv:=jB (jB U7 S9) (Gb V (.cells #[.int .i64 xl,.bool xg,.slice A5 xd q5,.slice K5 xk r5] 28));have Xt:wo.heap.size<=(V.alloc (.cells #[.int .i64 xl,.bool xg,.slice A5 xd q5,.slice K5 xk r5] 28)).heap.size:=Gl HWV (by simp);have Vi:=Gh (fun(W2:World)(v':Value) ho hg=>Tg.out.push (W2:=W2) (v':=v') (cs:=[.int .i64 xl,.bool xg,.slice A5 xd q5,.slice K5 xk r5]) D5 U7 TY S9 DL ho hg);rw[<-CG.out]at Vi;generalize U4:(jq L i (ts.take k)).length=pm at*;have VK:pm+1<=maxLen:=by unfold maxLen;omega
         have VH:(pm+1)*64<=140737488355328:=by omega
         go_wp2_with (at_builtin;refine qM _ rfl (.tmp 83) (.tmp 89) 26 rfl wo.heap.size 28 i0 _ 4 64 Tryz.underlying26 Uw XU X7 Xy rfl (by decide) u12 pm rows.flatten rfl Tv (V.heap.size+1) (some ⟨V.heap.size,0,none⟩) 1 1 [.int .i64 xl,.bool xg,.slice A5 xd q5,.slice K5 xk r5] rfl Xv (by intro u hu;simp at hu;rcases hu with rfl|rfl|rfl|rfl<;>rfl) VK VH Xt ?_;intro v' w2 hown2 TV hat2;refine Hid.out ?_)
         refine Gh ?_;have HN:=Gh (Vi w2 v' hown2 TV);clear hown2 TV hat2 Xv Tv Xt VK VH;go_wp2_with fail
         go_roundg (j-(k+1))
         case rel=>exact⟨k+1,by omega,rfl,by go_num,HN⟩
         case measure=>have:=La.out;omega
        ·have CG:=Gh (show jq L i (ts.take (k+1))=jq L i (ts.take k)by
          rw[En.out];have:yH L i u=none:=by unfold yH;rw[if_neg (fun h=>h2 h.2),if_neg (fun h=>by have:=h.1;omega)]
          rw[this,List.append_nil])
         have e2:decide ((i:Int)<(u.ks.length:Int))=false:=decide_eq_false (by omega);have e2n:decide (i<u.ks.length)=false:=decide_eq_false h2;have h2n:¬((i:Int)<(u.ks.length:Int)):=by omega
         have e3:decide (u.lv<L)=false:=decide_eq_false (by omega);have e1:(u.lv==L)=true:=by simpa using h1
         clear En CL h2 h1 SG U7 TY;generalize u.ks.length=uk at*;generalize u.ds.length=ud at*;generalize u.ng=ug at*;generalize u.lv=ul at*;have HN:=Gh (Tg.out.old D5 S9);rw[<-CG.out]at HN;go_wp2_with fail
         go_roundg (j-(k+1))
         case rel=>exact⟨k+1,by omega,rfl,by go_num,HN⟩
         case measure=>have:=La.out;omega
       ·have e1:(u.lv==L)=false:=by simpa using h1
        have e3:decide (u.lv<L)=true:=decide_eq_true (by omega);by_cases h2:i=0
        ·have CG:=Gh (show jq L i (ts.take (k+1))=jq L i (ts.take k)++[u]by
          rw[En.out];have:yH L i u=some u:=by unfold yH;rw[if_neg (fun h=>h1 h.1),if_pos ⟨by omega,h2⟩]
          rw[this])
         have e2:((i:Int)==0)=true:=by simp[h2]
         have Bg:Hid (RV V S u [.int .i64 u.lv,.bool u.ng,.slice A1 u.ds.length q1,.slice K1 u.ks.length r1]):=Gh CL.out;clear En CL h2 h1 SG;generalize u.ks.length=uk at*;generalize u.ds.length=ud at*;generalize u.ng=ug at*;generalize u.lv=ul at*;have Xv:=qu.four_newA V [.int .i64 ul,.bool ug,.slice A1 ud q1,.slice K1 uk r1] rfl 28;have Tv:=jB (jB U7 S9) (Gb V (.cells #[.int .i64 ul,.bool ug,.slice A1 ud q1,.slice K1 uk r1] 28));have Xt:wo.heap.size<=(V.alloc (.cells #[.int .i64 ul,.bool ug,.slice A1 ud q1,.slice K1 uk r1] 28)).heap.size:=Gl HWV (by simp);have Vi:=Gh (fun(W2:World)(v':Value) ho hg=>Tg.out.push (W2:=W2) (v':=v') (cs:=[.int .i64 ul,.bool ug,.slice A1 ud q1,.slice K1 uk r1]) D5 U7 TY S9 Bg ho hg);rw[<-CG.out]at Vi;generalize U4:(jq L i (ts.take k)).length=pm at*;have VK:pm+1<=maxLen:=by unfold maxLen;omega
         have VH:(pm+1)*64<=140737488355328:=by omega
         go_wp2_with (at_builtin;refine qM _ rfl (.tmp 100) (.tmp 102) 26 rfl wo.heap.size 28 i0 _ 4 64 Tryz.underlying26 Uw XU X7 Xy rfl (by decide) u12 pm rows.flatten rfl Tv (V.heap.size+1) (some ⟨V.heap.size,0,none⟩) 1 1 [.int .i64 ul,.bool ug,.slice A1 ud q1,.slice K1 uk r1] rfl Xv (by intro u hu;simp at hu;rcases hu with rfl|rfl|rfl|rfl<;>rfl) VK VH Xt ?_;intro v' w2 hown2 TV hat2;refine Hid.out ?_)
         refine Gh ?_;have HN:=Gh (Vi w2 v' hown2 TV);clear hown2 TV hat2 Xv Tv Xt VK VH;go_wp2_with fail
         go_roundg (j-(k+1))
         case rel=>exact⟨k+1,by omega,rfl,by go_num,HN⟩
         case measure=>have:=La.out;omega
        ·have CG:=Gh (show jq L i (ts.take (k+1))=jq L i (ts.take k)by
          rw[En.out];have:yH L i u=none:=by unfold yH;rw[if_neg (fun h=>h1 h.1),if_neg (fun h=>h2 h.2)]
          rw[this,List.append_nil])
         have e2:((i:Int)==0)=false:=by simp[h2]
         clear En CL h2 h1 SG U7 TY;generalize u.ks.length=uk at*;generalize u.ds.length=ud at*;generalize u.ng=ug at*;generalize u.lv=ul at*;have HN:=Gh (Tg.out.old D5 S9);rw[<-CG.out]at HN;go_wp2_with fail
         go_roundg (j-(k+1))
         case rel=>exact⟨k+1,by omega,rfl,by go_num,HN⟩
         case measure=>have:=La.out;omega
      ·obtain rfl:k=j:=by omega
       have Ey:=Gh (show YR S wo wr u12 (jq L i ts)by
        have:=Tg.out;rw[List.take_of_length_le (by rw[HN.out];exact Gr _)]at this;exact this)
       obtain⟨A7,c7,hv7,LV,Pd⟩:=Ey.out.arg;have XT:=Gh (IH1 i A7 c7 wr (Gl Sy Rd.size) Pd LV);rw[show jl (E+1) (jq L i ts)=F i by rw[HF.out]]at XT;have VG:g+1<=wr.heap.size:=by
        have h1:=Ey.out.bel.size;obtain⟨cur,rows,hr⟩:=Uc.out.row;have h2:=hr.row.lt;omega
       have KB:=Gh Ey.out.bel;have Tu:=Gh VG;subst hv7;clear LV Pd Ey Tg EH Rd VG;generalize (jq L i ts).length=pm at*;go_wp2_with fail
       refine XT.out.mono ?_;rintro e w4 ⟨A4,c4,K4,kc4,rfl,TR,XB⟩;have XL:=Gt KB XB;have Vu:=Gh (Uc.out.put EX (by omega) Xi XL TR Tu);have DL:=Gh ((RI.out.old XL).set4_far (k:=w.heap.size) (g:=g) (by omega) (i*4) (.int .i64 (F i).lv) (.bool (F i).ng) (.slice A4 (F i).ds.length c4) (.slice K4 (F i).ks.length kc4));obtain⟨v0,v1,v2,v3,d0,d1,d2,d3,f0,f1,f2,f3,zl⟩:=Uc.out.cell XL Xi;have i3:(0:Int)<=(i:Int):=by omega
       have i4:(i:Int)<(Z:Int):=by omega
       clear XB TR XL XT Uc RI KB;generalize (F i).lv=fl at*;generalize (F i).ng=fg at*;generalize (F i).ds.length=fd at*;generalize (F i).ks.length=fk at*;go_wp2_with fail
       go_roundg (Z-(i+1))
       case rel=>exact⟨i+1,by omega,rfl,by go_num,Vu,DL⟩
       case measure=>have:=HG.out;omega
    ·obtain rfl:i=Z:=by omega
     obtain⟨cur,rows,hr⟩:=Uc.out.row;have XM:(cfA F i i).length=i:=by simp[cfA]
     have LY:∀b,S b->b<wr.heap.size:=fun b hb=>Gm (EX b hb) It.out.size;have HT:=Gh (VV (ZL S wr (w.heap.size+1)) L (cfA F i i) (by omega) (some ⟨g,0,none⟩) wr (fun b hb=>hb.lt LY) (hr.trsSh (by omega)));rw[XM]at HT;rw[<-qfM F i]at Fw;rw[<-Fw.out]at HT;clear hr XM Xi;go_wp2_with fail
     refine HT.out.mono ?_;rintro e w5 ⟨A5,c5,K5,kc5,rfl,Fl,XL⟩;have RN:=RI.out.old XL;have Xg:=Gh (qe5 (S:=S) (w:=w) (g:=w.heap.size) RN rfl (RV.mono (fun b hb=>hb.old XL) _ _ Fl) (fun b hb=>Nat.ne_of_lt (EX b hb)) (Gr _) (Gt It XL));obtain⟨d0,d1,d2,d3⟩:=G4 RN;obtain⟨f0,f1,f2,f3,zl⟩:=G5 RN;clear RN Fl XL HT LY;go_wp2_with fail
     exact qo Tryz.results81 rfl rfl Xg.out.1 Tryz.underlying28 rfl Tryz.sizeRec Xg.out.2
theorem Yn(S:Nat->Prop)(B X:Nat)(SQ:∀b,S b->b<B)(hX:X<=10000):∀(E:Nat)(ts:List RP),yX (E+1) ts->ts.length<=10000->(∀t∈ts,yP X t)->∀(P:Oa)(c:Nat)(w:World),B<=w.heap.size->yM w (· <w.heap.size) S P ts->ts.length<=c->
 Calls Tryz.prog 81 #[.slice P ts.length c] w (J5 S (jl (E+1) ts) w)
 |0,ts,Vg,hn,Uh,P,c,w,hB,h,hc=>by
  have hL:(jR ts).1=0:=by
   rcases QS ts with e|⟨q,hq,e⟩
   ·exact e
   ·have h1:=(Vg q hq).2;have h2:=(qJ (Vg q hq).1).1;omega
  rw[jl,if_pos hL];exact qaL S B X SQ hX ts hL hn Uh P c w hB h hc
 |E+1,ts,Vg,hn,Uh,P,c,w,hB,h,hc=>by
  by_cases hL:(jR ts).1=0
  ·rw[jl,if_pos hL];exact qaL S B X SQ hX ts hL hn Uh P c w hB h hc
  ·exact qfQ S B X SQ hX E (Yn S B X SQ hX E) ts hL Vg hn Uh P c w hB h hc
def QC(w:World)(base:Nat)(v:Value)(is:List Nat):Prop:=w.ownsRow base 3 1 v is.length (is.map fun i:Nat=>Value.int .i64 (i:Int))
theorem QC.old{w w':World}{base:Nat}{v:Value}{is:List Nat}(h:QC w base v is)(hb:Below w.heap.size w w'):QC w' base v is:=jB h hb
theorem qcx{w:World}{base n c size:Nat}{e:TypeId}{A:Oa}{xs:List Value}(h:w.ownsRow base e size (.slice A n c) n xs):n<=c:=by
 rcases h.2 with⟨hv,h0⟩|⟨g,cap,cur,hv,_,_,h1,_⟩
 ·omega
 ·injection hv with _ _ hv
  omega
theorem QC.at_{w:World}{base:Nat}{v:Value}{is:List Nat}(h:QC w base v is):∃A c,v= .slice A is.length c/\is.length<=c/\∀(k:Nat)(i:Nat),is[k]? =some i->∃b o,A=some ⟨b,o,none⟩/\b<w.heap.size/\base<=b/\w.cell? ⟨b,o+k,none⟩=some (.int .i64 (i:Int)):=by
 obtain⟨A,c,rfl⟩:=jd h;refine⟨A,c,rfl,qcx h,fun k i hk=>?_⟩;have hl:=(Gi.1 hk).1;obtain⟨g,cap,hv,hc,Xi⟩:=h.form (by omega)
 injection hv with h1 h2 h3
 subst h1;have hr:=(qu.of_own h).2 (by omega);obtain⟨b,o,e,hb,TO⟩:=hr
 injection e with e
 injection e with e1 e2 e3
 subst e1;subst e2;refine⟨_,_,rfl,hb,jY h rfl,?_⟩;exact TO k _ (by rw[List.getElem?_map,hk];rfl)
theorem Tryz.infoIntS:(Tryz.prog.info? 3).map (fun i=>(i.zero,i.size,i.bytes))=some (some (.int .i64 0),1,8):=by kernel_rfl
theorem Zk(ts:List RP)(Vq:ts.length<=10000)(A:Oa)(c B:Nat)(w:World)(hB:B<=w.heap.size)(h:jT w B A ts)(hc:ts.length<=c):
 Calls Tryz.prog 107 #[.slice A ts.length c] w fun e w'=>∃v,e= .returned v/\QC w' w.heap.size v (yk ts ts.length)/\Below w.heap.size w w':=by
 have HT:=Gh (fun(W:World)(hW:Below w.heap.size w W)=>h.below (hW.mono hB));have HZ:=Gh (fun(u:RP)(A:Oa)(c:Nat)(K:Oa)(kc:Nat)(W:World)=>zf u A c K kc W);unfold qm at HZ;unfold QC;have XH:=Gh (show w.ownsRow w.heap.size 3 1 (.slice none 0 0) (yk ts 0).length ((yk ts 0).map fun i:Nat=>Value.int .i64 (i:Int))from⟨rfl,.inl ⟨rfl,rfl⟩⟩);clear h hB;generalize hn:ts.length=n at*;have HN:=Gh hn;clear hn;go_enter Tryz.func107,Tryz.ntmps107
 go_wp2_with fail
 go_loopg [3,8] n (fun gn v ix wr=>∃k:Nat,k<=n/\gn=n-k/\ix= .int .i64 k/\Below w.heap.size w wr/\wr.ownsRow w.heap.size 3 1 v (yk ts k).length ((yk ts k).map fun i:Nat=>Value.int .i64 (i:Int)))
 case atStart=>exact⟨0,Nat.zero_le _,rfl,rfl,Below.refl _ _,XH⟩
 case round=>
  clear XH;obtain⟨k,hk,XG,rfl,Xe,Xk⟩:=hrel;have HG:=Gh XG;have Xh:=Gh Xe;have U7:=Gh Xk;clear XG Xe Xk;by_cases Xi:k<n
  ·obtain⟨u,hu⟩:∃u,ts[k]? =some u:=⟨_,Gn (by rw[HN.out];exact Xi)⟩;obtain⟨b,o,A1,q1,K1,r1,rfl,Tn,x0,x1,x2,x3,XN⟩:=(HT wr Xh).kid hu;have XF:=getD_some qh hu;have Rk:=Gh (fun(hz:qI u=true)=>show yk ts (k+1)=yk ts k by rw[yk,XF,if_pos hz]);have WE:=Gh (fun(hz:qI u=false)=>show yk ts (k+1)=yk ts k++[k]by rw[yk,XF,if_neg (by rw[hz];decide)]);have U6:=JC ts k;have Xc:=Gb wr (.cells #[.int .i64 u.lv,.bool u.ng,.slice A1 u.ds.length q1,.slice K1 u.ks.length r1] 28);have UU:=qf.new wr 28 #[.int .i64 u.lv,.bool u.ng,.slice A1 u.ds.length q1,.slice K1 u.ks.length r1];have i3:(0:Int)<=(k:Int):=by omega
   have i4:(k:Int)<(n:Int):=by omega
   have i5:(n:Int)<=(c:Int):=by omega
   have El:=Gh Xc;have HZU:=Gh (HZ u A1 q1 K1 r1);clear hu XF XN Xc;generalize qI u=z at*;generalize u.ks.length=uk at*;generalize u.ds.length=ud at*;generalize u.ng=ug at*;generalize u.lv=ul at*;go_upto_region 5 with(fail)
   generalize wr.alloc (.cells #[.int .i64 ul,.bool ug,.slice A1 ud q1,.slice K1 uk r1] 28)=V at*;obtain⟨z0,z1,z2,z3⟩:=G4 UU;clear x0 x1 x2 x3;go_wp2_with fail
   refine(HZU V).mono ?_;rintro e w2 ⟨rfl,Xf⟩;have Xw:=Gh (Gt El Xf);have Up:=Gh (Gt Xh Xw);clear z0 z1 z2 z3 Xf UU El HZU HZ
   cases z with
   |true=>
    have MP:=Gh (jB U7 Xw);rw[<-Rk rfl]at MP;clear Rk WE;go_wp2_with fail
    go_roundg (n-(k+1))
    case rel=>exact⟨k+1,by omega,rfl,by go_num,Up,MP⟩
    case measure=>have:=HG.out;omega
   |false=>
    obtain⟨i0,Uw,XU,X7,Xy⟩:=qO Tryz.infoIntS;have KA:=Gh (WE rfl);generalize CV:yk ts k=pp at*;have Tv:=(jB U7 Xw).alloc (.cells #[.int .i64 (k:Int)] 3);have Xt:w.heap.size<=(w2.alloc (.cells #[.int .i64 (k:Int)] 3)).heap.size:=Gl Up.out.size (by simp);have VK:pp.length+1<=maxLen:=by unfold maxLen;omega
    have VH:(pp.length+1)*8<=140737488355328:=by omega
    have Ue:=Gh (Up.out.alloc Up.out.size (.cells #[.int .i64 (k:Int)] 3));clear Rk WE CV;go_wp2_with (at_builtin;refine qM _ rfl (.tmp 16) (.tmp 18) 142 rfl w.heap.size 3 i0 _ 1 8 Tryz.underlying142 Uw XU X7 Xy rfl (by decide) _ pp.length _ rfl Tv (w2.heap.size+1) (some ⟨w2.heap.size,0,none⟩) 1 1 [.int .i64 (k:Int)] rfl (qu.one_new w2 (.int .i64 (k:Int)) 3) (by intro u hu;simp at hu;subst hu;rfl) VK VH Xt ?_;intro v' w3 hown3 hg3 hat3;refine Hid.out ?_)
    refine Gh ?_;have Um:=Gh (Ue.out.grown hg3 Xt (fun q hq=>jY Tv hq));have MP:=Gh (show w3.ownsRow w.heap.size 3 1 v' (yk ts (k+1)).length ((yk ts (k+1)).map fun i:Nat=>Value.int .i64 (i:Int))by
     rw[KA,List.length_append,List.map_append];exact hown3)
    clear hown3 hg3 hat3 Tv Xt VK VH;go_wp2_with fail
    go_roundg (n-(k+1))
    case rel=>exact⟨k+1,by omega,rfl,by go_num,Um,MP⟩
    case measure=>have:=HG.out;omega
  ·obtain rfl:k=n:=by omega
   have HF:=Gh U7.out;go_wp2_with fail
   go_ret
   exact⟨_,rfl,HF,Xh⟩
def Qn(vs:List Value)(w:World)(base b:Nat):Prop:=yB w base b/\∀v∈vs,v.ownBlock≠some b
structure Trn (W W':World) (row:Option Nat):Prop where
 u32:∀g cs,qf W g 123 cs->qf W' g 123 cs
 rc:∀g cs,some g≠row->qf W g 28 cs->qf W' g 28 cs
theorem Trn.below{W W':World}(h:Below W.heap.size W W')(row:Option Nat):Trn W W' row:=⟨fun _ _ k=>k.old h,fun _ _ _ k=>k.old h⟩
theorem Trn.trans{W W' W2:World}{row:Option Nat}(h:Trn W W' row)(k:Trn W' W2 row):Trn W W2 row:=⟨fun g cs x=>k.u32 g cs (h.u32 g cs x),fun g cs hn x=>k.rc g cs hn (h.rc g cs hn x)⟩
theorem Trn.grown{W W':World}{base n:Nat}{v:Value}{xs:List Value}(h:W.ownsRow base 28 4 v n xs)(hg:W.grownBy W' v.ownBlock):Trn W W' v.ownBlock:=
 ⟨fun _ _ k=>k.grown hg (yx h k (by decide)),fun _ _ hn k=>k.grown hg hn⟩
theorem Trn.set{W:World}{g o:Nat}{cs:Array Value}(h:qf W g 26 cs)(u:Value)(row:Option Nat):Trn W (W.setCell ⟨g,o,none⟩ u) row:=
 ⟨fun _ _ k=>k.far (p:=⟨g,o,none⟩) (jf k h (by decide)) u,fun _ _ _ k=>k.far (p:=⟨g,o,none⟩) (jf k h (by decide)) u⟩
section
variable {W W' W2:World} {vs vs':List Value} {Ps:List (List RP)} {base gT k:Nat} {row:Option Nat} {v v':Value} {ts:List RP} {rows:List (List Value)} {x:RP} {us:List Value}
theorem Qn.lt{b:Nat}(h:Qn vs W base b):b<W.heap.size:=h.1.lt
theorem Qn.turn(hT:Trn W W' row)(Ua:∀g,row=some g->∃v∈vs,v.ownBlock=some g)(hv:∀b,Qn vs W base b->∀v∈vs',v.ownBlock≠some b):
 (∀b,Qn vs W base b->∀o,W'.cell? ⟨b,o,none⟩=W.cell? ⟨b,o,none⟩)/\∀b,Qn vs W base b->Qn vs' W' base b:=by
 refine⟨fun b hb o=>?_,fun b hb=>⟨?_,hv b hb⟩⟩
 ·rcases hb.1 with⟨cs,h⟩|⟨_,cs,h⟩
  ·exact h.cell_eq (hT.u32 b cs h) o
  ·refine h.cell_eq (hT.rc b cs (fun e=>?_) h) o;obtain⟨v,h1,h2⟩:=Ua b e.symm;exact hb.2 v h1 h2
 ·rcases hb.1 with⟨cs,h⟩|⟨hg,cs,h⟩
  ·exact .inl ⟨cs,hT.u32 b cs h⟩
  ·refine .inr ⟨hg,cs,hT.rc b cs (fun e=>?_) h⟩;obtain⟨v,h1,h2⟩:=Ua b e.symm;exact hb.2 v h1 h2
structure Z9 (W:World) (gT:Nat) (vs:List Value) (Ps:List (List RP)):Prop where
 tab:qf W gT 26 vs.toArray
 pl:Ps.length=vs.length
 row:∀(k:Nat)(v:Value)(ts:List RP),vs[k]? =some v->Ps[k]? =some ts->∃rows,W.ownsRow (gT+1) 28 4 v ts.length rows.flatten/\qG W (Qn vs W (gT+1)) ts rows
 apart:∀(k k':Nat)(v v':Value)(b:Nat),vs[k]? =some v->vs[k']? =some v'->v.ownBlock=some b->v'.ownBlock=some b->k=k'
theorem Z9.own_lt(h:Z9 W gT vs Ps)(hv:v∈vs){b:Nat}(hb:v.ownBlock=some b):gT+1<=b/\b<W.heap.size:=by
 obtain⟨k,hk⟩:=List.getElem?_of_mem hv;obtain⟨rows,ho,_⟩:=h.row k v _ hk (Gn (by rw[h.pl];exact(Gi.1 hk).1));exact ho.lt b hb
theorem Z9.old(h:Z9 W gT vs Ps)(hb:Below W.heap.size W W'):Z9 W' gT vs Ps where
 tab:=h.tab.old hb
 pl:=h.pl
 row:=fun k v ts h1 h2=>by
  obtain⟨rows,ho,hm⟩:=h.row k v ts h1 h2;obtain⟨t1,t2⟩:=Qn.turn (vs:=vs) (vs':=vs) (base:=gT+1) (Trn.below hb none) (fun _ e=>by cases e) (fun b hb=>hb.2);exact⟨rows,jB ho hb,qG.mono t2 _ _ (qG.keep t1 _ _ hm)⟩
 apart:=h.apart
theorem Z9.start(hk:qf W gT 26 (List.replicate k (.slice none 0 0)).toArray):Z9 W gT (List.replicate k (.slice none 0 0)) (List.replicate k []) where
 tab:=hk
 pl:=by simp
 row:=fun i v ts h1 h2=>by
  obtain⟨_,rfl⟩:=List.mem_replicate.1 (Gk h1);obtain⟨_,rfl⟩:=List.mem_replicate.1 (Gk h2);exact⟨[],⟨rfl,.inl ⟨rfl,rfl⟩⟩,by unfold qG;rfl⟩
 apart:=fun i j v v' b h1 _ h3 _=>by
  obtain⟨_,rfl⟩:=List.mem_replicate.1 (Gk h1)
  cases h3
theorem Z9.push(h:Z9 W gT vs Ps)(hk:vs[k]? =some v)(hp:Ps[k]? =some ts)(hr:W.ownsRow (gT+1) 28 4 v ts.length rows.flatten)(hm:qG W (Qn vs W (gT+1)) ts rows)
 (hg:W.grownBy W2 v.ownBlock)(ho:W2.ownsRow (gT+1) 28 4 v' (ts.length+1) (rows.flatten++us))(VI:v'.ownBlock=v.ownBlock∨∃g,v'.ownBlock=some g/\W.heap.size<=g)
 (hx:RV W2 (Qn (vs.set k v') W2 (gT+1)) x us):Z9 (W2.setCell ⟨gT,k,none⟩ v') gT (vs.set k v') (Ps.set k (ts++[x])):=by
 have TU:=(Gi.1 hk).1;have U6:=(Gi.1 hp).1;have Ci:qf W2 gT 26 vs.toArray:=h.tab.grown hg (fun e=>by have:=jY hr e.symm;omega);have Dp:v∈vs:=Gk hk;have Ua:∀g,v.ownBlock=some g->∃u∈vs,u.ownBlock=some g:=fun g e=>⟨v,Dp,e⟩;have hset:∀b,Qn vs W (gT+1) b->∀u∈vs.set k v',u.ownBlock≠some b:=fun b hb u hu=>by
  rcases List.mem_or_eq_of_mem_set hu with hu|rfl
  ·exact hb.2 u hu
  ·intro e;rcases VI with e'|⟨g,e',EO⟩
   ·exact hb.2 v Dp (e'.symm.trans e)
   ·rw[e']at e
    injection e with e
    have:=hb.lt;omega
 obtain⟨t1,t2⟩:=Qn.turn (vs:=vs) (vs':=vs.set k v') (base:=gT+1) ((Trn.grown hr hg).trans (Trn.set (o:=k) Ci v' _)) Ua hset;obtain⟨s1,s2⟩:=Qn.turn (vs:=vs.set k v') (vs':=vs.set k v') (base:=gT+1) (Trn.set (o:=k) Ci v' none) (fun _ e=>by cases e) (fun b hb=>hb.2);refine⟨by have:=Ci.set_ k v';simpa using this,by rw[List.length_set,List.length_set];exact h.pl,fun k' u ts' h1 h2=>?_,fun i j u u' b h1 h2 h3 h4=>?_⟩
 ·by_cases e:k=k'
  ·subst e;rw[List.getElem?_set_self TU]at h1;rw[List.getElem?_set_self U6]at h2
   injection h1 with h1
   injection h2 with h2
   subst h1;subst h2;refine⟨rows++[us],?_,qG.snoc (qG.mono t2 _ _ (qG.keep t1 _ _ hm)) (RV.mono s2 _ _ (RV.keep s1 _ _ hx))⟩;rw[List.flatten_append,List.length_append];simpa using ze ho (Nat.lt_succ_self gT) v'
  ·rw[List.getElem?_set_ne e]at h1 h2;obtain⟨rows',hoq,UE⟩:=h.row k' u ts' h1 h2;refine⟨rows',ze (hoq.kept hg ?_) (Nat.lt_succ_self gT) v',qG.mono t2 _ _ (qG.keep t1 _ _ UE)⟩
   cases hb:u.ownBlock with
   |none=>exact .inl rfl
   |some b=>exact .inr fun e'=>e (h.apart k k' v u b hk h1 e'.symm hb)
 ·have FR:∀(j:Nat)(u:Value),j≠k->vs[j]? =some u->v'.ownBlock=some b->u.ownBlock=some b->False:=fun j u hj hu e1 e2=>by
   rcases VI with e'|⟨g,e',EO⟩
   ·exact hj (h.apart j k u v b hu hk e2 (e'.symm.trans e1))
   ·rw[e']at e1
    injection e1 with e1
    have:=(h.own_lt (Gk hu) e2).2;omega
  by_cases ei:k=i
  ·subst ei;rw[List.getElem?_set_self TU]at h1
   injection h1 with h1
   subst h1;by_cases ej:k=j
   ·exact ej
   ·rw[List.getElem?_set_ne ej]at h2;exact(FR j u' (Ne.symm ej) h2 h3 h4).elim
  ·rw[List.getElem?_set_ne ei]at h1;by_cases ej:k=j
   ·subst ej;rw[List.getElem?_set_self TU]at h2
    injection h2 with h2
    subst h2;exact(FR i u (Ne.symm ei) h1 h4 h3).elim
   ·rw[List.getElem?_set_ne ej]at h2;exact h.apart i j u u' b h1 h2 h3 h4
theorem qG.split{w:World}{S:Nat->Prop}:∀{ts:List RP} {t:RP} {rows:List (List Value)},qG w S (ts++[t]) rows->∃rs r,rows=rs++[r]/\qG w S ts rs/\RV w S t r
 |[],t,rows,h=>by
  rw[List.nil_append]at h;unfold qG at h;obtain⟨r,rs,rfl,h2,h3⟩:=h;unfold qG at h3;subst h3;exact⟨[],r,rfl,by unfold qG;rfl,h2⟩
 |y::ts,t,rows,h=>by
  rw[List.cons_append]at h;unfold qG at h;obtain⟨r,rs,rfl,h2,h3⟩:=h;obtain⟨rs',r',rfl,h4,h5⟩:=qG.split h3;exact⟨r::rs',r',rfl,by unfold qG;exact⟨r,rs',rfl,h2,h4⟩,h5⟩
theorem qiN{P:List Value}{p0 p1 p2 p3 a b c d:Value}{n:Nat}(hn:P.length=n):((((P++[p0,p1,p2,p3]).set n a).set (n+1) b).set (n+2) c).set (n+3) d=P++[a,b,c,d]:=by
 subst hn;rw[List.set_append_right _ _ (Gr _),Nat.sub_self,List.set_append_right _ _ (by omega),List.set_append_right _ _ (by omega),List.set_append_right _ _ (by omega),show P.length+1-P.length=1 by omega,show P.length+2-P.length=2 by omega,show P.length+3-P.length=3 by omega];rfl
theorem Z9.put(h:Z9 W gT vs (Ps.set k (ts++[qh])))(hk:vs[k]? =some v){A K:Oa}{c kc:Nat}(hx:RV W (Qn vs W (gT+1)) x (qe x A c K kc)):
 ∃g cap,v= .slice (some ⟨g,0,none⟩) (ts.length+1) cap/\gT+1<=g/\Z9 (set4 W g (ts.length*4) (.int .i64 x.lv) (.bool x.ng) (.slice A x.ds.length c) (.slice K x.ks.length kc)) gT vs (Ps.set k (ts++[x]))/\∃cur,qf W g 28 cur/\(ts.length+1)*4<=cur.size:=by
 have TU:=(Gi.1 hk).1;have LF:k<Ps.length:=by have:=h.pl;rw[List.length_set]at this;omega
 obtain⟨rows,ho,hm⟩:=h.row k v (ts++[qh]) hk (List.getElem?_set_self LF);rw[List.length_append,List.length_singleton]at ho;obtain⟨g,cap,hv,UP,_⟩:=ho.form (by omega);subst hv;have DA:=jY ho rfl;obtain⟨rs,r,rfl,TC,VY⟩:=qG.split hm;obtain⟨cur,XS,_,_,_⟩:=own_blk ho;have h4:=(qG.at_ _ _ hm).1;have XC:=(qG.at_ _ _ TC).2.1;have hP:rs.flatten.length=ts.length*4:=by rw[jt fun r hr=>h4 r (List.mem_append_left _ hr),XC]
 obtain⟨A0,c0,K0,kc0,er⟩:=VY.cells;have hf:(rs++[r]).flatten=rs.flatten++[.int .i64 qh.lv,.bool qh.ng,.slice A0 qh.ds.length c0,.slice K0 qh.ks.length kc0]:=by rw[List.flatten_append,er];simp[qe]
 rw[hf]at ho;obtain⟨o1,g1⟩:=ho.stored (ts.length*4) (.int .i64 x.lv);obtain⟨o2,g2⟩:=o1.stored (ts.length*4+1) (.bool x.ng);obtain⟨o3,g3⟩:=o2.stored (ts.length*4+2) (.slice A x.ds.length c);obtain⟨o4,g4⟩:=o3.stored (ts.length*4+3) (.slice K x.ks.length kc);rw[qiN hP]at o4;have hg:W.grownBy (set4 W g (ts.length*4) (.int .i64 x.lv) (.bool x.ng) (.slice A x.ds.length c) (.slice K x.ks.length kc)) (some g):=
  ⟨rfl,rfl,rfl,Nat.le_of_eq (jP _ _ _ _ _ _ _).symm,fun j hj hn=>(g4.block j (by have:=g1.size;have:=g2.size;have:=g3.size;omega) hn).trans ((g3.block j (by have:=g1.size;have:=g2.size;omega) hn).trans ((g2.block j (by have:=g1.size;omega) hn).trans (g1.block j hj hn)))⟩
 have hT:Trn W (set4 W g (ts.length*4) (.int .i64 x.lv) (.bool x.ng) (.slice A x.ds.length c) (.slice K x.ks.length kc)) (some g):=
  ⟨fun _ _ q=>q.grown hg (fun e=>by injection e with e;exact jf q XS (by decide) e),fun _ _ hn q=>q.grown hg hn⟩
 have Dp:=Gk hk;obtain⟨t1,t2⟩:=Qn.turn (vs:=vs) (vs':=vs) (base:=gT+1) hT (fun j e=>⟨_,Dp,e⟩) (fun b hb=>hb.2);refine⟨g,cap,rfl,DA,⟨h.tab.grown hg (fun e=>by injection e with e;omega),by have:=h.pl;rw[List.length_set]at this ⊢; exact this,fun k' u ts' h1 h2=>?_,h.apart⟩,cur,XS,?_⟩
 ·by_cases e:k=k'
  ·subst e;rw[hk]at h1;rw[List.getElem?_set_self LF]at h2
   injection h1 with h1
   injection h2 with h2
   subst h1;subst h2;refine⟨rs++[qe x A c K kc],?_,qG.snoc (qG.mono t2 _ _ (qG.keep t1 _ _ TC)) (RV.mono t2 _ _ (RV.keep t1 _ _ hx))⟩;rw[List.flatten_append,List.length_append];simpa[qe,set4]using o4
  ·rw[List.getElem?_set_ne e]at h2;obtain⟨rows',hoq,UE⟩:=h.row k' u ts' h1 (by rw[List.getElem?_set_ne e];exact h2);refine⟨rows',hoq.kept hg ?_,qG.mono t2 _ _ (qG.keep t1 _ _ UE)⟩
   cases hb:u.ownBlock with
   |none=>exact .inl rfl
   |some b=>exact .inr fun e'=>e (h.apart k k' _ u b hk h1 e'.symm hb)
 ·have:=ho.2;rcases this with⟨h0,_⟩|⟨g',cap',cur',hv,_,hh,hn,_,hs,_⟩
  ·cases h0
  ·injection hv with e1 e2 e3
   injection e1 with e1
   injection e1 with e1
   subst e1;unfold qf at XS;rw[XS]at hh
   injection hh with hh
   injection hh with hh
   rw[hh,hs];exact Nat.mul_le_mul_right 4 hn
theorem Z9.arg(h:Z9 W gT vs Ps)(hk:vs[k]? =some v)(hp:Ps[k]? =some ts):∃A c,v= .slice A ts.length c/\ts.length<=c/\yM W (· <W.heap.size) (Qn vs W (gT+1)) A ts:=by
 obtain⟨rows,h1,h2⟩:=h.row k v ts hk hp;obtain⟨L,lc,rfl⟩:=jd h1;refine⟨L,lc,rfl,?_,rows,ju.of (qu.of_own h1) (fun _ h=>h),h2⟩;by_cases h0:ts.length=0
 ·omega
 ·obtain⟨g',lc',e,hb,hl⟩:=h1.form (by omega)
  injection e with e1 e2 e3
  subst e1;subst e3;exact(own_blk h1).elim fun _ h=>h.2.2.1
theorem Zm{W1:World}{b0 n:Nat}{xs:List Value}(hv:W1.ownsRow base 28 4 v n xs)(hx:RV W1 (yB W1 b0) x us)(hb:∀u∈vs,∀g,u.ownBlock=some g->g<b0)(Dp:v∈vs)(VA:base<=b0)
 (hs:∀u∈vs,∀g,u.ownBlock=some g->∃cs,qf W1 g 28 cs)(hg:W1.grownBy W2 v.ownBlock)(VI:v'.ownBlock=v.ownBlock∨∃g,v'.ownBlock=some g/\W1.heap.size<=g):
 RV W2 (Qn (vs.set k v') W2 base) x us:=by
 have hT:=Trn.grown hv hg;have Xl:∀b,yB W1 b0 b->∀u∈vs,u.ownBlock≠some b:=fun b h u hu e=>by
  have h1:=hb u hu b e;rcases h with⟨cs,q⟩|⟨q,_⟩
  ·obtain⟨cs',q'⟩:=hs u hu b e;exact jf q q' (by decide) rfl
  ·omega
 refine RV.mono (fun b h=>?_) _ _ (RV.keep (w:=W1) (w':=W2) (S:=yB W1 b0) (fun b h o=>?_) _ _ hx)
 ·refine⟨?_,fun u hu e=>?_⟩
  ·rcases h with⟨cs,q⟩|⟨hq,cs,q⟩
   ·exact .inl ⟨cs,hT.u32 b cs q⟩
   ·exact .inr ⟨by omega,cs,hT.rc b cs (fun e=>Xl b (.inr ⟨hq,cs,q⟩) v Dp e.symm) q⟩
  ·rcases List.mem_or_eq_of_mem_set hu with hu|rfl
   ·exact Xl b h u hu e
   ·rcases VI with e'|⟨g,e',EO⟩
    ·exact Xl b h v Dp (e'.symm.trans e)
    ·rw[e']at e
     injection e with e
     have:=h.lt;omega
 ·rcases h with⟨cs,q⟩|⟨hq,cs,q⟩
  ·exact q.cell_eq (hT.u32 b cs q) o
  ·exact q.cell_eq (hT.rc b cs (fun e=>Xl b (.inr ⟨hq,cs,q⟩) v Dp e.symm) q) o
theorem Z9.own_blk(h:Z9 W gT vs Ps)(hv:v∈vs){b:Nat}(hb:v.ownBlock=some b):∃cs,qf W b 28 cs:=by
 obtain⟨k,hk⟩:=List.getElem?_of_mem hv;obtain⟨ts,Vq⟩:∃ts,Ps[k]? =some ts:=⟨_,Gn (by rw[h.pl];exact(Gi.1 hk).1)⟩;obtain⟨rows,ho,_⟩:=h.row k v ts hk Vq;rcases ho.2 with⟨rfl,_⟩|⟨g,cap,cur,rfl,_,hh,_⟩
 ·cases hb
 ·injection hb with hb
  subst hb;exact⟨cur,hh⟩
end
end Go.Proofs.YtflikmojaidhhaaGreatDoor
namespace Go.Proofs.YtflikmojaidhhaaGreatDoor
def ZW(us:Nat->Value):Nat->List Value->List Bool->List Value
 |_,[],_=>[]
 |_,x::l,[]=>x::l
 |n,x::l,b::d=>(match b with|true=>us n|false=>x)::ZW us (n+1) l d
theorem qbt(L:List Value):∀(n:Nat)(l:List Value)(d:List Bool),(∀k x,l[k]? =some x->L.getD (n+k) undef=x)->ZW (fun i=>L.getD i undef) n l d=l
 |_,[],_,_=>by unfold ZW;rfl
 |_,x::l,[],_=>by unfold ZW;rfl
 |n,x::l,b::d,h=>by
  have h0:=h 0 x rfl;have ih:=qbt L (n+1) l d fun k y hk=>by
   have:=h (k+1) y (by simpa using hk);rwa[show n+1+k=n+(k+1)by omega]
  unfold ZW;rw[ih]
  cases b with
  |false=>rfl
  |true=>
   show L.getD n undef::l=x::l;rw[show L.getD n undef=x from h0]
def qhf(rel:Nat->(Nat->Value)->World->Prop)(A0:List Value)(D:List Bool)(k:Nat)(a:Act)(w:World):Prop:=∃us,rel k us w/\a=⟨(ZW us 0 A0 D).toArray,[]⟩
theorem QN{P:Program}{Q:Exit->Act->World->Prop}{w:World}{c:Code}{A0:List Value}(D:List Bool)(rel:Nat->(Nat->Value)->World->Prop)(n0:Nat)(h0:rel n0 (fun i=>A0.getD i undef) w)
 (round:∀n us w,rel n us w->∀(J:Nat->Act->World->Prop)(K:Act->World->Prop),(∀k a' w',qhf rel A0 D k a' w'->J k a' w')->(∀a' w',Handed J n a' w'->K a' w')->c.wp P (Exit.then K Q) ⟨(ZW us 0 A0 D).toArray,[]⟩ w):(Code.loop c).wp P Q ⟨A0.toArray,[]⟩ w:=by
 refine wp_loop_ghost_k (qhf rel A0 D) n0 ⟨_,h0,?_⟩ ?_
 ·rw[qbt];intro k x hk;rw[Nat.zero_add,List.getD_eq_getElem?_getD,hk];rfl
 ·rintro n a w ⟨us,hr,rfl⟩ J K hJ hK;exact round n us w hr J K hJ hK
theorem Zt{rel:Nat->(Nat->Value)->World->Prop}{A0:List Value}{D:List Bool}{J:Nat->Act->World->Prop}{n:Nat}{L:List Value}{w:World}(hJ:∀k a' w',qhf rel A0 D k a' w'->J k a' w')(k:Nat)(Xi:k<n)
 (hr:rel k (fun i=>L.getD i undef) w)(he:ZW (fun i=>L.getD i undef) 0 A0 D=L):Handed J n ⟨L.toArray,[]⟩ w:=
 Handed.intro k Xi (hJ _ _ _ ⟨_,hr,by rw[he]⟩)
