/- Contracts of sparse.Const, Var. -/
import Derived.RangeFuncNested
import Derived.RangeFuncBound
import Derived.RangeFuncCalls
import Derived.RangeFuncLeaves
import Derived.Shelf.Abstract
import Derived.Shelf.RegionOpen
import Derived.OwnWalkIn
import Derived.TacticsInMore
import Derived.LoopNIn
import Derived.LoopIn
import Derived.Test.YtnghlhcekghciaaGreatDoorH5
namespace Go.Proofs.YtnghlhcekghciaaGreatDoor
open Go.RowKit
attribute [local go_sem ↓] Go.wp_at_zero Go.wp_at_succ

/-- one term in a new row -/
theorem PGood.one {X : World} {base : Nat} (hb : base ≤ X.heap.size) (z : Int) (hz : z ≠ 0) (A : Option Addr) (c : Nat) (m : Mo) (hv : vld m = true) (E : Int) (hE : MB E m) (hn : NatB X A (dig z.natAbs)) (hc : (dig z.natAbs).length ≤ c) (o : Array Value) (ho : o = (mkP z A c m).cells.toArray) :
    PGood (X.alloc (.cells o 47)) base (.slice (some ⟨X.heap.size, 0, none⟩) 1 1) [mkP z A c m] (Go.Proofs.YtnghlhcekghciaaGreatDoor.cf [(z, m)]) 1 E z.natAbs := by
  subst ho
  have hba : Below X.heap.size X (X.alloc (.cells (mkP z A c m).cells.toArray 47)) := (Below.refl _ X).alloc (Nat.le_refl _) _
  refine ⟨⟨⟨by simp [PT.cells], .inr ⟨X.heap.size, 1, (mkP z A c m).cells.toArray, rfl, hb, Blk.new X _ _, Nat.le_refl _, by decide, rfl, by simp [PT.cells]⟩⟩, fun p hp => ?_, fun p hp => ?_⟩, ⟨fun t ht => ?_, fun t ht => ?_, by simp⟩, fun x => ?_, by simp, fun p hp => ?_, ?_⟩
  · simp at hp; subst hp; exact ⟨hn.old hba, hc⟩
  · simp at hp; subst hp; exact mkP_cn _ _ _ _
  · simp [mkP_tm] at ht; subst ht; exact hz
  · simp [mkP_tm] at ht; subst ht; exact hv
  · simp [mkP_tm]
  · simp at hp; subst hp; exact hE
  · simp [mkP_tm, nrm]
theorem PGood.none (w : World) (base : Nat) (F : Mo → Int) (hF : ∀ m, F m = 0) (N : Nat) (E : Int) (M : Nat) : PGood w base (.slice none 0 0) [] F N E M :=
  ⟨POwn.nil w base, Canon.nil, fun m => by rw [hF]; rfl, Nat.zero_le _, fun _ h => by simp at h, Nat.zero_le _⟩

/-- the monomial of a variable -/
def xM (l : Int) : Mo := (if l = 1 then 1 else 0, if l = 2 then 1 else 0, if l = 3 then 1 else 0, if l = 4 then 1 else 0)
end Go.Proofs.YtnghlhcekghciaaGreatDoor

/- Contract of sparse.Pow at the exponent 2. -/
namespace Go.Proofs.YtnghlhcekghciaaGreatDoor
open Go.RowKit

def oneL : List Tm := [(1, (0, 0, 0, 0))]
theorem addM_zero (b : Mo) : addM (0, 0, 0, 0) b = b := by simp [addM]
theorem mulC_one (p : List Tm) (m : Mo) : mulC oneL p m = cf p m := by
  unfold mulC mulW oneL cf
  simp only [lin, addM_zero]
  rw [if_pos (by rfl)]
  omega
theorem mulC_good {ps qs : List PT} {P Q : List Tm} {W W' : World} {b b' N N' M M' : Nat} {E E' : Int} {v v' : Value} (h : PGood W b v ps (cf P) N E M) (h' : PGood W' b' v' qs (cf Q) N' E' M') (m : Mo) : mulC (ps.map PT.tm) (qs.map PT.tm) m = mulC P Q m := mulC_ext h.cf h'.cf m
theorem pw_one {k : Nat} (h : 0 < k) : 1 < pw k := Nat.one_lt_pow (by omega) (by omega)

end Go.Proofs.YtnghlhcekghciaaGreatDoor

/- Contracts of sparse.Terms and of the function that it hands back. -/
namespace Go.Proofs.YtnghlhcekghciaaGreatDoor
open Go.RowKit Go.Shelf
attribute [local go_sem] Oper.semAt_some

/-- what Terms hands back: the canonical form in a box -/
def TermsRes (F : Mo → Int) (N : Nat) (E : Int) (M : Nat) (w : World) (e : Ending) (w' : World) : Prop :=
  ∃ b A c ps, e = .returned (.func (.func 87) #[] #[.pointer (some ⟨b, 0, none⟩)]) ∧ Blk w' b 26 #[.slice A ps.length c] ∧ w.heap.size ≤ b ∧ PGood w' w.heap.size (.slice A ps.length c) ps F N E M ∧ Below w.heap.size w w'
set_option maxHeartbeats 1000000 in
theorem Terms_any (A : Option Addr) (c B N : Nat) (E : Int) (M : Nat) (ps : List PT) (w : World) (hB : B ≤ w.heap.size) (h : PIn w B A ps N E M) (hN : N ≤ 50000) (hM : M < Big) :
    Calls Tryz.prog 68 #[.slice A ps.length c] w (TermsRes (cf (ps.map PT.tm)) N E M w) := by
  have HN := Lib.hid (Normal_poly A c B N E M ps w hB h hN hM)
  clear h
  go_enter Tryz.func68, Tryz.ntmps68
  go_wp2_with fail
  refine HN.out.mono ?_
  rintro e w1 ⟨A1, c1, qs, rfl, hg, hb⟩
  have HG := Lib.hid hg
  clear hg
  go_wp2_with fail
  go_ret
  have hba := (Below.refl w1.heap.size w1).alloc (Nat.le_refl _) (.cells #[.slice A1 qs.length c1] 26)
  exact ⟨_, A1, c1, qs, rfl, Blk.new w1 _ _, hb.size, HG.out.old hba, hb.alloc hb.size _⟩

/-- what yield is handed -/
def yargs (x : PT) : Array Value := #[.agg (moV x.m), .agg #[.bool x.ng, .slice x.A x.ds.length x.c]]

/-- what a round must keep: the canonical form in its box -/
def KT (Bs base : Nat) (v : Value) (ps : List PT) (W W' : World) : Prop := (POwn W base v ps → POwn W' base v ps) ∧ (Blk W Bs 26 #[v] → Blk W' Bs 26 #[v]) ∧ W.heap.size ≤ W'.heap.size
theorem KT.trans {Bs base : Nat} {v : Value} {ps : List PT} {A B C : World} (h : KT Bs base v ps A B) (k : KT Bs base v ps B C) : KT Bs base v ps A C := ⟨fun x => k.1 (h.1 x), fun x => k.2.1 (h.2.1 x), Nat.le_trans h.2.2 k.2.2⟩
theorem KT.old {Bs base : Nat} {v : Value} {ps : List PT} {W W' : World} (h : Below W.heap.size W W') : KT Bs base v ps W W' := ⟨fun x => x.old h, fun x => x.old h, h.size⟩
theorem POwn.keep {W W' : World} {base : Nat} {v : Value} {ps : List PT} (h : POwn W base v ps) (hk : ∀ g t cs, Blk W g t cs → (t = 47 ∨ t = 39) → Blk W' g t cs) : POwn W' base v ps := by
  refine ⟨⟨h.row.1, h.row.2.imp id ?_⟩, fun p hp => ⟨(h.dg p hp).1.keep fun g cs hb => hk g _ cs hb (.inr rfl), (h.dg p hp).2⟩, h.cn⟩
  rintro ⟨g, cap, cur, h1, h2, h3, h4⟩
  exact ⟨g, cap, cur, h1, h2, hk g _ cur h3 (.inl rfl), h4⟩
theorem Blk.ne_t {W : World} {g g' : Nat} {t t' : TypeId} {cs cs' : Array Value} (h : Blk W g t cs) (h' : Blk W g' t' cs') (hne : t ≠ t') : g ≠ g' := by
  rintro rfl
  unfold Blk at h h'
  rw [h] at h'
  injection h' with h'
  injection h' with _ e
  exact hne e
theorem KT.set {Bs base : Nat} {v : Value} {ps : List PT} {W : World} {g o : Nat} {t : TypeId} {cs : Array Value} (hb : Blk W g t cs) (h1 : t ≠ 47) (h2 : t ≠ 39) (h3 : t ≠ 26) (u : Value) : KT Bs base v ps W (W.setCell ⟨g, o, none⟩ u) :=
  ⟨fun x => x.keep fun g' t' cs' hb' ht => hb'.far (hb'.ne_t hb (by rcases ht with rfl | rfl <;> exact fun e => by first | exact h1 e.symm | exact h2 e.symm)) u, fun x => x.far (x.ne_t hb (Ne.symm h3)) u, by simp⟩
theorem KT.put {Bs base : Nat} {v : Value} {ps : List PT} {W : World} {l : Nat} {o : Obj} (o' : Obj) (hl : W.heap[l]? = some o) (ho : o.isCells = false) : KT Bs base v ps W (W.putObj l o') := by
  have hk : ∀ g t cs, Blk W g t cs → Blk (W.putObj l o') g t cs := fun g t cs hb => by
    have hne : g ≠ l := by
      rintro rfl
      unfold Blk at hb
      rw [hb] at hl
      injection hl with hl
      subst hl
      cases ho
    exact (World.putObj_heap_other hne).trans hb
  exact ⟨fun x => x.keep fun g t cs hb _ => hk g t cs hb, fun x => hk _ _ _ x, by simp⟩

set_option maxRecDepth 100000 in
set_option maxHeartbeats 4000000 in
theorem Terms1_in (n : Nat) (hn : 1 ≤ n) (l Bs base : Nat) (A : Option Addr) (c : Nat) (ps : List PT) (W0 : World) (J Jx : List PT → World → Prop) (hJ : AbidesFrom W0.heap.size J) (hlen : ps.length ≤ 100000)
    (hY : ∀ pre x W, J pre W → NatIn W W.heap.size x.A x.c x.ds → Cn x → x.ds.length ≤ 1000 → pre.map PT.tm ++ [x.tm] = (ps.take (pre.length + 1)).map PT.tm → pre.length < ps.length → YieldAt Fence.wide (n - 1) Tryz.prog l (yargs x) W fun e W' =>
      (e = .returned (.bool true) ∧ J (pre ++ [x]) W' ∧ KT Bs base (.slice A ps.length c) ps W W') ∨ (e = .returned (.bool false) ∧ Jx (pre ++ [x]) W'))
    (hBs : Blk W0 Bs 26 #[.slice A ps.length c]) (hin : POwn W0 base (.slice A ps.length c) ps) (hdl : ∀ p ∈ ps, p.ds.length ≤ 1000) (h0 : J [] W0) :
    CallsIn Fence.wide n Tryz.prog 87 #[.func (.yield l) #[] #[], .pointer (some ⟨Bs, 0, none⟩)] W0 fun e W' => (∃ v, e = .returned v) ∧
      ((∃ ys, ys.map PT.tm = ps.map PT.tm ∧ J ys W') ∨ (∃ pre, (∃ k, pre.map PT.tm = (ps.take k).map PT.tm) ∧ Jx pre W')) := by
  refine callsIn_of_wp Tryz.func87 rfl trivial ?_ rfl
  simp only [Tryz.ntmps87, List.size_toArray, List.length_cons, List.length_nil, Nat.reduceAdd, Nat.reduceSub, Array.replicate_succ, Array.replicate_zero, List.push_toArray, List.append_toArray, List.nil_append, List.cons_append]
  have hBc : W0.cell? ⟨Bs, 0, none⟩ = some (.slice A ps.length c) := hBs.cell 0
  gi_wp2
  gi_loopw [4, 7] (fun _ i wr => ∃ (k : Nat) (pre : List PT), k ≤ ps.length ∧ i = .int .i64 k ∧ pre.length = k ∧ pre.map PT.tm = (ps.take k).map PT.tm ∧ J pre wr ∧ POwn wr base (.slice A ps.length c) ps ∧ W0.heap.size ≤ wr.heap.size) (fun _ i _ => ps.length - (intOf i).toNat)
  case atStart => exact ⟨0, [], Nat.zero_le _, rfl, rfl, rfl, h0, hin, Nat.le_refl _⟩
  case round =>
    obtain ⟨k, pre, hk, rfl, hpl, hpt, hJs, hown, hwl⟩ := hrel
    by_cases hlt : k < ps.length
    · obtain ⟨p, hp⟩ : ∃ p, ps[k]? = some p := ⟨_, List.getElem?_eq_getElem hlt⟩
      have hpm := List.mem_of_getElem? hp
      obtain ⟨b, o, rfl, hbb, d0, d1, d2, d3, d4, d5⟩ := hown.polyIn.at_ hp
      have i1 : (k : Int) < (ps.length : Int) := by omega
      have i0 : (0 : Int) ≤ (k : Int) := by omega
      have HIN := Lib.hid (hown.nin hpm)
      have HP := Lib.hid hp
      have HPL := Lib.hid hpl; have HPT := Lib.hid hpt; have HC := Lib.hid hown.cn; have HD := Lib.hid hdl
      clear hp hpl hpt hdl
      have hbk := (Below.refl wr.heap.size wr).alloc (Nat.le_refl _) (.cells p.cells.toArray 47)
      have HK := Lib.hid (Blk.new wr 47 p.cells.toArray)
      have HNN := Lib.hid (fun (W : World) (hW : Below wr.heap.size wr W) => INormal_any p.ng p.A p.c wr.heap.size p.ds W hW.size (HIN.out.below hW) (by have := HD.out p (List.mem_of_getElem? HP.out); omega))
      have HYY := Lib.hid (fun (W3 : World) (A3 : Option Addr) (c3 : Nat) (hW : Below wr.heap.size wr W3) (h4 : NatB W3 A3 (dig (ival p.ng p.ds).natAbs)) (h3 : (dig (ival p.ng p.ds).natAbs).length ≤ c3) =>
        show ∃ fn tmps assign body, (Instr.yield l #[.agg #[.int .i64 p.m.1, .int .i64 p.m.2.1, .int .i64 p.m.2.2.1, .int .i64 p.m.2.2.2], .agg #[.bool (decide (ival p.ng p.ds < 0)), .slice A3 (dig (ival p.ng p.ds).natAbs).length c3]]).run Tryz.prog W3 = .ok (.round l fn tmps assign body) W3 ∧
          RoundIn Fence.wide (n - 1) Tryz.prog l fn tmps assign body W3 (fun e W' => ∃ bb : Bool, e = .returned (.bool bb) ∧ ((bb = true ∧ J (pre ++ [mkP (ival p.ng p.ds) A3 c3 p.m]) W' ∧ KT Bs base (.slice (some ⟨b, o, none⟩) ps.length c) ps W3 W') ∨ (bb = false ∧ Jx (pre ++ [mkP (ival p.ng p.ds) A3 c3 p.m]) W'))) by
          have hJ3 : J pre W3 := hJ pre wr W3 none hJs ⟨hW.os, hW.tape, hW.output, hW.size, fun k hk _ => hW.block k hk⟩ (fun r e => by cases e)
          have hpm' := List.mem_of_getElem? HP.out
          have hdz : (dig (ival p.ng p.ds).natAbs).length ≤ 1000 := by
            have h1 := (HC.out p hpm').ds
            have h2 := HD.out p hpm'
            rw [h1] at h2
            exact h2
          obtain ⟨fn, tmps, assign, body, hy, hR⟩ := hY pre (mkP (ival p.ng p.ds) A3 c3 p.m) W3 hJ3 (natB_nin h4 h3) (mkP_cn _ _ _ _) hdz (by rw [mkP_tm, HPT.out, HPL.out, take_snoc_tm HP.out]; rfl) (by rw [HPL.out]; exact hlt)
          refine ⟨fn, tmps, assign, body, hy, hR.mono ?_⟩
          rintro e W' (⟨rfl, h1, h2⟩ | ⟨rfl, h1⟩)
          · exact ⟨true, rfl, .inl ⟨rfl, h1, h2⟩⟩
          · exact ⟨false, rfl, .inr ⟨rfl, h1⟩⟩)
      have HTM := Lib.hid (show p.tm = (ival p.ng p.ds, p.m) from rfl)
      have hmix : Tryz.prog.follows .mixedOrders = true := by kernel_rfl
      simp only [PT.cells] at HK hbk
      unfold IntRes at HNN
      generalize ival p.ng p.ds = zz at *
      gi_wp2
      have hk := HK.out
      generalize wr.alloc (.cells #[.bool p.ng, .slice p.A p.ds.length p.c, .int .i64 p.m.1, .int .i64 p.m.2.1, .int .i64 p.m.2.2.1, .int .i64 p.m.2.2.2] 47) = X at *
      have c0 : X.cell? ⟨wr.heap.size, 0, none⟩ = some (.bool p.ng) := hk.cell 0
      have c1 : X.cell? ⟨wr.heap.size, 1, none⟩ = some (.slice p.A p.ds.length p.c) := hk.cell 1
      have c2 : X.cell? ⟨wr.heap.size, 2, none⟩ = some (.int .i64 p.m.1) := hk.cell 2
      have c3 : X.cell? ⟨wr.heap.size, 3, none⟩ = some (.int .i64 p.m.2.1) := hk.cell 3
      have c4 : X.cell? ⟨wr.heap.size, 4, none⟩ = some (.int .i64 p.m.2.2.1) := hk.cell 4
      have c5 : X.cell? ⟨wr.heap.size, 5, none⟩ = some (.int .i64 p.m.2.2.2) := hk.cell 5
      have lx := hk.lt
      have hbd : Below wr.heap.size wr X.drew := hbk.trans ((Drawn.drew _).below _)
      clear d0 d1 d2 d3 d4 d5
      gi_region_with_o (first | (refine ⟨trivial, ?_⟩; gi_at_call 63; refine (callsIn_wide.2 (HNN.out _ hbd)).mono ?_; rintro e w3 ⟨A3, c3', rfl, h3, h4, h5⟩; obtain ⟨fn, tmps, assign, body, hy, hR⟩ := HYY.out w3 A3 c3' (hbd.trans (h5.mono hbd.size)) h4 h3; have z2 := (h5.cell lx).trans c2; have z3 := (h5.cell lx).trans c3; have z4 := (h5.cell lx).trans c4; have z5 := (h5.cell lx).trans c5) | (refine hR.mono ?_; rintro e W4 ⟨bb, rfl, hcs⟩))
      all_goals
        have hb4 := hbd.trans (h5.mono hbd.size)
        clear c0 c1 c2 c3 c4 c5 z2 z3 z4 z5 hy hR
        rcases hcs with ⟨rfl, hJ3, hk3⟩ | ⟨rfl, hJx3⟩
        · gi_wp2
          go_roundw
          case rel => exact ⟨k + 1, pre ++ [mkP zz A3 c3' p.m], by omega, by simp, by simp [HPL.out], by rw [List.map_append, List.map_cons, List.map_nil, mkP_tm, HPT.out, take_snoc_tm HP.out, HTM.out], hJ3, hk3.1 (hown.old hb4), Nat.le_trans hwl (Nat.le_trans hb4.size hk3.2.2)⟩
          case measure => simp [intOf]; omega
        · gi_wp2
          refine bodyPost_ret (results_none rfl _ _ _) rfl ?_
          exact ⟨⟨_, rfl⟩, .inr ⟨_, ⟨k + 1, by rw [List.map_append, List.map_cons, List.map_nil, mkP_tm, HPT.out, take_snoc_tm HP.out, HTM.out]⟩, hJx3⟩⟩
    · obtain rfl : k = ps.length := by omega
      rw [List.take_length] at hpt
      have HPT := Lib.hid hpt
      clear hpt
      gi_wp2
      go_end0
      exact ⟨⟨_, rfl⟩, .inl ⟨pre, HPT.out, hJs⟩⟩
end Go.Proofs.YtnghlhcekghciaaGreatDoor
