/- Contract of sparse.Rename. -/
import Derived.IntWalk
import Derived.Sort.LoopGhostIn
import Derived.Sort.CutIn
import Derived.Test.YtpbapoanjkekmaaGreatZK
import Derived.Test.YtpbapoanjkekmaaGreatT4
import Derived.Test.YtpbapoanjkekmaaGreatQA
namespace Go.Proofs.YtpbapoanjkekmaaGreat
open Go.RowKit Go.Shelf
attribute [local go_sem] Oper.semAt_some

/-! ### what abides the turn of a block that holds no cells -/
section
variable {B : Nat} {W W' : World} {row : Option Nat}
theorem GAt.farP {base g mb : Nat} {v : Value} {ps : List PT} (h : GAt W base g mb v ps) (hg : W.grownBy W' row) (hr : ∀ r, row = some r → B ≤ r ∧ ∃ o : Obj, W.heap[r]? = some o ∧ o.isCells = false) (hm : mb < B) : GAt W' base g mb v ps where
  gb := h.gb.farP hg hr
  mp := by
    obtain ⟨f, h1, h2⟩ := h.mp
    exact ⟨f, h1.kept hg (fun e => by have := (hr mb e.symm).1; omega), h2⟩
  row := h.row.kept hg (by
    rcases h.row.2 with ⟨rfl, _⟩ | ⟨g', cap, cur, rfl, _, hh, _⟩
    · exact .inl (by simp [Value.ownBlock])
    · refine .inr (fun e => ?_)
      have e2 : row = some g' := by rw [← e]; simp [Value.ownBlock]
      obtain ⟨_, o, ho, hc⟩ := hr g' e2
      rw [hh] at ho
      cases ho
      cases hc)
  dg p hp := ⟨(h.dg p hp).1.keep fun g cs hb => hb.farP hg hr, (h.dg p hp).2⟩
  cn := h.cn
  lg := h.lg
  lm := h.lm
end
/-! ### a gather beside the canonical form that is ranged over -/
theorem POwn.keepP {W W' : World} {base : Nat} {v : Value} {ps : List PT} (h : POwn W base v ps) (hu : ∀ g cs, Blk W g 82 cs → Blk W' g 82 cs) (ht : ∀ g cs, v.ownBlock = some g → Blk W g 56 cs → Blk W' g 56 cs) : POwn W' base v ps := by
  refine ⟨⟨h.row.1, h.row.2.imp id ?_⟩, fun p hp => ⟨(h.dg p hp).1.keep hu, (h.dg p hp).2⟩, h.cn⟩
  rintro ⟨g, cap, cur, h1, h2, h3, h4⟩
  exact ⟨g, cap, cur, h1, h2, ht g cur (by rw [h1]; simp [Value.ownBlock]) h3, h4⟩
/-- no row in common -/
def ApartP (v v' : Value) : Prop := ∀ k, v.ownBlock = some k → v'.ownBlock ≠ some k
section
variable {Bs base b0 g mb : Nat} {qv v v' : Value} {qs gs : List PT} {W W' : World}
theorem KT.gaddP (hG : GAt W b0 g mb v gs) (ht : GTurn b0 W W') (hf : FarT g v v' W W') (hap : ApartP qv v) : KT Bs base qv qs W W' :=
  ⟨fun x => x.keepP (fun k cs hb => ht.far k _ cs hb (by decide) (by decide)) (fun k cs e hb => (hf k _ cs hb (hb.ne_t hG.gb (by decide)) (hap k e)).1), fun x => ht.far _ _ _ x (by decide) (by decide), ht.below.size⟩
theorem ApartP.gadd (hap : ApartP qv v) (hG : GAt W b0 g mb v gs) (hx : POwn W base qv qs) (hf : FarT g v v' W W') : ApartP qv v' := fun k e => by
  rcases hx.row.2 with ⟨rfl, _⟩ | ⟨g', cap, cur, rfl, _, h3, _⟩
  · simp [Value.ownBlock] at e
  · have e2 : g' = k := by simpa [Value.ownBlock] using e
    subst e2
    have hb : Blk W g' 56 cur := h3
    exact (hf g' _ cur hb (hb.ne_t hG.gb (by decide)) (hap g' e)).2
end
/-! ### the range's invariant -/
/-- between two rounds: the gather holds the renamed terms that have come -/
def RInv (tt : Mo) (b0 g mb b3 b5 bT : Nat) (qv : Value) (qs : List PT) (w : World) (pre : List PT) (W : World) : Prop :=
  ∃ v gs, GAt W b0 g mb v gs ∧ GInv (rnL tt (pre.map PT.tm)) (gs.map PT.tm) ∧ Blk W b3 44 (moV tt) ∧ Blk W b5 67 #[.pointer (some ⟨g, 0, none⟩)] ∧ POwn W bT qv qs ∧ ApartP qv v ∧ Below w.heap.size w W
theorem RInv.own {tt : Mo} {b0 g mb b3 b5 bT B : Nat} {qv : Value} {qs : List PT} {w : World} (hm : mb < B) (hw : w.heap.size ≤ B) : OwnFrom B (RInv tt b0 g mb b3 b5 bT qv qs w) := by
  rintro pre W W' row ⟨v, gs, h1, h2, h3, h4, h5, h6, h7⟩ hg hr
  exact ⟨v, gs, h1.farP hg hr hm, h2, h3.farP hg hr, h4.farP hg hr, h5.keepP (fun _ _ hb => hb.farP hg hr) (fun _ _ _ hb => hb.farP hg hr), h6, ownFrom_below (β := Unit) (Nat.le_refl _) hw () W W' row h7 hg hr⟩
/-- a round that adds a term -/
theorem r_next {tt : Mo} {b0 g mb b3 b5 bT Bs B : Nat} {qv v v' : Value} {qs gs gs' pre : List PT} {x : PT} {w W w4 w5 : World}
    (hG : GAt W b0 g mb v gs) (k3 : Blk W b3 44 (moV tt)) (k5 : Blk W b5 67 #[.pointer (some ⟨g, 0, none⟩)]) (hpo : POwn W bT qv qs) (hap : ApartP qv v) (hbl : Below w.heap.size w W) (hb0 : w.heap.size ≤ b0) (hmb : mb < B)
    (hb4 : Below W.heap.size W w4) (hga : GAt w5 b0 g mb v' gs') (hgi : GInv (rnL tt ((pre ++ [x]).map PT.tm)) (gs'.map PT.tm)) (ht : GTurn b0 w4 w5) (hf : FarT g v v' w4 w5) (ho : OthT mb w4 w5) :
    KeepsFrom B W w5 ∧ KT Bs bT qv qs W w5 ∧ RInv tt b0 g mb b3 b5 bT qv qs w (pre ++ [x]) w5 := by
  have g4 := hG.old hb4
  have t1 : KT Bs bT qv qs W w4 := .old hb4
  exact ⟨(below_keepsP hb4).trans ⟨ht.below.size, fun k ob hB hk hc => ho k ob hk hc (by omega)⟩, t1.trans (KT.gaddP g4 ht hf hap), v', gs', hga, hgi, ht.far _ _ _ (k3.old hb4) (by decide) (by decide), ht.far _ _ _ (k5.old hb4) (by decide) (by decide), (KT.gaddP (Bs := Bs) g4 ht hf hap).1 (t1.1 hpo), hap.gadd g4 (t1.1 hpo) hf,
    (hbl.trans (hb4.mono hbl.size)).trans (ht.below.mono hb0)⟩
theorem r_nrm {tt : Mo} {N M : Nat} {E : Int} {W : World} {base : Nat} {qv : Value} {qs : List PT} {F : Mo → Int} (hg : PGood W base qv qs F N E M) {l : List Tm} {k : Nat} (hl : l = (qs.take k).map PT.tm) : nrm (rnL tt l) ≤ M ∧ (rnL tt l).length ≤ N := by
  refine ⟨?_, ?_⟩
  · rw [nrm_rnL, hl]
    exact Nat.le_trans (nrm_take_tm qs k) hg.nm
  · unfold rnL
    rw [List.length_map, hl, List.length_map, List.length_take]
    have := hg.len
    omega

set_option maxRecDepth 100000 in
set_option maxHeartbeats 4000000 in
theorem Rename_any (A : Option Addr) (c B N : Nat) (E : Int) (M : Nat) (ps : List PT) (tt : Mo) (w : World) (hB : B ≤ w.heap.size) (h : PIn w B A ps N E M) (hN : N ≤ 50000) (hM : M < Big) (hE0 : 0 ≤ E) (hE : E ≤ 1000000000) (hwt : WfM tt) :
    Calls Tryz.prog 20 #[.slice A ps.length c, .agg #[.int .i64 tt.1, .int .i64 tt.2.1, .int .i64 tt.2.2.1, .int .i64 tt.2.2.2]] w (PRes (rnC tt (ps.map PT.tm)) N (4 * E) M w) := by
  have HT := Lib.hid (fun (W : World) (hW : Below w.heap.size w W) => Terms_any A c B N E M ps W (Nat.le_trans hB hW.size) (h.below (hW.mono hB)) hN hM)
  have HL := Lib.hid (fun (x : Int) (W : World) => lvl_any x W)
  have HNG := Lib.hid newG_any
  have HBW := Lib.hid (fun (w1 : World) (h0 : Below (w.alloc (.cells (moV tt) 44)).heap.size (w.alloc (.cells (moV tt) 44)) w1) => show Below w.heap.size w w1 from ((Below.refl _ w).alloc (Nat.le_refl _) _).trans (h0.mono (by simp)))
  have HBA := Lib.hid (fun (w1 : World) (o : Obj) (h0 : Below w.heap.size w w1) => show Below w.heap.size w (w1.alloc o) from h0.alloc h0.size o)
  have HWT := Lib.hid hwt
  unfold moV at HBW
  clear h hwt
  refine (callsIn_wide (n := 6)).1 ?_
  refine callsIn_of_wp_marks Tryz.func20 rfl trivial ?_ rfl
  simp only [Tryz.ntmps20, List.size_toArray, List.length_cons, List.length_nil, Nat.reduceAdd, Nat.reduceSub, Array.replicate_succ, Array.replicate_zero, List.push_toArray, List.append_toArray, List.nil_append, List.cons_append]
  gi_wp2_with (first
    | (refine ⟨trivial, ?_⟩; gi_at_call 35; refine (callsIn_wide.2 (HNG.out _)).mono ?_; rintro e w1 ⟨g, mb, rfl, hg0, hb0⟩)
    | (refine ⟨trivial, ?_⟩; gi_at_call 30; refine (callsIn_wide.2 (HT.out _ (HBA.out _ _ (HBW.out _ hb0)))).mono ?_; rintro e w2 ⟨b, A1, c1, qs, rfl, hblk, hbb, hgd, hb⟩))
  have hb1 : Below w.heap.size w w1 := HBW.out _ hb0
  have hbT : Below w1.heap.size w1 w2 := ((Below.refl _ w1).alloc (Nat.le_refl _) _).trans (hb.mono (by simp))
  have hbw2 : Below w.heap.size w w2 := hb1.trans (hbT.mono hb1.size)
  have hg2 := hg0.old hbT
  have k3 : Blk w2 w.heap.size 44 (moV tt) := ((Blk.new w 44 (moV tt)).old hb0).old hbT
  have k5 : Blk w2 w1.heap.size 67 #[.pointer (some ⟨g, 0, none⟩)] := (Blk.new w1 67 #[.pointer (some ⟨g, 0, none⟩)]).old hb
  have hmb2 : mb < w2.heap.size := by obtain ⟨f, h1, _⟩ := hg2.mp; exact h1.lt
  have hbs : (w.alloc (.cells #[.int .i64 tt.1, .int .i64 tt.2.1, .int .i64 tt.2.2.1, .int .i64 tt.2.2.2] 44)).heap.size = w.heap.size + 1 := by simp
  rw [hbs] at hg2
  have hw12 : w.heap.size ≤ w2.heap.size := hbw2.size
  have HGD := Lib.hid hgd
  have hqs : qs.length ≤ 100000 := by have := hgd.len; omega
  have hdl : ∀ p ∈ qs, p.ds.length ≤ 1000 := fun p hp => Nat.le_trans (hgd.dlen (k := 600) hM hp) (by omega)
  generalize hbTe : (w1.alloc (.cells #[.pointer (some ⟨g, 0, none⟩)] 67)).heap.size = bT at *
  clear hbTe hbs
  refine wpIn_range_tells (F := Fence.wide) (n := 6) rfl (by omega) (gf := 53) (lb := #[.pointer (some ⟨b, 0, none⟩)]) rfl trivial (enters_of Tryz.func53 (by kernel_rfl) rfl)
    (Terms1_tells 5 (by omega) b bT A1 c1 qs w2 hqs hblk hgd.own hdl) KT.trans (fun W l o o' h1 h2 => KT.put o' h1 h2) (fun _ => rfl)
    (RInv tt (w.heap.size + 1) g mb w.heap.size w1.heap.size bT (.slice A1 qs.length c1) qs w) (fun _ _ _ => False)
    (RInv.own hmb2 hw12) (fun _ _ _ _ _ hs _ _ => hs) ⟨_, [], hg2, GInv.nil, k3, k5, hgd.own, fun k _ => by simp [Value.ownBlock], hbw2⟩
    (fun pre x a' W => VRound qs pre x (fun Bm Bi => { tmps := #[.slice A ps.length c, .agg #[.int .i64 tt.1, .int .i64 tt.2.1, .int .i64 tt.2.2.1, .int .i64 tt.2.2.2], undef, .pointer (some ⟨w.heap.size, 0, none⟩), .slice none 0 0, .pointer (some ⟨w1.heap.size, 0, none⟩), .pointer (some ⟨Bm, 0, none⟩), .pointer (some ⟨Bi, 0, none⟩), undef, undef, undef, .pointer (some ⟨g, 0, none⟩), .slice A ps.length c, .func (.func 53) #[] #[.pointer (some ⟨b, 0, none⟩)], .agg #[.int .i64 x.m.1, .int .i64 x.m.2.1, .int .i64 x.m.2.2.1, .int .i64 x.m.2.2.2], .agg #[.bool x.ng, .slice x.A x.ds.length x.c], undef, undef, undef, undef, undef, undef, undef, undef, undef, undef, undef, undef, undef, undef, undef, undef, undef, undef, undef, undef, undef, undef, undef, undef, undef, undef, undef, undef, undef, undef, undef], defers := [] }) a' W)
    (fun _ _ _ => VRound.own)
    ?assign ?body ?done ?stop
  case assign =>
    rintro l pre x W K' ⟨v, gs, i1, i2, i3, i4, i5, i6, i7⟩ ⟨t1, t2, t3, t4, t5⟩ hK'
    unfold yargs moV
    obtain ⟨b1, b2, b3, b4⟩ := boxes2 W 44 31 #[.int .i64 x.m.1, .int .i64 x.m.2.1, .int .i64 x.m.2.2.1, .int .i64 x.m.2.2.2] #[.bool x.ng, .slice x.A x.ds.length x.c]
    have hfin := hK' { tmps := #[.slice A ps.length c, .agg #[.int .i64 tt.1, .int .i64 tt.2.1, .int .i64 tt.2.2.1, .int .i64 tt.2.2.2], undef, .pointer (some ⟨w.heap.size, 0, none⟩), .slice none 0 0, .pointer (some ⟨w1.heap.size, 0, none⟩), .pointer (some ⟨W.heap.size, 0, none⟩), .pointer (some ⟨W.heap.size + 1, 0, none⟩), undef, undef, undef, .pointer (some ⟨g, 0, none⟩), .slice A ps.length c, .func (.func 53) #[] #[.pointer (some ⟨b, 0, none⟩)], .agg #[.int .i64 x.m.1, .int .i64 x.m.2.1, .int .i64 x.m.2.2.1, .int .i64 x.m.2.2.2], .agg #[.bool x.ng, .slice x.A x.ds.length x.c], undef, undef, undef, undef, undef, undef, undef, undef, undef, undef, undef, undef, undef, undef, undef, undef, undef, undef, undef, undef, undef, undef, undef, undef, undef, undef, undef, undef, undef, undef, undef], defers := [] } _
      (((KeepsOthers.alloc W _).trans (KeepsOthers.alloc _ _)).from _) (KT.old b1) ⟨v, gs, i1.old b1, i2, i3.old b1, i4.old b1, i5.old b1, i6, i7.trans (b1.mono i7.size)⟩ ⟨W.heap.size, W.heap.size + 1, W.heap.size, b2, b3, t1.below b1, b1.size, t3, t4, t5, rfl⟩
    have HFIN := Lib.hid hfin
    clear hfin hK' b1 b2 b3 b4
    gi_wp2
    exact HFIN.out
  case body =>
    rintro l pre x a' W hl ⟨v, gs, hG, hgi, k3, k5, hpo, hap, hbl⟩ ⟨Bm, Bi, Bd, km, ki, hnat, hBd, hdl1, htold, hlt, rfl⟩
    obtain ⟨hpre, q, hq1, hqx⟩ := told_memP htold hlt
    have hqm : q.m = x.m := congrArg Prod.snd hqx
    have hvx : vld x.m = true := by rw [← hqm]; exact HGD.out.vl (List.mem_of_getElem? hq1)
    have hmb : MB E x.m := by rw [← hqm]; exact HGD.out.mb q (List.mem_of_getElem? hq1)
    obtain ⟨n1, n2⟩ := r_nrm (tt := tt) HGD.out hpre
    have hsn : rnL tt ((pre ++ [x]).map PT.tm) = rnL tt (pre.map PT.tm) ++ [(ival x.ng x.ds, renM tt x.m)] := rnL_snoc tt pre x
    have hrv := fun (k : Nat) (hk : k ≤ 4) (i : Nat) (hi : i < 4) => (And.intro (vld_all.1 (renTo_vld tt hvx k hk) i hi) (renTo_le tt hE0 hmb.each k hk i hi) : 0 ≤ gt (renTo tt x.m k) i ∧ gt (renTo tt x.m k) i ≤ (k : Int) * E)
    have hwf : WfM (renM tt x.m) := by
      have a0 := hrv 4 (by omega) 0 (by omega); have a1 := hrv 4 (by omega) 1 (by omega); have a2 := hrv 4 (by omega) 2 (by omega); have a3 := hrv 4 (by omega) 3 (by omega)
      simp only [gt] at a0 a1 a2 a3
      refine ⟨⟨?_, ?_⟩, ⟨?_, ?_⟩, ⟨?_, ?_⟩, ⟨?_, ?_⟩⟩ <;> unfold renM <;> omega
    have HGA := Lib.hid (fun (W4 : World) (hW : Below W.heap.size W W4) =>
      show Calls Tryz.prog 36 #[.pointer (some ⟨g, 0, none⟩), .agg (moV (renM tt x.m)), .agg #[.bool x.ng, .slice x.A x.ds.length x.c]] W4 (AddRes (w.heap.size + 1) g mb v (rnL tt ((pre ++ [x]).map PT.tm)) W4) by
        have h1 := gadd_any (w.heap.size + 1) g mb v _ gs (renM tt x.m) x.ng x.A x.c x.ds W4 (hG.old hW) hgi (Nat.le_trans k3.lt (Nat.le_trans (Nat.le_refl _) hW.size)) hwf (((hnat.more hBd).below hW).more hW.size) hdl1 (by omega) (Nat.lt_of_le_of_lt n1 hM)
        rw [← hsn] at h1
        exact h1)
    have HNX := Lib.hid (fun (w4 w5 : World) (v' : Value) (gs' : List PT) (hb4 : Below W.heap.size W w4) (hga : GAt w5 (w.heap.size + 1) g mb v' gs') (hgi' : GInv (rnL tt ((pre ++ [x]).map PT.tm)) (gs'.map PT.tm)) (ht : GTurn (w.heap.size + 1) w4 w5) (hff : FarT g v v' w4 w5) (ho : OthT mb w4 w5) =>
      r_next (Bs := b) (B := w2.heap.size) hG k3 k5 hpo hap hbl (Nat.le_succ _) hmb2 hb4 hga hgi' ht hff ho)
    have HRV := Lib.hid (fun (k : Nat) (hk : k < 4) (i : Nat) (hi : i < 4) => (show 0 ≤ gt (renTo tt x.m k) i ∧ gt (renTo tt x.m k) i ≤ 4000000000 by
      obtain ⟨a, b⟩ := hrv k (by omega) i hi
      have := Int.mul_le_mul (show (k : Int) ≤ 4 by omega) hE hE0 (by omega)
      exact ⟨a, by omega⟩))
    have HGT := Lib.hid (fun (k : Nat) (hk : k < 4) => And.intro (vld_all.1 hvx k hk) (Int.le_trans (hmb.each k hk) hE))
    have HIX := Lib.hid (fun (j : Nat) (hj : j < 4) => Tryz.index_mono x.m j hj)
    have HST := Lib.hid (fun (k : Nat) => show renTo tt x.m (k + 1) = addAt (renTo tt x.m k) (tIx tt k) (gt x.m k) from rfl)
    have HS0 := Lib.hid (show renTo tt x.m 0 = (0, 0, 0, 0) from rfl)
    have HS4 := Lib.hid (show renTo tt x.m 4 = renM tt x.m from rfl)
    have K3 := Lib.hid k3; have K5 := Lib.hid k5; have KM := Lib.hid km; have KI := Lib.hid ki
    unfold moV at HIX
    have m0 : W.cell? ⟨Bm, 0, none⟩ = some (.int .i64 x.m.1) := km.cell 0
    have m1 : W.cell? ⟨Bm, 1, none⟩ = some (.int .i64 x.m.2.1) := km.cell 1
    have m2 : W.cell? ⟨Bm, 2, none⟩ = some (.int .i64 x.m.2.2.1) := km.cell 2
    have m3 : W.cell? ⟨Bm, 3, none⟩ = some (.int .i64 x.m.2.2.2) := km.cell 3
    have m4 := km.lt
    clear hpre hq1 hqx hqm hvx hmb n1 n2 hsn hrv hwf hG hgi hpo hap hnat hdl1 htold hlt km ki k3 k5
    gi_wp2
    gi_loopg [9, 10, 17] 4 (fun gn _ _ ix wr => ∃ (j : Nat), j ≤ 4 ∧ gn = 4 - j ∧ ix = .int .i64 (j : Int) ∧ Below W.heap.size W wr ∧ Blk wr W.heap.size 44 (moV (renTo tt x.m j)))
    case atStart => exact ⟨0, by omega, rfl, rfl, (Below.refl W.heap.size W).alloc (Nat.le_refl _) _, by rw [HS0.out]; exact Blk.new W 44 _⟩
    case round =>
      clear m0 m1 m2 m3 m4
      obtain ⟨j, hj, hgj, rfl, hbr, hbn⟩ := hrel
      have HG := Lib.hid hgj
      clear hgj
      by_cases hj4 : j < 4
      · have hj4' : (j : Int) < 4 := by omega
        have hj0 : (0 : Int) ≤ (j : Int) := by omega
        have hix := HIX.out j hj4
        obtain ⟨he0, he1⟩ := HGT.out j hj4
        have c3 : wr.cell? ⟨w.heap.size, j, none⟩ = some (.int .i64 (gt tt j)) := (Blk.cell (K3.out.old hbr) j).trans (moV_at tt hj4)
        have lt3 := (K3.out.old hbr).lt
        by_cases hl : 1 ≤ gt tt j ∧ gt tt j ≤ 4
        · obtain ⟨n, hn⟩ : ∃ n : Nat, gt tt j = (n : Int) + 1 := ⟨(gt tt j - 1).toNat, by omega⟩
          have hn4 : n < 4 := by omega
          have hti : tIx tt j = n := by unfold tIx; rw [if_pos hl]; omega
          have HLV := Lib.hid (fun (V : World) => show Calls Tryz.prog 47 #[.int .i64 ((n : Int) + 1)] V (fun e w' => e = .returned (.bool true) ∧ V = w') by
            have := HL.out ((n : Int) + 1) V
            rw [decide_eq_true (show 1 ≤ (n : Int) + 1 by omega), decide_eq_true (show (n : Int) + 1 ≤ 4 by omega)] at this
            exact this)
          obtain ⟨y0, y1⟩ := HRV.out j hj4 n hn4
          have cn : wr.cell? ⟨W.heap.size, n, none⟩ = some (.int .i64 (gt (renTo tt x.m j) n)) := (Blk.cell hbn n).trans (moV_at _ hn4)
          have fn := hbn.frozen n
          have ltn := hbn.lt
          have HN := Lib.hid (show Blk (wr.setCell ⟨W.heap.size, n, none⟩ (.int .i64 (gt (renTo tt x.m j) n + gt x.m j))) W.heap.size 44 (moV (renTo tt x.m (j + 1))) by
            rw [HST.out, hti, ← moV_addAt _ _ hn4]
            exact hbn.set_ n _)
          have HBR := Lib.hid (hbr.setCell (p := ⟨W.heap.size, n, none⟩) (Nat.le_refl _) (.int .i64 (gt (renTo tt x.m j) n + gt x.m j)))
          rw [hn] at c3
          have e1 : (n : Int) + 1 - 1 = (n : Int) := by omega
          have e2 : IntKind.i64.wrap ((n : Int) + 1 - 1) = (n : Int) := by rw [e1]; exact IntWalk.i64_in _ (by omega)
          have n0 : (0 : Int) ≤ (n : Int) := by omega
          have n3 : (n : Int) < 4 := by omega
          have hwr : IntKind.i64.wrap (gt (renTo tt x.m j) n + gt x.m j) = gt (renTo tt x.m j) n + gt x.m j := IntWalk.i64_in _ (by omega)
          clear hl hn hti y0 y1 he0 he1 hbn hbr
          generalize gt (renTo tt x.m j) n = y at *
          generalize gt x.m j = ex at *
          gi_wp2_with (first | (refine ⟨trivial, ?_⟩; gi_at_call 47; refine (callsIn_wide.2 (HLV.out _)).mono ?_; rintro e w0 ⟨rfl, rfl⟩))
          gi_roundg (4 - (j + 1))
          case rel => exact ⟨j + 1, by omega, rfl, by go_num, HBR.out, HN.out⟩
          case measure => have := HG.out; omega
        · have hti : tIx tt j = j := by unfold tIx; rw [if_neg hl]
          have HLV := Lib.hid (fun (V : World) => show Calls Tryz.prog 47 #[.int .i64 (gt tt j)] V (fun e w' => e = .returned (.bool false) ∧ V = w') by
            have := HL.out (gt tt j) V
            rw [show (decide (1 ≤ gt tt j) && decide (gt tt j ≤ 4)) = false by
              rcases (by omega : ¬ (1 ≤ gt tt j) ∨ ¬ (gt tt j ≤ 4)) with h | h <;> simp [h]] at this
            exact this)
          obtain ⟨y0, y1⟩ := HRV.out j hj4 j hj4
          have cn : wr.cell? ⟨W.heap.size, j, none⟩ = some (.int .i64 (gt (renTo tt x.m j) j)) := (Blk.cell hbn j).trans (moV_at _ hj4)
          have fn := hbn.frozen j
          have ltn := hbn.lt
          have HN := Lib.hid (show Blk (wr.setCell ⟨W.heap.size, j, none⟩ (.int .i64 (gt (renTo tt x.m j) j + gt x.m j))) W.heap.size 44 (moV (renTo tt x.m (j + 1))) by
            rw [HST.out, hti, ← moV_addAt _ _ hj4]
            exact hbn.set_ j _)
          have HBR := Lib.hid (hbr.setCell (p := ⟨W.heap.size, j, none⟩) (Nat.le_refl _) (.int .i64 (gt (renTo tt x.m j) j + gt x.m j)))
          have hwr : IntKind.i64.wrap (gt (renTo tt x.m j) j + gt x.m j) = gt (renTo tt x.m j) j + gt x.m j := IntWalk.i64_in _ (by omega)
          clear hl hti y0 y1 he0 he1 hbn hbr
          generalize gt (renTo tt x.m j) j = y at *
          generalize gt x.m j = ex at *
          generalize gt tt j = et at *
          gi_wp2_with (first | (refine ⟨trivial, ?_⟩; gi_at_call 47; refine (callsIn_wide.2 (HLV.out _)).mono ?_; rintro e w0 ⟨rfl, rfl⟩))
          gi_roundg (4 - (j + 1))
          case rel => exact ⟨j + 1, by omega, rfl, by go_num, HBR.out, HN.out⟩
          case measure => have := HG.out; omega
      · obtain rfl : j = 4 := by omega
        have hj4' : ¬ (((4 : Nat) : Int) < 4) := by omega
        rw [HS4.out] at hbn
        have HGW := Lib.hid (HGA.out wr hbr)
        have HBR := Lib.hid hbr
        unfold AddRes moV at HGW
        have kb := hbn
        unfold moV at kb
        have c0 := kb.cell 0; have c1' := kb.cell 1; have c2 := kb.cell 2; have c3 := kb.cell 3
        have ki := K5.out.old hbr
        have c6 : wr.cell? ⟨w1.heap.size, 0, none⟩ = some (.pointer (some ⟨g, 0, none⟩)) := Blk.cell ki 0
        have kc := KI.out.old hbr
        have c4 : wr.cell? ⟨Bi, 0, none⟩ = some (.bool x.ng) := Blk.cell kc 0
        have c5 : wr.cell? ⟨Bi, 1, none⟩ = some (.slice x.A x.ds.length x.c) := Blk.cell kc 1
        clear hbn hbr kb ki kc HGA
        generalize renM tt x.m = rm at *
        gi_wp2_with (first | (refine ⟨trivial, ?_⟩; gi_at_call 36; refine (callsIn_wide.2 HGW.out).mono ?_; rintro e w5 ⟨rfl, v', gs', hga', hgi', ht', hf', ho'⟩; have HFIN := Lib.hid (HNX.out _ w5 v' gs' HBR.out hga' hgi' ht' hf' ho'); clear hga' hgi' ht' hf' ho'))
        exact HFIN.out
  case done =>
    rintro D ys W hD hS ⟨v, gs, hG, hgi, k3, k5, hpo, hap, hbl⟩ hK0
    have c6 : W.cell? ⟨w1.heap.size, 0, none⟩ = some (.pointer (some ⟨g, 0, none⟩)) := k5.cell 0
    rw [hS] at hgi
    obtain ⟨n1, n2⟩ := r_nrm (tt := tt) HGD.out (l := qs.map PT.tm) (k := qs.length) (by rw [List.take_length])
    have hgl : gs.length ≤ 100000 := by have h1 := hgi.len; rw [List.length_map] at h1; omega
    have hme : ∀ t ∈ rnL tt (qs.map PT.tm), vld t.2 = true → MB (4 * E) t.2 := fun t ht _ => by
      obtain ⟨s, hs, rfl⟩ := List.mem_map.1 ht
      obtain ⟨p, hp, rfl⟩ := List.mem_map.1 hs
      exact MB_of fun k hk => renTo_le tt hE0 (HGD.out.mb p hp).each 4 (Nat.le_refl _) k hk
    have HP := Lib.hid (fun (e : Ending) (w' : World) (hr : PolyRes (cf (rnL tt (qs.map PT.tm))) (rnL tt (qs.map PT.tm)).length W e w') => hr.good hme n1)
    have HPC := Lib.hid (poly_any (w.heap.size + 1) g mb v (rnL tt (qs.map PT.tm)) gs W hG hgi hgl (Nat.lt_of_le_of_lt n1 hM))
    have HLN := Lib.hid n2
    clear n1 n2 hgi hG hpo hap k3 k5 hme hS
    gi_wp2_with (first | (refine ⟨trivial, ?_⟩; gi_at_call 37; refine (callsIn_wide.2 HPC.out).mono ?_; rintro e w4 hr; obtain ⟨A5, c5, rs, rfl, hgd5, hb5⟩ := HP.out _ _ hr))
    have hK4 : w4.heap[D]? = some (.deferred (some [])) := (hb5.block D (Array.getElem?_eq_some_iff.1 hK0).1).trans hK0
    refine ⟨by simp, .inl ⟨_, _, rfl, run_takeDeferred hK4, ?_⟩⟩
    have hbf : Below w.heap.size w w4 := hbl.trans (hb5.mono hbl.size)
    refine ⟨_, results_tmp rfl _ _ _, A5, c5, rs, rfl, { hgd5 with own := ((KT.put (Bs := 0) (base := W.heap.size) (v := .slice A5 rs.length c5) (ps := rs) (.deferred none) hK4 rfl).1 hgd5.own).mono hbl.size, len := Nat.le_trans hgd5.len HLN.out, cf := fun m => ?_ }, ?_⟩
    · rw [hgd5.cf m, cf_rnL tt _ HGD.out.can.vl]
      exact rnC_ext tt HGD.out.cf m
    · exact hbf.trans (belowK_b (w := w) (Nat.le_refl _) w4 D _ _ (by omega) hK4 rfl rfl)
  case stop =>
    rintro D cc pre W _ _ h _
    exact h.elim
end Go.Proofs.YtpbapoanjkekmaaGreat
