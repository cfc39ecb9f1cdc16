/- Contract of sparse.Content. -/
import Derived.IntWalk
import Derived.Test.YtpbapoanjkekmaaT4
import Derived.Test.YtpbapoanjkekmaaU2
import Derived.Test.YtpbapoanjkekmaaVM
import Derived.Test.YtpbapoanjkekmaaVN
namespace Go.Proofs.Ytpbapoanjkekmaa
open Go.RowKit Go.Shelf
attribute [local go_sem] Oper.semAt_some

theorem NatIn.farC {B : Nat} {W W' : World} {row : Option Nat} {B' c : Nat} {A : Option Addr} {ds : List Nat} (h : NatIn W B' A c ds) (hg : W.grownBy W' row) (hr : ∀ r, row = some r → B ≤ r ∧ ∃ o : Obj, W.heap[r]? = some o ∧ o.isCells = false) : NatIn W' B' A c ds :=
  ⟨⟨h.rd.1, fun hp => by obtain ⟨b, o, e, hb, hc⟩ := h.rd.2 hp; exact ⟨b, o, e, hb, fun j u hu => cell_kept (hc j u hu) hg (fun r e => (hr r e).2)⟩⟩, h.dg, h.cap⟩
theorem below_keepsC {B : Nat} {W W' : World} (h : Below W.heap.size W W') : KeepsFrom B W W' := ⟨h.size, fun k _ _ hk _ => (h.block k (Array.getElem?_eq_some_iff.1 hk).1).trans hk⟩
theorem Canon.take {l : List Tm} (h : Canon l) (k : Nat) : Canon (l.take k) where
  ne t ht := h.ne t (List.mem_of_mem_take ht)
  vl t ht := h.vl t (List.mem_of_mem_take ht)
  so := h.so.sublist (List.take_sublist k l)
/-- a natural number as a result -/
def NRes (g : Nat) (w : World) (e : Ending) (w' : World) : Prop := ∃ A c, e = .returned (.agg #[.bool false, .slice A (dig g).length c]) ∧ (dig g).length ≤ c ∧ NatB w' A (dig g) ∧ Below w.heap.size w w'
theorem IntRes.n {g : Nat} {w : World} {e : Ending} {w' : World} (h : IntRes (g : Int) w e w') : NRes g w e w' := by
  obtain ⟨A1, c1, h1, h2, h3, h4⟩ := h
  have e0 : decide ((g : Int) < 0) = false := by simp
  rw [e0, Int.natAbs_natCast] at h1
  rw [Int.natAbs_natCast] at h2 h3
  exact ⟨A1, c1, h1, h2, h3, h4⟩
theorem GcdN_any (g c c' : Nat) (ng : Bool) (A A' : Option Addr) (ds : List Nat) (w : World) (hc : (dig g).length ≤ c) (h : NatB w A (dig g)) (h' : NatIn w w.heap.size A' c' ds) (hm : (dig g).length ≤ 400000) (hm' : ds.length ≤ 400000) :
    Calls Try.prog 43 #[.agg #[.bool false, .slice A (dig g).length c], .agg #[.bool ng, .slice A' ds.length c']] w (NRes (Nat.gcd g (val ds)) w) := by
  have := Gcd_any false ng A A' c c' w.heap.size (dig g) ds w (Nat.le_refl _) (natB_nin h hc) h' hm hm'
  rw [val_dig] at this
  exact this.mono fun e w' h => h.n
/-- between two rounds: the box holds the divisor so far -/
def CInv (Bt Br : Nat) (w : World) (pre : List PT) (W : World) : Prop :=
  ∃ A c, Blk W Bt 31 #[.bool false, .slice A (dig (gcL (pre.map PT.tm))).length c] ∧ (dig (gcL (pre.map PT.tm))).length ≤ c ∧ NatB W A (dig (gcL (pre.map PT.tm))) ∧ Blk W Br 31 #[.bool false, .slice none 0 0] ∧ Below w.heap.size w W
theorem CInv.own {Bt Br B : Nat} {w : World} (hw : w.heap.size ≤ B) : OwnFrom B (CInv Bt Br w) := by
  rintro pre W W' row ⟨A, c, h1, h2, h3, h4, h5⟩ hg hr
  exact ⟨A, c, h1.farH hg hr, h2, h3.keep (fun _ _ hb => hb.farH hg hr), h4.farH hg hr, ownFrom_below (β := Unit) (Nat.le_refl _) hw () W W' row h5 hg hr⟩
def CRound (qs pre : List PT) (x : PT) (F : Nat → Act) (a : Act) (W : World) : Prop :=
  ∃ Bx Bd, Blk W Bx 31 #[.bool x.ng, .slice x.A x.ds.length x.c] ∧ NatIn W Bd x.A x.c x.ds ∧ Bd ≤ W.heap.size ∧ x.ds.length ≤ 1000 ∧ pre.map PT.tm ++ [x.tm] = (qs.take (pre.length + 1)).map PT.tm ∧ pre.length < qs.length ∧ a = F Bx
theorem CRound.own {qs pre : List PT} {x : PT} {F : Nat → Act} {a : Act} {B : Nat} : OwnFrom B (fun (_ : Unit) W => CRound qs pre x F a W) := by
  rintro _ W W' row ⟨Bx, Bd, h1, h2, h3, h4⟩ hg hr
  exact ⟨Bx, Bd, h1.farH hg hr, h2.farC hg hr, Nat.le_trans h3 hg.size, h4⟩

set_option maxRecDepth 100000 in
set_option maxHeartbeats 4000000 in
theorem Content_any (A : Option Addr) (c B N : Nat) (E : Int) (M : Nat) (ps : List PT) (w : World) (hB : B ≤ w.heap.size) (h : PIn w B A ps N E M) (hN : N ≤ 50000) (hM : M < Big) :
    Calls Try.prog 41 #[.slice A ps.length c] w fun e w' => ∃ P, Canon P ∧ (∀ m, cf P m = cf (ps.map PT.tm) m) ∧ nrm P ≤ M ∧ NRes (gcL P) w e w' := by
  have HT := Lib.hid (fun (W : World) (hW : Below w.heap.size w W) => Terms_any A c B N E M ps W (Nat.le_trans hB hW.size) (h.below (hW.mono hB)) hN hM)
  have HO := Lib.hid (fun (W : World) => (IOf_any 0 (by omega) (by omega) W).mono (fun e w' h => IntRes.n (g := 0) h))
  unfold NRes at HO
  clear h
  refine (callsIn_wide (n := 3)).1 ?_
  refine callsIn_of_wp_marks Try.func41 rfl trivial ?_ rfl
  simp only [Try.ntmps41, List.size_toArray, List.length_cons, List.length_nil, Nat.reduceAdd, Nat.reduceSub, Array.replicate_succ, Array.replicate_zero, List.push_toArray, List.append_toArray, List.nil_append, List.cons_append]
  gi_wp2_with (first | (refine ⟨trivial, ?_⟩; gi_at_call 34; refine (callsIn_wide.2 (HO.out _)).mono ?_; rintro e w1 ⟨A0, c0, rfl, hc0, hn0, hbo⟩; have hx1 := ((Below.refl w.heap.size w).alloc (Nat.le_refl _) (.cells #[.bool false, .slice none 0 0] 31)).trans (hbo.mono (by simp)); have k1 := (Blk.new w 31 #[.bool false, .slice none 0 0]).old hbo) | (refine ⟨trivial, ?_⟩; gi_at_call 24; refine (callsIn_wide.2 (HT.out _ (hx1.alloc hx1.size _))).mono ?_; rintro e w2 ⟨b, A1, c1, qs, rfl, hblk, hbb, hgd, hb⟩))
  have hb1 : Below w.heap.size w w2 := (hx1.alloc hx1.size _).trans (hb.mono (Nat.le_trans hx1.size (by simp)))
  have hq : Blk w2 w1.heap.size 31 #[.bool false, .slice A0 (dig 0).length c0] := (Blk.new w1 _ _).old hb
  have hr : Blk w2 w.heap.size 31 #[.bool false, .slice none 0 0] := (k1.alloc _).old hb
  have hn : NatB w2 A0 (dig 0) := (hn0.keep fun _ _ k => k.alloc _).old hb
  have hbr : w.heap.size < w1.heap.size := k1.lt
  have HGD := Lib.hid hgd
  have hqs : qs.length ≤ 100000 := by have := hgd.len; omega
  have hdl : ∀ p ∈ qs, p.ds.length ≤ 1000 := fun p hp => Nat.le_trans (hgd.dlen (k := 600) hM hp) (by omega)
  have hown := hgd.own
  clear hb hbo k1 hn0 hx1 hbb hgd HT HO
  generalize (w1.alloc (.cells #[.bool false, .slice A0 (dig 0).length c0] 31)).heap.size = bT at *
  generalize w1.heap.size = bt at *
  refine wpIn_range_tells (F := Fence.wide) (n := 3) rfl (by omega) (gf := 54) (lb := #[.pointer (some ⟨b, 0, none⟩)]) rfl trivial (enters_of Try.func54 (by kernel_rfl) rfl)
    (Terms1_tells 2 (by omega) b bT A1 c1 qs w2 hqs hblk hown hdl) KT.trans (fun W l o o' h1 h2 => KT.put o' h1 h2) (fun _ => rfl)
    (CInv bt w.heap.size w) (fun _ _ _ => False)
    (CInv.own hb1.size) (fun _ _ _ _ _ hs _ _ => hs) ⟨A0, c0, hq, hc0, hn, hr, hb1⟩
    (fun pre x a' W => CRound qs pre x (fun Bx => { tmps := #[.slice A ps.length c, undef, .pointer (some ⟨w.heap.size, 0, none⟩), .pointer (some ⟨bt, 0, none⟩), undef, .pointer (some ⟨Bx, 0, none⟩), .agg #[.bool false, .slice A0 (dig 0).length c0], .slice A ps.length c, .func (.func 54) #[] #[.pointer (some ⟨b, 0, none⟩)], .agg #[.int .i64 x.m.1, .int .i64 x.m.2.1, .int .i64 x.m.2.2.1, .int .i64 x.m.2.2.2], .agg #[.bool x.ng, .slice x.A x.ds.length x.c], undef, undef, undef, undef], defers := [] }) a' W)
    (fun pre x a' => CRound.own)
    ?assign ?body ?done ?stop
  case assign =>
    rintro l pre x W K ⟨Ai, ci, i1, i2, i3, i4, i5⟩ ⟨t1, t2, t3, t4, t5⟩ hK
    unfold yargs moV
    have hba := (Below.refl W.heap.size W).alloc (Nat.le_refl _) (.cells #[.bool x.ng, .slice x.A x.ds.length x.c] 31)
    have HT4 := Lib.hid t4; have HT1 := Lib.hid (t1.below hba); have HT3 := Lib.hid t3
    have HI := Lib.hid (show CInv bt w.heap.size w pre (W.alloc (.cells #[.bool x.ng, .slice x.A x.ds.length x.c] 31)) from ⟨Ai, ci, i1.old hba, i2, i3.old hba, i4.old hba, i5.trans (hba.mono i5.size)⟩)
    clear t4 t1 t3 t2 i1 i2 i3 i4 i5
    gi_wp2
    exact hK _ _ ((KeepsOthers.alloc _ _).from _) (.old hba) HI.out ⟨W.heap.size, W.heap.size, Blk.new W _ _, HT1.out, hba.size, HT3.out, HT4.out, t5, rfl⟩
  case body =>
    rintro l pre x a' W hl ⟨Ai, ci, i1, i2, i3, i4, i5⟩ ⟨Bx, Bd, hx, hxn, hBd, hxl, htold, hlt, rfl⟩
    obtain ⟨hpre, q, hq1, hqx⟩ := told_mem htold hlt
    have hgl : gcL ((pre ++ [x]).map PT.tm) = Nat.gcd (gcL (pre.map PT.tm)) (val x.ds) := by
      rw [List.map_append, List.map_cons, List.map_nil, gcL_snoc]
      show Nat.gcd _ (ival x.ng x.ds).natAbs = _
      rw [ival_abs]
    have hln : (dig (gcL (pre.map PT.tm))).length ≤ 600 := by
      rw [hpre, List.map_take]
      refine dig_len_big (Nat.lt_of_le_of_lt (gcL_le_nrm (HGD.out.can.take _)) (Nat.lt_of_le_of_lt (nrm_take _ _) (Nat.lt_of_le_of_lt HGD.out.nm hM)))
    have HC := Lib.hid (GcdN_any (gcL (pre.map PT.tm)) ci x.c x.ng Ai x.A x.ds W i2 i3 (hxn.more hBd) (by omega) (by omega))
    rw [← hgl] at HC
    unfold NRes at HC
    have HEX := Lib.hid (show ∀ (V : World) (A : Option Addr) (c : Nat), (dig (gcL ((pre ++ [x]).map PT.tm))).length ≤ c → NatB V A (dig (gcL ((pre ++ [x]).map PT.tm))) → Blk V bt 31 #[.bool false, .slice A (dig (gcL ((pre ++ [x]).map PT.tm))).length c] → Blk V w.heap.size 31 #[.bool false, .slice none 0 0] → Below w.heap.size w V → CInv bt w.heap.size w (pre ++ [x]) V from fun V A c h1 h2 h3 h4 h5 => ⟨A, c, h3, h1, h2, h4, h5⟩)
    generalize gcL ((pre ++ [x]).map PT.tm) = g' at *
    generalize gcL (pre.map PT.tm) = g at *
    have c0' : W.cell? ⟨bt, 0, none⟩ = some (.bool false) := i1.cell 0
    have c1' : W.cell? ⟨bt, 1, none⟩ = some (.slice Ai (dig g).length ci) := i1.cell 1
    have e0 : W.cell? ⟨Bx, 0, none⟩ = some (.bool x.ng) := hx.cell 0
    have e1 : W.cell? ⟨Bx, 1, none⟩ = some (.slice x.A x.ds.length x.c) := hx.cell 1
    have HI1 := Lib.hid i1; have HI4 := Lib.hid i4; have HI5 := Lib.hid i5
    clear i1 i2 i3 i4 i5 hx hxn hBd hxl htold hlt hpre hq1 hqx hgl hln
    gi_wp2_with (first | (refine ⟨trivial, ?_⟩; gi_at_call 43; refine (callsIn_wide.2 HC.out).mono ?_; rintro e w3 ⟨A3, c3, rfl, h31, h32, h33⟩; have kk := HI1.out.old h33; have d0 : w3.cell? ⟨bt, 0, none⟩ = some (.bool false) := kk.cell 0; have d1 : w3.cell? ⟨bt, 1, none⟩ = some (.slice Ai (dig g).length ci) := kk.cell 1; have f0 := kk.frozen 0; have f1 := kk.frozen 1; have z0 := kk.lt; have HK3 := Lib.hid kk; have H31 := Lib.hid h31; have H32 := Lib.hid h32; have H33 := Lib.hid h33; clear kk h31 h32 h33))
    have hk := HK3.out
    have h2 := H33.out
    exact ⟨(below_keepsC h2).trans (((KeepsOthers.setCell _ _ _).from _).trans ((KeepsOthers.setCell _ _ _).from _)), (KT.old h2).trans ((KT.set hk (by decide) (by decide) (by decide) _).trans (KT.set (hk.set_ 0 _) (by decide) (by decide) (by decide) _)),
      HEX.out _ A3 c3 H31.out (H32.out.store2 hk (by decide) _ _) ((hk.set_ 0 _).set_ 1 _) (((HI4.out.old h2).far (Nat.ne_of_lt hbr) _).far (Nat.ne_of_lt hbr) _) (((HI5.out.trans (h2.mono HI5.out.size)).setCell (Nat.le_of_lt hbr) _).setCell (Nat.le_of_lt hbr) _)⟩
  case done =>
    rintro D ys W hD hS ⟨Ai, ci, i1, i2, i3, i4, i5⟩ hK
    have c0' : W.cell? ⟨bt, 0, none⟩ = some (.bool false) := i1.cell 0
    have c1' : W.cell? ⟨bt, 1, none⟩ = some (.slice Ai (dig (gcL (ys.map PT.tm))).length ci) := i1.cell 1
    have d0 : W.cell? ⟨w.heap.size, 0, none⟩ = some (.bool false) := i4.cell 0
    have d1 : W.cell? ⟨w.heap.size, 1, none⟩ = some (.slice none 0 0) := i4.cell 1
    have f0 := i4.frozen 0; have f1 := i4.frozen 1; have z0 := i4.lt
    have HS := Lib.hid hS; have HI4 := Lib.hid i4; have HI5 := Lib.hid i5; have HI3 := Lib.hid i3; have HI2 := Lib.hid i2
    have hDR : w.heap.size ≠ D := by have := hb1.size; have := hr.lt; omega
    have HK := Lib.hid hK
    clear hS i1 i2 i3 i4 i5 hK
    gi_wp2
    have y2 := (HI4.out.set_ 0 (.bool false)).set_ 1 (.slice Ai (dig (gcL (ys.map PT.tm))).length ci)
    have y6 : ((W.setCell ⟨w.heap.size, 0, none⟩ (.bool false)).setCell ⟨w.heap.size, 1, none⟩ (.slice Ai (dig (gcL (ys.map PT.tm))).length ci)).heap[D]? = some (.deferred (some [])) :=
      (Below.heap_setCell _ ⟨w.heap.size, 1, none⟩ _ D (Ne.symm hDR)).trans ((Below.heap_setCell _ ⟨w.heap.size, 0, none⟩ _ D (Ne.symm hDR)).trans HK.out)
    have y7 := (World.putObj_heap_other (o := .deferred none) hDR).trans y2
    refine ⟨by simp, .inl ⟨_, _, rfl, run_takeDeferred y6, ?_⟩⟩
    refine ⟨_, results_cell_row Try.results41 _ _ w.heap.size 31 _ (0, 0) _ rfl y7 Try.underlying31 rfl Try.sizeInt, ?_⟩
    have hcan : Canon (ys.map PT.tm) := by rw [HS.out]; exact HGD.out.can
    refine ⟨ys.map PT.tm, hcan, fun m => by rw [HS.out]; exact HGD.out.cf m, by rw [HS.out]; exact HGD.out.nm, Ai, ci, rfl, HI2.out, ?_, ?_⟩
    · exact (HI3.out.store2 HI4.out (by decide) _ _).keep fun k cs hb => (World.putObj_heap_other (fun e => by subst e; rw [show _ = _ from hb] at y6; cases y6)).trans hb
    · exact ((HI5.out.setCell (Nat.le_refl _) _).setCell (Nat.le_refl _) _).trans (belowK_b (w := w) (Nat.le_refl _) _ D _ _ (by have := hb1.size; omega) y6 rfl rfl)
  case stop =>
    rintro D cc pre W _ _ h _
    exact h.elim
end Go.Proofs.Ytpbapoanjkekmaa
