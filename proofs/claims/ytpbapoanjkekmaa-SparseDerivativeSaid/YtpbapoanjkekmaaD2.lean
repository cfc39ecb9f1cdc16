/- Contract of sparse.Derivative. -/
import Derived.Test.YtpbapoanjkekmaaT4
import Derived.Test.YtpbapoanjkekmaaD1
namespace Go.Proofs.Ytpbapoanjkekmaa
open Go.RowKit Go.Shelf
attribute [local go_sem] Oper.semAt_some

/-! ### what abides the turn of a block that holds no cells -/
section
variable {B : Nat} {W W' : World} {row : Option Nat}
theorem Blk.farG {k : Nat} {t : TypeId} {cs : Array Value} (h : Blk W k t cs) (hg : W.grownBy W' row) (hr : ∀ r, row = some r → B ≤ r ∧ ∃ o : Obj, W.heap[r]? = some o ∧ o.isCells = false) : Blk W' k t cs :=
  h.grown hg (fun e' => by obtain ⟨_, o, ho, hc⟩ := hr k e'.symm; rw [show W.heap[k]? = _ from h] at ho; cases ho; cases hc)
theorem GAt.farG {base g mb : Nat} {v : Value} {ps : List PT} (h : GAt W base g mb v ps) (hg : W.grownBy W' row) (hr : ∀ r, row = some r → B ≤ r ∧ ∃ o : Obj, W.heap[r]? = some o ∧ o.isCells = false) (hm : mb < B) : GAt W' base g mb v ps where
  gb := h.gb.farG hg hr
  mp := by
    obtain ⟨f, h1, h2⟩ := h.mp
    exact ⟨f, h1.kept hg (fun e => by have := (hr mb e.symm).1; omega), h2⟩
  row := h.row.kept hg (by
    rcases h.row.2 with ⟨rfl, _⟩ | ⟨g', cap, cur, rfl, _, hh, _⟩
    · exact .inl (by simp [Value.ownBlock])
    · refine .inr (fun e => ?_)
      have e2 : row = some g' := by rw [← e]; simp [Value.ownBlock]
      obtain ⟨_, o, ho, hc⟩ := hr g' e2
      rw [hh] at ho
      cases ho
      cases hc)
  dg p hp := ⟨(h.dg p hp).1.keep fun g cs hb => hb.farG hg hr, (h.dg p hp).2⟩
  cn := h.cn
  lg := h.lg
  lm := h.lm
theorem NatIn.farG {B' c : Nat} {A : Option Addr} {ds : List Nat} (h : NatIn W B' A c ds) (hg : W.grownBy W' row) (hr : ∀ r, row = some r → B ≤ r ∧ ∃ o : Obj, W.heap[r]? = some o ∧ o.isCells = false) : NatIn W' B' A c ds :=
  ⟨⟨h.rd.1, fun hp => by obtain ⟨b, o, e, hb, hc⟩ := h.rd.2 hp; exact ⟨b, o, e, hb, fun j u hu => cell_kept (hc j u hu) hg (fun r e => (hr r e).2)⟩⟩, h.dg, h.cap⟩
end
theorem GAt.setFar {W : World} {base g mb : Nat} {v : Value} {ps : List PT} (h : GAt W base g mb v ps) {k : Nat} {t : TypeId} {cs : Array Value} (hb : Blk W k t cs) (h1 : t ≠ 95) (h2 : t ≠ 35) (h3 : t ≠ 70) (o : Nat) (u : Value) : GAt (W.setCell ⟨k, o, none⟩ u) base g mb v ps where
  gb := h.gb.far (h.gb.ne_t hb (Ne.symm h1)) u
  mp := by
    obtain ⟨f, k1, k2⟩ := h.mp
    exact ⟨f, k1.set_ (k1.ne_blk hb) u, k2⟩
  row := h.row.kept (row := some k) ⟨rfl, rfl, rfl, by simp, fun j _ hj => Below.heap_setCell W ⟨k, o, none⟩ u j (fun e => hj (by rw [e]))⟩ (.inr (fun e => own_row_far h.row hb h2 e.symm))
  dg p hp := ⟨(h.dg p hp).1.far hb h3 o u, (h.dg p hp).2⟩
  cn := h.cn
  lg := h.lg
  lm := h.lm

/-! ### a gather beside the canonical form that is ranged over -/
theorem POwn.keep1 {W W' : World} {base : Nat} {v : Value} {ps : List PT} (h : POwn W base v ps) (hu : ∀ g cs, Blk W g 70 cs → Blk W' g 70 cs) (ht : ∀ g cs, v.ownBlock = some g → Blk W g 35 cs → Blk W' g 35 cs) : POwn W' base v ps := by
  refine ⟨⟨h.row.1, h.row.2.imp id ?_⟩, fun p hp => ⟨(h.dg p hp).1.keep hu, (h.dg p hp).2⟩, h.cn⟩
  rintro ⟨g, cap, cur, h1, h2, h3, h4⟩
  exact ⟨g, cap, cur, h1, h2, ht g cur (by rw [h1]; simp [Value.ownBlock]) h3, h4⟩
/-- no row in common -/
def Apart (v v' : Value) : Prop := ∀ k, v.ownBlock = some k → v'.ownBlock ≠ some k
section
variable {Bs base b0 g mb : Nat} {qv v v' : Value} {qs gs : List PT} {W W' : World}
theorem KT.gadd (hG : GAt W b0 g mb v gs) (ht : GTurn b0 W W') (hf : FarT g v v' W W') (hap : Apart qv v) : KT Bs base qv qs W W' :=
  ⟨fun x => x.keep1 (fun k cs hb => ht.far k _ cs hb (by decide) (by decide)) (fun k cs e hb => (hf k _ cs hb (hb.ne_t hG.gb (by decide)) (hap k e)).1), fun x => ht.far _ _ _ x (by decide) (by decide), ht.below.size⟩
theorem Apart.gadd (hap : Apart qv v) (hG : GAt W b0 g mb v gs) (hx : POwn W base qv qs) (hf : FarT g v v' W W') : Apart qv v' := fun k e => by
  rcases hx.row.2 with ⟨rfl, _⟩ | ⟨g', cap, cur, rfl, _, h3, _⟩
  · simp [Value.ownBlock] at e
  · have e2 : g' = k := by simpa [Value.ownBlock] using e
    subst e2
    have hb : Blk W g' 35 cur := h3
    exact (hf g' _ cur hb (hb.ne_t hG.gb (by decide)) (hap g' e)).2
end
theorem Behind.ok {α : Type} {w : World} {Kp : World → World → Prop} {I : List α → World → Prop} {Ix : Code → List α → World → Prop} {xs : List α} {W W' : World} {a : Act} (h : KeepsFrom w.heap.size W W' ∧ Kp W W' ∧ I xs W') : Behind w Kp I Ix xs W .normal a W' := h

/-! ### plain facts -/
theorem MB.ex {E : Int} {m : Mo} (h : MB E m) (i : Nat) : exM i m ≤ E := by
  unfold MB at h
  rcases dec_cases i with rfl | rfl | rfl | ⟨k, rfl⟩ <;> simp only [exM] <;> omega
theorem MB.dec {E : Int} {m : Mo} (h : MB E m) (i : Nat) : MB E (decM i m) := by
  unfold MB at *
  rcases dec_cases i with rfl | rfl | rfl | ⟨k, rfl⟩ <;> simp only [decM] <;> omega
theorem told_pre {ps pre : List PT} {x : PT} (h : pre.map PT.tm ++ [x.tm] = (ps.take (pre.length + 1)).map PT.tm) (hl : pre.length < ps.length) : pre.map PT.tm = (ps.take pre.length).map PT.tm ∧ ∃ p ∈ ps, p.tm = x.tm := by
  obtain ⟨p, hp⟩ : ∃ p, ps[pre.length]? = some p := ⟨_, List.getElem?_eq_getElem hl⟩
  rw [take_snoc_tm hp] at h
  obtain ⟨h1, h2⟩ := List.append_inj' h rfl
  exact ⟨h1, p, List.mem_of_getElem? hp, by simpa using h2.symm⟩
theorem dL_pos {i : Nat} {pre : List PT} {x : PT} (h : 0 < exM i x.m) : dL i ((pre ++ [x]).map PT.tm) = dL i (pre.map PT.tm) ++ [(ival x.ng x.ds * exM i x.m, decM i x.m)] := by
  rw [List.map_append, List.map_cons, List.map_nil, dL_snoc]
  unfold dT
  rw [if_pos (show 0 < exM i x.tm.2 from h)]
  rfl
theorem dL_neg {i : Nat} {pre : List PT} {x : PT} (h : ¬ 0 < exM i x.m) : dL i ((pre ++ [x]).map PT.tm) = dL i (pre.map PT.tm) := by
  rw [List.map_append, List.map_cons, List.map_nil, dL_snoc]
  unfold dT
  rw [if_neg (show ¬ 0 < exM i x.tm.2 from h), List.append_nil]
theorem d_nrm {i K N M : Nat} {E : Int} {W : World} {base : Nat} {qv : Value} {qs : List PT} {F : Mo → Int} (hg : PGood W base qv qs F N E M) (hK : E ≤ (K : Int)) {l : List Tm} {k : Nat} (hl : l = (qs.take k).map PT.tm) : nrm (dL i l) ≤ K * M ∧ (dL i l).length ≤ N := by
  have h1 : nrm l ≤ M := by rw [hl]; exact Nat.le_trans (nrm_take_tm qs k) hg.nm
  have h2 : l.length ≤ N := by rw [hl]; have := hg.len; simp; omega
  refine ⟨Nat.le_trans (nrm_dL i l (K := K) fun t ht => ?_) (Nat.mul_le_mul_left _ h1), Nat.le_trans (dL_len i l) h2⟩
  rw [hl] at ht
  obtain ⟨p, hp, rfl⟩ := List.mem_map.1 ht
  exact Int.le_trans ((hg.mb p (List.mem_of_mem_take hp)).ex i) hK
structure DFacts (i K M : Nat) (E : Int) (pre : List PT) (x : PT) : Prop where
  vl : 0 ≤ x.m.1 ∧ 0 ≤ x.m.2.1 ∧ 0 ≤ x.m.2.2.1 ∧ 0 ≤ x.m.2.2.2
  ub : x.m.1 ≤ 9223372036854775807 ∧ x.m.2.1 ≤ 9223372036854775807 ∧ x.m.2.2.1 ≤ 9223372036854775807 ∧ x.m.2.2.2 ≤ 9223372036854775807
  len : (dL i (pre.map PT.tm)).length ≤ 100000
  nm : nrm (dL i (pre.map PT.tm)) < Big
  wf : 0 < exM i x.m → WfM (decM i x.m)
  dz : (dig (ival x.ng x.ds * exM i x.m).natAbs).length ≤ 1000
theorem d_facts {i K N M : Nat} {E : Int} {W : World} {base : Nat} {qv : Value} {qs pre : List PT} {F : Mo → Int} {x : PT} (hg : PGood W base qv qs F N E M) (hE : E ≤ 9223372036854775807) (hK : E ≤ (K : Int)) (hKM : K * M < Big) (hN : N ≤ 50000)
    (h : pre.map PT.tm ++ [x.tm] = (qs.take (pre.length + 1)).map PT.tm) (hl : pre.length < qs.length) : DFacts i K M E pre x := by
  obtain ⟨h1, q, hq, hqx⟩ := told_pre h hl
  have hqm : q.m = x.m := congrArg Prod.snd hqx
  have hv : vld x.m = true := by rw [← hqm]; exact hg.vl hq
  have hmb : MB E x.m := by rw [← hqm]; exact hg.mb q hq
  have hz : (ival x.ng x.ds).natAbs ≤ M := by
    have h2 := nrm_mem (List.mem_map.2 ⟨q, hq, rfl⟩ : q.tm ∈ qs.map PT.tm)
    rw [hqx] at h2
    exact Nat.le_trans h2 hg.nm
  obtain ⟨n1, n2⟩ := d_nrm (i := i) hg hK h1
  have h0 := ex_nn (i := i) hv
  have h3 := hmb.ex i
  refine ⟨vld_iff.1 hv, ?_, by omega, Nat.lt_of_le_of_lt n1 hKM, fun hp => (hmb.dec i).wf (by rw [vld_dec hp]; exact hv) hE, ?_⟩
  · unfold MB at hmb; omega
  · have h4 : (ival x.ng x.ds * exM i x.m).natAbs < Big := by
      rw [Int.natAbs_mul, Nat.mul_comm]
      exact Nat.lt_of_le_of_lt (Nat.mul_le_mul (show (exM i x.m).natAbs ≤ K by omega) hz) hKM
    exact Nat.le_trans (dig_len_big h4) (by omega)
theorem dig_len64 {e : Int} (h0 : 0 ≤ e) (h1 : e ≤ 9223372036854775807) : (dig e.natAbs).length ≤ 2 := dig_len_pw (k := 2) (by
  have : pw 2 = 18446744073709551616 := by decide
  omega)

/-! ### the range's invariant -/
/-- between two rounds: the gather holds the derivative of what has come -/
def DInv (i : Nat) (L : Int) (b0 g mb b3 b5 bT : Nat) (qv : Value) (qs : List PT) (w : World) (pre : List PT) (W : World) : Prop :=
  ∃ v gs, GAt W b0 g mb v gs ∧ GInv (dL i (pre.map PT.tm)) (gs.map PT.tm) ∧ Blk W b3 3 #[.int .i64 L] ∧ Blk W b5 66 #[.pointer (some ⟨g, 0, none⟩)] ∧ POwn W bT qv qs ∧ Apart qv v ∧ Below w.heap.size w W
theorem DInv.own {i : Nat} {L : Int} {b0 g mb b3 b5 bT B : Nat} {qv : Value} {qs : List PT} {w : World} (hm : mb < B) (hw : w.heap.size ≤ B) : OwnFrom B (DInv i L b0 g mb b3 b5 bT qv qs w) := by
  rintro pre W W' row ⟨v, gs, h1, h2, h3, h4, h5, h6, h7⟩ hg hr
  exact ⟨v, gs, h1.farG hg hr hm, h2, h3.farG hg hr, h4.farG hg hr, h5.keep (fun _ _ _ hb _ => hb.farG hg hr), h6, ownFrom_below (β := Unit) (Nat.le_refl _) hw () W W' row h7 hg hr⟩
/-- what a round begins with -/
def DRound (qs pre : List PT) (x : PT) (F : Nat → Nat → Act) (b : Nat) (a : Act) (W : World) : Prop :=
  ∃ Bm Bi Bd, b ≤ Bm ∧ Blk W Bm 33 (moV x.m) ∧ Blk W Bi 31 #[.bool x.ng, .slice x.A x.ds.length x.c] ∧ Bd ≤ Bm ∧ NatIn W Bd x.A x.c x.ds ∧ Cn x ∧ x.ds.length ≤ 1000 ∧ pre.map PT.tm ++ [x.tm] = (qs.take (pre.length + 1)).map PT.tm ∧ pre.length < qs.length ∧ a = F Bm Bi
theorem DRound.own {qs pre : List PT} {x : PT} {F : Nat → Nat → Act} {b B : Nat} {a : Act} : OwnFrom B (fun (_ : Unit) W => DRound qs pre x F b a W) := by
  rintro _ W W' row ⟨Bm, Bi, Bd, h0, h1, h2, h3, h4, h5⟩ hg hr
  exact ⟨Bm, Bi, Bd, h0, h1.farG hg hr, h2.farG hg hr, h3, h4.farG hg hr, h5⟩
/-- a round that adds a term -/
theorem d_next {i : Nat} {L : Int} {b0 g mb b3 b5 bT Bs B : Nat} {qv v v' : Value} {qs gs gs' pre : List PT} {x : PT} {w W X w4 w5 : World} {Bm o : Nat} {cs : Array Value} {u : Value} (hX : W.setCell ⟨Bm, o, none⟩ u = X)
    (km : Blk W Bm 33 cs) (hG : GAt W b0 g mb v gs) (k3 : Blk X b3 3 #[.int .i64 L]) (k5 : Blk X b5 66 #[.pointer (some ⟨g, 0, none⟩)]) (hpo : POwn W bT qv qs) (hap : Apart qv v) (hbl : Below w.heap.size w W) (hBm : w.heap.size ≤ Bm) (hb0 : w.heap.size ≤ b0) (hmb : mb < B)
    (hb4 : Below X.heap.size X w4) (hga : GAt w5 b0 g mb v' gs') (hgi : GInv (dL i ((pre ++ [x]).map PT.tm)) (gs'.map PT.tm)) (ht : GTurn b0 w4 w5) (hf : FarT g v v' w4 w5) (ho : OthT mb w4 w5) :
    KeepsFrom B W w5 ∧ KT Bs bT qv qs W w5 ∧ DInv i L b0 g mb b3 b5 bT qv qs w (pre ++ [x]) w5 := by
  subst hX
  have g4 := (hG.setFar km (by decide) (by decide) (by decide) o u).old hb4
  have t1 : KT Bs bT qv qs W w4 := (KT.set km (by decide) (by decide) (by decide) u).trans (.old hb4)
  refine ⟨?_, t1.trans (KT.gadd g4 ht hf hap), v', gs', hga, hgi, ht.far _ _ _ (k3.old hb4) (by decide) (by decide), ht.far _ _ _ (k5.old hb4) (by decide) (by decide), (KT.gadd (Bs := Bs) g4 ht hf hap).1 (t1.1 hpo), hap.gadd g4 (t1.1 hpo) hf,
    ((hbl.setCell hBm u).trans (hb4.mono (hbl.setCell (p := ⟨Bm, o, none⟩) hBm u).size)).trans (ht.below.mono hb0)⟩
  refine ((KeepsOthers.setCell W ⟨Bm, o, none⟩ u).from B).trans ⟨Nat.le_trans hb4.size ht.below.size, fun k ob hB hk hc => ho k ob ((hb4.block k (Array.getElem?_eq_some_iff.1 hk).1).trans hk) hc (by omega)⟩

set_option maxRecDepth 100000 in
set_option maxHeartbeats 4000000 in
theorem Deriv_1 (A : Option Addr) (c B N K : Nat) (E : Int) (M : Nat) (ps : List PT) (w : World) (hB : B ≤ w.heap.size) (h : PIn w B A ps N E M) (hN : N ≤ 50000) (hM : M < Big) (hE : E ≤ 9223372036854775807) (hK : E ≤ (K : Int)) (hKM : K * M < Big) :
    Calls Try.prog 32 #[.slice A ps.length c, .int .i64 1] w (PRes (dC 0 (ps.map PT.tm)) N E (K * M) w) := by
  have HT := Lib.hid (fun (W : World) (hW : Below w.heap.size w W) => Terms_any A c B N E M ps W (Nat.le_trans hB hW.size) (h.below (hW.mono hB)) hN hM)
  have HL := Lib.hid (fun (W : World) => show Calls Try.prog 53 #[.int .i64 1] W (fun e w' => e = .returned (.bool true) ∧ W = w') from lvl_any 1 W)
  have HNG := Lib.hid newG_any
  have HBW := Lib.hid (fun (w1 : World) (h0 : Below (w.alloc (.cells #[.int .i64 1] 3)).heap.size (w.alloc (.cells #[.int .i64 1] 3)) w1) => show Below w.heap.size w w1 from ((Below.refl _ w).alloc (Nat.le_refl _) _).trans (h0.mono (by simp)))
  have HBA := Lib.hid (fun (w1 : World) (o : Obj) (h0 : Below w.heap.size w w1) => show Below w.heap.size w (w1.alloc o) from h0.alloc h0.size o)
  clear h
  refine (callsIn_wide (n := 6)).1 ?_
  refine callsIn_of_wp_marks Try.func32 rfl trivial ?_ rfl
  simp only [Try.ntmps32, List.size_toArray, List.length_cons, List.length_nil, Nat.reduceAdd, Nat.reduceSub, Array.replicate_succ, Array.replicate_zero, List.push_toArray, List.append_toArray, List.nil_append, List.cons_append]
  gi_wp2_with (first
    | (refine ⟨trivial, ?_⟩; gi_at_call 53; refine (callsIn_wide.2 (HL.out _)).mono ?_; rintro e w0 ⟨rfl, rfl⟩)
    | (refine ⟨trivial, ?_⟩; gi_at_call 47; refine (callsIn_wide.2 (HNG.out _)).mono ?_; rintro e w1 ⟨g, mb, rfl, hg0, hb0⟩)
    | (refine ⟨trivial, ?_⟩; gi_at_call 24; refine (callsIn_wide.2 (HT.out _ (HBA.out _ _ (HBW.out _ hb0)))).mono ?_; rintro e w2 ⟨b, A1, c1, qs, rfl, hblk, hbb, hgd, hb⟩))
  have hb1 : Below w.heap.size w w1 := HBW.out _ hb0
  have hbT : Below w1.heap.size w1 w2 := ((Below.refl _ w1).alloc (Nat.le_refl _) _).trans (hb.mono (by simp))
  have hbw2 : Below w.heap.size w w2 := hb1.trans (hbT.mono hb1.size)
  have hg2 := hg0.old hbT
  have k3 : Blk w2 w.heap.size 3 #[.int .i64 1] := ((Blk.new w 3 #[.int .i64 1]).old hb0).old hbT
  have k5 : Blk w2 w1.heap.size 66 #[.pointer (some ⟨g, 0, none⟩)] := (Blk.new w1 66 #[.pointer (some ⟨g, 0, none⟩)]).old hb
  have hmb2 : mb < w2.heap.size := by obtain ⟨f, h1, _⟩ := hg2.mp; exact h1.lt
  have hbs : (w.alloc (.cells #[.int .i64 1] 3)).heap.size = w.heap.size + 1 := by simp
  rw [hbs] at hg2
  have hw12 : w.heap.size ≤ w2.heap.size := hbw2.size
  have HGD := Lib.hid hgd
  have hqs : qs.length ≤ 100000 := by have := hgd.len; omega
  have hdl : ∀ p ∈ qs, p.ds.length ≤ 1000 := fun p hp => Nat.le_trans (hgd.dlen (k := 600) hM hp) (by omega)
  generalize hbTe : (w1.alloc (.cells #[.pointer (some ⟨g, 0, none⟩)] 66)).heap.size = bT at *
  clear hbTe hbs
  refine wpIn_range_tells (F := Fence.wide) (n := 6) rfl (by omega) (gf := 54) (lb := #[.pointer (some ⟨b, 0, none⟩)]) rfl trivial (enters_of Try.func54 (by kernel_rfl) rfl)
    (Terms1_tells 5 (by omega) b bT A1 c1 qs w2 hqs hblk hgd.own hdl) KT.trans (fun W l o o' h1 h2 => KT.put o' h1 h2) (fun _ => rfl)
    (DInv 0 1 (w.heap.size + 1) g mb w.heap.size w1.heap.size bT (.slice A1 qs.length c1) qs w) (fun _ _ _ => False)
    (DInv.own hmb2 hw12) (fun _ _ _ _ _ hs _ _ => hs) ⟨_, [], hg2, GInv.nil, k3, k5, hgd.own, fun k _ => by simp [Value.ownBlock], hbw2⟩
    (fun pre x a' W => DRound qs pre x (fun Bm Bi => { tmps := #[.slice A ps.length c, .int .i64 1, undef, .pointer (some ⟨w.heap.size, 0, none⟩), .slice none 0 0, .pointer (some ⟨w1.heap.size, 0, none⟩), .pointer (some ⟨Bm, 0, none⟩), .pointer (some ⟨Bi, 0, none⟩), undef, .int .i64 1, .bool true, .bool false, .pointer (some ⟨g, 0, none⟩), .slice A ps.length c, .func (.func 54) #[] #[.pointer (some ⟨b, 0, none⟩)], .agg #[.int .i64 x.m.1, .int .i64 x.m.2.1, .int .i64 x.m.2.2.1, .int .i64 x.m.2.2.2], .agg #[.bool x.ng, .slice x.A x.ds.length x.c], undef, undef, undef, undef, undef, undef, undef, undef, undef, undef, undef, undef, undef, undef, undef, undef, undef, undef, undef, undef, undef], defers := [] }) w.heap.size a' W)
    (fun _ _ _ => DRound.own)
    ?assign ?body ?done ?stop
  case assign =>
    rintro l pre x W K' ⟨v, gs, i1, i2, i3, i4, i5, i6, i7⟩ ⟨t1, t2, t3, t4, t5⟩ hK'
    unfold yargs moV
    obtain ⟨b1, b2, b3, b4⟩ := boxes2 W 33 31 #[.int .i64 x.m.1, .int .i64 x.m.2.1, .int .i64 x.m.2.2.1, .int .i64 x.m.2.2.2] #[.bool x.ng, .slice x.A x.ds.length x.c]
    have hfin := hK' { tmps := #[.slice A ps.length c, .int .i64 1, undef, .pointer (some ⟨w.heap.size, 0, none⟩), .slice none 0 0, .pointer (some ⟨w1.heap.size, 0, none⟩), .pointer (some ⟨W.heap.size, 0, none⟩), .pointer (some ⟨W.heap.size + 1, 0, none⟩), undef, .int .i64 1, .bool true, .bool false, .pointer (some ⟨g, 0, none⟩), .slice A ps.length c, .func (.func 54) #[] #[.pointer (some ⟨b, 0, none⟩)], .agg #[.int .i64 x.m.1, .int .i64 x.m.2.1, .int .i64 x.m.2.2.1, .int .i64 x.m.2.2.2], .agg #[.bool x.ng, .slice x.A x.ds.length x.c], undef, undef, undef, undef, undef, undef, undef, undef, undef, undef, undef, undef, undef, undef, undef, undef, undef, undef, undef, undef, undef], defers := [] } _
      (((KeepsOthers.alloc W _).trans (KeepsOthers.alloc _ _)).from _) (KT.old b1) ⟨v, gs, i1.old b1, i2, i3.old b1, i4.old b1, i5.old b1, i6, i7.trans (b1.mono i7.size)⟩ ⟨W.heap.size, W.heap.size + 1, W.heap.size, i7.size, b2, b3, Nat.le_refl _, t1.below b1, t2, t3, t4, t5, rfl⟩
    have HFIN := Lib.hid hfin
    clear hfin hK' b1 b2 b3 b4
    gi_wp2
    exact HFIN.out
  case body =>
    rintro l pre x a' W hl ⟨v, gs, hG, hgi, k3, k5, hpo, hap, hbl⟩ ⟨Bm, Bi, Bd, hBm, km, ki, hBd, hnat, hcn, hdl1, htold, hlt, rfl⟩
    have hf : DFacts 0 K M E pre x := d_facts HGD.out hE hK hKM hN htold hlt
    obtain ⟨v0, v1, v2, v3⟩ := hf.vl
    obtain ⟨u0, u1, u2, u3⟩ := hf.ub
    unfold moV at km
    have e3 : W.cell? ⟨w.heap.size, 0, none⟩ = some (.int .i64 1) := k3.cell 0
    have ej : W.cell? ⟨Bm, 0, none⟩ = some (.int .i64 x.m.1) := km.cell 0
    have fj := km.frozen 0
    by_cases he : 0 < x.m.1
    · have hLP : dL 0 ((pre ++ [x]).map PT.tm) = dL 0 (pre.map PT.tm) ++ [(ival x.ng x.ds * x.m.1, (x.m.1 - 1, x.m.2.1, x.m.2.2.1, x.m.2.2.2))] := dL_pos (i := 0) (pre := pre) (x := x) he
      have hwm : WfM (x.m.1 - 1, x.m.2.1, x.m.2.2.1, x.m.2.2.2) := hf.wf he
      have hdz : (dig (ival x.ng x.ds * x.m.1).natAbs).length ≤ 1000 := hf.dz
      have HLN := Lib.hid hf.len; have HNM := Lib.hid hf.nm
      have hd2 := dig_len64 v0 u0
      have kmS : Blk (W.setCell ⟨Bm, 0, none⟩ (.int .i64 (x.m.1 - 1))) Bm 33 #[.int .i64 (x.m.1 - 1), .int .i64 x.m.2.1, .int .i64 x.m.2.2.1, .int .i64 x.m.2.2.2] := km.set_ 0 (.int .i64 (x.m.1 - 1))
      have kiS := ki.far (p := ⟨Bm, 0, none⟩) (ki.ne_t km (by decide)) (.int .i64 (x.m.1 - 1))
      have k3S := k3.far (p := ⟨Bm, 0, none⟩) (k3.ne_t km (by decide)) (.int .i64 (x.m.1 - 1))
      have k5S := k5.far (p := ⟨Bm, 0, none⟩) (k5.ne_t km (by decide)) (.int .i64 (x.m.1 - 1))
      have hGS := hG.setFar km (by decide) (by decide) (by decide) 0 (.int .i64 (x.m.1 - 1))
      have hnS := hnat.below ((Below.refl Bd W).setCell (p := ⟨Bm, 0, none⟩) hBd (.int .i64 (x.m.1 - 1)))
      have hXe : ∃ X, W.setCell ⟨Bm, 0, none⟩ (.int .i64 (x.m.1 - 1)) = X := ⟨_, rfl⟩
      obtain ⟨X, hX⟩ := hXe
      rw [hX] at kmS kiS k3S k5S hGS hnS
      have hbX : w.heap.size + 1 ≤ X.heap.size := by rw [← hX]; have := km.lt; simp; omega
      have hBdX : Bd ≤ X.heap.size := Nat.le_trans hBd (Nat.le_of_lt kmS.lt)
      have HNX := Lib.hid (fun (w4 w5 : World) (v' : Value) (gs' : List PT) (hb4 : Below X.heap.size X w4) (hga : GAt w5 (w.heap.size + 1) g mb v' gs') (hgi' : GInv (dL 0 ((pre ++ [x]).map PT.tm)) (gs'.map PT.tm)) (ht : GTurn (w.heap.size + 1) w4 w5) (hff : FarT g v v' w4 w5) (ho : OthT mb w4 w5) =>
        d_next (Bs := b) (B := w2.heap.size) hX km hG k3S k5S hpo hap hbl hBm (Nat.le_succ _) hmb2 hb4 hga hgi' ht hff ho)
      have HIO := Lib.hid (fun (W3 : World) => IOf_any x.m.1 (by omega) u0 W3)
      have HIM := Lib.hid (fun (W3 : World) (A3 : Option Addr) (c3 : Nat) (hW : Below X.heap.size X W3) (h4 : NatB W3 A3 (dig (x.m.1).natAbs)) (h3 : (dig (x.m.1).natAbs).length ≤ c3) =>
        show Calls Try.prog 16 #[.agg #[.bool x.ng, .slice x.A x.ds.length x.c], .agg #[.bool (decide (x.m.1 < 0)), .slice A3 (dig (x.m.1).natAbs).length c3]] W3 (IntRes (ival x.ng x.ds * x.m.1) W3) by
          have h1 := IMul_any x.ng (decide (x.m.1 < 0)) x.A A3 x.c c3 W3.heap.size x.ds (dig (x.m.1).natAbs) W3 (Nat.le_refl _) ((hnS.below (hW.mono hBdX)).more (Nat.le_trans hBdX hW.size)) (natB_nin h4 h3) (by omega) (.inr (by omega))
          rw [ival_dig] at h1
          exact h1)
      have HGA := Lib.hid (fun (W4 : World) (A4 : Option Addr) (c4 : Nat) (hW : Below X.heap.size X W4) (h4 : NatB W4 A4 (dig (ival x.ng x.ds * x.m.1).natAbs)) (h3 : (dig (ival x.ng x.ds * x.m.1).natAbs).length ≤ c4) =>
        show Calls Try.prog 48 #[.pointer (some ⟨g, 0, none⟩), .agg (moV (x.m.1 - 1, x.m.2.1, x.m.2.2.1, x.m.2.2.2)), .agg #[.bool (decide (ival x.ng x.ds * x.m.1 < 0)), .slice A4 (dig (ival x.ng x.ds * x.m.1).natAbs).length c4]] W4 (AddRes (w.heap.size + 1) g mb v (dL 0 ((pre ++ [x]).map PT.tm)) W4) by
          have h1 := gadd_any (w.heap.size + 1) g mb v _ gs (x.m.1 - 1, x.m.2.1, x.m.2.2.1, x.m.2.2.2) (decide (ival x.ng x.ds * x.m.1 < 0)) A4 c4 (dig (ival x.ng x.ds * x.m.1).natAbs) W4 (hGS.old hW) hgi (Nat.le_trans hbX hW.size) hwm (natB_nin h4 h3) hdz HLN.out HNM.out
          rw [ival_dig, ← hLP] at h1
          exact h1)
      have c0 : X.cell? ⟨Bm, 0, none⟩ = some (.int .i64 (x.m.1 - 1)) := kmS.cell 0
      have c1' : X.cell? ⟨Bm, 1, none⟩ = some (.int .i64 x.m.2.1) := kmS.cell 1
      have c2 : X.cell? ⟨Bm, 2, none⟩ = some (.int .i64 x.m.2.2.1) := kmS.cell 2
      have c3 : X.cell? ⟨Bm, 3, none⟩ = some (.int .i64 x.m.2.2.2) := kmS.cell 3
      have c4 : X.cell? ⟨Bi, 0, none⟩ = some (.bool x.ng) := kiS.cell 0
      have c5 : X.cell? ⟨Bi, 1, none⟩ = some (.slice x.A x.ds.length x.c) := kiS.cell 1
      have c6 : X.cell? ⟨w1.heap.size, 0, none⟩ = some (.pointer (some ⟨g, 0, none⟩)) := k5S.cell 0
      have lm := kmS.lt; have li := kiS.lt; have l5 := k5S.lt
      have hmix : Try.prog.follows .mixedOrders = true := by kernel_rfl
      have hbd : Below X.heap.size X X.drew := (Drawn.drew _).below _
      unfold IntRes at HIO HIM
      unfold AddRes moV at HGA
      clear hLP hwm hdz hGS hnS hG hgi hpo hap hnat kmS kiS k3S k5S k3 k5 ki
      have HKM := Lib.hid km
      clear km
      generalize ival x.ng x.ds * x.m.1 = zz at *
      gi_wp2
      gi_region_with_o (first
        | (refine ⟨trivial, ?_⟩; gi_at_call 34; refine (callsIn_wide.2 (HIO.out _)).mono ?_; rintro e w3 ⟨A3, c3', rfl, h3, h4, h5⟩; have hb3 := hbd.trans (h5.mono hbd.size); have z0 := (h5.cell lm).trans c0; have z1 := (h5.cell lm).trans c1'; have z2 := (h5.cell lm).trans c2; have z3 := (h5.cell lm).trans c3; have z4 := (h5.cell li).trans c4; have z5 := (h5.cell li).trans c5; have z6 := (h5.cell l5).trans c6; have lm3 := Nat.lt_of_lt_of_le lm hb3.size; have li3 := Nat.lt_of_lt_of_le li hb3.size; have l53 := Nat.lt_of_lt_of_le l5 hb3.size)
        | (refine ⟨trivial, ?_⟩; gi_at_call 16; refine (callsIn_wide.2 (HIM.out w3 A3 c3' hb3 h4 h3)).mono ?_; rintro e w4 ⟨A4, c4', rfl, h6, h7, h8⟩; have hb4 := hb3.trans (h8.mono hb3.size); have y0 := (h8.cell lm3).trans z0; have y1 := (h8.cell lm3).trans z1; have y2 := (h8.cell lm3).trans z2; have y3 := (h8.cell lm3).trans z3; have y4 := (h8.cell li3).trans z4; have y5 := (h8.cell li3).trans z5; have y6 := (h8.cell l53).trans z6)
        | (refine ⟨trivial, ?_⟩; gi_at_call 48; refine (callsIn_wide.2 (HGA.out w4 A4 c4' hb4 h7 h6)).mono ?_; rintro e w5 ⟨rfl, v', gs', hga', hgi', ht', hf', ho'⟩))
      all_goals
        have hfin := HNX.out w4 w5 v' gs' hb4 hga' hgi' ht' hf' ho'
        have HFIN := Lib.hid hfin
        clear hfin hga' hgi' ht' hf' ho' c0 c1' c2 c3 c4 c5 c6
        gi_wp2
        exact Behind.ok HFIN.out
    · have hLN : dL 0 ((pre ++ [x]).map PT.tm) = dL 0 (pre.map PT.tm) := dL_neg (i := 0) (pre := pre) (x := x) he
      rw [← hLN] at hgi
      have HFIN := Lib.hid (show KeepsFrom w2.heap.size W W ∧ KT b bT (.slice A1 qs.length c1) qs W W ∧ DInv 0 1 (w.heap.size + 1) g mb w.heap.size w1.heap.size bT (.slice A1 qs.length c1) qs w (pre ++ [x]) W from ⟨KeepsFrom.refl _ _, KT.old (Below.refl _ _), v, gs, hG, hgi, k3, k5, hpo, hap, hbl⟩)
      have he' : x.m.1 ≤ 0 := by omega
      clear hLN hgi hG hpo hap hf hnat
      gi_wp2
      exact Behind.ok HFIN.out
  case done =>
    rintro D ys W hD hS ⟨v, gs, hG, hgi, k3, k5, hpo, hap, hbl⟩ hK0
    have c6 : W.cell? ⟨w1.heap.size, 0, none⟩ = some (.pointer (some ⟨g, 0, none⟩)) := k5.cell 0
    rw [hS] at hgi
    obtain ⟨n1, n2⟩ := d_nrm (i := 0) HGD.out hK (l := qs.map PT.tm) (k := qs.length) (by rw [List.take_length])
    have hgl : gs.length ≤ 100000 := by have h1 := hgi.len; rw [List.length_map] at h1; omega
    have hme : ∀ t ∈ dL 0 (qs.map PT.tm), vld t.2 = true → MB E t.2 := fun t ht _ => by
      obtain ⟨s, hs, _, rfl⟩ := mem_dL ht
      obtain ⟨p, hp, rfl⟩ := List.mem_map.1 hs
      exact (HGD.out.mb p hp).dec 0
    have HP := Lib.hid (fun (e : Ending) (w' : World) (hr : PolyRes (cf (dL 0 (qs.map PT.tm))) (dL 0 (qs.map PT.tm)).length W e w') => hr.good hme n1)
    have HPC := Lib.hid (poly_any (w.heap.size + 1) g mb v (dL 0 (qs.map PT.tm)) gs W hG hgi hgl (Nat.lt_of_le_of_lt n1 hKM))
    have HLN := Lib.hid n2
    clear n1 n2 hgi hG hpo hap k3 k5 hme hS
    gi_wp2_with (first | (refine ⟨trivial, ?_⟩; gi_at_call 49; refine (callsIn_wide.2 HPC.out).mono ?_; rintro e w4 hr; obtain ⟨A5, c5, rs, rfl, hgd5, hb5⟩ := HP.out _ _ hr))
    have hK4 : w4.heap[D]? = some (.deferred (some [])) := (hb5.block D (Array.getElem?_eq_some_iff.1 hK0).1).trans hK0
    refine ⟨by simp, .inl ⟨_, _, rfl, run_takeDeferred hK4, ?_⟩⟩
    have hbf : Below w.heap.size w w4 := hbl.trans (hb5.mono hbl.size)
    refine ⟨_, results_tmp rfl _ _ _, A5, c5, rs, rfl, { hgd5 with own := ((KT.put (Bs := 0) (base := W.heap.size) (v := .slice A5 rs.length c5) (ps := rs) (.deferred none) hK4 rfl).1 hgd5.own).mono hbl.size, len := Nat.le_trans hgd5.len HLN.out, cf := fun m => ?_ }, ?_⟩
    · rw [hgd5.cf m, cf_dL]
      exact dC_ext HGD.out.cf 0 m
    · exact hbf.trans (belowK_b (w := w) (Nat.le_refl _) w4 D _ _ (by omega) hK4 rfl rfl)
  case stop =>
    rintro D cc pre W _ _ h _
    exact h.elim
end Go.Proofs.Ytpbapoanjkekmaa
