/- The walk of SparseDegrees. -/
import Derived.Test.YtpbapoanjkekmaaU2
import Derived.Test.YtpbapoanjkekmaaL3
import Derived.Test.YtpbapoanjkekmaaV0
namespace Go.Proofs.Ytpbapoanjkekmaa
open Go.RowKit Go.Shelf Go.Sort
attribute [local go_sem] Oper.semAt_some

theorem results_cell_one {P : Program} {fn : Func} {p : Tmp} {ty : TypeId} (h : fn.results = #[.cell p ty]) (tmps : Array Value) (w : World) (g : Nat) (v : Value)
    (hp : tmps.getD p undef = .pointer (some ⟨g, 0, none⟩)) (hc : w.cell? ⟨g, 0, none⟩ = some v) (ha : (isAgg ty).run P w = .ok false w) : (results fn tmps).run P w = .ok v w := by
  have hp' : tmps[p]?.getD undef = .pointer (some ⟨g, 0, none⟩) := by simpa using hp
  simp [results, h, hp', asAddr, loadVar, Sem.run_bind, ha, hc]

theorem linner_any (l : Int) (w : World) : Calls Try.prog 20 #[.int .i64 l] w fun e w' => e = .returned (.bool (decide (1 ≤ l) && decide (l ≤ 4))) ∧ w = w' := by
  by_cases h1 : 1 ≤ l
  · by_cases h2 : l ≤ 4
    · go_enter Try.func20, Try.ntmps20
      go_wp2
      go_ret
      exact ⟨by simp [h1, h2], rfl⟩
    · go_enter Try.func20, Try.ntmps20
      go_wp2
      go_ret
      exact ⟨by rw [decide_eq_false (show ¬ l ≤ 4 by omega)]; rfl, rfl⟩
  · go_enter Try.func20, Try.ntmps20
    go_wp2
    go_ret
    exact ⟨by rw [decide_eq_false (show ¬ (1 : Int) ≤ l by omega)]; rfl, rfl⟩
theorem lvTo_max {a : Int} {m : Mo} {j : Nat} (h : 0 < gt m j) : lvTo a m (j + 1) = max (lvTo a m j) (j + 1) := by
  by_cases hk : lvTo a m j < j + 1
  · rw [lvTo_up h hk]; omega
  · rw [lvTo_same fun x => hk x.2]; omega
/-- the range's law, its frames told by the frame at the range -/
theorem wpIn_range_tellsT {P : Program} {F : Fence} {n : Nat} {α : Type} {g : Operand} {ps : Array Tmp} {assign body : Code} {Q : Exit → Act → World → Prop} {a : Act} {w : World} (hro : F.round = none) (h1 : 1 ≤ n) {gf : Nat} {lb : Array Value} (hg : a.eval g = .func (.func gf) #[] lb) (hFg : F.fn gf) (eg : ∀ args w, (callFunc gf args).run P w = .ok (.enter gf args) w)
    {encs : α → Array Value} {Kp : World → World → Prop} {Pr : List α → α → World → Prop} {S Sp : List α → Prop} (hseq : SeqTells F (n - 1) P gf lb encs Kp Pr S Sp w)
    (hKt : ∀ {A B C : World}, Kp A B → Kp B C → Kp A C) (hKb : ∀ (W : World) (l : Nat) (o o' : Obj), W.heap[l]? = some o → o.isCells = false → Kp W (W.putObj l o')) (hps : ∀ x, (encs x).size = ps.size)
    (I : List α → World → Prop) (Ix : Code → List α → World → Prop) (hI : OwnFrom w.heap.size I) (hIx : ∀ c, OwnFrom w.heap.size (Ix c)) (h0 : I [] w)
    (AxT : Array Value → List α → α → Act → World → Prop) (hAx : ∀ T pre x a', OwnFrom w.heap.size (fun (_ : Unit) W => AxT T pre x a' W))
    (hassign : ∀ (l : Nat) (pre : List α) (x : α) (W : World) (K : Act → World → Prop), I pre W → Pr pre x W → (∀ a' W', KeepsFrom w.heap.size W W' → Kp W W' → I pre W' → AxT a.tmps pre x a' W' → K a' W') →
      assign.wpIn (F.inRound l) (n - 1 - 1) P (Exit.then K (fun _ _ _ => False)) { tmps := (ps.zip (encs x)).foldl (fun t (p, v) => t.setIfInBounds p v) a.tmps, defers := [] } W)
    (hbody : ∀ (l : Nat) (pre : List α) (x : α) (a' : Act) (W : World), w.heap.size ≤ l → I pre W → AxT a.tmps pre x a' W → body.wpIn (F.inRound l) (n - 1 - 1) P (Behind w Kp I Ix (pre ++ [x]) W) a' W)
    (hdone : ∀ (D : Nat) (xs : List α) (W : World), w.heap.size ≤ D → S xs → I xs W → W.heap[D]? = some (.deferred (some [])) → Q .normal { a with defers := { target := .collected D, args := #[] } :: a.defers } W)
    (hstop : ∀ (D : Nat) (c : Code) (pre : List α) (W : World), w.heap.size ≤ D → Sp pre → Ix c pre W → W.heap[D]? = some (.deferred (some [])) → c.wpIn F n P Q { a with defers := { target := .collected D, args := #[] } :: a.defers } W) :
    (Code.rangeFunc g ps assign body).wpIn F n P Q a w :=
  wpIn_range_tells hro h1 hg hFg eg hseq hKt hKb hps I Ix hI hIx h0 (AxT a.tmps) (hAx a.tmps) hassign hbody hdone hstop

/-- between two rounds of the law's range -/
def GInvR (Bi Bst Cb R base : Nat) (s : Int) (cv : Value) (qs : List PT) (w : World) (pre : List PT) (W : World) : Prop :=
  Blk W Bi 3 #[.int .i64 pre.length] ∧ Blk W Bst 3 #[.int .i64 s] ∧ Blk W Cb 23 #[cv] ∧ POwn W base cv qs ∧ Blk W R 4 #[.bool false] ∧ (pre.length : Int) ≤ s ∧ Below w.heap.size w W
def GOut (Bi Bst Cb R ln : Nat) (s : Int) (cv : Value) (w : World) (c : Code) (_ : List PT) (W : World) : Prop :=
  c = .exit 4 ∧ Blk W Bi 3 #[.int .i64 s] ∧ Blk W Bst 3 #[.int .i64 s] ∧ Blk W Cb 23 #[cv] ∧ Blk W R 4 #[.bool false] ∧ s < (ln : Int) ∧ Below w.heap.size w W
theorem GInvR.own {Bi Bst Cb R base B : Nat} {s : Int} {cv : Value} {qs : List PT} {w : World} (hw : w.heap.size ≤ B) : OwnFrom B (GInvR Bi Bst Cb R base s cv qs w) := by
  rintro pre W W' row ⟨h1, h2, h3, h4, h5, h6, h7⟩ hg hr
  exact ⟨h1.farH hg hr, h2.farH hg hr, h3.farH hg hr, h4.keep (fun _ _ _ hb _ => hb.farH hg hr), h5.farH hg hr, h6, ownFrom_below (β := Unit) (Nat.le_refl _) hw () W W' row h7 hg hr⟩
theorem GOut.own {Bi Bst Cb R ln B : Nat} {s : Int} {cv : Value} {w : World} (hw : w.heap.size ≤ B) (c : Code) : OwnFrom B (GOut Bi Bst Cb R ln s cv w c) := by
  rintro pre W W' row ⟨h0, h1, h2, h3, h5, h6, h7⟩ hg hr
  exact ⟨h0, h1.farH hg hr, h2.farH hg hr, h3.farH hg hr, h5.farH hg hr, h6, ownFrom_below (β := Unit) (Nat.le_refl _) hw () W W' row h7 hg hr⟩
def GRound (T : Array Value) (rs pre : List PT) (x : PT) (a : Act) (W : World) : Prop :=
  ∃ Bm Bc Bd, Blk W Bm 33 (moV x.m) ∧ Blk W Bc 31 #[.bool x.ng, .slice x.A x.ds.length x.c] ∧ NatIn W Bd x.A x.c x.ds ∧ Bd ≤ W.heap.size ∧ x.ds.length ≤ 1000 ∧ pre.map PT.tm ++ [x.tm] = (rs.take (pre.length + 1)).map PT.tm ∧ pre.length < rs.length ∧
    a = { tmps := (((T.setIfInBounds 87 (.agg (moV x.m))).setIfInBounds 88 (.agg #[.bool x.ng, .slice x.A x.ds.length x.c])).setIfInBounds 19 (.pointer (some ⟨Bm, 0, none⟩))).setIfInBounds 20 (.pointer (some ⟨Bc, 0, none⟩)), defers := [] }
theorem NatIn.farH {B : Nat} {W W' : World} {row : Option Nat} {B' c : Nat} {A : Option Addr} {ds : List Nat} (h : NatIn W B' A c ds) (hg : W.grownBy W' row) (hr : ∀ r, row = some r → B ≤ r ∧ ∃ o : Obj, W.heap[r]? = some o ∧ o.isCells = false) : NatIn W' B' A c ds :=
  ⟨⟨h.rd.1, fun hp => by obtain ⟨b, o, e, hb, hc⟩ := h.rd.2 hp; exact ⟨b, o, e, hb, fun j u hu => cell_kept (hc j u hu) hg (fun r e => (hr r e).2)⟩⟩, h.dg, h.cap⟩
theorem GRound.own {T : Array Value} {rs pre : List PT} {x : PT} {a : Act} {B : Nat} : OwnFrom B (fun (_ : Unit) W => GRound T rs pre x a W) := by
  rintro _ W W' row ⟨Bm, Bc, Bd, h1, h2, h3, h4, h5⟩ hg hr
  exact ⟨Bm, Bc, Bd, h1.farH hg hr, h2.farH hg hr, h3.farH hg hr, Nat.le_trans h4 hg.size, h5⟩

theorem below_keeps {B : Nat} {W W' : World} (h : Below W.heap.size W W') : KeepsFrom B W W' := ⟨h.size, fun k _ _ hk _ => (h.block k (Array.getElem?_eq_some_iff.1 hk).1).trans hk⟩
theorem g_next {Bi Cb R base B Bs bT : Nat} {s : Int} {cv rv : Value} {qs rs pre : List PT} {x : PT} {w W W' : World} (hI : GInvR Bi (Bi + 1) Cb R base s cv qs w pre W) (hlt : (pre.length : Int) < s) (hb : Below W.heap.size W W') (hBi : w.heap.size ≤ Bi) :
    KeepsFrom B W (W'.setCell ⟨Bi, 0, none⟩ (.int .i64 ((pre.length : Int) + 1))) ∧ KT Bs bT rv rs W (W'.setCell ⟨Bi, 0, none⟩ (.int .i64 ((pre.length : Int) + 1))) ∧ GInvR Bi (Bi + 1) Cb R base s cv qs w (pre ++ [x]) (W'.setCell ⟨Bi, 0, none⟩ (.int .i64 ((pre.length : Int) + 1))) := by
  obtain ⟨h1, h2, h3, h4, h5, h6, h7⟩ := hI
  have k1 := h1.old hb
  have e : (((pre ++ [x]).length : Nat) : Int) = (pre.length : Int) + 1 := by rw [List.length_append]; rfl
  refine ⟨(below_keeps hb).trans ((KeepsOthers.setCell W' ⟨Bi, 0, none⟩ _).from B), (KT.old hb).trans (KT.set k1 (by decide) (by decide) (by decide) _), ?_, (h2.old hb).far (by show Bi + 1 ≠ Bi; omega) _, (h3.old hb).far ((h3.old hb).ne_t k1 (by decide)) _,
    (h4.old hb).keep (fun g t cs hg ht => hg.far (hg.ne_t k1 (by rcases ht with rfl | rfl <;> decide)) _), (h5.old hb).far ((h5.old hb).ne_t k1 (by decide)) _, by omega, (h7.trans (hb.mono h7.size)).setCell hBi _⟩
  rw [e]
  exact k1.set_ 0 _
theorem told_both {rs qs pre : List PT} {x : PT} {Q : List Tm} (hr : rs.map PT.tm = Q) (hq : qs.map PT.tm = Q) (h : pre.map PT.tm ++ [x.tm] = (rs.take (pre.length + 1)).map PT.tm) (hl : pre.length < rs.length) : ∃ p, qs[pre.length]? = some p ∧ p.tm = x.tm := by
  obtain ⟨_, q, h1, h2⟩ := told_mem h hl
  have h3 : (qs.map PT.tm)[pre.length]? = (rs.map PT.tm)[pre.length]? := by rw [hr, hq]
  rw [List.getElem?_map, List.getElem?_map, h1] at h3
  obtain ⟨p, h4, h5⟩ := Option.map_eq_some_iff.1 h3
  exact ⟨p, h4, h5.trans h2⟩
theorem xM_can {z : Int} (h1 : 1 ≤ z) (h4 : z ≤ 4) : Canon [(1, xM z)] ∧ totL [(1, xM z)] = 1 ∧ lvL [(1, xM z)] = z := by
  rcases (by omega : z = 1 ∨ z = 2 ∨ z = 3 ∨ z = 4) with rfl | rfl | rfl | rfl
  all_goals exact ⟨⟨by decide, by decide, by simp⟩, by decide, by decide⟩
theorem lVar_any (z : Int) (h1 : 1 ≤ z) (h4 : z ≤ 4) (w : World) : Calls Try.prog 25 #[.int .i64 z] w (PRes (cf [(1, xM z)]) 1 1 1 w) := by
  rcases (by omega : z = 1 ∨ z = 2 ∨ z = 3 ∨ z = 4) with rfl | rfl | rfl | rfl
  · exact Var_1 w
  · exact Var_2 w
  · exact Var_3 w
  · exact Var_4 w
theorem one_lt_big : 1 < Big := pw_lt (a := 0) (b := 600) (by decide)
theorem PIn.none_ (w : World) (N : Nat) (E : Int) (M : Nat) : PIn w w.heap.size none [] N E M where
  pin := ⟨Reads.none_, fun _ h => by simp at h⟩
  dl _ h := by simp at h
  wf _ h := by simp at h
  mb _ h := by simp at h
  len := Nat.zero_le _
  nm := Nat.zero_le _

def DTrue (w : World) (e : Ending) (w' : World) : Prop := e = .returned (.bool true) ∧ Below w.heap.size w w'

set_option maxRecDepth 100000 in
set_option maxHeartbeats 8000000 in
theorem Degrees_law (A0 : Option Addr) (c0 : Nat) (ps : List PT) (L n8 : Int) (w : World) (h0 : PolyIn w w.heap.size A0 ps) (v0 : ∀ p ∈ ps, WfM p.m) (hn0 : 0 ≤ n8) (hn1 : n8 ≤ 255) :
    Calls Try.prog 4 #[.slice A0 ps.length c0, .int .i64 L, .int .u8 n8] w (DTrue w) := by
  have HFT := Lib.hid (fun W => fit_any W)
  have H0 := Lib.hid h0; have V0 := Lib.hid v0
  have hR := Blk.new w 4 #[.bool false]
  have hbR := (Below.refl w.heap.size w).alloc (Nat.le_refl _) (.cells #[.bool false] 4)
  have HR := Lib.hid (And.intro hR hbR)
  clear h0 v0 hR hbR
  refine (callsIn_wide (n := 6)).1 ?_
  refine callsIn_of_wp_marks Try.func4 rfl trivial ?_ rfl
  simp only [Try.ntmps4, List.size_toArray, List.length_cons, List.length_nil, Nat.reduceAdd, Nat.reduceSub, Array.replicate_succ, Array.replicate_zero, List.push_toArray, List.append_toArray, List.nil_append, List.cons_append]
  gi_wp2_with fail
  refine ⟨trivial, ?_⟩
  gi_at_call 9
  refine (callsIn_wide.2 (HFT.out _)).mono ?_
  rintro e w1 ⟨rfl, hb1'⟩
  have kR := HR.out.1.old hb1'
  have hb1 := HR.out.2.trans (hb1'.mono HR.out.2.size)
  have HF0 := Lib.hid (few_any A0 c0 w.heap.size ps w1 (H0.out.below hb1))
  clear HFT HR hb1'
  gi_wp2_with fail
  refine ⟨trivial, ?_⟩
  gi_at_call 10
  refine (callsIn_wide.2 HF0.out).mono ?_
  rintro e w1' ⟨b0, rfl, hf0, rfl⟩
  cases b0 with
  | false =>
    clear hf0
    have fR := kR.frozen 0
    have cR : w1.cell? ⟨w.heap.size, 0, none⟩ = some (.bool false) := kR.cell 0
    gi_wp2_with fail
    exact ⟨_, results_cell_one rfl _ _ w.heap.size (.bool true) rfl ((kR.set_ 0 (.bool true)).cell 0) (Try.isAgg4 _), rfl, hb1.setCell (Nat.le_refl _) _⟩
  | true =>
    have I0 := Lib.hid (show PIn w1 w.heap.size A0 ps 8 9 (pw 7) from (few_pin H0.out V0.out (hf0 rfl) (by omega) (by omega)).below hb1)
    clear hf0 HF0 H0 V0
    have hB := hb1.size
    have g7 : pw 7 < Big := pw_lt (by decide)
    have HN := Lib.hid (Normal_poly A0 c0 w.heap.size 8 9 (pw 7) ps w1 hB I0.out (by omega) g7)
    gi_wp2_with fail
    refine ⟨trivial, ?_⟩
    gi_at_call 19
    refine (callsIn_wide.2 HN.out).mono ?_
    rintro e w2 ⟨A1, c1, qs, rfl, hg2, hb2⟩
    have HG2 := Lib.hid hg2
    have hk2 := hb1.trans (hb2.mono hB)
    have kC := Blk.new w2 23 #[.slice A1 qs.length c1]
    have hbC := (Below.refl w2.heap.size w2).alloc (Nat.le_refl _) (.cells #[.slice A1 qs.length c1] 23)
    have HC := Lib.hid (And.intro kC hbC)
    have kR2 := kR.old hb2
    have hln : qs.length ≤ 8 := hg2.len
    clear hg2 kC hbC kR HN
    generalize hpn : qs.length = pn at *
    have HPN := Lib.hid hpn
    clear hpn
    have HCW : ∃ w3, w2.alloc (.cells #[.slice A1 pn c1] 23) = w3 := ⟨_, rfl⟩
    obtain ⟨w3, hw3⟩ := HCW
    rw [hw3] at HC
    have kC : w3.cell? ⟨w2.heap.size, 0, none⟩ = some (.slice A1 pn c1) := HC.out.1.cell 0
    gi_wp2_with fail
    clear hw3
    gi_loopg [8, 9, 10, 31] pn (fun gn t8 t9 t10 ix wr => ∃ k : Nat, k ≤ pn ∧ gn = pn - k ∧ ix = .int .i64 k ∧ t8 = .int .i64 (lvL ((qs.take k).map PT.tm)) ∧ t9 = .int .i64 (degL L ((qs.take k).map PT.tm)) ∧ t10 = .int .i64 (totL ((qs.take k).map PT.tm)) ∧ Below w3.heap.size w3 wr)
    case atStart => exact ⟨0, Nat.zero_le _, rfl, rfl, rfl, rfl, rfl, Below.refl _ _⟩
    case round =>
      obtain ⟨k, hk, hgk, rfl, rfl, rfl, rfl, hbl⟩ := hrel
      have HGK := Lib.hid hgk; clear hgk
      have hb3 := HC.out.2.trans (hbl.mono HC.out.2.size)
      by_cases hlt : k < pn
      · obtain ⟨p, hp⟩ : ∃ p, qs[k]? = some p := ⟨_, List.getElem?_eq_getElem (by have := HPN.out; omega)⟩
        have hpm := List.mem_of_getElem? hp
        obtain ⟨b, o, rfl, hbb, d0, d1, d2, d3, d4, d5⟩ := ((HG2.out.own.polyIn).below hb3).at_ hp
        have i1 : (k : Int) < (pn : Int) := by omega
        have i2 : (0 : Int) ≤ (k : Int) := by omega
        have hv := HG2.out.vl hpm
        have hmb := HG2.out.mb p hpm
        have HT := Lib.hid (take_snoc_tm hp)
        have hlb := lvL_bd ((qs.take k).map PT.tm)
        have HT8 := Lib.hid (show lvL ((qs.take (k + 1)).map PT.tm) = max (lvL ((qs.take k).map PT.tm)) (lvM p.m) by rw [take_snoc_tm hp, lvL_snoc]; rfl)
        have HT9 := Lib.hid (show degL L ((qs.take (k + 1)).map PT.tm) = max (degL L ((qs.take k).map PT.tm)) (dg L p.m) by rw [take_snoc_tm hp]; exact mxL_snoc _ _ _ _)
        have HT10 := Lib.hid (show totL ((qs.take (k + 1)).map PT.tm) = max (totL ((qs.take k).map PT.tm)) (sm p.m) by rw [take_snoc_tm hp]; exact mxL_snoc _ _ _ _)
        have HX := Lib.hid hbl
        have hba := (Below.refl wr.heap.size wr).alloc (Nat.le_refl _) (.cells #[.bool p.ng, .slice p.A p.ds.length p.c, .int .i64 p.m.1, .int .i64 p.m.2.1, .int .i64 p.m.2.2.1, .int .i64 p.m.2.2.2] 35)
        have hka := Blk.new wr 35 #[.bool p.ng, .slice p.A p.ds.length p.c, .int .i64 p.m.1, .int .i64 p.m.2.1, .int .i64 p.m.2.2.1, .int .i64 p.m.2.2.2]
        have HBA := Lib.hid (hbl.trans (hba.mono hbl.size))
        rw [vld_iff] at hv
        obtain ⟨v0, v1, v2, v3⟩ := hv
        obtain ⟨m0, m1, m2, m3⟩ := hmb
        generalize lvL ((qs.take k).map PT.tm) = aa at *
        generalize degL L ((qs.take k).map PT.tm) = dd at *
        generalize totL ((qs.take k).map PT.tm) = tt at *
        have HLF := Lib.hid (lvTo_four aa p.m hlb.1 hlb.2)
        have HSF := Lib.hid (smTo_four p.m)
        clear hbl hba hp hb3
        obtain ⟨X, hX⟩ : ∃ X, wr.alloc (.cells #[.bool p.ng, .slice p.A p.ds.length p.c, .int .i64 p.m.1, .int .i64 p.m.2.1, .int .i64 p.m.2.2.1, .int .i64 p.m.2.2.2] 35) = X := ⟨_, rfl⟩
        rw [hX] at HBA hka
        have x0 : ∀ W, (Instr.index 33 (.agg #[.int .i64 p.m.1, .int .i64 p.m.2.1, .int .i64 p.m.2.2.1, .int .i64 p.m.2.2.2]) (.int .i64 0)).run Try.prog W = .ok (.int .i64 p.m.1) W := fun W => Try.index_mono p.m 0 (by decide) W
        have x1 : ∀ W, (Instr.index 33 (.agg #[.int .i64 p.m.1, .int .i64 p.m.2.1, .int .i64 p.m.2.2.1, .int .i64 p.m.2.2.2]) (.int .i64 1)).run Try.prog W = .ok (.int .i64 p.m.2.1) W := fun W => Try.index_mono p.m 1 (by decide) W
        have x2 : ∀ W, (Instr.index 33 (.agg #[.int .i64 p.m.1, .int .i64 p.m.2.1, .int .i64 p.m.2.2.1, .int .i64 p.m.2.2.2]) (.int .i64 2)).run Try.prog W = .ok (.int .i64 p.m.2.2.1) W := fun W => Try.index_mono p.m 2 (by decide) W
        have x3 : ∀ W, (Instr.index 33 (.agg #[.int .i64 p.m.1, .int .i64 p.m.2.1, .int .i64 p.m.2.2.1, .int .i64 p.m.2.2.2]) (.int .i64 3)).run Try.prog W = .ok (.int .i64 p.m.2.2.2) W := fun W => Try.index_mono p.m 3 (by decide) W
        have e2 : X.cell? ⟨wr.heap.size, 2, none⟩ = some (.int .i64 p.m.1) := hka.cell 2
        have e3 : X.cell? ⟨wr.heap.size, 3, none⟩ = some (.int .i64 p.m.2.1) := hka.cell 3
        have e4 : X.cell? ⟨wr.heap.size, 4, none⟩ = some (.int .i64 p.m.2.2.1) := hka.cell 4
        have e5 : X.cell? ⟨wr.heap.size, 5, none⟩ = some (.int .i64 p.m.2.2.2) := hka.cell 5
        have HW := Lib.hid (fun (y : Int) (h0 : 0 ≤ y) (h1 : y ≤ 4000000000) => show IntKind.i64.wrap y = y from IntWalk.i64_in _ (by omega))
        gi_wp2_with fail
        clear hX d0 d1 d2 d3 d4 d5
        generalize wr.heap.size = bX at *
        have HBW := Lib.hid HBA.out
        gi_loopg [8, 13, 37] 4 (fun gn t8 t13 ix wj => ∃ (j : Nat) (z a y : Int), j ≤ 4 ∧ z = j ∧ gn = 4 - j ∧ ix = .int .i64 z ∧ t8 = .int .i64 a ∧ a = lvTo aa p.m j ∧ t13 = .int .i64 y ∧ y = smTo p.m j ∧ wj = X)
        case atStart => exact ⟨0, 0, aa, 0, by omega, rfl, rfl, rfl, rfl, rfl, rfl, rfl, rfl⟩
        case round =>
          obtain ⟨j, z, a, y, hj, hz, hgj, rfl, rfl, ha, rfl, hy, rfl⟩ := hrel
          have HGJ := Lib.hid hgj; clear hgj
          have HY := Lib.hid hy; clear hy
          have HA := Lib.hid ha; clear ha
          have HAB := Lib.hid (lvTo_bd aa p.m hlb.1 hlb.2)
          by_cases hlt3 : j < 4
          · clear e2 e3 e4 e5
            rcases (by omega : j = 0 ∨ j = 1 ∨ j = 2 ∨ j = 3) with rfl | rfl | rfl | rfl
            · obtain rfl : z = 0 := hz
              have hyv : y = smTo p.m 0 := HY.out
              simp only [smTo] at hyv
              have hyb := HW.out (y + p.m.1) (by omega) (by omega)
              have hab : 0 ≤ a ∧ a ≤ 4 := by rw [HA.out]; exact HAB.out 0 (by omega)
              have HS := Lib.hid (show smTo p.m 1 = y + p.m.1 by rw [HY.out]; rfl)
              clear hyv
              by_cases he : 0 < p.m.1
              · have HU := Lib.hid (show lvTo aa p.m 1 = max a 1 by rw [HA.out]; exact lvTo_max (a := aa) (m := p.m) (j := 0) he)
                gi_wp2_with fail
                gi_roundg 3
                case rel => exact ⟨1, 1, max a 1, y + p.m.1, by omega, rfl, rfl, rfl, rfl, by rw [HU.out], rfl, by rw [HS.out], rfl⟩
                case measure => have := HGJ.out; omega
              · have HU := Lib.hid (show lvTo aa p.m 1 = a by rw [HA.out]; exact lvTo_same (a := aa) (m := p.m) (j := 0) (fun h => he h.1))
                gi_wp2_with fail
                gi_roundg 3
                case rel => exact ⟨1, 1, a, y + p.m.1, by omega, rfl, rfl, rfl, rfl, by rw [HU.out], rfl, by rw [HS.out], rfl⟩
                case measure => have := HGJ.out; omega
            · obtain rfl : z = 1 := hz
              have hyv : y = smTo p.m 1 := HY.out
              simp only [smTo, gt] at hyv
              have hyb := HW.out (y + p.m.2.1) (by omega) (by omega)
              have hab : 0 ≤ a ∧ a ≤ 4 := by rw [HA.out]; exact HAB.out 1 (by omega)
              have HS := Lib.hid (show smTo p.m 2 = y + p.m.2.1 by rw [HY.out]; rfl)
              clear hyv
              by_cases he : 0 < p.m.2.1
              · have HU := Lib.hid (show lvTo aa p.m 2 = max a 2 by rw [HA.out]; exact lvTo_max (a := aa) (m := p.m) (j := 1) he)
                gi_wp2_with fail
                gi_roundg 2
                case rel => exact ⟨2, 2, max a 2, y + p.m.2.1, by omega, rfl, rfl, rfl, rfl, by rw [HU.out], rfl, by rw [HS.out], rfl⟩
                case measure => have := HGJ.out; omega
              · have HU := Lib.hid (show lvTo aa p.m 2 = a by rw [HA.out]; exact lvTo_same (a := aa) (m := p.m) (j := 1) (fun h => he h.1))
                gi_wp2_with fail
                gi_roundg 2
                case rel => exact ⟨2, 2, a, y + p.m.2.1, by omega, rfl, rfl, rfl, rfl, by rw [HU.out], rfl, by rw [HS.out], rfl⟩
                case measure => have := HGJ.out; omega
            · obtain rfl : z = 2 := hz
              have hyv : y = smTo p.m 2 := HY.out
              simp only [smTo, gt] at hyv
              have hyb := HW.out (y + p.m.2.2.1) (by omega) (by omega)
              have hab : 0 ≤ a ∧ a ≤ 4 := by rw [HA.out]; exact HAB.out 2 (by omega)
              have HS := Lib.hid (show smTo p.m 3 = y + p.m.2.2.1 by rw [HY.out]; rfl)
              clear hyv
              by_cases he : 0 < p.m.2.2.1
              · have HU := Lib.hid (show lvTo aa p.m 3 = max a 3 by rw [HA.out]; exact lvTo_max (a := aa) (m := p.m) (j := 2) he)
                gi_wp2_with fail
                gi_roundg 1
                case rel => exact ⟨3, 3, max a 3, y + p.m.2.2.1, by omega, rfl, rfl, rfl, rfl, by rw [HU.out], rfl, by rw [HS.out], rfl⟩
                case measure => have := HGJ.out; omega
              · have HU := Lib.hid (show lvTo aa p.m 3 = a by rw [HA.out]; exact lvTo_same (a := aa) (m := p.m) (j := 2) (fun h => he h.1))
                gi_wp2_with fail
                gi_roundg 1
                case rel => exact ⟨3, 3, a, y + p.m.2.2.1, by omega, rfl, rfl, rfl, rfl, by rw [HU.out], rfl, by rw [HS.out], rfl⟩
                case measure => have := HGJ.out; omega
            · obtain rfl : z = 3 := hz
              have hyv : y = smTo p.m 3 := HY.out
              simp only [smTo, gt] at hyv
              have hyb := HW.out (y + p.m.2.2.2) (by omega) (by omega)
              have hab : 0 ≤ a ∧ a ≤ 4 := by rw [HA.out]; exact HAB.out 3 (by omega)
              have HS := Lib.hid (show smTo p.m 4 = y + p.m.2.2.2 by rw [HY.out]; rfl)
              clear hyv
              by_cases he : 0 < p.m.2.2.2
              · have HU := Lib.hid (show lvTo aa p.m 4 = max a 4 by rw [HA.out]; exact lvTo_max (a := aa) (m := p.m) (j := 3) he)
                gi_wp2_with fail
                gi_roundg 0
                case rel => exact ⟨4, 4, max a 4, y + p.m.2.2.2, by omega, rfl, rfl, rfl, rfl, by rw [HU.out], rfl, by rw [HS.out], rfl⟩
                case measure => have := HGJ.out; omega
              · have HU := Lib.hid (show lvTo aa p.m 4 = a by rw [HA.out]; exact lvTo_same (a := aa) (m := p.m) (j := 3) (fun h => he h.1))
                gi_wp2_with fail
                gi_roundg 0
                case rel => exact ⟨4, 4, a, y + p.m.2.2.2, by omega, rfl, rfl, rfl, rfl, by rw [HU.out], rfl, by rw [HS.out], rfl⟩
                case measure => have := HGJ.out; omega
          · obtain rfl : j = 4 := by omega
            obtain rfl : z = 4 := hz
            have HA4 := Lib.hid (HA.out.trans (HLF.out.trans HT8.out.symm))
            have HY4 := Lib.hid (HY.out.trans HSF.out)
            have HLI := Lib.hid (fun W => linner_any L W)
            by_cases hL : 1 ≤ L ∧ L ≤ 4
            · obtain ⟨i, hi4, hLi⟩ : ∃ i : Nat, i < 4 ∧ L = (i : Int) + 1 := ⟨(L - 1).toNat, by omega, by omega⟩
              have hin := HLI.out wr
              rw [show (decide (1 ≤ L) && decide (L ≤ 4)) = true by simp [hL.1, hL.2]] at hin
              have hdg : dg L p.m = gt p.m i := by unfold dg; rw [if_pos hL, hLi, show ((i : Int) + 1 - 1).toNat = i by omega]
              have HIN := Lib.hid hin
              have HDG := Lib.hid hdg
              clear hin hdg hL
              rcases (by omega : i = 0 ∨ i = 1 ∨ i = 2 ∨ i = 3) with rfl | rfl | rfl | rfl
              all_goals
                first | obtain rfl : L = 1 := hLi | obtain rfl : L = 2 := hLi | obtain rfl : L = 3 := hLi | obtain rfl : L = 4 := hLi
                gi_wp2_with fail
                refine ⟨trivial, ?_⟩
                gi_at_call 20
                refine (callsIn_wide.2 HIN.out).mono ?_
                rintro e w4 ⟨rfl, rfl⟩
                gi_wp2_with fail
                gi_roundg (pn - (k + 1))
                case rel => exact ⟨k + 1, by omega, rfl, by go_num, by rw [HA4.out], by rw [HT9.out, HDG.out]; rfl, by rw [HT10.out, HY4.out], HBW.out⟩
                case measure => have := HGK.out; omega
            · have hin := HLI.out wr
              have hl : (decide (1 ≤ L) && decide (L ≤ 4)) = false := by
                by_cases h1 : 1 ≤ L
                · have h2 : ¬ L ≤ 4 := fun h2 => hL ⟨h1, h2⟩
                  simp [h2]
                · simp [h1]
              rw [hl] at hin
              have HIN := Lib.hid hin
              have HDG := Lib.hid (dg_out (m := p.m) hL)
              clear hin hl hL
              gi_wp2_with fail
              refine ⟨trivial, ?_⟩
              gi_at_call 20
              refine (callsIn_wide.2 HIN.out).mono ?_
              rintro e w4 ⟨rfl, rfl⟩
              gi_wp2_with fail
              gi_roundg (pn - (k + 1))
              case rel => exact ⟨k + 1, by omega, rfl, by go_num, by rw [HA4.out], by rw [HT9.out, HDG.out], by rw [HT10.out, HY4.out], HBW.out⟩
              case measure => have := HGK.out; omega
      · obtain rfl : k = pn := by omega
        have hfull : (qs.take k).map PT.tm = qs.map PT.tm := by rw [← HPN.out, List.take_length]
        rw [hfull]
        clear hfull
        have HCAN := Lib.hid HG2.out.can; have HCF := Lib.hid HG2.out.cf
        generalize hQ : qs.map PT.tm = Q at *
        have HQS := Lib.hid hQ
        clear hQ
        have hb4 : Below w1.heap.size w1 wr := hb2.trans (hb3.mono hb2.size)
        have HI := Lib.hid (fun (W : World) (hW : Below w1.heap.size w1 W) => I0.out.below (hW.mono hB))
        have HLV := Lib.hid (fun (W : World) (hW : Below w1.heap.size w1 W) => Level_any A0 c0 w.heap.size 8 9 (pw 7) ps W (Nat.le_trans hB hW.size) (HI.out W hW) (by omega) g7)
        have HDE := Lib.hid (fun (W : World) (hW : Below w1.heap.size w1 W) => Degree_any A0 c0 w.heap.size 8 9 (pw 7) L ps W (Nat.le_trans hB hW.size) (HI.out W hW) (by omega) g7)
        have HTO := Lib.hid (fun (W : World) (hW : Below w1.heap.size w1 W) => Total_any A0 c0 w.heap.size 8 9 (pw 7) ps W (Nat.le_trans hB hW.size) (HI.out W hW) (by omega) g7 (by omega))
        have HUQ := Lib.hid (fun (P : List Tm) (h1 : Canon P) (h2 : ∀ m, cf P m = cf (ps.map PT.tm) m) => show P = Q from h1.unique HCAN.out fun m => (h2 m).trans (HCF.out m).symm)
        generalize hq8 : lvL Q = q8 at *
        generalize hq9 : degL L Q = q9 at *
        generalize hq10 : totL Q = q10 at *
        have HQ8 := Lib.hid hq8; have HQ9 := Lib.hid hq9; have HQ10 := Lib.hid hq10
        clear hq8 hq9 hq10
        gi_wp2_with fail
        refine ⟨trivial, ?_⟩
        gi_at_call 21
        refine (callsIn_wide.2 (HLV.out _ hb4)).mono ?_
        rintro e w5 ⟨⟨P, hP1, hP2, rfl⟩, hb5⟩
        have hq : lvL P = q8 := by rw [HUQ.out P hP1 hP2, HQ8.out]
        rw [hq]
        have hk5 := hb4.trans (hb5.mono hb4.size)
        clear hq hP1 hP2
        gi_wp2_with fail
        refine ⟨trivial, ?_⟩
        gi_at_call 22
        refine (callsIn_wide.2 (HDE.out _ hk5)).mono ?_
        rintro e w6 ⟨⟨P2, hP1, hP2, rfl⟩, hb6⟩
        have hq : degL L P2 = q9 := by rw [HUQ.out P2 hP1 hP2, HQ9.out]
        rw [hq]
        have hk6 := hk5.trans (hb6.mono hk5.size)
        clear hq hP1 hP2
        gi_wp2_with fail
        refine ⟨trivial, ?_⟩
        gi_at_call 23
        refine (callsIn_wide.2 (HTO.out _ hk6)).mono ?_
        rintro e w7 ⟨⟨P3, hP1, hP2, rfl⟩, hb7⟩
        have hq : totL P3 = q10 := by rw [HUQ.out P3 hP1 hP2, HQ10.out]
        rw [hq]
        have hk7 := hk6.trans (hb7.mono hk6.size)
        have h37 : Below wr.heap.size wr w7 := (hb5.trans (hb6.mono hb5.size)).trans (hb7.mono (Nat.le_trans hb5.size hb6.size))
        clear hq hP1 hP2 HLV HDE HTO HQ8 HQ9 HQ10
        obtain ⟨b1, kI, kS, hs2⟩ := boxes2 w7 3 3 #[.int .i64 0] #[.int .i64 (n8 % 8)]
        have hw4 : Below w2.heap.size w2 wr := hb3
        have k7R := ((kR2.old hw4).old h37).old b1
        have k7C := (((HC.out.1).old hbl).old h37).old b1
        have hk8 := hk7.trans (b1.mono hk7.size)
        have HO8 := Lib.hid (((HG2.out.own.old hb3).old h37).old b1)
        have hw8 := hb1.trans (hk8.mono hB)
        have HTT := Lib.hid (fun (W : World) (hW : Below w1.heap.size w1 W) => Terms_any A0 c0 w.heap.size 8 9 (pw 7) ps W (Nat.le_trans hB hW.size) (HI.out W hW) (by omega) g7)
        have hs0 : 0 ≤ n8 % 8 := by omega
        have hs7 : n8 % 8 < 8 := by omega
        have HEQ : ∃ X, (w7.alloc (.cells #[.int .i64 0] 3)).alloc (.cells #[.int .i64 (n8 % 8)] 3) = X := ⟨_, rfl⟩
        obtain ⟨X8, hX8⟩ := HEQ
        have HX8 := Lib.hid hX8
        rw [hX8] at b1 kI kS hs2 k7R k7C hk8 HO8 hw8
        clear hX8
        gi_wp2_with fail
        rw [HX8.out]
        refine ⟨trivial, ?_⟩
        gi_at_call 24
        refine (callsIn_wide.2 (HTT.out _ hk8)).mono ?_
        rintro e w9 ⟨b, Ar, cr, rs, rfl, hblk, hbb, hgd, hb9⟩
        have kI9 := kI.old hb9; have kS9 := kS.old hb9; have kR9 := k7R.old hb9; have kC9 := k7C.old hb9
        have HO9 := Lib.hid (HO8.out.old hb9)
        have hw9 := hw8.trans (hb9.mono hw8.size)
        have HGD := Lib.hid hgd
        have hrs : rs.length ≤ 100000 := by have := hgd.len; omega
        have hdl : ∀ p ∈ rs, p.ds.length ≤ 1000 := fun p hp => Nat.le_trans (hgd.dlen (k := 600) g7 hp) (by omega)
        generalize hss : n8 % 8 = st at *
        clear hss HTT HX8 kI kS k7R k7C HO8 hb5 hb6 hb7 hb9
        gi_wp2_with fail
        refine wpIn_range_tellsT (F := Fence.wide) (n := 6) rfl (by omega) (gf := 54) (lb := #[.pointer (some ⟨b, 0, none⟩)]) rfl trivial (enters_of Try.func54 (by kernel_rfl) rfl)
          (Terms1_tells 5 (by omega) b X8.heap.size Ar cr rs w9 hrs hblk hgd.own hdl) KT.trans (fun W l o o' h1 h2 => KT.put o' h1 h2) (fun _ => rfl)
          (GInvR w7.heap.size (w7.heap.size + 1) w2.heap.size w.heap.size w1.heap.size st (.slice A1 k c1) qs w) (GOut w7.heap.size (w7.heap.size + 1) w2.heap.size w.heap.size rs.length st (.slice A1 k c1) w)
          (GInvR.own hw9.size) (GOut.own hw9.size) ⟨kI9, kS9, kC9, HO9.out, kR9, hs0, hw9⟩
          (fun T pre x a' W => GRound T rs pre x a' W) (fun _ _ _ _ => GRound.own)
          ?assign ?body ?done ?stop
        case assign =>
          rintro l pre x W K' ⟨j1, j2, j3, j4, j5, j6, j7⟩ ⟨t1, t2, t3, t4, t5⟩ hK'
          unfold yargs moV
          obtain ⟨b1', p2, p3, p4⟩ := boxes2 W 33 31 #[.int .i64 x.m.1, .int .i64 x.m.2.1, .int .i64 x.m.2.2.1, .int .i64 x.m.2.2.2] #[.bool x.ng, .slice x.A x.ds.length x.c]
          have HFIN := Lib.hid (fun (a' : Act) (ha : a' = _) => hK' a' _ (((KeepsOthers.alloc W _).trans (KeepsOthers.alloc _ _)).from _) (KT.old b1') ⟨j1.old b1', j2.old b1', j3.old b1', j4.old b1', j5.old b1', j6, j7.trans (b1'.mono j7.size)⟩ ⟨W.heap.size, W.heap.size + 1, W.heap.size, p2, p3, t1.below b1', b1'.size, t3, t4, t5, ha⟩)
          clear hK' b1' p2 p3 p4 t1 t2 t3 t4
          gi_wp2
          exact HFIN.out _ rfl
        case body =>
          rintro l pre x a' W hl ⟨j1, j2, j3, j4, j5, j6, j7⟩ ⟨Bm, Bc, Bd, km, kc, hnat, hBd, hdl1, htold, hlt', rfl⟩
          simp only [List.setIfInBounds_toArray, List.set_cons_succ, List.set_cons_zero]
          have f1 : W.cell? ⟨w7.heap.size, 0, none⟩ = some (.int .i64 pre.length) := j1.cell 0
          have f2 : W.cell? ⟨w7.heap.size + 1, 0, none⟩ = some (.int .i64 st) := j2.cell 0
          by_cases hst : (pre.length : Int) = st
          · have HFIN := Lib.hid (show GOut w7.heap.size (w7.heap.size + 1) w2.heap.size w.heap.size rs.length st (.slice A1 k c1) w (.exit 4) (pre ++ [x]) W from ⟨rfl, by rw [← hst]; exact j1, j2, j3, j5, by omega, j7⟩)
            clear j1 j2 j3 j4 j5 hnat km kc htold
            rw [hst] at f1
            gi_wp2
            exact ⟨KeepsFrom.refl _ _, HFIN.out⟩
          · have hrQ : rs.map PT.tm = Q := HUQ.out _ HGD.out.can HGD.out.cf
            obtain ⟨p, hp, hpx⟩ := told_both hrQ HQS.out htold hlt'
            have hpm := List.mem_of_getElem? hp
            have HNX := Lib.hid (fun (W' : World) (hW : Below W.heap.size W W') => g_next (B := w9.heap.size) (Bs := b) (bT := X8.heap.size) (rv := .slice Ar rs.length cr) (rs := rs) (x := x) ⟨j1, j2, j3, j4, j5, j6, j7⟩ (show (pre.length : Int) < st by omega) hW (show w.heap.size ≤ w7.heap.size by have := hk7.size; omega))
            obtain ⟨bq, oq, hA1, hbq, d0, d1, d2, d3, d4, d5⟩ := j4.polyIn.at_ hp
            have hil : pre.length < k := by have := HPN.out; have := (List.getElem?_eq_some_iff.1 hp).1; omega
            have hpm2 : x.m = p.m := (congrArg Prod.snd hpx).symm
            have hpv : ival p.ng p.ds = ival x.ng x.ds := congrArg Prod.fst hpx
            have HWF := HG2.out.mb p hpm |>.wf (HG2.out.vl hpm) (by omega)
            have hqe := fun W => Try.eq_mono p.m p.m HWF HWF W
            have np := j4.nin hpm
            have hpl : p.ds.length ≤ 1000 := Nat.le_trans (HG2.out.dlen (k := 600) g7 hpm) (by omega)
            have HSM := Lib.hid (fun (W' : World) (hW : Below W.heap.size W W') => show Calls Try.prog 17 #[.agg #[.bool p.ng, .slice p.A p.ds.length p.c], .agg #[.bool x.ng, .slice x.A x.ds.length x.c]] W' (fun e w' => e = .returned (.bool true) ∧ Below W'.heap.size W' w') by
              have h1 := Same_any p.ng x.ng p.A x.A p.c x.c W'.heap.size p.ds x.ds W' (Nat.le_refl _) ((np.below hW).more hW.size) ((hnat.below (hW.mono hBd)).more (Nat.le_trans hBd hW.size)) (by omega) (by omega)
              rw [decide_eq_true hpv] at h1
              exact h1)
            rw [hpm2] at km
            unfold moV at km hqe
            simp only [decide_true] at hqe
            have f3 : W.cell? ⟨w2.heap.size, 0, none⟩ = some (.slice A1 k c1) := j3.cell 0
            have m0 : W.cell? ⟨Bm, 0, none⟩ = some (.int .i64 p.m.1) := km.cell 0
            have m1 : W.cell? ⟨Bm, 1, none⟩ = some (.int .i64 p.m.2.1) := km.cell 1
            have m2 : W.cell? ⟨Bm, 2, none⟩ = some (.int .i64 p.m.2.2.1) := km.cell 2
            have m3 : W.cell? ⟨Bm, 3, none⟩ = some (.int .i64 p.m.2.2.2) := km.cell 3
            have n0 : W.cell? ⟨Bc, 0, none⟩ = some (.bool x.ng) := kc.cell 0
            have n1 : W.cell? ⟨Bc, 1, none⟩ = some (.slice x.A x.ds.length x.c) := kc.cell 1
            have g1 := j1.frozen 0
            have l1 := j1.lt
            have HF1 := Lib.hid (fun (W' : World) (hW : Below W.heap.size W W') => And.intro ((hW.cell (p := ⟨w7.heap.size, 0, none⟩) l1).trans f1) ((j1.old hW).frozen 0))
            have i1 : ¬ ((pre.length : Int) ≥ (k : Int)) := by omega
            have i2 : (pre.length : Int) < (k : Int) := by omega
            have i3 : (0 : Int) ≤ (pre.length : Int) := by omega
            have i4 : (pre.length : Int) ≤ 8 := by omega
            have hmix : Try.prog.follows .mixedOrders = true := by kernel_rfl
            have hbd : Below W.heap.size W W.drew := (Drawn.drew _).below _
            subst hA1
            clear j1 j2 j3 j4 j5 hnat km kc htold hp hpx hpm2 hpv np hrQ HWF hpm
            generalize hpi : pre.length = pi at *
            have HPI := Lib.hid hpi
            clear hpi
            have cQ := fun (d : Nat) (os : Array Obj) => Calls.regrown_of (d := d) (os := os) (HSM.out _ (below_regrown W d os))
            replace f1 := cell_regrown f1; replace f3 := cell_regrown f3
            replace d0 := cell_regrown d0; replace d1 := cell_regrown d1; replace d2 := cell_regrown d2; replace d3 := cell_regrown d3; replace d4 := cell_regrown d4; replace d5 := cell_regrown d5
            replace m0 := cell_regrown m0; replace m1 := cell_regrown m1; replace m2 := cell_regrown m2; replace m3 := cell_regrown m3; replace n0 := cell_regrown n0; replace n1 := cell_regrown n1
            have HCQ := Lib.hid cQ
            clear cQ g1
            have f10 := HF1.out W (Below.refl _ _)
            obtain ⟨f11, f12⟩ := f10
            have i5 : decide (k ≤ pi) = false := decide_eq_false (by omega)
            gi_wp2
            refine region_quiet_r (noDefer_of (by kernel_rfl)) hmix (by kernel_rfl) ?_
            repeat (gi_big_quiet_step (fail))
            refine wpQuietIn_step (fun _ _ _ _ => trivial) (fun K hK => ?_)
            go_simp
            apply Exists.intro
            refine ⟨fun _ => callsIn_wide.2 (HCQ.out _ _), hK _ ?_⟩
            clear hK K
            repeat (gi_big_quiet_step (fail))
            refine wpQuietIn_nil ?_
            rintro _ ⟨⟨dq, osq⟩, rfl⟩
            have hbx := below_regrown W dq osq
            have y12 := HF1.out _ hbx
            obtain ⟨y1, y2⟩ := y12
            have HFIN := Lib.hid (HNX.out _ hbx)
            clear d0 d1 d2 d3 d4 d5 m0 m1 m2 m3 n0 n1 f1 f3 hbx
            gi_wp2
            exact HFIN.out
        case done =>
          rintro D ys W hD hS ⟨j1, j2, j3, j4, j5, j6, j7⟩ hK
          have hrQ : rs.map PT.tm = Q := HUQ.out _ HGD.out.can HGD.out.cf
          have hyl : ys.length = k := by
            have h1 := congrArg List.length hS
            have h2 := congrArg List.length (hrQ.trans HQS.out.symm)
            rw [List.length_map, List.length_map] at h1 h2
            have := HPN.out
            omega
          have e1 : W.cell? ⟨w7.heap.size, 0, none⟩ = some (.int .i64 (min st (k : Int))) := (j1.cell 0).trans (by rw [show ((ys.length : Nat) : Int) = min st (k : Int) by omega]; rfl)
          have e2 : W.cell? ⟨w7.heap.size + 1, 0, none⟩ = some (.int .i64 st) := j2.cell 0
          have e3 : W.cell? ⟨w2.heap.size, 0, none⟩ = some (.slice A1 k c1) := j3.cell 0
          clear hS hrQ hyl j4 j6
          have l1 := j1.lt; have l2 := j2.lt; have l3 := j3.lt; have l5 := j5.lt
          have hDR : w.heap.size ≠ D := by have := kR9.lt; omega
          have hDl := (Array.getElem?_eq_some_iff.1 hK).1
          have hwD : w.heap.size ≤ D := by have := kR9.lt; omega
          have HEND := Lib.hid (fun (u : World) (hu : Below W.heap.size W u) => show Below w.heap.size w u ∧ Blk u w.heap.size 4 #[.bool false] ∧ u.heap[D]? = some (.deferred (some [])) from ⟨j7.trans (hu.mono j7.size), j5.old hu, (hu.block D hDl).trans hK⟩)
          clear hK j1 j2 j3 j5
          by_cases hL : 1 ≤ L ∧ L ≤ 4
          · have HV := Lib.hid (lVar_any L hL.1 hL.2 W)
            have hin := fun W => linner_any L W
            rw [show (decide (1 ≤ L) && decide (L ≤ 4)) = true by simp [hL.1, hL.2]] at hin
            have HIN := Lib.hid hin
            have HXC := Lib.hid (xM_can hL.1 hL.2)
            clear hin hL
            gi_wp2_with fail
            refine ⟨trivial, ?_⟩
            gi_at_call 25
            refine (callsIn_wide.2 HV.out).mono ?_
            rintro e z1 ⟨Av, cv, vs, rfl, hgv, hv1⟩
            have HVF := Lib.hid hgv.cf
            have hpin := hgv.pin (by omega) one_lt_big
            have HTO := Lib.hid (Total_any Av cv z1.heap.size 1 1 1 vs z1 (Nat.le_refl _) hpin (by omega) one_lt_big (by omega))
            have HLV := Lib.hid (fun (z : World) (hz : Below z1.heap.size z1 z) => Level_any Av cv z1.heap.size 1 1 1 vs z hz.size (hpin.below hz) (by omega) one_lt_big)
            replace e1 := (hv1.cell l1).trans e1; replace e2 := (hv1.cell l2).trans e2; replace e3 := (hv1.cell l3).trans e3
            clear hgv hpin HV
            gi_wp2_with fail
            refine ⟨trivial, ?_⟩
            gi_at_call 23
            refine (callsIn_wide.2 HTO.out).mono ?_
            rintro e z2 ⟨⟨P', hP1, hP2, rfl⟩, hv2⟩
            have hq : totL P' = 1 := by rw [hP1.unique HXC.out.1 fun m => (hP2 m).trans (HVF.out m), HXC.out.2.1]
            rw [hq]
            clear hq hP1 hP2 e1 e2 e3 HTO
            gi_wp2_with fail
            refine ⟨trivial, ?_⟩
            gi_at_call 20
            refine (callsIn_wide.2 (HIN.out _)).mono ?_
            rintro e z2' ⟨rfl, rfl⟩
            gi_wp2_with fail
            refine ⟨trivial, ?_⟩
            gi_at_call 20
            refine (callsIn_wide.2 (HIN.out _)).mono ?_
            rintro e z2' ⟨rfl, rfl⟩
            gi_wp2_with fail
            refine ⟨trivial, ?_⟩
            gi_at_call 20
            refine (callsIn_wide.2 (HIN.out _)).mono ?_
            rintro e z2' ⟨rfl, rfl⟩
            gi_wp2_with fail
            refine ⟨trivial, ?_⟩
            gi_at_call 21
            refine (callsIn_wide.2 (HLV.out _ hv2)).mono ?_
            rintro e z3 ⟨⟨P', hP1, hP2, rfl⟩, hv3⟩
            have hq : lvL P' = L := by rw [hP1.unique HXC.out.1 fun m => (hP2 m).trans (HVF.out m), HXC.out.2.2]
            rw [hq]
            have hz : Below W.heap.size W z3 := (hv1.trans (hv2.mono hv1.size)).trans (hv3.mono (Nat.le_trans hv1.size hv2.size))
            obtain ⟨y1, y2, y3⟩ := HEND.out _ hz
            have y4 := y2.frozen 0
            have y5 : z3.cell? ⟨w.heap.size, 0, none⟩ = some (.bool false) := y2.cell 0
            have HY := Lib.hid (And.intro y1 (And.intro y2 y3))
            clear hq hP1 hP2 HLV y1 y2 y3
            gi_wp2_with fail
            obtain ⟨y1, y2, y3⟩ := HY.out
            have y6 : (z3.setCell ⟨w.heap.size, 0, none⟩ (.bool true)).heap[D]? = some (.deferred (some [])) := (Below.heap_setCell z3 ⟨w.heap.size, 0, none⟩ (.bool true) D (Ne.symm hDR)).trans y3
            have y7 : Blk ((z3.setCell ⟨w.heap.size, 0, none⟩ (.bool true)).putObj D (.deferred none)) w.heap.size 4 #[.bool true] := (World.putObj_heap_other hDR).trans (y2.set_ 0 (.bool true))
            refine ⟨by simp, .inl ⟨_, _, rfl, run_takeDeferred y6, ?_⟩⟩
            exact ⟨_, results_cell_one rfl _ _ w.heap.size (.bool true) rfl (y7.cell 0) (Try.isAgg4 _), rfl, (y1.setCell (Nat.le_refl _) _).trans (belowK_b (w := w) (Nat.le_refl _) _ D _ _ (by omega) y6 rfl rfl)⟩
          · have HV := Lib.hid (Var_out L W hL)
            have hin := fun W => linner_any L W
            have hl : (decide (1 ≤ L) && decide (L ≤ 4)) = false := by
              by_cases h1 : 1 ≤ L
              · have h2 : ¬ L ≤ 4 := fun h2 => hL ⟨h1, h2⟩
                simp [h2]
              · simp [h1]
            rw [hl] at hin
            have HIN := Lib.hid hin
            have HTO := Lib.hid (Total_any none 0 W.heap.size 1 1 1 [] W (Nat.le_refl _) (PIn.none_ W 1 1 1) (by omega) one_lt_big (by omega))
            clear hin hL hl
            simp only [List.length_nil, List.map_nil] at HTO
            gi_wp2_with fail
            refine ⟨trivial, ?_⟩
            gi_at_call 25
            refine (callsIn_wide.2 HV.out).mono ?_
            rintro e z1 ⟨rfl, rfl⟩
            gi_wp2_with fail
            refine ⟨trivial, ?_⟩
            gi_at_call 23
            refine (callsIn_wide.2 HTO.out).mono ?_
            rintro e z2 ⟨⟨P', hP1, hP2, rfl⟩, hv2⟩
            have hq : totL P' = -1 := by rw [hP1.unique Canon.nil hP2]; rfl
            rw [hq]
            obtain ⟨y1, y2, y3⟩ := HEND.out _ hv2
            have y4 := y2.frozen 0
            have y5 : z2.cell? ⟨w.heap.size, 0, none⟩ = some (.bool false) := y2.cell 0
            have HY := Lib.hid (And.intro y1 (And.intro y2 y3))
            clear hq hP1 hP2 HTO y1 y2 y3 e1 e2 e3
            gi_wp2_with fail
            refine ⟨trivial, ?_⟩
            gi_at_call 20
            refine (callsIn_wide.2 (HIN.out _)).mono ?_
            rintro e z2' ⟨rfl, rfl⟩
            gi_wp2_with fail
            refine ⟨trivial, ?_⟩
            gi_at_call 20
            refine (callsIn_wide.2 (HIN.out _)).mono ?_
            rintro e z2' ⟨rfl, rfl⟩
            gi_wp2_with fail
            refine ⟨trivial, ?_⟩
            gi_wp2_with fail
            · rename_i hx _
              cases hx
            · rename_i hx _
              cases hx
            refine ⟨trivial, ?_⟩
            gi_wp2_with fail
            all_goals try (rename_i hx _; cases hx; done)
            obtain ⟨y1, y2, y3⟩ := HY.out
            have y6 : (z2.setCell ⟨w.heap.size, 0, none⟩ (.bool true)).heap[D]? = some (.deferred (some [])) := (Below.heap_setCell z2 ⟨w.heap.size, 0, none⟩ (.bool true) D (Ne.symm hDR)).trans y3
            have y7 : Blk ((z2.setCell ⟨w.heap.size, 0, none⟩ (.bool true)).putObj D (.deferred none)) w.heap.size 4 #[.bool true] := (World.putObj_heap_other hDR).trans (y2.set_ 0 (.bool true))
            refine ⟨by simp, .inl ⟨_, _, rfl, run_takeDeferred y6, ?_⟩⟩
            exact ⟨_, results_cell_one rfl _ _ w.heap.size (.bool true) rfl (y7.cell 0) (Try.isAgg4 _), rfl, (y1.setCell (Nat.le_refl _) _).trans (belowK_b (w := w) (Nat.le_refl _) _ D _ _ (by omega) y6 rfl rfl)⟩
        case stop =>
          rintro D cc pre W hD hS ⟨rfl, j1, j2, j3, j5, j6, j7⟩ hK
          have hrQ : rs.map PT.tm = Q := HUQ.out _ HGD.out.can HGD.out.cf
          have hyl : rs.length = k := by
            have h2 := congrArg List.length (hrQ.trans HQS.out.symm)
            rw [List.length_map, List.length_map] at h2
            have := HPN.out
            omega
          have e1 : W.cell? ⟨w7.heap.size, 0, none⟩ = some (.int .i64 (min st (k : Int))) := (j1.cell 0).trans (by rw [show min st (k : Int) = st by omega]; rfl)
          have e2 : W.cell? ⟨w7.heap.size + 1, 0, none⟩ = some (.int .i64 st) := j2.cell 0
          have e3 : W.cell? ⟨w2.heap.size, 0, none⟩ = some (.slice A1 k c1) := j3.cell 0
          clear hS hrQ hyl j6
          have l1 := j1.lt; have l2 := j2.lt; have l3 := j3.lt; have l5 := j5.lt
          have hDR : w.heap.size ≠ D := by have := kR9.lt; omega
          have hDl := (Array.getElem?_eq_some_iff.1 hK).1
          have hwD : w.heap.size ≤ D := by have := kR9.lt; omega
          have HEND := Lib.hid (fun (u : World) (hu : Below W.heap.size W u) => show Below w.heap.size w u ∧ Blk u w.heap.size 4 #[.bool false] ∧ u.heap[D]? = some (.deferred (some [])) from ⟨j7.trans (hu.mono j7.size), j5.old hu, (hu.block D hDl).trans hK⟩)
          clear hK j1 j2 j3 j5
          by_cases hL : 1 ≤ L ∧ L ≤ 4
          · have HV := Lib.hid (lVar_any L hL.1 hL.2 W)
            have hin := fun W => linner_any L W
            rw [show (decide (1 ≤ L) && decide (L ≤ 4)) = true by simp [hL.1, hL.2]] at hin
            have HIN := Lib.hid hin
            have HXC := Lib.hid (xM_can hL.1 hL.2)
            clear hin hL
            gi_wp2_with fail
            refine ⟨trivial, ?_⟩
            gi_at_call 25
            refine (callsIn_wide.2 HV.out).mono ?_
            rintro e z1 ⟨Av, cv, vs, rfl, hgv, hv1⟩
            have HVF := Lib.hid hgv.cf
            have hpin := hgv.pin (by omega) one_lt_big
            have HTO := Lib.hid (Total_any Av cv z1.heap.size 1 1 1 vs z1 (Nat.le_refl _) hpin (by omega) one_lt_big (by omega))
            have HLV := Lib.hid (fun (z : World) (hz : Below z1.heap.size z1 z) => Level_any Av cv z1.heap.size 1 1 1 vs z hz.size (hpin.below hz) (by omega) one_lt_big)
            replace e1 := (hv1.cell l1).trans e1; replace e2 := (hv1.cell l2).trans e2; replace e3 := (hv1.cell l3).trans e3
            clear hgv hpin HV
            gi_wp2_with fail
            refine ⟨trivial, ?_⟩
            gi_at_call 23
            refine (callsIn_wide.2 HTO.out).mono ?_
            rintro e z2 ⟨⟨P', hP1, hP2, rfl⟩, hv2⟩
            have hq : totL P' = 1 := by rw [hP1.unique HXC.out.1 fun m => (hP2 m).trans (HVF.out m), HXC.out.2.1]
            rw [hq]
            clear hq hP1 hP2 e1 e2 e3 HTO
            gi_wp2_with fail
            refine ⟨trivial, ?_⟩
            gi_at_call 20
            refine (callsIn_wide.2 (HIN.out _)).mono ?_
            rintro e z2' ⟨rfl, rfl⟩
            gi_wp2_with fail
            refine ⟨trivial, ?_⟩
            gi_at_call 20
            refine (callsIn_wide.2 (HIN.out _)).mono ?_
            rintro e z2' ⟨rfl, rfl⟩
            gi_wp2_with fail
            refine ⟨trivial, ?_⟩
            gi_at_call 20
            refine (callsIn_wide.2 (HIN.out _)).mono ?_
            rintro e z2' ⟨rfl, rfl⟩
            gi_wp2_with fail
            refine ⟨trivial, ?_⟩
            gi_at_call 21
            refine (callsIn_wide.2 (HLV.out _ hv2)).mono ?_
            rintro e z3 ⟨⟨P', hP1, hP2, rfl⟩, hv3⟩
            have hq : lvL P' = L := by rw [hP1.unique HXC.out.1 fun m => (hP2 m).trans (HVF.out m), HXC.out.2.2]
            rw [hq]
            have hz : Below W.heap.size W z3 := (hv1.trans (hv2.mono hv1.size)).trans (hv3.mono (Nat.le_trans hv1.size hv2.size))
            obtain ⟨y1, y2, y3⟩ := HEND.out _ hz
            have y4 := y2.frozen 0
            have y5 : z3.cell? ⟨w.heap.size, 0, none⟩ = some (.bool false) := y2.cell 0
            have HY := Lib.hid (And.intro y1 (And.intro y2 y3))
            clear hq hP1 hP2 HLV y1 y2 y3
            gi_wp2_with fail
            obtain ⟨y1, y2, y3⟩ := HY.out
            have y6 : (z3.setCell ⟨w.heap.size, 0, none⟩ (.bool true)).heap[D]? = some (.deferred (some [])) := (Below.heap_setCell z3 ⟨w.heap.size, 0, none⟩ (.bool true) D (Ne.symm hDR)).trans y3
            have y7 : Blk ((z3.setCell ⟨w.heap.size, 0, none⟩ (.bool true)).putObj D (.deferred none)) w.heap.size 4 #[.bool true] := (World.putObj_heap_other hDR).trans (y2.set_ 0 (.bool true))
            refine ⟨by simp, .inl ⟨_, _, rfl, run_takeDeferred y6, ?_⟩⟩
            exact ⟨_, results_cell_one rfl _ _ w.heap.size (.bool true) rfl (y7.cell 0) (Try.isAgg4 _), rfl, (y1.setCell (Nat.le_refl _) _).trans (belowK_b (w := w) (Nat.le_refl _) _ D _ _ (by omega) y6 rfl rfl)⟩
          · have HV := Lib.hid (Var_out L W hL)
            have hin := fun W => linner_any L W
            have hl : (decide (1 ≤ L) && decide (L ≤ 4)) = false := by
              by_cases h1 : 1 ≤ L
              · have h2 : ¬ L ≤ 4 := fun h2 => hL ⟨h1, h2⟩
                simp [h2]
              · simp [h1]
            rw [hl] at hin
            have HIN := Lib.hid hin
            have HTO := Lib.hid (Total_any none 0 W.heap.size 1 1 1 [] W (Nat.le_refl _) (PIn.none_ W 1 1 1) (by omega) one_lt_big (by omega))
            clear hin hL hl
            simp only [List.length_nil, List.map_nil] at HTO
            gi_wp2_with fail
            refine ⟨trivial, ?_⟩
            gi_at_call 25
            refine (callsIn_wide.2 HV.out).mono ?_
            rintro e z1 ⟨rfl, rfl⟩
            gi_wp2_with fail
            refine ⟨trivial, ?_⟩
            gi_at_call 23
            refine (callsIn_wide.2 HTO.out).mono ?_
            rintro e z2 ⟨⟨P', hP1, hP2, rfl⟩, hv2⟩
            have hq : totL P' = -1 := by rw [hP1.unique Canon.nil hP2]; rfl
            rw [hq]
            obtain ⟨y1, y2, y3⟩ := HEND.out _ hv2
            have y4 := y2.frozen 0
            have y5 : z2.cell? ⟨w.heap.size, 0, none⟩ = some (.bool false) := y2.cell 0
            have HY := Lib.hid (And.intro y1 (And.intro y2 y3))
            clear hq hP1 hP2 HTO y1 y2 y3 e1 e2 e3
            gi_wp2_with fail
            refine ⟨trivial, ?_⟩
            gi_at_call 20
            refine (callsIn_wide.2 (HIN.out _)).mono ?_
            rintro e z2' ⟨rfl, rfl⟩
            gi_wp2_with fail
            refine ⟨trivial, ?_⟩
            gi_at_call 20
            refine (callsIn_wide.2 (HIN.out _)).mono ?_
            rintro e z2' ⟨rfl, rfl⟩
            gi_wp2_with fail
            refine ⟨trivial, ?_⟩
            gi_wp2_with fail
            · rename_i hx _
              cases hx
            · rename_i hx _
              cases hx
            refine ⟨trivial, ?_⟩
            gi_wp2_with fail
            all_goals try (rename_i hx _; cases hx; done)
            obtain ⟨y1, y2, y3⟩ := HY.out
            have y6 : (z2.setCell ⟨w.heap.size, 0, none⟩ (.bool true)).heap[D]? = some (.deferred (some [])) := (Below.heap_setCell z2 ⟨w.heap.size, 0, none⟩ (.bool true) D (Ne.symm hDR)).trans y3
            have y7 : Blk ((z2.setCell ⟨w.heap.size, 0, none⟩ (.bool true)).putObj D (.deferred none)) w.heap.size 4 #[.bool true] := (World.putObj_heap_other hDR).trans (y2.set_ 0 (.bool true))
            refine ⟨by simp, .inl ⟨_, _, rfl, run_takeDeferred y6, ?_⟩⟩
            exact ⟨_, results_cell_one rfl _ _ w.heap.size (.bool true) rfl (y7.cell 0) (Try.isAgg4 _), rfl, (y1.setCell (Nat.le_refl _) _).trans (belowK_b (w := w) (Nat.le_refl _) _ D _ _ (by omega) y6 rfl rfl)⟩
end Go.Proofs.Ytpbapoanjkekmaa
