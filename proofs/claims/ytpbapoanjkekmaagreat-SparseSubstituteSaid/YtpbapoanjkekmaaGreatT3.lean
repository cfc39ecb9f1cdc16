/- Contract of sparse.Level. -/
import Derived.Sort.LoopGhostIn
import Derived.Test.YtpbapoanjkekmaaGreatZK
namespace Go.Proofs.YtpbapoanjkekmaaGreat
open Go.RowKit Go.Shelf
attribute [local go_sem] Oper.semAt_some

theorem Terms1_stops (n : Nat) (hn : 1 ≤ n) (Bs base : Nat) (A : Option Addr) (c : Nat) (ps : List PT) (w : World) (hlen : ps.length ≤ 100000) (hBs : Blk w Bs 23 #[.slice A ps.length c]) (hin : POwn w base (.slice A ps.length c) ps) (hdl : ∀ p ∈ ps, p.ds.length ≤ 1000) :
    SeqStopsK Fence.wide n Tryz.prog 53 #[.pointer (some ⟨Bs, 0, none⟩)] yargs (KT Bs base (.slice A ps.length c) ps) (fun ys => ys.map PT.tm = ps.map PT.tm) (fun pre => ∃ k, pre.map PT.tm = (ps.take k).map PT.tm) ps.length w :=
  fun l J Jx W hW hJ _ hY h0 => Terms1_in n hn l Bs base A c ps W J Jx hJ hlen (fun pre x W1 hj _ _ _ _ hl => hY pre x W1 hj hl) (hBs.old hW) (hin.old hW) hdl h0

/-- the highest variable of a monomial -/
def lvM (m : Mo) : Int := if 0 < m.2.2.2 then 4 else if 0 < m.2.2.1 then 3 else if 0 < m.2.1 then 2 else if 0 < m.1 then 1 else 0
def lvL (l : List Tm) : Int := l.foldl (fun a t => max a (lvM t.2)) 0
theorem lvM_bd (m : Mo) : 0 ≤ lvM m ∧ lvM m ≤ 4 := by unfold lvM; (repeat' split) <;> omega
theorem lvL_snoc (l : List Tm) (t : Tm) : lvL (l ++ [t]) = max (lvL l) (lvM t.2) := by simp [lvL]
theorem lvL_bd' (l : List Tm) : ∀ a : Int, 0 ≤ a → a ≤ 4 → 0 ≤ l.foldl (fun a t => max a (lvM t.2)) a ∧ l.foldl (fun a t => max a (lvM t.2)) a ≤ 4 := by
  induction l with
  | nil => intro a h1 h2; exact ⟨h1, h2⟩
  | cons t l ih =>
    intro a h1 h2
    have := lvM_bd t.2
    have h3 : 0 ≤ max a (lvM t.2) := by omega
    have h4 : max a (lvM t.2) ≤ 4 := by omega
    exact ih _ h3 h4
theorem lvL_bd (l : List Tm) : 0 ≤ lvL l ∧ lvL l ≤ 4 := lvL_bd' l 0 (by omega) (by omega)
/-- the highest variable among the first j, or a -/
def lvTo (a : Int) (m : Mo) : Nat → Int
  | 0 => a
  | j + 1 => if 0 < gt m j ∧ lvTo a m j < j + 1 then j + 1 else lvTo a m j
theorem lvTo_four (a : Int) (m : Mo) (h0 : 0 ≤ a) (h4 : a ≤ 4) : lvTo a m 4 = max a (lvM m) := by
  simp only [lvTo, gt, lvM]
  (repeat' split) <;> omega
theorem lvTo_bd (a : Int) (m : Mo) (h0 : 0 ≤ a) (h4 : a ≤ 4) (j : Nat) (hj : j ≤ 4) : 0 ≤ lvTo a m j ∧ lvTo a m j ≤ 4 := by
  induction j with
  | zero => exact ⟨h0, h4⟩
  | succ j ih =>
    have := ih (by omega)
    simp only [lvTo]
    split <;> omega
theorem lvTo_up {a : Int} {m : Mo} {j : Nat} (h : 0 < gt m j) (k : lvTo a m j < j + 1) : lvTo a m (j + 1) = j + 1 := by simp only [lvTo]; rw [if_pos ⟨h, k⟩]
theorem lvTo_same {a : Int} {m : Mo} {j : Nat} (h : ¬ (0 < gt m j ∧ lvTo a m j < j + 1)) : lvTo a m (j + 1) = lvTo a m j := by simp only [lvTo]; rw [if_neg h]
theorem cell_blk_own {β : Type} (Bh : Nat) (t : TypeId) (f : β → Array Value) : Own (fun s W => Blk W Bh t (f s)) := fun s X Y row hs hg hrow =>
  hs.grown hg (fun e' => by obtain ⟨o, ho, hc⟩ := hrow Bh e'.symm; rw [show X.heap[Bh]? = _ from hs] at ho; cases ho; cases hc)

set_option maxRecDepth 100000 in
set_option maxHeartbeats 4000000 in
theorem Level_any (A : Option Addr) (c B N : Nat) (E : Int) (M : Nat) (ps : List PT) (w : World) (hB : B ≤ w.heap.size) (h : PIn w B A ps N E M) (hN : N ≤ 50000) (hM : M < Big) :
    Calls Tryz.prog 28 #[.slice A ps.length c] w fun e w' => (∃ P, Canon P ∧ (∀ m, cf P m = cf (ps.map PT.tm) m) ∧ e = .returned (.int .i64 (lvL P))) ∧ Below w.heap.size w w' := by
  have HT := Lib.hid (fun (W : World) (hW : Below w.heap.size w W) => Terms_any A c B N E M ps W (Nat.le_trans hB hW.size) (h.below (hW.mono hB)) hN hM)
  clear h
  refine (callsIn_wide (n := 3)).1 ?_
  refine callsIn_of_wp_marks Tryz.func28 rfl trivial ?_ rfl
  simp only [Tryz.ntmps28, List.size_toArray, List.length_cons, List.length_nil, Nat.reduceAdd, Nat.reduceSub, Array.replicate_succ, Array.replicate_zero, List.push_toArray, List.append_toArray, List.nil_append, List.cons_append]
  gi_wp2_with (first | (refine ⟨trivial, ?_⟩; gi_at_call 30; refine (callsIn_wide.2 (HT.out _ ((Below.refl _ _).alloc (Nat.le_refl _) _))).mono ?_; rintro e w2 ⟨b, A1, c1, qs, rfl, hblk, hbb, hgd, hb⟩))
  have hb1 : Below w.heap.size w w2 := ((Below.refl _ _).alloc (Nat.le_refl _) _).trans (hb.mono (by simp))
  have hq : Blk w2 w.heap.size 3 #[.int .i64 0] := (Blk.new w 3 #[.int .i64 0]).old hb
  have hbw : w.heap.size < w2.heap.size := hq.lt
  have HGD := Lib.hid hgd
  have hqs : qs.length ≤ 100000 := by have := hgd.len; omega
  have hdl : ∀ p ∈ qs, p.ds.length ≤ 1000 := fun p hp => Nat.le_trans (hgd.dlen (k := 600) hM hp) (by omega)
  refine wpIn_rangeFunc_ownH (F := Fence.wide) (n := 3) rfl (by omega) (gf := 53) (lb := #[.pointer (some ⟨b, 0, none⟩)]) rfl trivial (enters_of Tryz.func53 (by kernel_rfl) rfl)
    (Terms1_stops 2 (by omega) b _ A1 c1 qs w2 hqs hblk hgd.own hdl) KT.trans (fun W l o o' _ h1 h2 _ => KT.put o' h1 h2) (Below.refl _ _) (fun _ => rfl)
    (fun pre W => Blk W w.heap.size 3 #[.int .i64 (lvL (pre.map PT.tm))] ∧ Below w.heap.size w W) (fun _ _ _ => False)
    (OwnFrom.and (Own.from (cell_blk_own _ _ _) _) (ownFrom_below (Nat.le_refl _) (Nat.le_of_lt hbw))) (fun _ _ _ _ _ hs _ _ => hs) ⟨hq, hb1⟩
    (fun x a' W => ∃ Bx, w.heap.size < Bx ∧ Blk W Bx 44 (moV x.m) ∧ a' = { tmps := #[.slice A ps.length c, undef, .int .i64 0, .pointer (some ⟨w.heap.size, 0, none⟩), .pointer (some ⟨Bx, 0, none⟩), undef, undef, .slice A ps.length c, .func (.func 53) #[] #[.pointer (some ⟨b, 0, none⟩)], .agg #[.int .i64 x.m.1, .int .i64 x.m.2.1, .int .i64 x.m.2.2.1, .int .i64 x.m.2.2.2], .agg #[.bool x.ng, .slice x.A x.ds.length x.c], undef, undef, undef, undef, undef, undef, undef, undef, undef, undef, undef, undef, undef, undef, undef, undef, undef], defers := [] })
    (fun x a' s X Y row hs hg hrow => by
      obtain ⟨Bx, h1, h2, h3⟩ := hs
      exact ⟨Bx, h1, h2.grown hg (fun e' => by obtain ⟨_, o, ho, hc⟩ := hrow Bx e'.symm; rw [show X.heap[Bx]? = _ from h2] at ho; cases ho; cases hc), h3⟩)
    ?assign ?body ?done ?stop
  case assign =>
    rintro l pre x W K ⟨hi1, hi2⟩ hK
    unfold yargs moV
    have hba := (Below.refl W.heap.size W).alloc (Nat.le_refl _) (.cells #[.int .i64 x.m.1, .int .i64 x.m.2.1, .int .i64 x.m.2.2.1, .int .i64 x.m.2.2.2] 44)
    gi_wp2
    exact hK _ _ ((KeepsOthers.alloc _ _).from _) (.old hba) ⟨hi1.old hba, hi2.trans (hba.mono hi2.size)⟩ ⟨W.heap.size, hi1.lt, Blk.new W _ _, rfl⟩
  case body =>
    rintro l pre x a' W hl hr ⟨hi1, hi2⟩ ⟨Bx, hx1, hx2, rfl⟩ hlt
    have HLF := Lib.hid (lvTo_four (lvL (pre.map PT.tm)) x.m (lvL_bd _).1 (lvL_bd _).2)
    have hbd := lvL_bd (pre.map PT.tm)
    have HSN := Lib.hid (show lvL ((pre ++ [x]).map PT.tm) = max (lvL (pre.map PT.tm)) (lvM x.m) by rw [List.map_append, List.map_cons, List.map_nil, lvL_snoc]; rfl)
    have x0 : ∀ W, (Instr.index 44 (.agg #[.int .i64 x.m.1, .int .i64 x.m.2.1, .int .i64 x.m.2.2.1, .int .i64 x.m.2.2.2]) (.int .i64 0)).run Tryz.prog W = .ok (.int .i64 x.m.1) W := fun W => Tryz.index_mono x.m 0 (by decide) W
    have x1 : ∀ W, (Instr.index 44 (.agg #[.int .i64 x.m.1, .int .i64 x.m.2.1, .int .i64 x.m.2.2.1, .int .i64 x.m.2.2.2]) (.int .i64 1)).run Tryz.prog W = .ok (.int .i64 x.m.2.1) W := fun W => Tryz.index_mono x.m 1 (by decide) W
    have x2 : ∀ W, (Instr.index 44 (.agg #[.int .i64 x.m.1, .int .i64 x.m.2.1, .int .i64 x.m.2.2.1, .int .i64 x.m.2.2.2]) (.int .i64 2)).run Tryz.prog W = .ok (.int .i64 x.m.2.2.1) W := fun W => Tryz.index_mono x.m 2 (by decide) W
    have x3 : ∀ W, (Instr.index 44 (.agg #[.int .i64 x.m.1, .int .i64 x.m.2.1, .int .i64 x.m.2.2.1, .int .i64 x.m.2.2.2]) (.int .i64 3)).run Tryz.prog W = .ok (.int .i64 x.m.2.2.2) W := fun W => Tryz.index_mono x.m 3 (by decide) W
    have c0 : W.cell? ⟨Bx, 0, none⟩ = some (.int .i64 x.m.1) := hx2.cell 0
    have c1' : W.cell? ⟨Bx, 1, none⟩ = some (.int .i64 x.m.2.1) := hx2.cell 1
    have c2 : W.cell? ⟨Bx, 2, none⟩ = some (.int .i64 x.m.2.2.1) := hx2.cell 2
    have c3 : W.cell? ⟨Bx, 3, none⟩ = some (.int .i64 x.m.2.2.2) := hx2.cell 3
    gi_wp2
    gi_loopg [5, 6, 12] 4 (fun gn _ _ ix wj => ∃ (j : Nat) (z : Int), j ≤ 4 ∧ z = j ∧ gn = 4 - j ∧ ix = .int .i64 z ∧ Blk wj w.heap.size 3 #[.int .i64 (lvTo (lvL (pre.map PT.tm)) x.m j)] ∧ KeepsOthers W wj ∧ KT b (w.alloc (.cells #[.int .i64 0] 3)).heap.size (.slice A1 qs.length c1) qs W wj ∧ Below w.heap.size w wj)
    case atStart => exact ⟨0, 0, by omega, rfl, rfl, rfl, hi1, KeepsOthers.refl _, .old (Below.refl _ _), hi2⟩
    case round =>
      obtain ⟨j, z, hj, hz, hgj, rfl, kj, hko, hkt, hbw2⟩ := hrel
      have HGJ := Lib.hid hgj; clear hgj
      by_cases hlt3 : j < 4
      · clear c0 c1' c2 c3
        rcases (by omega : j = 0 ∨ j = 1 ∨ j = 2 ∨ j = 3) with rfl | rfl | rfl | rfl
        · obtain rfl : z = 0 := hz
          have hbj := lvTo_bd (lvL (pre.map PT.tm)) x.m hbd.1 hbd.2 0 (by omega)
          have cj : wr.cell? ⟨w.heap.size, 0, none⟩ = some (.int .i64 (lvTo (lvL (pre.map PT.tm)) x.m 0)) := kj.cell 0
          have fj := kj.frozen 0
          by_cases he : 0 < x.m.1
          · by_cases hg : lvTo (lvL (pre.map PT.tm)) x.m 0 < 1
            · have HU := Lib.hid (lvTo_up (a := lvL (pre.map PT.tm)) (m := x.m) (j := 0) he hg)
              have kj' := kj.set_ 0 (.int .i64 1)
              generalize lvTo (lvL (pre.map PT.tm)) x.m 0 = hh at *
              gi_wp2
              gi_roundg 3
              case rel => exact ⟨1, 1, by omega, rfl, rfl, rfl, by rw [HU.out]; exact kj', hko.trans (KeepsOthers.setCell _ _ _), hkt.trans (KT.set kj (by decide) (by decide) (by decide) _), hbw2.setCell (Nat.le_refl _) _⟩
              case measure => have := HGJ.out; omega
            · have HU := Lib.hid (lvTo_same (a := lvL (pre.map PT.tm)) (m := x.m) (j := 0) (fun h => hg h.2))
              generalize lvTo (lvL (pre.map PT.tm)) x.m 0 = hh at *
              gi_wp2
              gi_roundg 3
              case rel => exact ⟨1, 1, by omega, rfl, rfl, rfl, by rw [HU.out]; exact kj, hko, hkt, hbw2⟩
              case measure => have := HGJ.out; omega
          · have HU := Lib.hid (lvTo_same (a := lvL (pre.map PT.tm)) (m := x.m) (j := 0) (fun h => he h.1))
            generalize lvTo (lvL (pre.map PT.tm)) x.m 0 = hh at *
            gi_wp2
            gi_roundg 3
            case rel => exact ⟨1, 1, by omega, rfl, rfl, rfl, by rw [HU.out]; exact kj, hko, hkt, hbw2⟩
            case measure => have := HGJ.out; omega
        · obtain rfl : z = 1 := hz
          have hbj := lvTo_bd (lvL (pre.map PT.tm)) x.m hbd.1 hbd.2 1 (by omega)
          have cj : wr.cell? ⟨w.heap.size, 0, none⟩ = some (.int .i64 (lvTo (lvL (pre.map PT.tm)) x.m 1)) := kj.cell 0
          have fj := kj.frozen 0
          by_cases he : 0 < x.m.2.1
          · by_cases hg : lvTo (lvL (pre.map PT.tm)) x.m 1 < 2
            · have HU := Lib.hid (lvTo_up (a := lvL (pre.map PT.tm)) (m := x.m) (j := 1) he hg)
              have kj' := kj.set_ 0 (.int .i64 2)
              generalize lvTo (lvL (pre.map PT.tm)) x.m 1 = hh at *
              gi_wp2
              gi_roundg 2
              case rel => exact ⟨2, 2, by omega, rfl, rfl, rfl, by rw [HU.out]; exact kj', hko.trans (KeepsOthers.setCell _ _ _), hkt.trans (KT.set kj (by decide) (by decide) (by decide) _), hbw2.setCell (Nat.le_refl _) _⟩
              case measure => have := HGJ.out; omega
            · have HU := Lib.hid (lvTo_same (a := lvL (pre.map PT.tm)) (m := x.m) (j := 1) (fun h => hg h.2))
              generalize lvTo (lvL (pre.map PT.tm)) x.m 1 = hh at *
              gi_wp2
              gi_roundg 2
              case rel => exact ⟨2, 2, by omega, rfl, rfl, rfl, by rw [HU.out]; exact kj, hko, hkt, hbw2⟩
              case measure => have := HGJ.out; omega
          · have HU := Lib.hid (lvTo_same (a := lvL (pre.map PT.tm)) (m := x.m) (j := 1) (fun h => he h.1))
            generalize lvTo (lvL (pre.map PT.tm)) x.m 1 = hh at *
            gi_wp2
            gi_roundg 2
            case rel => exact ⟨2, 2, by omega, rfl, rfl, rfl, by rw [HU.out]; exact kj, hko, hkt, hbw2⟩
            case measure => have := HGJ.out; omega
        · obtain rfl : z = 2 := hz
          have hbj := lvTo_bd (lvL (pre.map PT.tm)) x.m hbd.1 hbd.2 2 (by omega)
          have cj : wr.cell? ⟨w.heap.size, 0, none⟩ = some (.int .i64 (lvTo (lvL (pre.map PT.tm)) x.m 2)) := kj.cell 0
          have fj := kj.frozen 0
          by_cases he : 0 < x.m.2.2.1
          · by_cases hg : lvTo (lvL (pre.map PT.tm)) x.m 2 < 3
            · have HU := Lib.hid (lvTo_up (a := lvL (pre.map PT.tm)) (m := x.m) (j := 2) he hg)
              have kj' := kj.set_ 0 (.int .i64 3)
              generalize lvTo (lvL (pre.map PT.tm)) x.m 2 = hh at *
              gi_wp2
              gi_roundg 1
              case rel => exact ⟨3, 3, by omega, rfl, rfl, rfl, by rw [HU.out]; exact kj', hko.trans (KeepsOthers.setCell _ _ _), hkt.trans (KT.set kj (by decide) (by decide) (by decide) _), hbw2.setCell (Nat.le_refl _) _⟩
              case measure => have := HGJ.out; omega
            · have HU := Lib.hid (lvTo_same (a := lvL (pre.map PT.tm)) (m := x.m) (j := 2) (fun h => hg h.2))
              generalize lvTo (lvL (pre.map PT.tm)) x.m 2 = hh at *
              gi_wp2
              gi_roundg 1
              case rel => exact ⟨3, 3, by omega, rfl, rfl, rfl, by rw [HU.out]; exact kj, hko, hkt, hbw2⟩
              case measure => have := HGJ.out; omega
          · have HU := Lib.hid (lvTo_same (a := lvL (pre.map PT.tm)) (m := x.m) (j := 2) (fun h => he h.1))
            generalize lvTo (lvL (pre.map PT.tm)) x.m 2 = hh at *
            gi_wp2
            gi_roundg 1
            case rel => exact ⟨3, 3, by omega, rfl, rfl, rfl, by rw [HU.out]; exact kj, hko, hkt, hbw2⟩
            case measure => have := HGJ.out; omega
        · obtain rfl : z = 3 := hz
          have hbj := lvTo_bd (lvL (pre.map PT.tm)) x.m hbd.1 hbd.2 3 (by omega)
          have cj : wr.cell? ⟨w.heap.size, 0, none⟩ = some (.int .i64 (lvTo (lvL (pre.map PT.tm)) x.m 3)) := kj.cell 0
          have fj := kj.frozen 0
          by_cases he : 0 < x.m.2.2.2
          · by_cases hg : lvTo (lvL (pre.map PT.tm)) x.m 3 < 4
            · have HU := Lib.hid (lvTo_up (a := lvL (pre.map PT.tm)) (m := x.m) (j := 3) he hg)
              have kj' := kj.set_ 0 (.int .i64 4)
              generalize lvTo (lvL (pre.map PT.tm)) x.m 3 = hh at *
              gi_wp2
              gi_roundg 0
              case rel => exact ⟨4, 4, by omega, rfl, rfl, rfl, by rw [HU.out]; exact kj', hko.trans (KeepsOthers.setCell _ _ _), hkt.trans (KT.set kj (by decide) (by decide) (by decide) _), hbw2.setCell (Nat.le_refl _) _⟩
              case measure => have := HGJ.out; omega
            · have HU := Lib.hid (lvTo_same (a := lvL (pre.map PT.tm)) (m := x.m) (j := 3) (fun h => hg h.2))
              generalize lvTo (lvL (pre.map PT.tm)) x.m 3 = hh at *
              gi_wp2
              gi_roundg 0
              case rel => exact ⟨4, 4, by omega, rfl, rfl, rfl, by rw [HU.out]; exact kj, hko, hkt, hbw2⟩
              case measure => have := HGJ.out; omega
          · have HU := Lib.hid (lvTo_same (a := lvL (pre.map PT.tm)) (m := x.m) (j := 3) (fun h => he h.1))
            generalize lvTo (lvL (pre.map PT.tm)) x.m 3 = hh at *
            gi_wp2
            gi_roundg 0
            case rel => exact ⟨4, 4, by omega, rfl, rfl, rfl, by rw [HU.out]; exact kj, hko, hkt, hbw2⟩
            case measure => have := HGJ.out; omega
      · obtain rfl : j = 4 := by omega
        obtain rfl : z = 4 := hz
        rw [HLF.out, ← HSN.out] at kj
        gi_wp2
        exact ⟨hko.from _, hkt, kj, hbw2⟩
  case done =>
    rintro D ys W hD hS ⟨hi1, hi2⟩ hK
    have cj : W.cell? ⟨w.heap.size, 0, none⟩ = some (.int .i64 (lvL (ys.map PT.tm))) := hi1.cell 0
    have HS := Lib.hid hS
    clear hS
    gi_wp2
    refine ⟨by simp, .inl ⟨_, _, rfl, run_takeDeferred hK, ?_⟩⟩
    refine ⟨_, results_tmp rfl _ _ _, ⟨ys.map PT.tm, ?_, ?_, rfl⟩, ?_⟩
    · rw [HS.out]; exact HGD.out.can
    · rw [HS.out]; exact HGD.out.cf
    · exact hi2.trans (belowK_b (w := w) (Nat.le_refl _) W D _ _ (by omega) hK rfl rfl)
  case stop =>
    rintro D cc pre W _ _ h _
    exact h.elim
end Go.Proofs.YtpbapoanjkekmaaGreat
