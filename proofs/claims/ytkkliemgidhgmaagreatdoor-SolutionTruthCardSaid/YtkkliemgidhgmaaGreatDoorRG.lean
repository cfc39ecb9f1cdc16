/- Contract of recpoly.copyOf: the walk. -/
import Derived.IntWalk
import Derived.Test.YtkkliemgidhgmaaGreatDoorRF
namespace Go.Proofs.YtkkliemgidhgmaaGreatDoor
open Go.RowKit

theorem Tryz.sizeRec : (Tryz.prog.info? 32).map (·.size) = some 4 := by kernel_rfl
theorem Tryz.infoRec : (Tryz.prog.info? 32).map (fun i => (i.zero, i.size, i.bytes)) = some (some (.agg #[.int .i64 0, .bool false, .slice none 0 0, .slice none 0 0]), 4, 64) := by kernel_rfl
theorem Tryz.make_rec (n : Nat) (hn : n ≤ 1000000) (w : World) : (Instr.makeSlice 30 (.int .i64 (n : Int)) (.int .i64 (n : Int))).run Tryz.prog w = .ok (.slice (some ⟨w.heap.size, 0, none⟩) n n) (w.alloc (.cells (madeCells #[.int .i64 0, .bool false, .slice none 0 0, .slice none 0 0] (n * 4)) 32)) := by
  obtain ⟨i0, hi0, hz0, hz1, hz2⟩ := info_parts Tryz.infoRec
  have hr := run_make (P := Tryz.prog) w 30 32 i0 _ Tryz.underlying30 hi0 hz0 .i64 .i64 n n (by omega) (by omega) (by rw [hz2]; omega) (by omega)
  simp only [Int.toNat_natCast, hz1, Value.cells] at hr
  exact hr
mutual
/-- all lists are short -/
def SmT (X : Nat) : RP → Prop
  | .mk _ _ ds ks => ds.length ≤ X ∧ ks.length ≤ X ∧ SmL X ks
def SmL (X : Nat) : List RP → Prop
  | [] => True
  | t :: ts => SmT X t ∧ SmL X ts
end
theorem SmL.mem {X : Nat} {ts : List RP} : SmL X ts ↔ ∀ u ∈ ts, SmT X u := by
  induction ts with
  | nil => simp [SmL]
  | cons t ts ih => simp [SmL, ih]
theorem SmT.at_ {X : Nat} {t : RP} (h : SmT X t) : t.ds.length ≤ X ∧ t.ks.length ≤ X ∧ ∀ u ∈ t.ks, SmT X u := by
  cases t
  simp only [SmT] at h
  exact ⟨h.1, h.2.1, SmL.mem.1 h.2.2⟩
theorem SmT.mk {X : Nat} {l : Int} {g : Bool} {ds : List Nat} {ks : List RP} (h1 : ds.length ≤ X) (h2 : ks.length ≤ X) (h3 : ∀ u ∈ ks, SmT X u) : SmT X (.mk l g ds ks) := by
  simp only [SmT]
  exact ⟨h1, h2, SmL.mem.2 h3⟩
mutual
theorem FewT.sm {dg X : Nat} (h1 : dg ≤ X) (h2 : 12 ≤ X) : ∀ (t : RP), FewT dg t → SmT X t
  | .mk l g ds ks, h => by
    simp only [FewT] at h
    simp only [SmT]
    exact ⟨by omega, by omega, FewL.sm h1 h2 ks h.2.2⟩
theorem FewL.sm {dg X : Nat} (h1 : dg ≤ X) (h2 : 12 ≤ X) : ∀ (ts : List RP), FewL dg ts → SmL X ts
  | [], _ => by simp [SmL]
  | t :: ts, h => by
    simp only [FewL] at h
    simp only [SmL]
    exact ⟨FewT.sm h1 h2 t h.1, FewL.sm h1 h2 ts h.2⟩
end
/-- four stores into a row of nodes -/
theorem sets4 {w : World} {g k : Nat} {cur : Array Value} (h : Blk w g 32 cur) (a b c d : Value) :
    Blk ((((w.setCell ⟨g, k, none⟩ a).setCell ⟨g, k + 1, none⟩ b).setCell ⟨g, k + 2, none⟩ c).setCell ⟨g, k + 3, none⟩ d) g 32 ((((cur.setIfInBounds k a).setIfInBounds (k + 1) b).setIfInBounds (k + 2) c).setIfInBounds (k + 3) d) ∧
      (∀ j ds, Blk w j 101 ds → Blk ((((w.setCell ⟨g, k, none⟩ a).setCell ⟨g, k + 1, none⟩ b).setCell ⟨g, k + 2, none⟩ c).setCell ⟨g, k + 3, none⟩ d) j 101 ds) ∧
      (∀ j ds, g + 1 ≤ j → Blk w j 32 ds → Blk ((((w.setCell ⟨g, k, none⟩ a).setCell ⟨g, k + 1, none⟩ b).setCell ⟨g, k + 2, none⟩ c).setCell ⟨g, k + 3, none⟩ d) j 32 ds) := by
  have h1 := h.set_ k a
  have h2 := h1.set_ (k + 1) b
  have h3 := h2.set_ (k + 2) c
  obtain ⟨u0, r0⟩ := set_keeps (o := k) (u := a) h
  obtain ⟨u1, r1⟩ := set_keeps (o := k + 1) (u := b) h1
  obtain ⟨u2, r2⟩ := set_keeps (o := k + 2) (u := c) h2
  obtain ⟨u3, r3⟩ := set_keeps (o := k + 3) (u := d) h3
  exact ⟨h3.set_ (k + 3) d, fun j ds hj => u3 _ _ (u2 _ _ (u1 _ _ (u0 _ _ hj))), fun j ds hg hj => r3 _ _ hg (r2 _ _ hg (r1 _ _ hg (r0 _ _ hg hj)))⟩
def CopyRes (t : RP) (w : World) (e : Ending) (w' : World) : Prop := ∃ A c K kc, e = .returned (rval (cpT t) A c K kc) ∧ RB w' w.heap.size (cpT t) (rcell (cpT t) A c K kc) ∧ Below w.heap.size w w'
/-- what holds between two rounds -/
structure CopI (w : World) (t : RP) (g nk k : Nat) (bx : Array Value) (W : World) (cur : Array Value) (rows : List (List Value)) : Prop where
  row : Blk W g 32 cur
  siz : cur.size = nk * 4
  len : rows.length = k
  four : ∀ r ∈ rows, r.length = 4
  at_ : ∀ (j : Nat) (v : Value), rows.flatten[j]? = some v → cur[j]? = some v
  kids : RVs W (OkS W (g + 1)) ((t.ks.take k).map cpT) rows
  bel : Below w.heap.size w W
  par : Blk W w.heap.size 32 bx
  res : Blk W (w.heap.size + 1) 32 #[.int .i64 0, .bool false, .slice none 0 0, .slice none 0 0]
theorem CopI.next {w : World} {t u : RP} {g nk k : Nat} {bx : Array Value} {W W1 W2 : World} {cur : Array Value} {rows : List (List Value)} {A K : Option Addr} {c kc : Nat} (h : CopI w t g nk k bx W cur rows) (hk : k < nk) (hg : w.heap.size + 1 < g) (hu : t.ks[k]? = some u)
    (h1 : Below W.heap.size W W1) (h2 : RB W2 W1.heap.size (cpT u) (rcell (cpT u) A c K kc)) (h3 : Below W1.heap.size W1 W2) :
    ∃ cur', CopI w t g nk (k + 1) bx ((((W2.setCell ⟨g, k * 4, none⟩ (.int .i64 (cpT u).lv)).setCell ⟨g, k * 4 + 1, none⟩ (.bool (cpT u).ng)).setCell ⟨g, k * 4 + 2, none⟩ (.slice A (cpT u).ds.length c)).setCell ⟨g, k * 4 + 3, none⟩ (.slice K (cpT u).ks.length kc)) cur' (rows ++ [rcell (cpT u) A c K kc]) := by
  have hb : Below W.heap.size W W2 := h1.trans (h3.mono h1.size)
  have hrow := h.row.old hb
  obtain ⟨s1, s2, s3⟩ := sets4 (k := k * 4) hrow (.int .i64 (cpT u).lv) (.bool (cpT u).ng) (.slice A (cpT u).ds.length c) (.slice K (cpT u).ks.length kc)
  refine ⟨_, s1, by simp [h.siz], by simp [h.len], fun r hr => ?_, row_set h.four h.len (by rw [h.siz]; omega) h.at_ _ _ _ _, ?_, ?_, ?_, ?_⟩
  · rcases List.mem_append.1 hr with hr | hr
    · exact h.four r hr
    · rw [List.mem_singleton] at hr; rw [hr]; rfl
  · have hl : k < t.ks.length := (List.getElem?_eq_some_iff.1 hu).1
    have e : t.ks[k] = u := (List.getElem?_eq_some_iff.1 hu).2
    rw [List.take_succ_eq_append_getElem hl, List.map_append, e]
    refine RVs.snoc (RBs.keep h.kids (fun j ds hj => s2 _ _ (hj.old hb)) (fun j ds hg' hj => s3 _ _ hg' (hj.old hb)) (Nat.le_refl _)) ?_
    have hgl : g + 1 ≤ W1.heap.size := Nat.le_trans h.row.lt h1.size
    exact RB.keep (RB.mono h2 hgl) s2 s3 (Nat.le_refl _)
  · exact ((((h.bel.trans (hb.mono h.bel.size)).setCell (show w.heap.size ≤ g by omega) _).setCell (show w.heap.size ≤ g by omega) _).setCell (show w.heap.size ≤ g by omega) _).setCell (show w.heap.size ≤ g by omega) _
  · exact ((((h.par.old hb).far (show w.heap.size ≠ g by omega) _).far (show w.heap.size ≠ g by omega) _).far (show w.heap.size ≠ g by omega) _).far (show w.heap.size ≠ g by omega) _
  · exact ((((h.res.old hb).far (show w.heap.size + 1 ≠ g by omega) _).far (show w.heap.size + 1 ≠ g by omega) _).far (show w.heap.size + 1 ≠ g by omega) _).far (show w.heap.size + 1 ≠ g by omega) _
/-- the end: the node is stored into the result's cell -/
theorem CopI.fin {w : World} {t : RP} {g nk : Nat} {bx : Array Value} {W : World} {cur : Array Value} {rows : List (List Value)} (h : CopI w t g nk nk bx W cur rows) (hg : w.heap.size + 1 < g) (hn : t.ks.length = nk) (h0 : t.lv ≠ 0) :
    RB ((((W.setCell ⟨w.heap.size + 1, 0, none⟩ (.int .i64 t.lv)).setCell ⟨w.heap.size + 1, 1, none⟩ (.bool false)).setCell ⟨w.heap.size + 1, 2, none⟩ (.slice none 0 0)).setCell ⟨w.heap.size + 1, 3, none⟩ (.slice (some ⟨g, 0, none⟩) nk nk)) w.heap.size (cpT t) (rcell (cpT t) none 0 (some ⟨g, 0, none⟩) nk) := by
  obtain ⟨s1, s2, s3⟩ := sets4 (k := 0) h.res (.int .i64 t.lv) (.bool false) (.slice none 0 0) (.slice (some ⟨g, 0, none⟩) nk nk)
  have hk := h.kids
  rw [List.take_of_length_le (by omega)] at hk
  have hr := RBs.keep (base' := w.heap.size + 1 + 1) hk s2 (fun j ds hg' hj => s3 j ds (by omega) hj) (by omega)
  have hrow : Blk ((((W.setCell ⟨w.heap.size + 1, 0, none⟩ (.int .i64 t.lv)).setCell ⟨w.heap.size + 1, 1, none⟩ (.bool false)).setCell ⟨w.heap.size + 1, 2, none⟩ (.slice none 0 0)).setCell ⟨w.heap.size + 1, 3, none⟩ (.slice (some ⟨g, 0, none⟩) nk nk)) g 32 cur := s3 g cur (by omega) h.row
  rw [cpT_eq, if_neg h0]
  have := RB.node (l := t.lv) (ks := t.ks.map cpT) (kc := nk) (base := w.heap.size + 1 + 1) (by rw [h.len, List.length_map, hn]) h.four (by omega) hrow h.at_ (by rw [List.length_map, hn]; exact Nat.le_refl _) hr
  exact RB.mono this (by omega)
end Go.Proofs.YtkkliemgidhgmaaGreatDoor
