/- The recursive form of canonical terms: what lies in memory. -/
import Derived.Test.YtkkliemgidhgmaaGreatDoorRL
namespace Go.Proofs.YtkkliemgidhgmaaGreatDoor
open Go.RowKit

theorem RT.zero {w : World} {S : Nat → Prop} : RV w S zeroT (rcell zeroT none 0 none 0) := by
  unfold zeroT RV
  exact ⟨none, 0, none, 0, rfl, ⟨rfl, fun hp => absurd hp (Nat.lt_irrefl 0)⟩, by simp [Dig], Nat.zero_le _, Nat.zero_le _, [], ⟨rfl, fun hp => absurd hp (Nat.lt_irrefl 0)⟩, by unfold RVs; rfl⟩
theorem RVs.zeros {w : World} {S : Nat → Prop} : ∀ n : Nat, RVs w S (List.replicate n zeroT) (List.replicate n (rcell zeroT none 0 none 0))
  | 0 => by simp [RVs]
  | n + 1 => by
    simp only [List.replicate_succ, RVs]
    exact ⟨_, _, rfl, RT.zero, RVs.zeros n⟩
theorem made_at (z : Array Value) (n j : Nat) (h : j < n) : (madeCells z n)[j]? = some (z[j % z.size]!) := by
  unfold madeCells
  rw [Array.getElem?_map, Array.getElem?_range, if_pos h]
  rfl
structure BldI (w : World) (g n : Nat) (W : World) (ks : List RP) (cur : Array Value) (rows : List (List Value)) : Prop where
  row : Blk W g 32 cur
  siz : cur.size = n * 4
  kl : ks.length = n
  len : rows.length = n
  four : ∀ r ∈ rows, r.length = 4
  at_ : ∀ (j : Nat) (v : Value), rows.flatten[j]? = some v → cur[j]? = some v
  kids : RVs W (OkS W (g + 1)) ks rows
  bel : Below w.heap.size w W
  res : Blk W w.heap.size 32 #[.int .i64 0, .bool false, .slice none 0 0, .slice none 0 0]
theorem BldI.start {w W : World} {g n : Nat} (hk : Blk W g 32 (madeCells #[.int .i64 0, .bool false, .slice none 0 0, .slice none 0 0] (n * 4))) (hb : Below w.heap.size w W) (hr : Blk W w.heap.size 32 #[.int .i64 0, .bool false, .slice none 0 0, .slice none 0 0]) :
    BldI w g n W (List.replicate n zeroT) (madeCells #[.int .i64 0, .bool false, .slice none 0 0, .slice none 0 0] (n * 4)) (List.replicate n (rcell zeroT none 0 none 0)) := by
  have h4 : ∀ r ∈ List.replicate n (rcell zeroT none 0 none 0), r.length = 4 := fun r hr => by rw [(List.mem_replicate.1 hr).2]; rfl
  refine ⟨hk, size_madeCells _ _, by simp, by simp, h4, fun j v hv => ?_, RVs.zeros n, hb, hr⟩
  have hl := flat4_len h4
  rw [List.length_replicate] at hl
  have hj : j < n * 4 := by have := (List.getElem?_eq_some_iff.1 hv).1; omega
  rw [made_at _ _ _ hj]
  obtain ⟨k, i, hi, rfl⟩ : ∃ k i, i < 4 ∧ j = k * 4 + i := ⟨j / 4, j % 4, Nat.mod_lt _ (by omega), by omega⟩
  rw [flat4 _ h4 k (rcell zeroT none 0 none 0) (by rw [List.getElem?_replicate, if_pos (by omega)]) i hi] at hv
  rcases (by omega : i = 0 ∨ i = 1 ∨ i = 2 ∨ i = 3) with rfl | rfl | rfl | rfl
  all_goals
    rw [← hv]
    simp [rcell, zeroT, RP.lv, RP.ng, RP.ds, RP.ks, Nat.mul_add_mod_self_right]
theorem BldI.put {w : World} {g n : Nat} {W W2 : World} {ks : List RP} {cur : Array Value} {rows : List (List Value)} (h : BldI w g n W ks cur rows) {e : Nat} (he : e < n) (hg : w.heap.size < g) {t : RP} {A K : Option Addr} {c kc : Nat}
    (h2 : RB W2 W.heap.size t (rcell t A c K kc)) (h3 : Below W.heap.size W W2) :
    ∃ cur', BldI w g n ((((W2.setCell ⟨g, e * 4, none⟩ (.int .i64 t.lv)).setCell ⟨g, e * 4 + 1, none⟩ (.bool t.ng)).setCell ⟨g, e * 4 + 2, none⟩ (.slice A t.ds.length c)).setCell ⟨g, e * 4 + 3, none⟩ (.slice K t.ks.length kc)) (ks.set e t) cur' (rows.set e (rcell t A c K kc)) := by
  have hrow := h.row.old h3
  have hgl : g + 1 ≤ W.heap.size := h.row.lt
  obtain ⟨s1, s2, s3⟩ := sets4 (k := e * 4) hrow (.int .i64 t.lv) (.bool t.ng) (.slice A t.ds.length c) (.slice K t.ks.length kc)
  refine ⟨_, s1, by simp [h.siz], by rw [List.length_set]; exact h.kl, by rw [List.length_set]; exact h.len, fun r hr => ?_, row_put h.four (by rw [h.len]; exact he) (by rw [h.siz, h.len]; exact Nat.le_refl _) h.at_ _ _ _ _, ?_, ?_, ?_⟩
  · rcases List.mem_or_eq_of_mem_set hr with k | k
    · exact h.four r k
    · rw [k]; rfl
  · exact RVs.put e (RBs.keep h.kids (fun j ds hj => s2 _ _ (hj.old h3)) (fun j ds hg' hj => s3 _ _ hg' (hj.old h3)) (Nat.le_refl _)) (RB.keep (RB.mono h2 hgl) s2 s3 (Nat.le_refl _))
  · exact ((((h.bel.trans (h3.mono h.bel.size)).setCell (show w.heap.size ≤ g by omega) _).setCell (show w.heap.size ≤ g by omega) _).setCell (show w.heap.size ≤ g by omega) _).setCell (show w.heap.size ≤ g by omega) _
  · exact ((((h.res.old h3).far (show w.heap.size ≠ g by omega) _).far (show w.heap.size ≠ g by omega) _).far (show w.heap.size ≠ g by omega) _).far (show w.heap.size ≠ g by omega) _
theorem BldI.fin {w : World} {g n : Nat} {W : World} {ks : List RP} {cur : Array Value} {rows : List (List Value)} (h : BldI w g n W ks cur rows) (hg : w.heap.size < g) (l : Int) :
    RB ((((W.setCell ⟨w.heap.size, 0, none⟩ (.int .i64 l)).setCell ⟨w.heap.size, 1, none⟩ (.bool false)).setCell ⟨w.heap.size, 2, none⟩ (.slice none 0 0)).setCell ⟨w.heap.size, 3, none⟩ (.slice (some ⟨g, 0, none⟩) n n)) w.heap.size (.mk l false [] ks) (rcell (.mk l false [] ks) none 0 (some ⟨g, 0, none⟩) n) := by
  obtain ⟨s1, s2, s3⟩ := sets4 (k := 0) h.res (.int .i64 l) (.bool false) (.slice none 0 0) (.slice (some ⟨g, 0, none⟩) n n)
  have hr := RBs.keep (base' := w.heap.size + 1) h.kids s2 (fun j ds hg' hj => s3 j ds (by omega) hj) (by omega)
  have hrow : Blk ((((W.setCell ⟨w.heap.size, 0, none⟩ (.int .i64 l)).setCell ⟨w.heap.size, 1, none⟩ (.bool false)).setCell ⟨w.heap.size, 2, none⟩ (.slice none 0 0)).setCell ⟨w.heap.size, 3, none⟩ (.slice (some ⟨g, 0, none⟩) n n)) g 32 cur := s3 g cur (by omega) h.row
  exact RB.mono (RB.node (l := l) (kc := n) (base := w.heap.size + 1) (by rw [h.len, h.kl]) h.four (by omega) hrow h.at_ (by rw [h.kl]; exact Nat.le_refl _) hr) (by omega)
end Go.Proofs.YtkkliemgidhgmaaGreatDoor
