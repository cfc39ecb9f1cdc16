/- What the sort leaves of a row of terms. -/
import Derived.Test.YtpbapoanjkekmaaG8
namespace Go.Proofs.Ytpbapoanjkekmaa
open Go.RowKit Go.Sort Go.Shelf Go.Lib

theorem getE_some {α : Type} [Inhabited α] {a : Array α} {i : Nat} {x : α} (h : a[i]? = some x) : a[i]! = x := by
  rw [getElem!_def, h]
theorem flatK_eq (ps : List PT) : (flatK PT.cells 6 ps.toArray).toList = ps.flatMap PT.cells := by
  apply List.ext_getElem?
  intro t
  by_cases h : t < ps.length * 6
  · have hlt : t / 6 < ps.length := by omega
    have h1 := get_flatK PT.cells 6 ps.toArray t (by simpa using h)
    have hp : ps[t / 6]? = some ps[t / 6] := List.getElem?_eq_getElem hlt
    have h2 := flat_at ps (t / 6) (t % 6) _ hp (by omega)
    have e : t / 6 * 6 + t % 6 = t := by omega
    rw [e] at h2
    rw [h2]
    have hs : t < (flatK PT.cells 6 ps.toArray).size := by simpa using h
    rw [Array.getElem?_toList, Array.getElem?_eq_getElem hs]
    rw [getElem!_pos _ t hs] at h1
    rw [h1]
    have e2 : ps.toArray[t / 6]! = ps[t / 6] := by simp [hlt]
    rw [e2]
    have hl : t % 6 < ps[t / 6].cells.length := by rw [cells_len]; omega
    rw [List.getElem?_eq_getElem hl, getElem!_pos _ (t % 6) hl]
  · rw [List.getElem?_eq_none (by simp; omega), List.getElem?_eq_none (by rw [flat_len]; omega)]
theorem heap_sortW {w : World} {g n : Nat} {os : Array Obj} {e : TypeId} {cur : Array Value} (ps : List PT) (hb : Blk w g e cur) : Blk (sortWorldK PT.cells 6 w g 0 n ps.toArray os) g e (putCells id 0 (flatK PT.cells 6 ps.toArray) cur) := by
  have hl := hb.lt
  unfold Blk at *
  unfold sortWorldK putRowK putRow
  rw [heap_grow_old _ _ (by simpa [mapBlock, ahead] using hl)]
  simp [mapBlock, Array.getElem?_modify, hb, onCells]
theorem far_sortW {w : World} {g n k : Nat} {os : Array Obj} (ps : List PT) (hk : k < w.heap.size) (hne : k ≠ g) : (sortWorldK PT.cells 6 w g 0 n ps.toArray os).heap[k]? = w.heap[k]? := by
  unfold sortWorldK putRowK putRow
  rw [heap_grow_old _ _ (by simpa [mapBlock, ahead] using hk)]
  have : g ≠ k := fun e => hne e.symm
  simp [mapBlock, Array.getElem?_modify, this]
theorem size_sortW (w : World) (g n : Nat) (os : Array Obj) (ps : List PT) : w.heap.size ≤ (sortWorldK PT.cells 6 w g 0 n ps.toArray os).heap.size := by
  unfold sortWorldK putRowK putRow
  rw [size_grow]
  simp [mapBlock]
theorem below_sortW {w : World} {base g n : Nat} {os : Array Obj} (ps : List PT) (hb : base ≤ w.heap.size) (hg : base ≤ g) : RowKit.Below base w (sortWorldK PT.cells 6 w g 0 n ps.toArray os) :=
  ⟨rfl, rfl, rfl, size_sortW .., fun _ hk => far_sortW ps (by omega) (by omega)⟩
theorem take_putK (cur : Array Value) (F : Array Value) (h : F.size ≤ cur.size) : (putCells id 0 F cur).toList.take F.size = F.toList := by
  apply List.ext_getElem?
  intro j
  by_cases hj : j < F.size
  · rw [List.getElem?_take_of_lt hj, Array.getElem?_toList]
    simp [putCells, hj, show j < cur.size by omega]
  · rw [List.getElem?_take_eq_none (by omega), List.getElem?_eq_none (by simp; omega)]
theorem own_sortW {w : World} {base g cap n : Nat} {os : Array Obj} {ps ps' : List PT} (hl : ps'.length = ps.length) (h : w.ownsRow base 35 6 (.slice (some ⟨g, 0, none⟩) ps.length cap) ps.length (ps.flatMap PT.cells)) :
    (sortWorldK PT.cells 6 w g 0 n ps'.toArray os).ownsRow base 35 6 (.slice (some ⟨g, 0, none⟩) ps'.length cap) ps'.length (ps'.flatMap PT.cells) := by
  obtain ⟨h0, h⟩ := h
  rcases h with ⟨h, _⟩ | ⟨g', cap', cur, hv, hb, hh, h1, h2, h3, h4⟩
  · cases h
  · injection hv with hv _ hc
    injection hv with hv
    injection hv with hv
    subst hv; subst hc
    have hF : (flatK PT.cells 6 ps'.toArray).size = ps'.length * 6 := by simp
    refine ⟨flat_len ps', .inr ⟨g, cap, _, rfl, hb, heap_sortW ps' hh, by omega, h2, by simp [putCells, h3], ?_⟩⟩
    have hle : ps'.length * 6 ≤ cap * 6 := by rw [hl]; exact Nat.mul_le_mul_right 6 h1
    rw [← flatK_eq, ← hF]
    exact take_putK cur _ (by rw [hF, h3]; exact hle)
theorem holds_own {w : World} {base g cap : Nat} {ps : List PT} (h : w.ownsRow base 35 6 (.slice (some ⟨g, 0, none⟩) ps.length cap) ps.length (ps.flatMap PT.cells)) : HoldsK PT.cells 6 w g 0 ps.toArray := by
  obtain ⟨cur, hk, _, _, hc⟩ := own_blk h
  intro j hj
  have hs : j < (flatK PT.cells 6 ps.toArray).size := hj
  refine ⟨?_, hk.frozen _⟩
  rw [hk.cell, Nat.zero_add]
  refine hc j _ ?_
  rw [← flatK_eq, Array.getElem?_toList, Array.getElem?_eq_getElem hs, id_eq, getElem!_pos _ j hs]
theorem perm_in {ps : List PT} {d' : Array PT} (h : PermIn 0 ps.toArray.size ps.toArray d') : d'.toList.Perm ps ∧ d'.size = ps.length := by
  obtain ⟨h1, _, h3⟩ := h
  refine ⟨?_, by simpa using h1⟩
  have e1 : (d'.extract 0 ps.toArray.size).toList = d'.toList := by rw [← h1]; simp
  have e2 : (ps.toArray.extract 0 ps.toArray.size).toList = ps := by simp
  rw [e1, e2] at h3
  exact h3
theorem sorted_in {ps : List PT} {d' : Array PT} (hs : d'.size = ps.length) (h : SortedIn (ltOf cfT) 0 ps.toArray.size d') : (d'.toList.map PT.tm).Pairwise fun s t => ¬ ltM s.2 t.2 := by
  rw [List.pairwise_iff_getElem]
  intro i j hi hj hij
  have hi' : i < d'.size := by simpa using hi
  have hj' : j < d'.size := by simpa using hj
  have := h i j (Nat.zero_le _) hij (by simp; omega)
  rw [ltT, getElem!_pos _ i hi', getElem!_pos _ j hj'] at this
  simp only [decide_eq_false_iff_not] at this
  simpa [PT.tm] using this
end Go.Proofs.Ytpbapoanjkekmaa
