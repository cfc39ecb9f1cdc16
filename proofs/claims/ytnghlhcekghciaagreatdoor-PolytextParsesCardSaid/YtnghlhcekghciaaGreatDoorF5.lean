/- A list of names, and a text, among the arguments. -/
import Derived.SliceStrings
import Derived.ChangeMaps5
import Derived.Test.YtnghlhcekghciaaGreatDoorF4
import Derived.Test.YtnghlhcekghciaaGreatDoorXH
namespace Go.Proofs.YtnghlhcekghciaaGreatDoor
open Go.ChangeShapes Go.WideShapes Go.ChangeAt Go.RowKit

theorem Tryz.cellsStr : Tryz.prog.cellsOf 9 = 1 := by kernel_rfl
theorem bytes_back (s : ByteArray) : (⟨s.data.toList.toArray⟩ : ByteArray) = s := rfl
theorem open_names {H : Type} {enc : TypeId × Value → H} {W : World} {a0 : Option Addr} {len cap : Nat} {d : DataW H} {p : List MemPlace} (h : DataW.Trod enc Tryz.prog W 0 (fun _ => true) true 22 (.slice a0 len cap) d p) :
    ∃ ls : List Bs, ls.length = len ∧ NArg W W.heap.size a0 cap ls := by
  obtain ⟨fuel, hf⟩ := h
  rcases open_strings Tryz.underlying22 Tryz.underlying9 Tryz.cellsStr hf with ⟨hcs, _⟩ | ⟨a, len', cap', ss, hcs, _, hl, hm, hlen, _, hc, hs⟩
  · simp [Value.cells] at hcs
    obtain ⟨rfl, rfl, rfl⟩ := hcs
    exact ⟨[], rfl, Reads.none_, Nat.le_refl _, by simp [maxLen], by simp⟩
  · simp [Value.cells] at hcs
    obtain ⟨rfl, rfl, rfl⟩ := hcs
    simp only [if_true] at hlen
    have hln : ((ss.take len).map fun s => s.data.toList).length = len := by rw [List.length_map, List.length_take, hlen]; omega
    refine ⟨(ss.take len).map fun s => s.data.toList, hln, ?_, by rw [hln]; exact hl, by rw [hln]; omega, fun l hm' => ?_⟩
    · rw [hln]
      refine ⟨by rw [List.length_map, hln, Nat.mul_one], fun hpos => ?_⟩
      obtain ⟨b, o, spot⟩ := a
      have hspot : spot = none := by simpa [Addr.add] using World.cell?_spot (hc 0 (by omega))
      subst hspot
      have h0 := hc 0 (by omega)
      refine ⟨b, o, rfl, World.block_lt_of_cell? W ⟨b, o, none⟩ h0, fun j u hu => ?_⟩
      have hj : j < len := by have := (List.getElem?_eq_some_iff.1 hu).1; rwa [List.length_map, hln] at this
      have hjz : j < ss.length := by omega
      have := hc j hjz
      rw [Addr.add_lit] at this
      rw [this, ← hu]
      have e1 : ss.getD j ByteArray.empty = ss[j] := by simp [List.getElem?_eq_getElem hjz]
      rw [e1]
      simp [hj, List.getElem?_eq_getElem hjz, strV]
    · obtain ⟨s, hs1, rfl⟩ := List.mem_map.1 hm'
      have := hs s (List.mem_of_mem_take hs1)
      show s.data.toList.length ≤ maxLen
      rw [Array.length_toList]
      exact this
end Go.Proofs.YtnghlhcekghciaaGreatDoor
