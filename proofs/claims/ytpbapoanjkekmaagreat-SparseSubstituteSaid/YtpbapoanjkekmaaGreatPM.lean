/- The arguments opened: a slice of rational numbers that reads as data is a list of rational numbers in memory. -/
import Derived.Test.YtpbapoanjkekmaaGreatF2
import Derived.Test.YtpbapoanjkekmaaGreatPG
namespace Go.Proofs.YtpbapoanjkekmaaGreat
open Go.ChangeShapes Go.WideShapes Go.ChangeAt Go.RowKit Go.Deep

theorem Tryz.cellsRat : Tryz.prog.cellsOf 33 = 3 := by kernel_rfl
section
variable {H : Type} {enc : TypeId × Value → H} {W : World}
theorem open_rat {fuel : Nat} {cs : List Value} {y : DataW H × List MemPlace} (hl : cs.length = 3) (h : DataW.trod enc Tryz.prog W 0 (fun _ => true) true fuel 33 cs = some y) :
    ∃ p : QT, cs = p.cells ∧ NatIn W W.heap.size p.A p.c p.ds ∧ NatIn W W.heap.size p.D p.cd p.es := by
  match cs, hl, h with
  | [x0, x1, x2], _, h =>
    obtain ⟨xs, n, _, _, _, hxl, hf⟩ := DataW.trod_struct Tryz.underlying33 h
    have f0 : DataW.trod enc Tryz.prog W 0 (fun _ => true) true n 31 ((([x0, x1, x2] : List Value).drop 0).take (Tryz.prog.cellsOf 31)) = xs[0]? := hf 0 _ rfl
    have f1 : DataW.trod enc Tryz.prog W 0 (fun _ => true) true n 29 ((([x0, x1, x2] : List Value).drop 2).take (Tryz.prog.cellsOf 29)) = xs[1]? := hf 1 _ rfl
    rw [Tryz.cellsInt] at f0
    rw [Tryz.cellsNat] at f1
    change DataW.trod enc Tryz.prog W 0 (fun _ => true) true n 31 [x0, x1] = xs[0]? at f0
    change DataW.trod enc Tryz.prog W 0 (fun _ => true) true n 29 [x2] = xs[1]? at f1
    have l0 : xs[0]? = some (xs[0]'(by simp at hxl; omega)) := List.getElem?_eq_getElem _
    have l1 : xs[1]? = some (xs[1]'(by simp at hxl; omega)) := List.getElem?_eq_getElem _
    rw [l0] at f0
    rw [l1] at f1
    obtain ⟨ng, ds, A, c, rfl, rfl, hn⟩ := open_int2 f0
    obtain ⟨es, D, cd, rfl, hd⟩ := open_nat f1
    exact ⟨⟨ng, ds, A, c, es, D, cd⟩, rfl, hn, hd⟩
/-- a point among the arguments -/
theorem open_ratsF {fuel : Nat} {v : Value} {y : DataW H × List MemPlace} (h : DataW.trod enc Tryz.prog W 0 (fun _ => true) true fuel 24 [v] = some y) :
    ∃ (ps : List QT) (a0 : Option Addr) (cap : Nat), v = .slice a0 ps.length cap ∧ RatsIn W W.heap.size a0 ps := by
  rcases open_slice Tryz.underlying24 h with ⟨hcs, _⟩ | ⟨a, len, cap, m, n, D, Pl, hcs, _, hl, hm, hmm, _, hi⟩
  · simp at hcs
    subst hcs
    exact ⟨[], none, 0, rfl, ⟨Reads.none_, by simp, by simp⟩⟩
  · simp at hcs
    subst hcs
    simp only [if_true] at hmm
    subst hmm
    have each : ∀ k, k < len → ∃ q : QT, (∀ j u, q.cells[j]? = some u → W.cell? (a.add (k * 3 + j)) = some u) ∧ NatIn W W.heap.size q.A q.c q.ds ∧ NatIn W W.heap.size q.D q.cd q.es := fun k hk => by
      obtain ⟨cs', hc, ht⟩ := hi k (by omega)
      rw [Tryz.cellsRat] at hc
      obtain ⟨_, hcl, hat⟩ := World.cells?_some hc
      obtain ⟨q, rfl, hn, hw⟩ := open_rat hcl ht
      refine ⟨q, fun j u hu => ?_, hn, hw⟩
      have hj : j < 3 := (List.getElem?_eq_some_iff.1 hu).1
      rw [← Go.Deep.add_add, hat j hj]
      exact hu
    obtain ⟨ps, hlen, hp⟩ := exists_list len each
    refine ⟨ps, some a, _, by rw [hlen], ⟨⟨qflat_len ps, fun h0 => ?_⟩, fun q hq => ?_, fun q hq => ?_⟩⟩
    · obtain ⟨b, o, spot⟩ := a
      obtain ⟨q0, hq0⟩ : ∃ q, ps[0]? = some q := ⟨_, List.getElem?_eq_getElem h0⟩
      have c0 := (hp 0 q0 hq0).1 0 _ rfl
      have hspot : spot = none := by simpa [Addr.add] using World.cell?_spot c0
      subst hspot
      have c0' : W.cell? ⟨b, o, none⟩ = some _ := c0
      refine ⟨b, o, rfl, World.block_lt_of_cell? W ⟨b, o, none⟩ c0', fun j u hu => ?_⟩
      have hj : j < ps.length * 3 := by have := (List.getElem?_eq_some_iff.1 hu).1; rwa [qflat_len] at this
      have hq : ps[j / 3]? = some ps[j / 3] := List.getElem?_eq_getElem (by omega)
      have e := qflat_at ps (j / 3) (j % 3) _ hq (by omega)
      have ej : j / 3 * 3 + j % 3 = j := by omega
      rw [ej] at e
      rw [e] at hu
      have := (hp _ _ hq).1 _ u hu
      rw [ej, Addr.add_lit] at this
      exact this
    · obtain ⟨k, hk⟩ := List.mem_iff_getElem?.1 hq
      exact (hp k q hk).2.1
    · obtain ⟨k, hk⟩ := List.mem_iff_getElem?.1 hq
      exact (hp k q hk).2.2
theorem open_rats {a0 : Option Addr} {len cap : Nat} {d : DataW H} {p : List MemPlace} (h : DataW.Trod enc Tryz.prog W 0 (fun _ => true) true 24 (.slice a0 len cap) d p) :
    ∃ ps : List QT, ps.length = len ∧ RatsIn W W.heap.size a0 ps := by
  obtain ⟨fuel, hf⟩ := h
  obtain ⟨ps, a, c, e, hr⟩ := open_ratsF (v := .slice a0 len cap) hf
  simp at e
  obtain ⟨rfl, e2, rfl⟩ := e
  exact ⟨ps, e2.symm, hr⟩
end
end Go.Proofs.YtpbapoanjkekmaaGreat
