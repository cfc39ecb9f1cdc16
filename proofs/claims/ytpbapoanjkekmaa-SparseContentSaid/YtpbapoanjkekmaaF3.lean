/- The arguments opened: a pair of monomials; an integer. -/
import Derived.Test.YtpbapoanjkekmaaF2
import Derived.Test.YtpbapoanjkekmaaL5
namespace Go.Proofs.Ytpbapoanjkekmaa
open Go.ChangeShapes Go.WideShapes Go.ChangeAt Go.RowKit Go.Deep

theorem Try.cellsTwoM : Try.prog.cellsOf 51 = 8 := by kernel_rfl
section
variable {H : Type} {enc : TypeId × Value → H} {W : World}
theorem okWide_array {P : Program} {w : World} {r : Reach} {base : Nat} {t e : TypeId} {n : Nat} {v : Value} (ht : P.underlying t = some (.array n e)) (h : Value.okWide P w r base t v) : ∃ cs, v = .agg cs ∧ cs.size = P.cellsOf t := by
  simp only [Value.okWide, ht] at h
  obtain ⟨cs, h1, h2, _⟩ := h
  exact ⟨cs, h1, h2⟩
set_option maxRecDepth 100000 in
theorem open_m2 {base : Nat} {v : Value} {d : DataW H} {p : List MemPlace} (hv : Value.okWide Try.prog W .any base 51 v) (h : DataW.Trod enc Try.prog W 0 (fun _ => true) true 51 v d p) :
    ∃ a b : Mo, WfM a ∧ WfM b ∧ v = .agg (twoM a b) := by
  obtain ⟨cs, rfl, hs⟩ := okWide_array Try.underlying51 hv
  rw [Try.cellsTwoM] at hs
  obtain ⟨fuel, hf⟩ := h
  obtain ⟨cl⟩ := cs
  match cl, hs, hf with
  | [x0, x1, x2, x3, x4, x5, x6, x7], _, hf =>
    simp only [Value.cells] at hf
    obtain ⟨xs, n, _, _, _, hxl, hi⟩ := DataW.trod_array Try.underlying51 hf
    have f0 := hi 0 (by omega)
    have f1 := hi 1 (by omega)
    rw [Try.cellsMono, List.getElem?_eq_getElem (by omega)] at f0 f1
    change DataW.trod enc Try.prog W 0 (fun _ => true) true n 33 [x0, x1, x2, x3] = _ at f0
    change DataW.trod enc Try.prog W 0 (fun _ => true) true n 33 [x4, x5, x6, x7] = _ at f1
    obtain ⟨a, ha, rfl, rfl, rfl, rfl⟩ := open_mono f0
    obtain ⟨b, hb, rfl, rfl, rfl, rfl⟩ := open_mono f1
    exact ⟨a, b, ha, hb, rfl⟩
set_option maxRecDepth 100000 in
theorem open_intv {base : Nat} {v : Value} {d : DataW H} {p : List MemPlace} (hv : Value.okWide Try.prog W .any base 31 v) (h : DataW.Trod enc Try.prog W 0 (fun _ => true) true 31 v d p) :
    ∃ (ng : Bool) (ds : List Nat) (A : Option Addr) (c : Nat), v = .agg #[.bool ng, .slice A ds.length c] ∧ NatIn W W.heap.size A c ds := by
  obtain ⟨cs, rfl, hs⟩ := okWide_struct Try.underlying31 hv
  rw [Try.cellsInt] at hs
  obtain ⟨fuel, hf⟩ := h
  obtain ⟨cl⟩ := cs
  match cl, hs, hf with
  | [x0, x1], _, hf =>
    simp only [Value.cells] at hf
    obtain ⟨ng, ds, A, c, rfl, rfl, hn⟩ := open_int2 hf
    exact ⟨ng, ds, A, c, rfl, hn⟩
end
end Go.Proofs.Ytpbapoanjkekmaa
