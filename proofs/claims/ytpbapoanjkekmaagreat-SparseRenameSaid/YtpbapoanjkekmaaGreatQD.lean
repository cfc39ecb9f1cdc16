/- The arguments opened: a monomial. -/
import Derived.Test.YtpbapoanjkekmaaGreatPM
namespace Go.Proofs.YtpbapoanjkekmaaGreat
open Go.ChangeShapes Go.WideShapes Go.ChangeAt Go.RowKit Go.Deep

section
variable {H : Type} {enc : TypeId × Value → H} {W : World}
theorem okWide_arrayM {P : Program} {w : World} {r : Reach} {base : Nat} {t e : TypeId} {n : Nat} {v : Value} (ht : P.underlying t = some (.array n e)) (h : Value.okWide P w r base t v) : ∃ cs, v = .agg cs ∧ cs.size = P.cellsOf t := by
  simp only [Value.okWide, ht] at h
  obtain ⟨cs, h1, h2, _⟩ := h
  exact ⟨cs, h1, h2⟩
set_option maxRecDepth 100000 in
theorem open_monov {base : Nat} {v : Value} {d : DataW H} {p : List MemPlace} (hv : Value.okWide Tryz.prog W .any base 44 v) (h : DataW.Trod enc Tryz.prog W 0 (fun _ => true) true 44 v d p) :
    ∃ a : Mo, WfM a ∧ v = .agg (moV a) := by
  obtain ⟨cs, rfl, hs⟩ := okWide_arrayM Tryz.underlying44 hv
  rw [Tryz.cellsMono] at hs
  obtain ⟨fuel, hf⟩ := h
  obtain ⟨cl⟩ := cs
  match cl, hs, hf with
  | [x0, x1, x2, x3], _, hf =>
    simp only [Value.cells] at hf
    obtain ⟨a, ha, rfl, rfl, rfl, rfl⟩ := open_mono hf
    exact ⟨a, ha, rfl⟩
end
end Go.Proofs.YtpbapoanjkekmaaGreat
