/- The arguments opened: a level with a point. -/
import Derived.Test.YtpbapoanjkekmaaGreatPM
namespace Go.Proofs.YtpbapoanjkekmaaGreat
open Go.ChangeShapes Go.WideShapes Go.ChangeAt Go.RowKit Go.Deep

theorem Tryz.cellsPlace : Tryz.prog.cellsOf 50 = 2 := by kernel_rfl
theorem Tryz.cellsRats : Tryz.prog.cellsOf 24 = 1 := by kernel_rfl
section
variable {H : Type} {enc : TypeId × Value → H} {W : World}
set_option maxRecDepth 100000 in
theorem open_place {base : Nat} {v : Value} {d : DataW H} {p : List MemPlace} (hv : Value.okWide Tryz.prog W .any base 50 v) (h : DataW.Trod enc Tryz.prog W 0 (fun _ => true) true 50 v d p) :
    ∃ (x : Int) (a : Option Addr) (cap : Nat) (vs : List QT), v = .agg #[.int .i64 x, .slice a vs.length cap] ∧ RatsIn W W.heap.size a vs := by
  obtain ⟨cs, rfl, hs⟩ := okWide_struct Tryz.underlying50 hv
  rw [Tryz.cellsPlace] at hs
  obtain ⟨fuel, hf⟩ := h
  obtain ⟨cl⟩ := cs
  match cl, hs, hf with
  | [x0, x1], _, hf =>
    simp only [Value.cells] at hf
    obtain ⟨xs, n, _, _, _, hxl, hg⟩ := DataW.trod_struct Tryz.underlying50 hf
    have f0 : DataW.trod enc Tryz.prog W 0 (fun _ => true) true n 3 ((([x0, x1] : List Value).drop 0).take (Tryz.prog.cellsOf 3)) = xs[0]? := hg 0 _ rfl
    have f1 : DataW.trod enc Tryz.prog W 0 (fun _ => true) true n 24 ((([x0, x1] : List Value).drop 1).take (Tryz.prog.cellsOf 24)) = xs[1]? := hg 1 _ rfl
    rw [Tryz.cellsI] at f0
    rw [Tryz.cellsRats] at f1
    change DataW.trod enc Tryz.prog W 0 (fun _ => true) true n 3 [x0] = xs[0]? at f0
    change DataW.trod enc Tryz.prog W 0 (fun _ => true) true n 24 [x1] = xs[1]? at f1
    have l0 : xs[0]? = some (xs[0]'(by simp at hxl; omega)) := List.getElem?_eq_getElem _
    have l1 : xs[1]? = some (xs[1]'(by simp at hxl; omega)) := List.getElem?_eq_getElem _
    rw [l0] at f0
    rw [l1] at f1
    obtain ⟨z, hz, _, _⟩ := DataW.trod_int Tryz.underlying3 f0
    simp at hz
    subst hz
    obtain ⟨vs, a, c, rfl, hr⟩ := open_ratsF f1
    exact ⟨z, a, c, vs, rfl, hr⟩
end
end Go.Proofs.YtpbapoanjkekmaaGreat
