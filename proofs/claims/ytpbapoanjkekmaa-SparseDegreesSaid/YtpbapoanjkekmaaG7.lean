/- Words for polynomials that a call hands back; the first loop of gather.poly. -/
import Derived.Test.YtpbapoanjkekmaaG6
namespace Go.Proofs.Ytpbapoanjkekmaa
open Go.RowKit

/-- a row of terms that the call itself has made -/
structure POwn (w : World) (base : Nat) (v : Value) (ps : List PT) : Prop where
  row : w.ownsRow base 35 6 v ps.length (ps.flatMap PT.cells)
  dg : ∀ p ∈ ps, NatB w p.A p.ds ∧ p.ds.length ≤ p.c
  cn : ∀ p ∈ ps, Cn p
theorem POwn.nil (w : World) (base : Nat) : POwn w base (.slice none 0 0) [] := ⟨⟨rfl, .inl ⟨rfl, rfl⟩⟩, fun _ h => by simp at h, fun _ h => by simp at h⟩
theorem POwn.old {w w' : World} {base : Nat} {v : Value} {ps : List PT} (h : POwn w base v ps) (hb : Below w.heap.size w w') : POwn w' base v ps := ⟨own_old h.row hb, fun p hp => ⟨(h.dg p hp).1.old hb, (h.dg p hp).2⟩, h.cn⟩
theorem POwn.mono {w : World} {base base' : Nat} {v : Value} {ps : List PT} (h : POwn w base v ps) (hb : base' ≤ base) : POwn w base' v ps := ⟨⟨h.row.1, h.row.2.imp id fun ⟨g, cap, cur, h1, h2, h3⟩ => ⟨g, cap, cur, h1, Nat.le_trans hb h2, h3⟩⟩, h.dg, h.cn⟩
theorem POwn.nin {w : World} {base : Nat} {v : Value} {ps : List PT} (h : POwn w base v ps) {p : PT} (hp : p ∈ ps) : NatIn w w.heap.size p.A p.c p.ds := by
  obtain ⟨h1, h2⟩ := h.dg p hp
  have e := (h.cn p hp).ds
  exact ⟨h1.reads, by rw [e]; exact dig_dig _, h2⟩
theorem POwn.polyIn {w : World} {base c n : Nat} {A : Option Addr} {ps : List PT} (h : POwn w base (.slice A n c) ps) : PolyIn w w.heap.size A ps := by
  refine ⟨?_, fun p hp => h.nin hp⟩
  obtain ⟨A', c', e⟩ := own_slice6 h.row
  injection e with e1 e2 e3
  subst e1; subst e2; subst e3
  exact Reads.of_own h.row
def PolyRes (F : Mo → Int) (N : Nat) (w : World) (e : Ending) (w' : World) : Prop :=
  ∃ A c ps, e = .returned (.slice A ps.length c) ∧ POwn w' w.heap.size (.slice A ps.length c) ps ∧ Canon (ps.map PT.tm) ∧ (∀ m, cf (ps.map PT.tm) m = F m) ∧ ps.length ≤ N ∧ Below w.heap.size w w'

theorem box6 (w : World) (t : TypeId) (z0 z1 z2 z3 z4 z5 a0 a1 a2 a3 a4 a5 : Value) (X : World)
    (hX : X = ((((((w.alloc (.cells #[z0, z1, z2, z3, z4, z5] t)).setCell ⟨w.heap.size, 0, none⟩ a0).setCell ⟨w.heap.size, 1, none⟩ a1).setCell ⟨w.heap.size, 2, none⟩ a2).setCell ⟨w.heap.size, 3, none⟩ a3).setCell ⟨w.heap.size, 4, none⟩ a4).setCell ⟨w.heap.size, 5, none⟩ a5) :
    Blk X w.heap.size t #[a0, a1, a2, a3, a4, a5] ∧ Below w.heap.size w X ∧ X.heap.size = w.heap.size + 1 := by
  subst hX
  refine ⟨((((((Blk.new w t #[z0, z1, z2, z3, z4, z5]).set_ 0 a0).set_ 1 a1).set_ 2 a2).set_ 3 a3).set_ 4 a4).set_ 5 a5, ?_, by simp⟩
  exact ((((((((Below.refl w.heap.size w).alloc (Nat.le_refl _) _).setCell (Nat.le_refl _) _).setCell (Nat.le_refl _) _).setCell (Nat.le_refl _) _).setCell (Nat.le_refl _) _).setCell (Nat.le_refl _) _).setCell (Nat.le_refl _) _)

def keepT (p : PT) : Bool := !decide (p.tm.1 = 0)
def flt (ps : List PT) (k : Nat) : List PT := (ps.take k).filter keepT
theorem flt_yes {ps : List PT} {k : Nat} {p : PT} (hk : ps[k]? = some p) (h : p.tm.1 ≠ 0) : flt ps (k + 1) = flt ps k ++ [p] := by
  have hl : k < ps.length := (List.getElem?_eq_some_iff.1 hk).1
  have e : ps[k] = p := (List.getElem?_eq_some_iff.1 hk).2
  unfold flt
  rw [List.take_succ_eq_append_getElem hl, List.filter_append, e]
  simp [keepT, h]
theorem flt_no {ps : List PT} {k : Nat} {p : PT} (hk : ps[k]? = some p) (h : p.tm.1 = 0) : flt ps (k + 1) = flt ps k := by
  have hl : k < ps.length := (List.getElem?_eq_some_iff.1 hk).1
  have e : ps[k] = p := (List.getElem?_eq_some_iff.1 hk).2
  unfold flt
  rw [List.take_succ_eq_append_getElem hl, List.filter_append, e]
  simp [keepT, h]
theorem flt_len (ps : List PT) (k : Nat) : (flt ps k).length ≤ k := Nat.le_trans (List.length_filter_le _ _) (by simp; omega)
end Go.Proofs.Ytpbapoanjkekmaa
