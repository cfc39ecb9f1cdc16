/- Short ways to walk a region that draws its order. -/
import Derived.RegionTactic
import Derived.Deep.RegionHeld3
import Derived.KernelRfl
import Derived.Lib.Hide
import Derived.Below
namespace Go.Proofs.YtflikmojaidhhaaGreatDoor
open Go.RowKit

section
variable {α : Type}
theorem sA (l : List α) (i : Nat) (a : α) : l.toArray.setIfInBounds i a = (l.set i a).toArray := List.setIfInBounds_toArray ..
theorem sB (l : List α) (a b : α) : (a :: l).set 0 b = b :: l := List.set_cons_zero ..
theorem sC (l : List α) (x a : α) (n : Nat) : (x :: l).set (n + 1) a = x :: l.set n a := List.set_cons_succ ..
theorem sD (l : List α) (i : Nat) : l.toArray[i]? = l[i]? := List.getElem?_toArray ..
theorem sE (l : List α) (a : α) (i : Nat) : (a :: l)[i + 1]? = l[i]? := List.getElem?_cons_succ ..
theorem sF (l : List α) (a : α) : (a :: l)[0]? = some a := List.getElem?_cons_zero ..
end
section
variable {P : Program} {md : Region.Mode} {ops : Array Oper} {Q : Exit → Act → World → Prop} {S : World → Prop} {fuel : Nat} {listed : Array Bool} {a : Act} {w : World} {o o1 o2 o3 : Oper} {v : Value}
theorem Gh {p : Prop} (h : p) : Hid p := h
theorem tk (i : Nat) (h : wpAnyH P md ops Q S fuel (listed.setIfInBounds i true) (a.put o.dst v) w) (hi : ops[i]? = some o := by simp only [sD, sE, sF]; rfl) (hs : Region.noSelect ops = true := by kernel_rfl) (hf : Region.free md ops listed i = true := by kernel_rfl) (hr : (Region.ready md ops listed).contains i = true := by kernel_rfl)
    (hQ : ∀ c a w, Q (.panic c) (a.put o.dst v) w → Q (.panic c) a w := by exact fun _ _ _ h => h) (hw : Region.wanted o (yielded ops a.tmps) = true := by rfl) (hy : ∀ w, S w → (execOp a.eval o).run P w = .ok (.value v) w := by (intro w0 hSw; (try dsimp only at hSw); go_simp; (first | done | (with_reducible rfl)))) (hS : S w := by assumption) : wpAnyH P md ops Q S (fuel + 1) listed a w :=
  wpAnyH_take hi hs hf hr hQ (.inl ⟨hw, hy⟩) hS h
theorem rd1 (i : Nat) (h : ∀ K' : Act → World → Prop, Shut (∀ a w, S w → (S w → wpAnyH P md ops Q S fuel (listed.setIfInBounds i true) a w) → K' a w) → if Region.wanted o (yielded ops a.tmps) = true then Oper.wp P o a w K' Q else K' (a.put o.dst undef) w) (hr : Region.ready md ops listed = [i] := by kernel_rfl) (ho : ops[i]? = some o := by simp only [sD, sE, sF]; rfl) : wpAnyH P md ops Q S (fuel + 1) listed a w :=
  wpAnyH_ready hr (by simp) (.cons ho h .nil)
theorem rd2 (i j : Nat) (h : ∀ K' : Act → World → Prop, Shut (∀ a w, S w → (S w → wpAnyH P md ops Q S fuel (listed.setIfInBounds i true) a w) → K' a w) → if Region.wanted o (yielded ops a.tmps) = true then Oper.wp P o a w K' Q else K' (a.put o.dst undef) w) (h1 : ∀ K' : Act → World → Prop, Shut (∀ a w, S w → (S w → wpAnyH P md ops Q S fuel (listed.setIfInBounds j true) a w) → K' a w) → if Region.wanted o1 (yielded ops a.tmps) = true then Oper.wp P o1 a w K' Q else K' (a.put o1.dst undef) w) (hr : Region.ready md ops listed = [i, j] := by kernel_rfl) (ho : ops[i]? = some o := by simp only [sD, sE, sF]; rfl) (ho1 : ops[j]? = some o1 := by simp only [sD, sE, sF]; rfl) : wpAnyH P md ops Q S (fuel + 1) listed a w :=
  wpAnyH_ready hr (by simp) (.cons ho h (.cons ho1 h1 .nil))
theorem rd3 (i j k : Nat) (h : ∀ K' : Act → World → Prop, Shut (∀ a w, S w → (S w → wpAnyH P md ops Q S fuel (listed.setIfInBounds i true) a w) → K' a w) → if Region.wanted o (yielded ops a.tmps) = true then Oper.wp P o a w K' Q else K' (a.put o.dst undef) w) (h1 : ∀ K' : Act → World → Prop, Shut (∀ a w, S w → (S w → wpAnyH P md ops Q S fuel (listed.setIfInBounds j true) a w) → K' a w) → if Region.wanted o1 (yielded ops a.tmps) = true then Oper.wp P o1 a w K' Q else K' (a.put o1.dst undef) w) (h2 : ∀ K' : Act → World → Prop, Shut (∀ a w, S w → (S w → wpAnyH P md ops Q S fuel (listed.setIfInBounds k true) a w) → K' a w) → if Region.wanted o2 (yielded ops a.tmps) = true then Oper.wp P o2 a w K' Q else K' (a.put o2.dst undef) w) (hr : Region.ready md ops listed = [i, j, k] := by kernel_rfl) (ho : ops[i]? = some o := by simp only [sD, sE, sF]; rfl) (ho1 : ops[j]? = some o1 := by simp only [sD, sE, sF]; rfl) (ho2 : ops[k]? = some o2 := by simp only [sD, sE, sF]; rfl) : wpAnyH P md ops Q S (fuel + 1) listed a w :=
  wpAnyH_ready hr (by simp) (.cons ho h (.cons ho1 h1 (.cons ho2 h2 .nil)))
theorem rd4 (i j k l : Nat) (h : ∀ K' : Act → World → Prop, Shut (∀ a w, S w → (S w → wpAnyH P md ops Q S fuel (listed.setIfInBounds i true) a w) → K' a w) → if Region.wanted o (yielded ops a.tmps) = true then Oper.wp P o a w K' Q else K' (a.put o.dst undef) w) (h1 : ∀ K' : Act → World → Prop, Shut (∀ a w, S w → (S w → wpAnyH P md ops Q S fuel (listed.setIfInBounds j true) a w) → K' a w) → if Region.wanted o1 (yielded ops a.tmps) = true then Oper.wp P o1 a w K' Q else K' (a.put o1.dst undef) w) (h2 : ∀ K' : Act → World → Prop, Shut (∀ a w, S w → (S w → wpAnyH P md ops Q S fuel (listed.setIfInBounds k true) a w) → K' a w) → if Region.wanted o2 (yielded ops a.tmps) = true then Oper.wp P o2 a w K' Q else K' (a.put o2.dst undef) w) (h3 : ∀ K' : Act → World → Prop, Shut (∀ a w, S w → (S w → wpAnyH P md ops Q S fuel (listed.setIfInBounds l true) a w) → K' a w) → if Region.wanted o3 (yielded ops a.tmps) = true then Oper.wp P o3 a w K' Q else K' (a.put o3.dst undef) w) (hr : Region.ready md ops listed = [i, j, k, l] := by kernel_rfl) (ho : ops[i]? = some o := by simp only [sD, sE, sF]; rfl) (ho1 : ops[j]? = some o1 := by simp only [sD, sE, sF]; rfl) (ho2 : ops[k]? = some o2 := by simp only [sD, sE, sF]; rfl) (ho3 : ops[l]? = some o3 := by simp only [sD, sE, sF]; rfl) : wpAnyH P md ops Q S (fuel + 1) listed a w :=
  wpAnyH_ready hr (by simp) (.cons ho h (.cons ho1 h1 (.cons ho2 h2 (.cons ho3 h3 .nil))))
end
theorem Gb (w : World) (o : Obj) : Below w.heap.size w (w.alloc o) := (Below.refl w.heap.size w).alloc (Nat.le_refl _) o
theorem Gt {u v w : World} (h : Below u.heap.size u v) (k : Below v.heap.size v w) : Below u.heap.size u w := h.trans (k.mono h.size)
abbrev Gc (w : World) (g : Nat) (a b c d : Value) : Prop := w.cell? ⟨g, 0, none⟩ = some a ∧ w.cell? ⟨g, 1, none⟩ = some b ∧ w.cell? ⟨g, 2, none⟩ = some c ∧ w.cell? ⟨g, 3, none⟩ = some d
abbrev Oa := Option Addr
abbrev Gz : Array Value := #[.int .i64 0, .bool false, .slice none 0 0, .slice none 0 0]
abbrev Gy : Array Value := #[.int .i64 0, .int .i64 0, .int .i64 0, .bool false, .slice none 0 0, .slice none 0 0, .slice none 0 0]
theorem Gr (n : Nat) : n ≤ n := Nat.le_refl n
theorem Gl {a b c : Nat} (h : a ≤ b) (k : b ≤ c) : a ≤ c := Nat.le_trans h k
theorem Gm {a b c : Nat} (h : a < b) (k : b ≤ c) : a < c := Nat.lt_of_lt_of_le h k
theorem Gn {α : Type} {l : List α} {i : Nat} (h : i < l.length) : l[i]? = some l[i] := List.getElem?_eq_getElem h
theorem Gi {α : Type} {l : List α} {i : Nat} {a : α} : l[i]? = some a ↔ ∃ h : i < l.length, l[i] = a := List.getElem?_eq_some_iff
theorem Gk {α : Type} {l : List α} {i : Nat} {a : α} (h : l[i]? = some a) : a ∈ l := List.mem_of_getElem? h
end Go.Proofs.YtflikmojaidhhaaGreatDoor
