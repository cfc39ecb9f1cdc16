/- A map from strings to bools that the call itself made, seen as a function. -/
import Derived.Test.YtlfjpfbkkbhhjaaDoorMem2
import Derived.Maps.Own
import Derived.Maps.OwnOps
import Derived.Maps.OwnSet
namespace Go.Proofs.YtlfjpfbkkbhhjaaDoor
open Go.RowKit Go.Maps

def BMap (P : Program) (ks eb : TypeId) (w : World) (b n : Nat) (f : List UInt8 → Option Bool) : Prop :=
  ∃ D : DataW Unit, w.ownsMap P ks (plainElem P eb) b n D ∧ IsMap D ∧ ∀ s, Maps.has D (.string s) = (f s).isSome ∧ D.atKey (.string s) (.lit (.bool false)) = .lit (.bool ((f s).getD false))

section
variable {P : Program} {ks eb : TypeId} {w w' : World} {b n : Nat} {f : List UInt8 → Option Bool}
theorem BMap_made (P : Program) (ks eb : TypeId) (w : World) : BMap P ks eb (w.alloc (.map #[] 0)) w.heap.size 0 (fun _ => none) :=
  ⟨.map [], World.ownsMap_made w P ks _, isMap_empty, fun _ => ⟨rfl, rfl⟩⟩
theorem BMap.kept {row : Option Nat} (h : BMap P ks eb w b n f) (hg : w.grownBy w' row) (hne : some b ≠ row) : BMap P ks eb w' b n f := by
  obtain ⟨D, h1, h2, h3⟩ := h
  exact ⟨D, h1.kept hg hne, h2, h3⟩
theorem BMap.old (h : BMap P ks eb w b n f) (hb : Below w.heap.size w w') : BMap P ks eb w' b n f :=
  h.kept (row := none) ⟨hb.os, hb.tape, hb.output, hb.size, fun k hk _ => hb.block k hk⟩ (by simp)
theorem BMap.alloc (h : BMap P ks eb w b n f) (o : Obj) : BMap P ks eb (w.alloc o) b n f := h.kept (World.grownBy_alloc w o none) (by simp)
theorem BMap.mono {n' : Nat} (h : BMap P ks eb w b n f) (hn : n ≤ n') : BMap P ks eb w b n' f := by obtain ⟨D, h1, h2, h3⟩ := h; exact ⟨D, h1.mono hn, h2, h3⟩
theorem BMap.lt (h : BMap P ks eb w b n f) : b < w.heap.size := by obtain ⟨D, h1, _⟩ := h; exact h1.lt
theorem plainElem_bool_inv {H : Type} {e : TypeId} (he : P.underlying e = some .bool) {v : Value} {z : DataW H × List MemPlace} (h : plainElem P e v = some z) : ∃ x, v = .bool x ∧ z = (.lit (.bool x), []) := by
  unfold plainElem at h
  rw [he] at h
  cases v <;> simp at h
  exact ⟨_, rfl, h.symm⟩
theorem key_str (hk : P.underlying ks = some .string) (s : List UInt8) (hs : s.length ≤ maxLen) : keyOf P ks (.string ⟨s.toArray⟩) = some (.string s) := by
  have := WideMaps.keyOf_string_mk (P := P) (k := ks) hk (s := ⟨s.toArray⟩) (by simpa [ByteArray.size] using hs)
  simpa using this
end

section
variable {P : Program} {ks eb : TypeId} (w : World) {ops : Array Oper} {rest : List Oper} {o : Oper} {a : Act} {Q : Exit → Act → World → Prop}
theorem wpList_blookup_ok (hg : o.guard = none) (m x : Operand) (t : TypeId) (hop : o.op = Op.lookup t m x true) (ht : P.underlying t = some (.map ks eb)) (hks : P.underlying ks = some .string) (heb : P.underlying eb = some .bool)
    (hz : (zeroValue eb).run P w = .ok (.bool false) w) (b n : Nat) (f : List UInt8 → Option Bool) (hm : a.eval m = .map (some b)) (hown : BMap P ks eb w b n f) (s : List UInt8) (hs : s.length ≤ maxLen) (hx : a.eval x = .string ⟨s.toArray⟩)
    (hK : wpList P ops Q rest (a.put o.dst (.tuple #[.bool ((f s).getD false), .bool (f s).isSome])) w) : wpList P ops Q (o :: rest) a w := by
  obtain ⟨D, h1, h2, h3⟩ := hown
  refine wpList_lookup_own_ok w hg m x t hop ks eb (string_keyed hks) ht (plainElem P eb) hz (.lit (.bool false)) [] (plainElem_bool heb false) b n D hm h1 _ (.string s) hx (key_str hks s hs) fun v ps hv => ?_
  obtain ⟨y, rfl, hy⟩ := plainElem_bool_inv heb hv
  obtain ⟨e1, e2⟩ := h3 s
  rw [e2] at hy
  injection hy with hy _
  injection hy with hy
  injection hy with hy
  rw [e1, ← hy]
  exact hK
theorem wpList_blookup (hg : o.guard = none) (m x : Operand) (t : TypeId) (hop : o.op = Op.lookup t m x false) (ht : P.underlying t = some (.map ks eb)) (hks : P.underlying ks = some .string) (heb : P.underlying eb = some .bool)
    (hz : (zeroValue eb).run P w = .ok (.bool false) w) (b n : Nat) (f : List UInt8 → Option Bool) (hm : a.eval m = .map (some b)) (hown : BMap P ks eb w b n f) (s : List UInt8) (hs : s.length ≤ maxLen) (hx : a.eval x = .string ⟨s.toArray⟩) (r : Bool) (hr : (f s).getD false = r)
    (hK : wpList P ops Q rest (a.put o.dst (.bool r)) w) : wpList P ops Q (o :: rest) a w := by
  obtain ⟨D, h1, h2, h3⟩ := hown
  refine wpList_plain hg fun K' hK' => ?_
  obtain ⟨v, ps, hrun, hv⟩ := h1.lookup (string_keyed hks) ht hz (plainElem_bool heb false) (key_str hks s hs)
  obtain ⟨y, rfl, hy⟩ := plainElem_bool_inv heb hv
  obtain ⟨e1, e2⟩ := h3 s
  rw [e2] at hy
  injection hy with hy _
  injection hy with hy
  injection hy with hy
  unfold Oper.wp
  simp [execOp, hop, hm, hx, hrun, Result.andThen]
  rw [← hy, hr]
  exact hK' _ _ hK
theorem wpList_bupdate (hg : o.guard = none) (m x v : Operand) (t : TypeId) (hop : o.op = Op.mapUpdate t m x v) (ht : P.underlying t = some (.map ks eb)) (hks : P.underlying ks = some .string) (heb : P.underlying eb = some .bool)
    (b n : Nat) (f : List UInt8 → Option Bool) (hm : a.eval m = .map (some b)) (hown : BMap P ks eb w b n f) (hn : n < maxLen) (s : List UInt8) (hs : s.length ≤ maxLen) (y : Bool) (hx : a.eval x = .string ⟨s.toArray⟩) (hv : a.eval v = .bool y)
    (hK : ∀ w', BMap P ks eb w' b (n + 1) (fun u => if u = s then some y else f u) → w.grownBy w' (some b) → wpList P ops Q rest (a.put o.dst undef) w') : wpList P ops Q (o :: rest) a w := by
  obtain ⟨D, h1, h2, h3⟩ := hown
  refine wpList_mapUpdate_own w hg m x v t hop ks eb (string_keyed hks) ht (plainElem P eb) b n D hm h1 hn _ _ (.string s) hx hv (key_str hks s hs) (.lit (.bool y)) [] (plainElem_bool heb y) fun w' hw' hgr => hK w' ⟨_, hw', h2.put _ _, fun u => ?_⟩ hgr
  by_cases hu : u = s
  · subst hu
    have hkl : WideAt.IsKeyLit (Lit.string u) := by simp [WideAt.IsKeyLit]
    rw [has_put_same h2 hkl, atKey_put_same h2 hkl]
    simp
  · have hne : (Lit.string u) ≠ .string s := fun e => hu (by injection e)
    rw [has_put_other hne, atKey_put_other hne]
    simp only [if_neg hu]
    exact h3 u
end
end Go.Proofs.YtlfjpfbkkbhhjaaDoor
