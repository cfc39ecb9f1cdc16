/- A map from monomials to ints that the call itself made, seen as a function. -/
import Derived.Test.YtpbapoanjkekmaaM1
import Derived.Maps.Own
import Derived.Maps.OwnOps
import Derived.Maps.OwnSet
import Derived.DeepKeys4
namespace Go.Proofs.Ytpbapoanjkekmaa
open Go.RowKit Go.Maps

def WfI (x : Int) : Prop := -9223372036854775808 ≤ x ∧ x ≤ 9223372036854775807
def WfM (m : Mo) : Prop := WfI m.1 ∧ WfI m.2.1 ∧ WfI m.2.2.1 ∧ WfI m.2.2.2
theorem wf_of {x : Int} (h : WfI x) : (Lit.int .i64 x).wf = true := by
  obtain ⟨h1, h2⟩ := h
  simp [Lit.wf, IntKind.min, IntKind.max, IntKind.signed, IntKind.bits]
  omega

theorem Try.laidOut : laidOutB Try.prog = true := by kernel_rfl
theorem Try.rowMono : (33 : TypeId) < Try.prog.types.size := of_decide_eq_true (by kernel_rfl)
theorem Try.wideMono : (match Try.prog.underlying 33 with | some (.array _ _) | some (.struct _) => true | _ => false) = true := by rw [Try.underlying33]
set_option maxRecDepth 100000 in
theorem Try.keyAt2 : Try.prog.keyTypeAt 2 33 = true := by kernel_rfl
set_option maxRecDepth 100000 in
theorem Try.lawMono : Keyed Try.prog 33 := Keyed.of_law (deep_law_laid Try.laidOut (m := 2) (by decide) Try.rowMono Try.keyAt2 Try.wideMono)
theorem Try.cellsMono : Try.prog.cellsOf 33 = 4 := by kernel_rfl
theorem Try.cellsI : Try.prog.cellsOf 3 = 1 := by kernel_rfl
theorem Try.keyTMono : Try.prog.keyType 33 = true := by kernel_rfl
theorem Try.zeroI (w : World) : (zeroValue 3).run Try.prog w = .ok (.int .i64 0) w := by kernel_rfl
theorem pos_of {a n : Nat} (h : a < n) : ∃ k, n = k + 1 := ⟨n - 1, by omega⟩
set_option maxRecDepth 100000 in
theorem Try.typesPos : ∃ n, Try.prog.types.size = n + 1 := pos_of Try.rowMono

theorem key_ex (m : Mo) (h : WfM m) : ∃ l, keyOf Try.prog 33 (.agg (moV m)) = some l := by
  obtain ⟨h0, h1, h2, h3⟩ := h
  have w0 := wf_of h0; have w1 := wf_of h1; have w2 := wf_of h2; have w3 := wf_of h3
  obtain ⟨n, hn⟩ := Try.typesPos
  have hf : (Value.agg (moV m)).formed Try.prog 33 = true := by simp [Value.formed, Try.underlying33, Try.cellsMono, moV]
  have hr : List.range 4 = [0, 1, 2, 3] := by decide
  refine ⟨.string (keyBytes [.int .i64 m.1, .int .i64 m.2.1, .int .i64 m.2.2.1, .int .i64 m.2.2.2]), ?_⟩
  unfold keyOf
  rw [Try.underlying33]
  simp only [Try.keyTMono, hf, Bool.and_self, if_true, Value.cells]
  unfold moV
  rw [hn]
  unfold Program.keyLits
  rw [Try.underlying33]
  simp only [List.length_cons, List.length_nil, Try.cellsMono, Try.cellsI, hr]
  simp [Program.keyLits, Try.underlying3, w0, w1, w2, w3]
/-- what a monomial reads as -/
noncomputable def klit (m : Mo) : Lit := (keyOf Try.prog 33 (.agg (moV m))).getD .nil
theorem key_lit {m : Mo} (h : WfM m) : keyOf Try.prog 33 (.agg (moV m)) = some (klit m) := by
  obtain ⟨l, hl⟩ := key_ex m h
  rw [hl]
  simp [klit, hl]
theorem klit_inj {m m' : Mo} (h : WfM m) (h' : WfM m') (e : klit m = klit m') : m = m' := by
  have h1 := key_lit h
  have h2 := key_lit h'
  rw [e] at h1
  have := Try.lawMono.inj h1 h2
  simp [moV] at this
  obtain ⟨a, b, c, d⟩ := this
  exact Prod.ext a (Prod.ext b (Prod.ext c d))

def MMap (w : World) (b n : Nat) (f : Mo → Option Nat) : Prop :=
  ∃ D : DataW Unit, w.ownsMap Try.prog 33 (plainElem Try.prog 3) b n D ∧ IsMap D ∧ ∀ m, WfM m → Maps.has D (klit m) = (f m).isSome ∧ D.atKey (klit m) (.lit (.int .i64 0)) = .lit (.int .i64 (((f m).getD 0 : Nat) : Int))

section
variable {w w' : World} {b n : Nat} {f : Mo → Option Nat}
theorem MMap_made (w : World) : MMap (w.alloc (.map #[] 0)) w.heap.size 0 (fun _ => none) :=
  ⟨.map [], World.ownsMap_made w Try.prog 33 _, isMap_empty, fun _ _ => ⟨rfl, rfl⟩⟩
theorem MMap.kept {row : Option Nat} (h : MMap w b n f) (hg : w.grownBy w' row) (hne : some b ≠ row) : MMap w' b n f := by
  obtain ⟨D, h1, h2, h3⟩ := h
  exact ⟨D, h1.kept hg hne, h2, h3⟩
theorem MMap.old (h : MMap w b n f) (hb : Below w.heap.size w w') : MMap w' b n f :=
  h.kept (row := none) ⟨hb.os, hb.tape, hb.output, hb.size, fun k hk _ => hb.block k hk⟩ (by simp)
theorem MMap.set_ (h : MMap w b n f) {a : Addr} (ha : b ≠ a.block) (u : Value) : MMap (w.setCell a u) b n f := by
  obtain ⟨D, h1, h2, h3⟩ := h
  exact ⟨D, h1.setCell ha u, h2, h3⟩
theorem MMap.drewN (h : MMap w b n f) (k : Nat) : MMap (w.drewN k) b n f := h.old ((Drawn.drewN w k).below _)
theorem MMap.mono {n' : Nat} (h : MMap w b n f) (hn : n ≤ n') : MMap w b n' f := by obtain ⟨D, h1, h2, h3⟩ := h; exact ⟨D, h1.mono hn, h2, h3⟩
theorem MMap.lt (h : MMap w b n f) : b < w.heap.size := by obtain ⟨D, h1, _⟩ := h; exact h1.lt
theorem MMap.ne_blk (h : MMap w b n f) {g : Nat} {t : TypeId} {cs : Array Value} (hg : Blk w g t cs) : b ≠ g := by
  rintro rfl
  obtain ⟨D, ⟨es, cl, hb, _⟩, _⟩ := h
  unfold Blk at hg
  rw [hb] at hg
  cases hg
theorem plainElem_int_inv {H : Type} {P : Program} {e : TypeId} (he : P.underlying e = some (.int .i64)) {v : Value} {z : DataW H × List MemPlace} (h : plainElem P e v = some z) : ∃ x, v = .int .i64 x ∧ z = (.lit (.int .i64 x), []) := by
  unfold plainElem at h
  rw [he] at h
  cases v <;> simp at h
  obtain ⟨⟨rfl, _⟩, h⟩ := h
  exact ⟨_, rfl, h.symm⟩
set_option maxRecDepth 100000 in
/-- 'i, ok := m[k]' -/
theorem MMap.look (h : MMap w b n f) {m : Mo} (hm : WfM m) : (Instr.lookup 93 (.map (some b)) (.agg (moV m)) true).run Try.prog w = .ok (.tuple #[.int .i64 (((f m).getD 0 : Nat) : Int), .bool (f m).isSome]) w := by
  obtain ⟨D, h1, h2, h3⟩ := h
  have hz : plainElem (H := Unit) Try.prog 3 (.int .i64 0) = some (.lit (.int .i64 0), []) := plainElem_int Try.underlying3 (wf_of ⟨by omega, by omega⟩)
  obtain ⟨v, ps, hrun, hv⟩ := h1.look_ok Try.lawMono Try.underlying93 (Try.zeroI w) hz (key_lit hm)
  obtain ⟨x, rfl, hx⟩ := plainElem_int_inv Try.underlying3 hv
  obtain ⟨e1, e2⟩ := h3 m hm
  rw [e2] at hx
  injection hx with hx _
  injection hx with hx
  injection hx with _ hx
  rw [hrun, e1, hx]
set_option maxRecDepth 100000 in
/-- 'm[k] = i' -/
theorem MMap.store (h : MMap w b n f) {m : Mo} (hm : WfM m) (hn : n < maxLen) (i : Nat) (hi : i < 1000000) : ∃ w', (Instr.mapUpdate 93 (.map (some b)) (.agg (moV m)) (.int .i64 (i : Int))).run Try.prog w = .ok () w' ∧ MMap w' b (n + 1) (fun x => if x = m then some i else f x) ∧ w.grownBy w' (some b) := by
  obtain ⟨D, h1, h2, h3⟩ := h
  have hz : plainElem (H := Unit) Try.prog 3 (.int .i64 (i : Int)) = some (.lit (.int .i64 (i : Int)), []) := plainElem_int Try.underlying3 (wf_of ⟨by omega, by omega⟩)
  obtain ⟨w', hrun, hown, ht⟩ := h1.store Try.lawMono Try.underlying93 hn (key_lit hm) hz
  refine ⟨w', hrun, ⟨_, hown, h2.put _ _, fun x hx => ?_⟩, ht.grown⟩
  by_cases e : x = m
  · subst e
    have hkl : WideAt.IsKeyLit (klit x) := Try.lawMono.key (key_lit hm)
    rw [has_put_same h2 hkl, atKey_put_same h2 hkl]
    simp
  · have hne : klit x ≠ klit m := fun k => e (klit_inj hx hm k)
    rw [has_put_other hne, atKey_put_other hne]
    simp only [if_neg e]
    exact h3 x hx
end
end Go.Proofs.Ytpbapoanjkekmaa
