/- Collecting the terms of a tree: the row. -/
import Derived.Test.YtkkliemgidhgmaaGreatDoorRI
import Derived.Test.YtkkliemgidhgmaaGreatDoorG5
namespace Go.Proofs.YtkkliemgidhgmaaGreatDoor
open Go.RowKit

theorem own_geR {w : World} {base size n g : Nat} {e : TypeId} {v : Value} {xs : List Value} (h : w.ownsRow base e size v n xs) (hv : v.ownBlock = some g) : base ≤ g := by
  rcases h.2 with ⟨rfl, _⟩ | ⟨g', cap, cur, rfl, hb, _⟩
  · simp [Value.ownBlock] at hv
  · have : g' = g := by simpa [Value.ownBlock] using hv
    omega
/-- terms that are gathered behind those that were there -/
structure ColI (w : World) (v : Value) (ps : List PT) (base B : Nat) (W : World) (v' : Value) (qs : List PT) : Prop where
  own : W.ownsRow base 118 6 v' (ps ++ qs).length ((ps ++ qs).flatMap PT.cells)
  dg : ∀ q ∈ qs, NatIn W B q.A q.c q.ds
  gro : w.grownBy W v.ownBlock
  row : v'.ownBlock = v.ownBlock ∨ ∃ k, v'.ownBlock = some k ∧ w.heap.size ≤ k
theorem grown_refl (w : World) (r : Option Nat) : w.grownBy w r := ⟨rfl, rfl, rfl, Nat.le_refl _, fun _ _ _ => rfl⟩
theorem grown_old {w W W' : World} {r : Option Nat} (h : w.grownBy W r) (hb : Below W.heap.size W W') : w.grownBy W' r :=
  ⟨hb.os.trans h.os, hb.tape.trans h.tape, hb.output.trans h.output, Nat.le_trans h.size hb.size, fun i hi hn => (hb.block i (Nat.lt_of_lt_of_le hi h.size)).trans (h.block i hi hn)⟩
theorem grown_set {w W : World} {r : Option Nat} (h : w.grownBy W r) {g : Nat} (hg : w.heap.size ≤ g) (o : Nat) (u : Value) : w.grownBy (W.setCell ⟨g, o, none⟩ u) r :=
  ⟨h.os, h.tape, h.output, Nat.le_trans h.size (by simp), fun i hi hn => (Below.heap_setCell W ⟨g, o, none⟩ u i (fun e => by have e : i = g := e; omega)).trans (h.block i hi hn)⟩
theorem ColI.start {w : World} {v : Value} {ps : List PT} {base B : Nat} (h : w.ownsRow base 118 6 v ps.length (ps.flatMap PT.cells)) : ColI w v ps base B w v [] :=
  ⟨by rw [List.append_nil]; exact h, by simp, grown_refl _ _, .inl rfl⟩
section
variable {w W : World} {v v' : Value} {ps qs : List PT} {base B : Nat}
theorem ColI.old (h : ColI w v ps base B W v' qs) {W' : World} (hb : Below W.heap.size W W') (hB : B ≤ W.heap.size) : ColI w v ps base B W' v' qs :=
  ⟨own_old h.own hb, fun q hq => (h.dg q hq).below (hb.mono hB), grown_old h.gro hb, h.row⟩
theorem ColI.set (h : ColI w v ps base B W v' qs) {g : Nat} {t : TypeId} {cs : Array Value} (hg : Blk W g t cs) (ht : 118 ≠ t) (hw : w.heap.size ≤ g) (hB : B ≤ g) (o : Nat) (u : Value) : ColI w v ps base B (W.setCell ⟨g, o, none⟩ u) v' qs := by
  have hne : v'.ownBlock ≠ some g := fun e => own_blk_ne h.own hg ht e.symm
  refine ⟨h.own.kept (row := some g) ⟨rfl, rfl, rfl, by simp, fun j _ hj => Below.heap_setCell W ⟨g, o, none⟩ u j (fun e => hj (by have e : j = g := e; rw [e]))⟩ (.inr hne), fun q hq => (h.dg q hq).below ((Below.refl B W).setCell (p := ⟨g, o, none⟩) hB u), grown_set h.gro hw o u, h.row⟩
theorem ColI.below (h : ColI w v ps base B W v' qs) (hv : w.ownsRow base 118 6 v ps.length (ps.flatMap PT.cells)) (hB : B ≤ base) (hb : base ≤ w.heap.size) : Below B w W :=
  ⟨h.gro.os, h.gro.tape, h.gro.output, h.gro.size, fun k hk => h.gro.block k (by omega) (fun e => by have := own_geR hv e.symm; omega)⟩
theorem ColI.trans {W2 : World} {v2 : Value} {rs : List PT} (h : ColI w v ps base B W v' qs) (h2 : ColI W v' (ps ++ qs) base B W2 v2 rs) (hB : B ≤ base) (hb : base ≤ w.heap.size) : ColI w v ps base B W2 v2 (qs ++ rs) := by
  have hbw := h2.below h.own hB (Nat.le_trans hb h.gro.size)
  refine ⟨by rw [← List.append_assoc]; exact h2.own, fun q hq => ?_, ⟨h2.gro.os.trans h.gro.os, h2.gro.tape.trans h.gro.tape, h2.gro.output.trans h.gro.output, Nat.le_trans h.gro.size h2.gro.size, fun i hi hn => ?_⟩, ?_⟩
  · rcases List.mem_append.1 hq with hq | hq
    · exact (h.dg q hq).below hbw
    · exact h2.dg q hq
  · refine (h2.gro.block i (Nat.lt_of_lt_of_le hi h.gro.size) (fun e => ?_)).trans (h.gro.block i hi hn)
    rcases h.row with r | ⟨k, r, hk⟩
    · exact hn (e.trans r)
    · rw [r] at e
      injection e with e
      omega
  · rcases h2.row with r | ⟨k, r, hk⟩
    · rcases h.row with r' | ⟨k, r', hk⟩
      · exact .inl (r.trans r')
      · exact .inr ⟨k, r.trans r', hk⟩
    · exact .inr ⟨k, r, Nat.le_trans h.gro.size hk⟩
theorem ColI.snoc (h : ColI w v ps base B W v' qs) {W2 : World} {v2 : Value} {q : PT} (ho : W2.ownsRow base 118 6 v2 ((ps ++ qs).length + 1) ((ps ++ qs).flatMap PT.cells ++ q.cells)) (hg : W.grownBy W2 v'.ownBlock) (hr : v2.ownBlock = v'.ownBlock ∨ v2.ownBlock = some W.heap.size) (hq : NatIn W B q.A q.c q.ds) (hB : B ≤ base) (hb : base ≤ w.heap.size) :
    ColI w v ps base B W2 v2 (qs ++ [q]) := by
  have h2 : ColI W v' (ps ++ qs) base B W2 v2 [q] := by
    refine ⟨?_, fun x hx => ?_, hg, hr.imp id fun e => ⟨_, e, Nat.le_refl _⟩⟩
    · rw [List.length_append, List.flatMap_append]
      simpa using ho
    · rw [List.mem_singleton] at hx
      subst hx
      exact hq.below ⟨hg.os, hg.tape, hg.output, hg.size, fun k hk => hg.block k (by have := h.gro.size; omega) (fun e => by have := own_geR h.own e.symm; omega)⟩
  exact h.trans h2 hB hb
end
/-- what collect returns -/
def ColRes (t : RP) (m : Mo) (v : Value) (ps : List PT) (base B : Nat) (w : World) (e : Ending) (w' : World) : Prop := ∃ v' qs, e = .returned v' ∧ ColI w v ps base B w' v' qs ∧ qs.map PT.key = colT t m
end Go.Proofs.YtkkliemgidhgmaaGreatDoor
