/- Contracts of sparse.newGather and gather.add. -/
import Derived.Test.YtpbapoanjkekmaaG1
import Derived.StillTailTactics
import Derived.RangeFuncOwn
namespace Go.Proofs.Ytpbapoanjkekmaa
open Go.RowKit
attribute [local go_sem ↓] Go.wp_at_zero Go.wp_at_succ

theorem GAt.new (w : World) : GAt ((w.alloc (.map #[] 0)).alloc (.cells #[.map (some w.heap.size), .slice none 0 0] 95)) w.heap.size (w.heap.size + 1) w.heap.size (.slice none 0 0) [] where
  gb := by have := Blk.new (w.alloc (.map #[] 0)) 95 #[.map (some w.heap.size), .slice none 0 0]; simpa using this
  mp := ⟨_, (MMap_made w).old ((Below.refl _ _).alloc (Nat.le_refl _) _), fun m i h => by simp at h, fun m _ p hp => by simp at hp⟩
  row := ⟨by simp, .inl ⟨rfl, rfl⟩⟩
  dg p hp := by simp at hp
  cn p hp := by simp at hp
  lg := by omega
  lm := Nat.le_refl _
def NewRes (w : World) (e : Ending) (w' : World) : Prop := ∃ g mb, e = .returned (.pointer (some ⟨g, 0, none⟩)) ∧ GAt w' w.heap.size g mb (.slice none 0 0) [] ∧ Below w.heap.size w w'
theorem newG_any (w : World) : Calls Try.prog 47 #[] w (NewRes w) := by
  have hmm := @run_makeMap Try.prog
  have hg := Lib.hid (GAt.new w)
  have hb := Lib.hid (((Below.refl w.heap.size w).alloc (Nat.le_refl _) (.map #[] 0)).alloc (by simp) (.cells #[.map (some w.heap.size), .slice none 0 0] 95))
  go_enter Try.func47, Try.ntmps47
  go_wp2
  go_ret
  exact ⟨_, _, rfl, hg.out, hb.out⟩

/-- every block of cells but the gather's own is left alone, and does not become its own -/
def FarT (g : Nat) (v v' : Value) (w w' : World) : Prop := ∀ k t cs, Blk w k t cs → k ≠ g → v.ownBlock ≠ some k → Blk w' k t cs ∧ v'.ownBlock ≠ some k
/-- every block that holds no cells, but the gather's map, is left alone -/
def OthT (mb : Nat) (w w' : World) : Prop := ∀ (k : Nat) (o : Obj), w.heap[k]? = some o → o.isCells = false → k ≠ mb → w'.heap[k]? = some o
section
variable {mb : Nat} {w V V' : World}
theorem OthT.of_below (h : Below w.heap.size w V) : OthT mb w V := fun k _ hk _ _ => (h.block k (Array.getElem?_eq_some_iff.1 hk).1).trans hk
theorem OthT.below (h : OthT mb w V) (hb : Below V.heap.size V V') : OthT mb w V' := fun k o hk ho hm => (hb.block k (Array.getElem?_eq_some_iff.1 (h k o hk ho hm)).1).trans (h k o hk ho hm)
theorem OthT.alloc (h : OthT mb w V) (o : Obj) : OthT mb w (V.alloc o) := h.below ((Below.refl _ _).alloc (Nat.le_refl _) _)
theorem OthT.set (h : OthT mb w V) {g : Nat} {t : TypeId} {cs : Array Value} (hb : Blk V g t cs) (i : Nat) (u : Value) : OthT mb w (V.setCell ⟨g, i, none⟩ u) := fun k o hk ho hm => by
  have h1 := h k o hk ho hm
  have hne : k ≠ g := by
    rintro rfl
    unfold Blk at hb
    rw [hb] at h1
    cases h1
    cases ho
  exact (Below.heap_setCell V ⟨g, i, none⟩ u k hne).trans h1
theorem OthT.map_ (h : OthT mb w V) (hg : V.grownBy V' (some mb)) : OthT mb w V' := fun k o hk ho hm =>
  (hg.block k (Array.getElem?_eq_some_iff.1 (h k o hk ho hm)).1 (fun e => hm (by injection e))).trans (h k o hk ho hm)
theorem OthT.own (h : OthT mb w V) {base n size : Nat} {e : TypeId} {v : Value} {xs : List Value} (hg : V.grownBy V' v.ownBlock) (hr : V.ownsRow base e size v n xs) : OthT mb w V' := fun k o hk ho hm => by
  have h1 := h k o hk ho hm
  refine (hg.block k (Array.getElem?_eq_some_iff.1 h1).1 (fun e' => ?_)).trans h1
  rcases hr.2 with ⟨rfl, _⟩ | ⟨g', cap, cur, rfl, _, hh, _⟩
  · simp [Value.ownBlock] at e'
  · have : k = g' := by simpa [Value.ownBlock] using e'
    subst this
    rw [hh] at h1
    cases h1
    cases ho
end
/-- what adding a term leaves -/
def AddRes (base g mb : Nat) (v0 : Value) (ts : List Tm) (w : World) (e : Ending) (w' : World) : Prop :=
  e = .returned (.tuple #[]) ∧ ∃ v ps, GAt w' base g mb v ps ∧ GInv ts (ps.map PT.tm) ∧ GTurn base w w' ∧ FarT g v0 v w w' ∧ OthT mb w w'

theorem GAt.old {w w' : World} {base g mb : Nat} {v : Value} {ps : List PT} (h : GAt w base g mb v ps) (hb : Below w.heap.size w w') : GAt w' base g mb v ps where
  gb := h.gb.old hb
  mp := by obtain ⟨f, h1, h2⟩ := h.mp; exact ⟨f, h1.old hb, h2⟩
  row := h.row.kept ⟨hb.os, hb.tape, hb.output, hb.size, fun k hk _ => hb.block k hk⟩ (row := none) (by cases v.ownBlock <;> simp)
  dg p hp := ⟨(h.dg p hp).1.old hb, (h.dg p hp).2⟩
  cn := h.cn
  lg := h.lg
  lm := h.lm

set_option maxHeartbeats 1000000 in
theorem gadd_neg (base g mb : Nat) (v : Value) (ts : List Tm) (ps : List PT) (m : Mo) (ng : Bool) (A : Option Addr) (c : Nat) (ds : List Nat) (w : World) (hG : GAt w base g mb v ps) (hI : GInv ts (ps.map PT.tm)) (hb : base ≤ w.heap.size) (hv : vld m = false) :
    Calls Try.prog 48 #[.pointer (some ⟨g, 0, none⟩), .agg (moV m), .agg #[.bool ng, .slice A ds.length c]] w (AddRes base g mb v (ts ++ [(ival ng ds, m)]) w) := by
  have HI := Lib.hid (hI.skip hv (ival ng ds))
  have hn := fun W => neg_any m W
  rw [hv] at hn
  generalize ts ++ [(ival ng ds, m)] = ts' at *
  have HN := Lib.hid hn
  clear hv hI
  have HX := Lib.hid (boxes2 w 33 31 (moV m) #[.bool ng, .slice A ds.length c])
  clear hn
  unfold moV at *
  generalize m.1 = m0 at *
  generalize m.2.1 = m1 at *
  generalize m.2.2.1 = m2 at *
  generalize m.2.2.2 = m3 at *
  go_enter Try.func48, Try.ntmps48
  go_wp2_with fail
  generalize (w.alloc (.cells #[.int .i64 m0, .int .i64 m1, .int .i64 m2, .int .i64 m3] 33)).alloc (.cells #[.bool ng, .slice A ds.length c] 31) = W at *
  obtain ⟨hb0, k0, k1, hs⟩ := HX.out
  clear hs HX
  refine (HN.out _).mono ?_
  rintro e W1 ⟨rfl, hl⟩
  have hlb := hb0.trans (hl.below.mono hb0.size)
  go_wp2_with fail
  go_end0
  exact ⟨rfl, v, ps, hG.old hlb, HI.out, .of_below hb hlb, fun k t cs h1 _ h3 => ⟨h1.old hlb, h3⟩, .of_below hlb⟩
end Go.Proofs.Ytpbapoanjkekmaa
