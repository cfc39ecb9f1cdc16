/- Rows of matrices while they are built. -/
import Derived.Test.YtkkliemgidhgmaaGreatDoorMA
import Derived.Test.YtkkliemgidhgmaaGreatDoorRF
import Derived.Test.YtkkliemgidhgmaaGreatDoorRJ
namespace Go.Proofs.YtkkliemgidhgmaaGreatDoor
open Go.RowKit

theorem blk_ne {w : World} {g g' : Nat} {t t' : TypeId} {cs cs' : Array Value} (h : Blk w g t cs) (h' : Blk w g' t' cs') (hne : t ≠ t') : g ≠ g' := by
  rintro rfl
  unfold Blk at h h'
  rw [h] at h'
  injection h' with h'
  injection h' with _ h2
  exact hne h2
/-- blocks of matrices that are done -/
def OkM (w : World) (base : Nat) (r : Option Nat) (b : Nat) : Prop := OkS w base b ∨ (base ≤ b ∧ some b ≠ r ∧ ∃ cs, Blk w b 35 cs)
theorem OkM.lt {w : World} {base b : Nat} {r : Option Nat} (h : OkM w base r b) : b < w.heap.size := by
  rcases h with h | ⟨_, _, cs, h⟩
  · exact h.lt
  · exact h.lt
theorem OkM.keep {w w' : World} {base : Nat} {r r' : Option Nat} (hu : ∀ g cs, Blk w g 101 cs → Blk w' g 101 cs) (hr : ∀ g cs, base ≤ g → Blk w g 32 cs → Blk w' g 32 cs)
    (hm : ∀ g cs, base ≤ g → some g ≠ r → Blk w g 35 cs → Blk w' g 35 cs ∧ some g ≠ r') :
    (∀ b, OkM w base r b → ∀ o, w'.cell? ⟨b, o, none⟩ = w.cell? ⟨b, o, none⟩) ∧ ∀ b, OkM w base r b → OkM w' base r' b := by
  obtain ⟨k1, k2⟩ := OkS.keep (base := base) hu hr (Nat.le_refl _)
  refine ⟨fun b h o => ?_, fun b h => ?_⟩
  · rcases h with h | ⟨h0, h1, cs, h⟩
    · exact k1 b h o
    · exact h.cell_eq (hm b cs h0 h1 h).1 o
  · rcases h with h | ⟨h0, h1, cs, h⟩
    · exact .inl (k2 b h)
    · exact .inr ⟨h0, (hm b cs h0 h1 h).2, cs, (hm b cs h0 h1 h).1⟩
/-- a row that an append has made one longer -/
theorem row_push {W W' : World} {base : Nat} {S S' : Nat → Prop} {v' : Value} {ms : List MX} {rows : List (List Value)} {m : MX} {news : List Value} (hr : MVs W S ms rows) (hm : MV W S m news)
    (hk : ∀ b, S b → ∀ o, W'.cell? ⟨b, o, none⟩ = W.cell? ⟨b, o, none⟩) (hS : ∀ b, S b → S' b) (ho : W'.ownsRow base 35 7 v' (ms.length + 1) (rows.flatten ++ news)) :
    ∃ rows', W'.ownsRow base 35 7 v' (ms ++ [m]).length rows'.flatten ∧ MVs W' S' (ms ++ [m]) rows' := by
  refine ⟨rows ++ [news], ?_, MVs.mono hS _ _ (MVs.keep hk _ _ (MVs.snoc hr hm))⟩
  simpa using ho
/-- the kids of one conjunction -/
structure AndI (Ws W : World) (b0 g : Nat) (u : Value) (xs : List MX) : Prop where
  bel : Below Ws.heap.size Ws W
  ge : Ws.heap.size ≤ g
  b0le : b0 ≤ Ws.heap.size
  box : Blk W g 35 #[.int .i64 3, .int .i64 0, .int .i64 0, .bool false, .slice none 0 0, .slice none 0 0, u]
  row : ∃ rows, W.ownsRow (g + 1) 35 7 u xs.length rows.flatten ∧ MVs W (OkS W b0) xs rows
section
variable {Ws W W1 W2 : World} {b0 g : Nat} {u u' : Value} {xs : List MX} {a : MX} {rows : List (List Value)} {news : List Value}
theorem MVs.oldS {ms : List MX} (h : MVs W (OkS W b0) ms rows) (hb : Below W.heap.size W W1) : MVs W1 (OkS W1 b0) ms rows := by
  obtain ⟨k1, k2⟩ := OkS.keep (base := b0) (fun _ _ k => k.old hb) (fun _ _ _ k => k.old hb) (Nat.le_refl _)
  exact MVs.mono k2 _ _ (MVs.keep k1 _ _ h)
theorem MVs.oldM {ms : List MX} {r : Option Nat} (h : MVs W (OkM W b0 r) ms rows) (hb : Below W.heap.size W W1) : MVs W1 (OkM W1 b0 r) ms rows := by
  obtain ⟨k1, k2⟩ := OkM.keep (base := b0) (r := r) (r' := r) (fun _ _ k => k.old hb) (fun _ _ _ k => k.old hb) (fun _ _ _ hr k => ⟨k.old hb, hr⟩)
  exact MVs.mono k2 _ _ (MVs.keep k1 _ _ h)
theorem AndI.start (hb : Below Ws.heap.size Ws W) (hg : Ws.heap.size ≤ g) (h0 : b0 ≤ Ws.heap.size) (hk : Blk W g 35 #[.int .i64 3, .int .i64 0, .int .i64 0, .bool false, .slice none 0 0, .slice none 0 0, .slice none 0 0]) : AndI Ws W b0 g (.slice none 0 0) [] :=
  ⟨hb, hg, h0, hk, [], ⟨rfl, .inl ⟨rfl, rfl⟩⟩, by unfold MVs; rfl⟩
theorem AndI.old (h : AndI Ws W b0 g u xs) (hb : Below W.heap.size W W1) : AndI Ws W1 b0 g u xs := by
  obtain ⟨rows, h1, h2⟩ := h.row
  exact ⟨h.bel.trans (hb.mono h.bel.size), h.ge, h.b0le, h.box.old hb, rows, own_old h1 hb, h2.oldS hb⟩
theorem own_setM {w : World} {base n size g o : Nat} {e : TypeId} {v : Value} {ys : List Value} (h : w.ownsRow base e size v n ys) (hg : g < base) (x : Value) : (w.setCell ⟨g, o, none⟩ x).ownsRow base e size v n ys :=
  h.kept (row := some g) ⟨rfl, rfl, rfl, by simp, fun j _ hj => Below.heap_setCell w ⟨g, o, none⟩ x j (fun e => hj (by have e : j = g := e; rw [e]))⟩ (.inr fun e => by have := own_geR h e; omega)
theorem AndI.push (h : AndI Ws W b0 g u xs) (hr : W.ownsRow (g + 1) 35 7 u xs.length rows.flatten) (hm : MVs W (OkS W b0) xs rows) (h1 : Below W.heap.size W W1) (ha : MV W1 (OkS W1 b0) a news)
    (ho : W2.ownsRow (g + 1) 35 7 u' (xs.length + 1) (rows.flatten ++ news)) (hg : W1.grownBy W2 u.ownBlock) : AndI Ws (W2.setCell ⟨g, 6, none⟩ u') b0 g u' (xs ++ [a]) := by
  have hr1 := own_old hr h1
  have hne : some g ≠ u.ownBlock := fun e => by have := own_geR hr e.symm; omega
  have hbox2 := (h.box.old h1).grown hg hne
  have hsz : Ws.heap.size ≤ W1.heap.size := Nat.le_trans h.bel.size h1.size
  refine ⟨?_, h.ge, h.b0le, hbox2.set_ 6 u', ?_⟩
  · have hb2 : Below Ws.heap.size W1 W2 := ⟨hg.os, hg.tape, hg.output, hg.size, fun k hk => hg.block k (by omega) (fun e => by have := own_geR hr e.symm; have := h.ge; omega)⟩
    exact ((h.bel.trans (h1.mono h.bel.size)).trans hb2).setCell (show Ws.heap.size ≤ g from h.ge) u'
  · obtain ⟨k1, k2⟩ := OkS.keep (w := W1) (w' := W2.setCell ⟨g, 6, none⟩ u') (base := b0) (base' := b0)
      (fun j cs k => (k.grown hg (own_blk_ne hr1 k (by decide))).far (blk_ne (k.grown hg (own_blk_ne hr1 k (by decide))) hbox2 (by decide)) u')
      (fun j cs _ k => (k.grown hg (own_blk_ne hr1 k (by decide))).far (blk_ne (k.grown hg (own_blk_ne hr1 k (by decide))) hbox2 (by decide)) u') (Nat.le_refl _)
    exact row_push (hm.oldS h1) ha k1 k2 (own_setM ho (Nat.lt_succ_self g) u')
/-- the conjunction -/
theorem AndI.done (h : AndI Ws W b0 g u xs) {r : Option Nat} (hr : ∀ b, r = some b → b < Ws.heap.size) : ∃ L lc, u = .slice L xs.length lc ∧ MV W (OkM W b0 r) (.mk 3 0 zeroT xs) (mcell (.mk 3 0 zeroT xs) none 0 none 0 L lc) := by
  obtain ⟨rows, h1, h2⟩ := h.row
  have hm := MVs.mono (S' := OkM W b0 r) (fun b hb => .inl hb) _ _ h2
  by_cases h0 : xs.length = 0
  · obtain ⟨L, lc, rfl⟩ := own_slice6 h1
    refine ⟨L, lc, rfl, ?_⟩
    unfold MV
    exact ⟨none, 0, none, 0, L, lc, rfl, RT.zero, by omega, rows, ⟨h1.1, fun hp => by omega⟩, hm⟩
  · obtain ⟨g', lc, rfl, hb, hlt⟩ := h1.form (by omega)
    obtain ⟨cur, hk, _, hc, hx⟩ := own_blk h1
    refine ⟨_, lc, rfl, ?_⟩
    unfold MV
    refine ⟨none, 0, none, 0, _, lc, rfl, RT.zero, hc, rows, ⟨h1.1, fun _ => ⟨g', 0, rfl, .inr ⟨?_, ?_, cur, hk⟩, fun j x hj => ?_⟩⟩, hm⟩
    · have := h.ge; have := h.b0le; omega
    · intro e
      have := hr g' e.symm
      have := h.ge
      omega
    · rw [Nat.zero_add, hk.cell]
      exact hx j x hj
end
/-- the disjunction while it is built -/
structure OrI (w W : World) (g4 g : Nat) (v : Value) (ms : List MX) : Prop where
  bel : Below w.heap.size w W
  ge : w.heap.size ≤ g4
  lt : g4 < g
  res : Blk W g4 35 #[.int .i64 0, .int .i64 0, .int .i64 0, .bool false, .slice none 0 0, .slice none 0 0, .slice none 0 0]
  box : Blk W g 35 #[.int .i64 4, .int .i64 0, .int .i64 0, .bool false, .slice none 0 0, .slice none 0 0, v]
  row : ∃ rows, W.ownsRow (g + 1) 35 7 v ms.length rows.flatten ∧ MVs W (OkM W (g + 1) v.ownBlock) ms rows
section
variable {w Ws W W1 W2 : World} {g4 g g' : Nat} {u v v' : Value} {xs ms : List MX} {rows : List (List Value)} {news : List Value}
theorem OrI.start (hb : Below w.heap.size w W) (h4 : w.heap.size ≤ g4) (hg : g4 < g) (hr : Blk W g4 35 #[.int .i64 0, .int .i64 0, .int .i64 0, .bool false, .slice none 0 0, .slice none 0 0, .slice none 0 0])
    (hk : Blk W g 35 #[.int .i64 4, .int .i64 0, .int .i64 0, .bool false, .slice none 0 0, .slice none 0 0, .slice none 0 0]) : OrI w W g4 g (.slice none 0 0) [] :=
  ⟨hb, h4, hg, hr, hk, [], ⟨rfl, .inl ⟨rfl, rfl⟩⟩, by unfold MVs; rfl⟩
theorem OrI.old (h : OrI w W g4 g v ms) (hb : Below W.heap.size W W1) : OrI w W1 g4 g v ms := by
  obtain ⟨rows, h1, h2⟩ := h.row
  exact ⟨h.bel.trans (hb.mono h.bel.size), h.ge, h.lt, h.res.old hb, h.box.old hb, rows, own_old h1 hb, h2.oldM hb⟩
theorem OrI.ownlt (h : OrI w W g4 g v ms) : ∀ b, v.ownBlock = some b → b < W.heap.size := by
  intro b hb
  obtain ⟨rows, h1, h2⟩ := h.row
  rcases h1.2 with ⟨e, _⟩ | ⟨g', cap, cur, e, _, hh, _⟩
  · rw [e] at hb; simp [Value.ownBlock] at hb
  · rw [e] at hb
    have : g' = b := by simpa [Value.ownBlock] using hb
    subst this
    exact Blk.lt (show Blk W g' 35 cur from hh)
theorem OrI.push (h : OrI w W g4 g v ms) (hr : W.ownsRow (g + 1) 35 7 v ms.length rows.flatten) (hm : MVs W (OkM W (g + 1) v.ownBlock) ms rows) {a : MX} (h1 : Below W.heap.size W W1) (ha : MV W1 (OkM W1 (g + 1) v.ownBlock) a news)
    (ho : W2.ownsRow (g + 1) 35 7 v' (ms.length + 1) (rows.flatten ++ news)) (hg : W1.grownBy W2 v.ownBlock) (hat : v'.ownBlock = v.ownBlock ∨ v'.ownBlock = some W1.heap.size) : OrI w (W2.setCell ⟨g, 6, none⟩ v') g4 g v' (ms ++ [a]) := by
  have hr1 := own_old hr h1
  have hne : some g ≠ v.ownBlock := fun e => by have := own_geR hr e.symm; omega
  have hne4 : some g4 ≠ v.ownBlock := fun e => by have := own_geR hr e.symm; have := h.lt; omega
  have hbox2 := (h.box.old h1).grown hg hne
  have hsz : w.heap.size ≤ W1.heap.size := Nat.le_trans h.bel.size h1.size
  refine ⟨?_, h.ge, h.lt, ((h.res.old h1).grown hg hne4).far (by have := h.lt; show g4 ≠ g; omega) v', hbox2.set_ 6 v', ?_⟩
  · have hb2 : Below w.heap.size W1 W2 := ⟨hg.os, hg.tape, hg.output, hg.size, fun k hk => hg.block k (by omega) (fun e => by have := own_geR hr e.symm; have := h.ge; have := h.lt; omega)⟩
    exact ((h.bel.trans (h1.mono h.bel.size)).trans hb2).setCell (show w.heap.size ≤ g by have := h.ge; have := h.lt; omega) v'
  · obtain ⟨k1, k2⟩ := OkM.keep (w := W1) (w' := W2.setCell ⟨g, 6, none⟩ v') (base := g + 1) (r := v.ownBlock) (r' := v'.ownBlock)
      (fun j cs k => (k.grown hg (own_blk_ne hr1 k (by decide))).far (blk_ne (k.grown hg (own_blk_ne hr1 k (by decide))) hbox2 (by decide)) v')
      (fun j cs _ k => (k.grown hg (own_blk_ne hr1 k (by decide))).far (blk_ne (k.grown hg (own_blk_ne hr1 k (by decide))) hbox2 (by decide)) v')
      (fun j cs hj hne k => ⟨(k.grown hg hne).far (show j ≠ g by omega) v', by
        rcases hat with e | e
        · rw [e]; exact hne
        · rw [e]; intro e; injection e with e; have := k.lt; omega⟩)
    exact row_push (hm.oldM h1) ha k1 k2 (own_setM ho (Nat.lt_succ_self g) v')
/-- seven stores -/
theorem sets7 {w : World} {g : Nat} (h : Blk w g 35 #[.int .i64 0, .int .i64 0, .int .i64 0, .bool false, .slice none 0 0, .slice none 0 0, .slice none 0 0]) (a0 a1 a2 a3 a4 a5 a6 : Value) :
    Blk (((((((w.setCell ⟨g, 0, none⟩ a0).setCell ⟨g, 1, none⟩ a1).setCell ⟨g, 2, none⟩ a2).setCell ⟨g, 3, none⟩ a3).setCell ⟨g, 4, none⟩ a4).setCell ⟨g, 5, none⟩ a5).setCell ⟨g, 6, none⟩ a6) g 35 #[a0, a1, a2, a3, a4, a5, a6] ∧
      (∀ j t cs, j ≠ g → Blk w j t cs → Blk (((((((w.setCell ⟨g, 0, none⟩ a0).setCell ⟨g, 1, none⟩ a1).setCell ⟨g, 2, none⟩ a2).setCell ⟨g, 3, none⟩ a3).setCell ⟨g, 4, none⟩ a4).setCell ⟨g, 5, none⟩ a5).setCell ⟨g, 6, none⟩ a6) j t cs) ∧
      ∀ B, B ≤ g → Below B w (((((((w.setCell ⟨g, 0, none⟩ a0).setCell ⟨g, 1, none⟩ a1).setCell ⟨g, 2, none⟩ a2).setCell ⟨g, 3, none⟩ a3).setCell ⟨g, 4, none⟩ a4).setCell ⟨g, 5, none⟩ a5).setCell ⟨g, 6, none⟩ a6) :=
  ⟨((((((h.set_ 0 a0).set_ 1 a1).set_ 2 a2).set_ 3 a3).set_ 4 a4).set_ 5 a5).set_ 6 a6,
    fun _ _ _ hj k => (((((((k.far (p := ⟨g, 0, none⟩) hj a0).far (p := ⟨g, 1, none⟩) hj a1).far (p := ⟨g, 2, none⟩) hj a2).far (p := ⟨g, 3, none⟩) hj a3).far (p := ⟨g, 4, none⟩) hj a4).far (p := ⟨g, 5, none⟩) hj a5).far (p := ⟨g, 6, none⟩) hj a6),
    fun B hB => (((((((Below.refl B w).setCell (p := ⟨g, 0, none⟩) hB a0).setCell (p := ⟨g, 1, none⟩) hB a1).setCell (p := ⟨g, 2, none⟩) hB a2).setCell (p := ⟨g, 3, none⟩) hB a3).setCell (p := ⟨g, 4, none⟩) hB a4).setCell (p := ⟨g, 5, none⟩) hB a5).setCell (p := ⟨g, 6, none⟩) hB a6⟩
/-- a new box of a matrix -/
theorem box7 (w : World) (a0 a1 a2 a3 a4 a5 a6 : Value) :
    Blk ((((((((w.alloc (.cells #[.int .i64 0, .int .i64 0, .int .i64 0, .bool false, .slice none 0 0, .slice none 0 0, .slice none 0 0] 35)).setCell ⟨w.heap.size, 0, none⟩ a0).setCell ⟨w.heap.size, 1, none⟩ a1).setCell ⟨w.heap.size, 2, none⟩ a2).setCell ⟨w.heap.size, 3, none⟩ a3).setCell ⟨w.heap.size, 4, none⟩ a4).setCell ⟨w.heap.size, 5, none⟩ a5).setCell ⟨w.heap.size, 6, none⟩ a6) w.heap.size 35 #[a0, a1, a2, a3, a4, a5, a6] ∧
      Below w.heap.size w ((((((((w.alloc (.cells #[.int .i64 0, .int .i64 0, .int .i64 0, .bool false, .slice none 0 0, .slice none 0 0, .slice none 0 0] 35)).setCell ⟨w.heap.size, 0, none⟩ a0).setCell ⟨w.heap.size, 1, none⟩ a1).setCell ⟨w.heap.size, 2, none⟩ a2).setCell ⟨w.heap.size, 3, none⟩ a3).setCell ⟨w.heap.size, 4, none⟩ a4).setCell ⟨w.heap.size, 5, none⟩ a5).setCell ⟨w.heap.size, 6, none⟩ a6) := by
  obtain ⟨s1, _, s3⟩ := sets7 (Blk.new w 35 #[.int .i64 0, .int .i64 0, .int .i64 0, .bool false, .slice none 0 0, .slice none 0 0, .slice none 0 0]) a0 a1 a2 a3 a4 a5 a6
  exact ⟨s1, ((Below.refl w.heap.size w).alloc (Nat.le_refl _) _).trans (s3 _ (Nat.le_refl _))⟩
/-- the end: the disjunction is stored into the result's cell -/
theorem OrI.fin (h : OrI w W g4 g v ms) {W' : World} (s2 : ∀ j t cs, j ≠ g4 → Blk W j t cs → Blk W' j t cs) : ∃ L lc, v = .slice L ms.length lc ∧ MV W' (OkM W' w.heap.size none) (.mk 4 0 zeroT ms) (mcell (.mk 4 0 zeroT ms) none 0 none 0 L lc) := by
  obtain ⟨rows, h1, h2⟩ := h.row
  have hlt := h.lt
  have hge := h.ge
  obtain ⟨L, lc, hv⟩ := own_slice6 h1
  refine ⟨L, lc, hv, ?_⟩
  subst hv
  have hk : ∀ b, OkM W (g + 1) (Value.slice L ms.length lc).ownBlock b → (∀ o, W'.cell? ⟨b, o, none⟩ = W.cell? ⟨b, o, none⟩) ∧ OkM W' w.heap.size none b := fun b hb => by
    rcases hb with hb | ⟨h0, _, cs, hb⟩
    · rcases hb with ⟨cs, hb⟩ | ⟨h0, cs, hb⟩
      · have h3 := s2 b _ _ (blk_ne hb h.res (by decide)) hb
        exact ⟨fun o => hb.cell_eq h3 o, .inl (.inl ⟨cs, h3⟩)⟩
      · have h3 := s2 b _ _ (by omega) hb
        exact ⟨fun o => hb.cell_eq h3 o, .inl (.inr ⟨by omega, cs, h3⟩)⟩
    · have h3 := s2 b _ _ (by omega) hb
      exact ⟨fun o => hb.cell_eq h3 o, .inr ⟨by omega, by simp, cs, h3⟩⟩
  have hm := MVs.mono (fun b hb => (hk b hb).2) _ _ (MVs.keep (fun b hb o => (hk b hb).1 o) _ _ h2)
  unfold MV
  by_cases h0 : ms.length = 0
  · exact ⟨none, 0, none, 0, L, lc, rfl, RT.zero, by omega, rows, ⟨h1.1, fun hp => by omega⟩, hm⟩
  · obtain ⟨g', lc', e, hb, hl⟩ := h1.form (by omega)
    injection e with e1 e2 e3
    subst e1; subst e3
    obtain ⟨cur, hk, _, hc, hx⟩ := own_blk h1
    have hk' := s2 g' _ _ (by omega) hk
    refine ⟨none, 0, none, 0, _, lc, rfl, RT.zero, hc, rows, ⟨h1.1, fun _ => ⟨g', 0, rfl, .inr ⟨by omega, by simp, cur, hk'⟩, fun j x hj => ?_⟩⟩, hm⟩
    rw [Nat.zero_add, hk'.cell]
    exact hx j x hj
end
end Go.Proofs.YtkkliemgidhgmaaGreatDoor
