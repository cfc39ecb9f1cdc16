/- Contract of recpoly.copyOf. -/
import Derived.IntWalk
import Derived.Test.YtkkliemgidhgmaaGreatDoorRE
namespace Go.Proofs.YtkkliemgidhgmaaGreatDoor
open Go.RowKit

/-- blocks that a result may lie in: digits; nodes from base on -/
def OkS (w : World) (base : Nat) (b : Nat) : Prop := (∃ cs, Blk w b 101 cs) ∨ (base ≤ b ∧ ∃ cs, Blk w b 32 cs)
/-- a tree that a call has made -/
def RB (w : World) (base : Nat) (t : RP) (vs : List Value) : Prop := RV w (OkS w base) t vs
theorem OkS.lt {w : World} {base b : Nat} (h : OkS w base b) : b < w.heap.size := by
  rcases h with ⟨cs, h⟩ | ⟨_, cs, h⟩ <;> exact h.lt
theorem OkS.mono {w : World} {base base' b : Nat} (h : OkS w base b) (hb : base' ≤ base) : OkS w base' b := h.imp id fun ⟨h1, h2⟩ => ⟨Nat.le_trans hb h1, h2⟩
theorem Blk.cell_eq {w w' : World} {g : Nat} {t : TypeId} {cs : Array Value} (h : Blk w g t cs) (h' : Blk w' g t cs) (o : Nat) : w'.cell? ⟨g, o, none⟩ = w.cell? ⟨g, o, none⟩ := (h'.cell o).trans (h.cell o).symm
/-- what keeps the blocks keeps the tree -/
theorem OkS.keep {w w' : World} {base base' : Nat} (hu : ∀ g cs, Blk w g 101 cs → Blk w' g 101 cs) (hr : ∀ g cs, base ≤ g → Blk w g 32 cs → Blk w' g 32 cs) (hb : base' ≤ base) :
    (∀ b, OkS w base b → ∀ o, w'.cell? ⟨b, o, none⟩ = w.cell? ⟨b, o, none⟩) ∧ ∀ b, OkS w base b → OkS w' base' b := by
  refine ⟨fun b h o => ?_, fun b h => ?_⟩
  · rcases h with ⟨cs, h⟩ | ⟨h0, cs, h⟩
    · exact h.cell_eq (hu b cs h) o
    · exact h.cell_eq (hr b cs h0 h) o
  · rcases h with ⟨cs, h⟩ | ⟨h0, cs, h⟩
    · exact .inl ⟨cs, hu b cs h⟩
    · exact .inr ⟨Nat.le_trans hb h0, cs, hr b cs h0 h⟩
theorem RB.keep {w w' : World} {base base' : Nat} {t : RP} {vs : List Value} (h : RB w base t vs) (hu : ∀ g cs, Blk w g 101 cs → Blk w' g 101 cs) (hr : ∀ g cs, base ≤ g → Blk w g 32 cs → Blk w' g 32 cs) (hb : base' ≤ base) : RB w' base' t vs := by
  obtain ⟨h1, h2⟩ := OkS.keep hu hr hb
  exact RV.mono h2 t vs (RV.keep h1 t vs h)
theorem RBs.keep {w w' : World} {base base' : Nat} {ts : List RP} {rows : List (List Value)} (h : RVs w (OkS w base) ts rows) (hu : ∀ g cs, Blk w g 101 cs → Blk w' g 101 cs) (hr : ∀ g cs, base ≤ g → Blk w g 32 cs → Blk w' g 32 cs) (hb : base' ≤ base) : RVs w' (OkS w' base') ts rows := by
  obtain ⟨h1, h2⟩ := OkS.keep hu hr hb
  exact RVs.mono h2 ts rows (RVs.keep h1 ts rows h)
theorem RB.old {w w' : World} {base : Nat} {t : RP} {vs : List Value} (h : RB w base t vs) (hb : Below w.heap.size w w') : RB w' base t vs := RB.keep h (fun _ _ k => k.old hb) (fun _ _ _ k => k.old hb) (Nat.le_refl _)
theorem RB.mono {w : World} {base base' : Nat} {t : RP} {vs : List Value} (h : RB w base t vs) (hb : base' ≤ base) : RB w base' t vs := RB.keep h (fun _ _ k => k) (fun _ _ _ k => k) hb
theorem RB.rv {w : World} {base : Nat} {t : RP} {vs : List Value} (h : RB w base t vs) : RV w (· < w.heap.size) t vs := RV.mono (fun _ hb => hb.lt) t vs h
/-- a store into a node's row below base -/
theorem set_keeps {w : World} {g o : Nat} {cs : Array Value} {u : Value} (h : Blk w g 32 cs) : (∀ k ds, Blk w k 101 ds → Blk (w.setCell ⟨g, o, none⟩ u) k 101 ds) ∧ ∀ k ds, g + 1 ≤ k → Blk w k 32 ds → Blk (w.setCell ⟨g, o, none⟩ u) k 32 ds := by
  refine ⟨fun k ds hk => hk.far (fun e => ?_) u, fun k ds h0 hk => hk.far (show k ≠ g by omega) u⟩
  have e : k = g := e
  subst e
  unfold Blk at hk h
  rw [hk] at h
  injection h with h
  injection h with _ h2
  exact absurd h2 (by decide)
theorem NatB.readsS {w : World} {base : Nat} {A : Option Addr} {ds : List Nat} (h : NatB w A ds) : ReadsS w (OkS w base) 1 A ds.length (u32s ds) := by
  rcases h with rfl | ⟨g, zs, rfl, hb, hd⟩
  · exact ⟨rfl, fun hp => absurd hp (Nat.lt_irrefl 0)⟩
  · refine ⟨by simp [u32s], fun _ => ⟨g, 0, rfl, .inl ⟨_, hb⟩, fun j u hu => ?_⟩⟩
    rw [Nat.zero_add, hb.cell]
    rw [hd] at hu
    simp [u32s, List.getElem?_take] at hu ⊢
    exact hu.2
/-- a constant -/
theorem RB.const {w : World} {base : Nat} {g : Bool} {ds : List Nat} {A : Option Addr} {c : Nat} (h : NatB w A ds) (hd : Dig ds) (hc : ds.length ≤ c) : RB w base (.mk 0 g ds []) (rcell (.mk 0 g ds []) A c none 0) := by
  unfold RB RV
  exact ⟨A, c, none, 0, rfl, h.readsS, hd, hc, Nat.zero_le _, [], ⟨rfl, fun hp => absurd hp (Nat.lt_irrefl 0)⟩, by unfold RVs; rfl⟩
/-- a node over its coefficients -/
theorem RB.node {w : World} {base : Nat} {l : Int} {ks : List RP} {g : Nat} {kc : Nat} {rows : List (List Value)} {cur : Array Value} (hl : rows.length = ks.length) (h4 : ∀ r ∈ rows, r.length = 4) (hb : base ≤ g) (hk : Blk w g 32 cur) (hc : ∀ (j : Nat) (v : Value), rows.flatten[j]? = some v → cur[j]? = some v) (hkc : ks.length ≤ kc) (hr : RVs w (OkS w base) ks rows) :
    RB w base (.mk l false [] ks) (rcell (.mk l false [] ks) none 0 (some ⟨g, 0, none⟩) kc) := by
  unfold RB RV
  refine ⟨none, 0, some ⟨g, 0, none⟩, kc, rfl, ⟨rfl, fun hp => absurd hp (Nat.lt_irrefl 0)⟩, by simp [Dig], Nat.zero_le _, hkc, rows, ⟨?_, fun _ => ⟨g, 0, rfl, .inr ⟨hb, cur, hk⟩, fun j u hu => ?_⟩⟩, hr⟩
  · rw [List.length_flatten, ← hl]
    clear hl hc hr
    induction rows with
    | nil => rfl
    | cons r rs ih =>
      have := ih fun x hx => h4 x (List.mem_cons_of_mem _ hx)
      have := h4 r List.mem_cons_self
      simp only [List.map_cons, List.sum_cons, List.length_cons]
      omega
  · rw [Nat.zero_add]
    exact (hk.cell j).trans (hc j u hu)
theorem RVs.snoc {w : World} {S : Nat → Prop} : ∀ {ts : List RP} {rows : List (List Value)} {t : RP} {r : List Value}, RVs w S ts rows → RV w S t r → RVs w S (ts ++ [t]) (rows ++ [r])
  | [], rows, t, r, h, hr => by
    unfold RVs at h
    subst h
    simp only [List.nil_append, RVs]
    exact ⟨r, [], rfl, hr, rfl⟩
  | s :: ts, rows, t, r, h, hr => by
    unfold RVs at h
    obtain ⟨x, xs, rfl, h2, h3⟩ := h
    simp only [List.cons_append, RVs]
    exact ⟨x, xs ++ [r], rfl, h2, RVs.snoc h3 hr⟩
theorem flat4_len {rows : List (List Value)} (h4 : ∀ r ∈ rows, r.length = 4) : rows.flatten.length = rows.length * 4 := by
  induction rows with
  | nil => rfl
  | cons r rs ih =>
    have h1 := ih fun x hx => h4 x (List.mem_cons_of_mem _ hx)
    have h2 := h4 r List.mem_cons_self
    rw [List.flatten_cons, List.length_append, List.length_cons, h1, h2]
    omega
/-- four cells stored behind the rows -/
theorem row_set {rows : List (List Value)} (h4 : ∀ r ∈ rows, r.length = 4) {cur : Array Value} {k : Nat} (hk : rows.length = k) (hs : k * 4 + 4 ≤ cur.size) (hc : ∀ (j : Nat) (v : Value), rows.flatten[j]? = some v → cur[j]? = some v) (a b c d : Value) :
    ∀ (j : Nat) (v : Value), (rows ++ [[a, b, c, d]]).flatten[j]? = some v → ((((cur.setIfInBounds (k * 4) a).setIfInBounds (k * 4 + 1) b).setIfInBounds (k * 4 + 2) c).setIfInBounds (k * 4 + 3) d)[j]? = some v := by
  intro j v hv
  have hl := flat4_len h4
  rw [hk] at hl
  rw [List.flatten_append] at hv
  by_cases hj : j < k * 4
  · rw [List.getElem?_append_left (by omega)] at hv
    rw [Array.getElem?_setIfInBounds_ne (by omega), Array.getElem?_setIfInBounds_ne (by omega), Array.getElem?_setIfInBounds_ne (by omega), Array.getElem?_setIfInBounds_ne (by omega)]
    exact hc j v hv
  · rw [List.getElem?_append_right (by omega), hl] at hv
    obtain ⟨i, rfl⟩ : ∃ i, j = k * 4 + i := ⟨j - k * 4, by omega⟩
    rw [Nat.add_sub_cancel_left] at hv
    rcases (by omega : i = 0 ∨ i = 1 ∨ i = 2 ∨ i = 3 ∨ 4 ≤ i) with rfl | rfl | rfl | rfl | hi
    · rw [Array.getElem?_setIfInBounds_ne (by omega), Array.getElem?_setIfInBounds_ne (by omega), Array.getElem?_setIfInBounds_ne (by omega), Nat.add_zero, Array.getElem?_setIfInBounds_self_of_lt (by omega)]
      simpa using hv
    · rw [Array.getElem?_setIfInBounds_ne (by omega), Array.getElem?_setIfInBounds_ne (by omega), Array.getElem?_setIfInBounds_self_of_lt (by simp; omega)]
      simpa using hv
    · rw [Array.getElem?_setIfInBounds_ne (by omega), Array.getElem?_setIfInBounds_self_of_lt (by simp; omega)]
      simpa using hv
    · rw [Array.getElem?_setIfInBounds_self_of_lt (by simp; omega)]
      simpa using hv
    · rw [List.getElem?_eq_none (by simp; omega)] at hv
      cases hv
theorem cpT_eq (t : RP) : cpT t = if t.lv = 0 then .mk 0 (decide (ival t.ng t.ds < 0)) (dig (val t.ds)) [] else .mk t.lv false [] (t.ks.map cpT) := by
  cases t
  rw [cpT, cpL_map]
  rfl
end Go.Proofs.YtkkliemgidhgmaaGreatDoor
