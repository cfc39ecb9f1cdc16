/- Contract of recpoly.build. -/
import Derived.IntWalk
import Derived.Test.YtkkliemgidhgmaaGreatDoorRM
namespace Go.Proofs.YtkkliemgidhgmaaGreatDoor
open Go.RowKit

theorem PolyIn.open {w : World} {B : Nat} {A : Option Addr} {ps : List PT} (h : PolyIn w B A ps) (hn : 0 < ps.length) : ∃ b o, A = some ⟨b, o, none⟩ ∧ b < B ∧ ∀ (k : Nat) (p : PT) (j : Nat) (v : Value), ps[k]? = some p → j < 6 → p.cells[j]? = some v → w.cell? ⟨b, o + (k * 6 + j), none⟩ = some v := by
  obtain ⟨b, o, e, hb, hc⟩ := h.rd.2 hn
  exact ⟨b, o, e, hb, fun k p j v hk hj hv => hc (k * 6 + j) v ((flat_at ps k j p hk hj).trans hv)⟩
theorem cells_exp (p : PT) (i : Nat) (hi : i < 4) : p.cells[2 + i]? = some (.int .i64 (gt p.m i)) := by
  rcases (by omega : i = 0 ∨ i = 1 ∨ i = 2 ∨ i = 3) with rfl | rfl | rfl | rfl <;> rfl
theorem flat6_len (ps : List PT) : (ps.flatMap PT.cells).length = ps.length * 6 := by
  induction ps with
  | nil => rfl
  | cons p ps ih =>
    rw [List.flatMap_cons, List.length_append, ih, List.length_cons, show p.cells.length = 6 from rfl]
    omega
theorem PolyIn.sub {w : World} {B b o : Nat} {ps : List PT} (h : PolyIn w B (some ⟨b, o, none⟩) ps) (s j : Nat) (hj : s + j ≤ ps.length) (hj0 : 0 < j) : PolyIn w B (some ⟨b, o + s * 6, none⟩) ((ps.drop s).take j) := by
  obtain ⟨b', o', e, hb, hc⟩ := h.open (by omega)
  injection e with e
  injection e with e1 e2
  subst e1
  subst e2
  have hl : ((ps.drop s).take j).length = j := by rw [List.length_take, List.length_drop]; omega
  refine ⟨⟨by rw [flat6_len], fun _ => ⟨b, o + s * 6, rfl, hb, fun x v hv => ?_⟩⟩, fun p hp => h.nt p (List.mem_of_mem_drop (List.mem_of_mem_take hp))⟩
  obtain ⟨k, i, hi, rfl⟩ : ∃ k i, i < 6 ∧ x = k * 6 + i := ⟨x / 6, x % 6, Nat.mod_lt _ (by omega), by omega⟩
  have hx : k * 6 + i < j * 6 := by
    have := (List.getElem?_eq_some_iff.1 hv).1
    rw [flat6_len, hl] at this
    exact this
  have hk : k < j := by omega
  obtain ⟨p, hp⟩ : ∃ p, ((ps.drop s).take j)[k]? = some p := ⟨_, List.getElem?_eq_getElem (by omega)⟩
  have hp' : ps[s + k]? = some p := by
    rw [List.getElem?_take, if_pos hk, List.getElem?_drop] at hp
    exact hp
  rw [flat_at _ k i p hp hi] at hv
  have := hc (s + k) p i v hp' hi hv
  rw [show o + s * 6 + (k * 6 + i) = o + ((s + k) * 6 + i) by omega]
  exact this
theorem bldT_down {i : Nat} {ts : List Tm} {t : Tm} (h : ts[0]? = some t) (h0 : gt t.2 i = 0) : bldT i ts = bldT (i + 1) ts := by
  cases ts with
  | nil => simp at h
  | cons s r =>
    simp at h
    subst h
    rw [bldT, if_pos h0]
theorem bldT_node {i : Nat} {ts : List Tm} {t : Tm} (h : ts[0]? = some t) (h0 : gt t.2 i ≠ 0) : bldT (i + 1) ts = .mk ((i : Int) + 1) false [] (fillF (bldT i) i ts.length ts (List.replicate ((gt t.2 i).toNat + 1) zeroT)) := by
  cases ts with
  | nil => simp at h
  | cons s r =>
    simp at h
    subst h
    rw [bldT, if_neg h0]
theorem bldT_zero {ts : List Tm} {t : Tm} (h : ts[0]? = some t) : bldT 0 ts = cstT t.1 := by
  cases ts with
  | nil => simp at h
  | cons s r =>
    simp at h
    subst h
    rw [bldT]
theorem Desc.zero {i : Nat} {ts : List Tm} {t : Tm} (h : Desc (i + 1) ts) (ht : ts[0]? = some t) (h0 : gt t.2 i = 0) (hp : ∀ s ∈ ts, 0 ≤ gt s.2 i) : Desc i ts := by
  cases ts with
  | nil => simp at ht
  | cons s r =>
    simp at ht
    subst ht
    refine h.down (e := 0) fun x hx => ?_
    have h1 := h.head hx
    have h2 := hp x hx
    omega
theorem Desc.first {i : Nat} {ts : List Tm} {t s : Tm} (h : Desc (i + 1) ts) (ht : ts[0]? = some t) (hs : s ∈ ts) : gt s.2 i ≤ gt t.2 i := by
  cases ts with
  | nil => simp at ht
  | cons x r =>
    simp at ht
    subst ht
    exact h.head hs
/-- one run -/
theorem fill_step {f : List Tm → RP} {i n s j : Nat} {ts : List Tm} {ks : List RP} {t : Tm} (ht : ts[s]? = some t) (hn : (ts.drop s).length ≤ n) (hj : s + j ≤ ts.length) (h1 : ∀ x ∈ (ts.drop s).take j, gt x.2 i = gt t.2 i) (h2 : ∀ y, ts[s + j]? = some y → gt y.2 i ≠ gt t.2 i) :
    0 < j ∧ ∃ m, (ts.drop (s + j)).length ≤ m ∧ fillF f i n (ts.drop s) ks = fillF f i m (ts.drop (s + j)) (ks.set (gt t.2 i).toNat (f ((ts.drop s).take j))) := by
  have hl : s < ts.length := (List.getElem?_eq_some_iff.1 ht).1
  have e : ts[s] = t := (List.getElem?_eq_some_iff.1 ht).2
  have hj0 : 0 < j := Nat.pos_of_ne_zero fun e0 => h2 t (by rw [e0, Nat.add_zero]; exact ht) rfl
  refine ⟨hj0, ?_⟩
  have hd : ts.drop s = t :: ts.drop (s + 1) := by rw [List.drop_eq_getElem_cons hl, e]
  obtain ⟨a, b⟩ := run_eq (fun x : Tm => decide (gt x.2 i = gt t.2 i)) (ts.drop s) j (fun x hx => decide_eq_true (h1 x hx)) (by rw [List.length_drop]; omega) (fun y hy => decide_eq_false (h2 y (by rwa [List.getElem?_drop] at hy)))
  rw [List.length_drop] at hn
  obtain ⟨m, rfl⟩ : ∃ m, n = m + 1 := ⟨n - 1, by omega⟩
  refine ⟨m, by rw [List.length_drop]; omega, ?_⟩
  rw [← a, show ts.drop (s + j) = (ts.drop s).drop j by rw [List.drop_drop], ← b, hd]
  rw [fillF]
def BldRes (t : RP) (w : World) (e : Ending) (w' : World) : Prop := ∃ A c K kc, e = .returned (rval t A c K kc) ∧ RB w' w.heap.size t (rcell t A c K kc) ∧ Below w.heap.size w w'
end Go.Proofs.YtkkliemgidhgmaaGreatDoor
