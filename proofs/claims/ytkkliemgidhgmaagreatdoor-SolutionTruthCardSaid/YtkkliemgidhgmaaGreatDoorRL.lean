/- The recursive form of canonical terms: plain facts. -/
import Derived.Test.YtkkliemgidhgmaaGreatDoorRK
import Derived.Test.YtkkliemgidhgmaaGreatDoorZQ
namespace Go.Proofs.YtkkliemgidhgmaaGreatDoor
open Go.RowKit

def cstT (z : Int) : RP := .mk 0 (decide (z < 0)) (dig z.natAbs) []
def zeroT : RP := .mk 0 false [] []
/-- the coefficients: one run of equal exponents after the other -/
def fillF (f : List Tm → RP) (i : Nat) : Nat → List Tm → List RP → List RP
  | 0, _, ks => ks
  | _ + 1, [], ks => ks
  | n + 1, t :: r, ks => fillF f i n ((t :: r).dropWhile fun s => decide (gt s.2 i = gt t.2 i)) (ks.set (gt t.2 i).toNat (f ((t :: r).takeWhile fun s => decide (gt s.2 i = gt t.2 i))))
def bldT : Nat → List Tm → RP
  | 0, [] => zeroT
  | 0, t :: _ => cstT t.1
  | _ + 1, [] => zeroT
  | L + 1, t :: r => if gt t.2 L = 0 then bldT L (t :: r) else .mk ((L : Int) + 1) false [] (fillF (bldT L) L (t :: r).length (t :: r) (List.replicate ((gt t.2 L).toNat + 1) zeroT))
theorem bldT_nil (L : Nat) : bldT L [] = zeroT := by cases L <;> rfl
/-- in descending order below a level -/
def geL : Nat → Mo → Mo → Prop
  | 0, _, _ => True
  | L + 1, a, b => gt b L < gt a L ∨ (gt b L = gt a L ∧ geL L a b)
theorem geL_le {L : Nat} {a b : Mo} (h : geL (L + 1) a b) : gt b L ≤ gt a L := by
  rcases h with h | ⟨h, _⟩ <;> omega
theorem geL_eq {L : Nat} {a b : Mo} (h : geL (L + 1) a b) (e : gt b L = gt a L) : geL L a b := by
  rcases h with h | ⟨_, h⟩
  · omega
  · exact h
theorem geL_of {a b : Mo} (h : ltM b a) : geL 4 a b := by
  simp only [geL, gt]
  unfold ltM at h
  omega
def Desc (L : Nat) (l : List Tm) : Prop := l.Pairwise fun s t => geL L s.2 t.2
theorem Canon.desc {l : List Tm} (h : Canon l) : Desc 4 l := h.so.imp fun h => geL_of h
theorem Desc.sub {L : Nat} {l m : List Tm} (h : Desc L l) (hs : m.Sublist l) : Desc L m := List.Pairwise.sublist hs h
/-- terms with the same exponent -/
theorem Desc.down {L : Nat} {l : List Tm} (h : Desc (L + 1) l) {e : Int} (he : ∀ t ∈ l, gt t.2 L = e) : Desc L l :=
  List.Pairwise.imp_of_mem (fun hs ht h => geL_eq h ((he _ ht).trans (he _ hs).symm)) h
theorem Desc.head {L : Nat} {t s : Tm} {r : List Tm} (h : Desc (L + 1) (t :: r)) (hs : s ∈ t :: r) : gt s.2 L ≤ gt t.2 L := by
  rcases List.mem_cons.1 hs with rfl | hs
  · exact Int.le_refl _
  · exact geL_le ((List.pairwise_cons.1 h).1 s hs)
/-- a run -/
theorem run_eq {α : Type} (p : α → Bool) : ∀ (l : List α) (j : Nat), (∀ x ∈ l.take j, p x = true) → j ≤ l.length → (∀ y, l[j]? = some y → p y = false) → l.takeWhile p = l.take j ∧ l.dropWhile p = l.drop j
  | [], j, _, hj, _ => by simp
  | x :: l, 0, _, _, h => by
    have := h x rfl
    simp [this]
  | x :: l, j + 1, h1, hj, h2 => by
    have hx := h1 x (by simp)
    obtain ⟨a, b⟩ := run_eq p l j (fun y hy => h1 y (by simp [hy])) (by simpa using hj) (fun y hy => h2 y (by simpa using hy))
    simp [hx, a, b]
/-- rows with one replaced -/
theorem row_put {rows : List (List Value)} (h4 : ∀ r ∈ rows, r.length = 4) {cur : Array Value} {e : Nat} (he : e < rows.length) (hs : rows.length * 4 ≤ cur.size) (hc : ∀ (j : Nat) (v : Value), rows.flatten[j]? = some v → cur[j]? = some v) (a b c d : Value) :
    ∀ (j : Nat) (v : Value), (rows.set e [a, b, c, d]).flatten[j]? = some v → ((((cur.setIfInBounds (e * 4) a).setIfInBounds (e * 4 + 1) b).setIfInBounds (e * 4 + 2) c).setIfInBounds (e * 4 + 3) d)[j]? = some v := by
  intro j v hv
  have h4' : ∀ r ∈ rows.set e [a, b, c, d], r.length = 4 := fun r hr => by
    rcases List.mem_or_eq_of_mem_set hr with h | h
    · exact h4 r h
    · rw [h]; rfl
  have hl := flat4_len h4'
  rw [List.length_set] at hl
  have hj : j < rows.length * 4 := by have := (List.getElem?_eq_some_iff.1 hv).1; omega
  obtain ⟨k, i, hi, rfl⟩ : ∃ k i, i < 4 ∧ j = k * 4 + i := ⟨j / 4, j % 4, Nat.mod_lt _ (by omega), by omega⟩
  have hk : k < rows.length := by omega
  by_cases hke : k = e
  · subst hke
    rw [flat4 _ h4' k [a, b, c, d] (by rw [List.getElem?_set_self hk]) i hi] at hv
    rcases (by omega : i = 0 ∨ i = 1 ∨ i = 2 ∨ i = 3) with rfl | rfl | rfl | rfl
    · rw [Array.getElem?_setIfInBounds_ne (by omega), Array.getElem?_setIfInBounds_ne (by omega), Array.getElem?_setIfInBounds_ne (by omega), Nat.add_zero, Array.getElem?_setIfInBounds_self_of_lt (by omega)]
      simpa using hv
    · rw [Array.getElem?_setIfInBounds_ne (by omega), Array.getElem?_setIfInBounds_ne (by omega), Array.getElem?_setIfInBounds_self_of_lt (by simp; omega)]
      simpa using hv
    · rw [Array.getElem?_setIfInBounds_ne (by omega), Array.getElem?_setIfInBounds_self_of_lt (by simp; omega)]
      simpa using hv
    · rw [Array.getElem?_setIfInBounds_self_of_lt (by simp; omega)]
      simpa using hv
  · obtain ⟨r, hr⟩ : ∃ r, rows[k]? = some r := ⟨_, List.getElem?_eq_getElem hk⟩
    rw [flat4 _ h4' k r (by rw [List.getElem?_set_ne (Ne.symm hke)]; exact hr) i hi] at hv
    rw [Array.getElem?_setIfInBounds_ne (by omega), Array.getElem?_setIfInBounds_ne (by omega), Array.getElem?_setIfInBounds_ne (by omega), Array.getElem?_setIfInBounds_ne (by omega)]
    exact hc _ v ((flat4 rows h4 k r hr i hi).trans hv)
theorem RVs.put {w : World} {S : Nat → Prop} : ∀ {ts : List RP} {rows : List (List Value)} (e : Nat) {t : RP} {r : List Value}, RVs w S ts rows → RV w S t r → RVs w S (ts.set e t) (rows.set e r)
  | [], rows, e, t, r, h, _ => by
    unfold RVs at h
    subst h
    simp [RVs]
  | s :: ts, rows, e, t, r, h, hr => by
    unfold RVs at h
    obtain ⟨x, xs, rfl, h2, h3⟩ := h
    cases e with
    | zero => simp only [List.set_cons_zero, RVs]; exact ⟨r, xs, rfl, hr, h3⟩
    | succ e => simp only [List.set_cons_succ, RVs]; exact ⟨x, xs.set e r, rfl, h2, RVs.put e h3 hr⟩
/-- blocks that a built tree may lie in: those of the terms; nodes from base on -/
def OkT (w : World) (B base : Nat) (b : Nat) : Prop := b < B ∨ (base ≤ b ∧ b < w.heap.size)
end Go.Proofs.YtkkliemgidhgmaaGreatDoor
