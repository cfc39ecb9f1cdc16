/- Collecting the terms of a tree: plain facts. -/
import Derived.Test.YtkkliemgidhgmaaGreatDoorRH
import Derived.Test.YtkkliemgidhgmaaGreatDoorZG
namespace Go.Proofs.YtkkliemgidhgmaaGreatDoor
open Go.RowKit

theorem setE_setE (m : Mo) (x y : Int) : ∀ i : Nat, setE (setE m i x) i y = setE m i y
  | 0 => rfl
  | 1 => rfl
  | 2 => rfl
  | _ + 3 => rfl
def PT.key (p : PT) : (Bool × List Nat) × Mo := ((p.ng, p.ds), p.m)
theorem colT_eq (t : RP) (m : Mo) : colT t m = if t.lv ≤ 0 then [((t.ng, t.ds), m)] else if 4 < t.lv then [] else colL (t.lv.toNat - 1) t.ks m (expE m (t.lv.toNat - 1)) := by
  cases t
  rw [colT]
  rfl
theorem colL_append (i : Nat) : ∀ (ts us : List RP) (m : Mo) (e : Int), colL i (ts ++ us) m e = colL i ts m e ++ colL i us m (e + ts.length)
  | [], us, m, e => by simp [colL]
  | t :: ts, us, m, e => by
    simp only [List.cons_append, colL, colL_append i ts us, List.append_assoc, List.length_cons]
    rw [show e + 1 + (ts.length : Int) = e + ((ts.length + 1 : Nat) : Int) by omega]
theorem colL_take {i : Nat} {ts : List RP} {k : Nat} {u : RP} (h : ts[k]? = some u) (m : Mo) (e : Int) : colL i (ts.take (k + 1)) m e = colL i (ts.take k) m e ++ colT u (setE m i (e + k)) := by
  have hl : k < ts.length := (List.getElem?_eq_some_iff.1 h).1
  have e1 : ts[k] = u := (List.getElem?_eq_some_iff.1 h).2
  rw [List.take_succ_eq_append_getElem hl, colL_append, e1, List.length_take, Nat.min_eq_left (by omega)]
  simp [colL]
mutual
theorem colT_len : ∀ (t : RP) (m : Mo), (colT t m).length ≤ cntT t
  | .mk l g ds ks, m => by
    simp only [colT, cntT]
    split
    · simp
    · split
      · simp
      · have := colL_len (l.toNat - 1) ks m (expE m (l.toNat - 1))
        omega
theorem colL_len (i : Nat) : ∀ (ts : List RP) (m : Mo) (e : Int), (colL i ts m e).length ≤ cntL ts
  | [], m, e => by simp [colL]
  | t :: ts, m, e => by
    have h1 := colT_len t (setE m i e)
    have h2 := colL_len i ts m (e + 1)
    simp only [colL, cntL, List.length_append]
    omega
end
theorem cntL_take {ts : List RP} {k : Nat} {u : RP} (h : ts[k]? = some u) : cntL (ts.take k) + cntT u ≤ cntL ts := by
  induction ts generalizing k with
  | nil => simp at h
  | cons t ts ih =>
    cases k with
    | zero =>
      simp at h
      subst h
      simp [cntL]
    | succ k =>
      have := ih (k := k) (by simpa using h)
      simp only [List.take_succ_cons, cntL]
      omega
theorem cntT_eq (t : RP) : cntT t = cntL t.ks + 1 := by
  cases t
  rw [cntT]
  rfl
/-- exponents from 0 to X -/
def ExpB (m : Mo) (X : Int) : Prop := (0 ≤ m.1 ∧ m.1 ≤ X) ∧ (0 ≤ m.2.1 ∧ m.2.1 ≤ X) ∧ (0 ≤ m.2.2.1 ∧ m.2.2.1 ≤ X) ∧ (0 ≤ m.2.2.2 ∧ m.2.2.2 ≤ X)
theorem ExpB.at_ {m : Mo} {X : Int} (h : ExpB m X) (i : Nat) : 0 ≤ expE m i ∧ expE m i ≤ X := by
  obtain ⟨h0, h1, h2, h3⟩ := h
  unfold expE
  split <;> assumption
theorem ExpB.set {m : Mo} {X Y : Int} (h : ExpB m X) (i : Nat) {x : Int} (h0 : 0 ≤ x) (h1 : x ≤ Y) (hXY : X ≤ Y) : ExpB (setE m i x) Y := by
  obtain ⟨⟨a0, b0⟩, ⟨a1, b1⟩, ⟨a2, b2⟩, ⟨a3, b3⟩⟩ := h
  unfold setE ExpB
  split <;> (simp only []; omega)
theorem moV_set (m : Mo) (i : Nat) (hi : i < 4) (x : Int) : (moV m).setIfInBounds i (.int .i64 x) = moV (setE m i x) := by
  rcases (by omega : i = 0 ∨ i = 1 ∨ i = 2 ∨ i = 3) with rfl | rfl | rfl | rfl <;> rfl
theorem moV_atE (m : Mo) (i : Nat) (hi : i < 4) : (moV m)[i]? = some (.int .i64 (expE m i)) := by
  rcases (by omega : i = 0 ∨ i = 1 ∨ i = 2 ∨ i = 3) with rfl | rfl | rfl | rfl <;> rfl
end Go.Proofs.YtkkliemgidhgmaaGreatDoor
