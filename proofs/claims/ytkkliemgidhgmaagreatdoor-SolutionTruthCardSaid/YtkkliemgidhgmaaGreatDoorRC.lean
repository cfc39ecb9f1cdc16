/- Plain facts of recursive polynomials: the canonical form, copies. -/
import Derived.Test.YtkkliemgidhgmaaGreatDoorRB
import Derived.Test.YtkkliemgidhgmaaGreatDoorZQ
namespace Go.Proofs.YtkkliemgidhgmaaGreatDoor

def isZT (t : RP) : Bool := decide (t.lv = 0) && decide (t.ds.length = 0)
/-- the last coefficient is not 0 -/
def lastT (ks : List RP) : Bool :=
  match ks[ks.length - 1]? with
  | some t => !isZT t
  | none => false
/-- the constant of a canonical constant -/
def canC (g : Bool) (ds : List Nat) : Bool := if ds.length = 0 then !g else decide (ds.getD (ds.length - 1) 0 ≠ 0)
mutual
def canB : RP → Bool
  | .mk l g ds ks => if l = 0 then (if 0 < ks.length then false else canC g ds)
      else if (decide (1 ≤ l) && decide (l ≤ 4) && decide (ds.length = 0) && !g && decide (2 ≤ ks.length)) = false then false
      else if canL l ks = false then false else lastT ks
def canL (l : Int) : List RP → Bool
  | [] => true
  | t :: ts => (decide (t.lv < l) && canB t) && canL l ts
end
theorem canL_take (l : Int) : ∀ (ts : List RP) (k : Nat) (t : RP), ts[k]? = some t → canL l (ts.take (k + 1)) = (canL l (ts.take k) && (decide (t.lv < l) && canB t))
  | [], k, t, h => by simp at h
  | s :: ts, 0, t, h => by
    simp at h
    subst h
    simp [canL]
  | s :: ts, k + 1, t, h => by
    have := canL_take l ts k t (by simpa using h)
    simp only [List.take_succ_cons, canL, this, Bool.and_assoc]
theorem canL_bad (l : Int) : ∀ (ts : List RP) (k : Nat) (t : RP), ts[k]? = some t → (decide (t.lv < l) && canB t) = false → canL l ts = false
  | [], k, t, h, _ => by simp at h
  | s :: ts, 0, t, h, hb => by
    simp at h
    subst h
    simp [canL, hb]
  | s :: ts, k + 1, t, h, hb => by
    have := canL_bad l ts k t (by simpa using h) hb
    simp [canL, this]
mutual
/-- the copy -/
def cpT : RP → RP
  | .mk l g ds ks => if l = 0 then .mk 0 (decide (ival g ds < 0)) (dig (val ds)) [] else .mk l false [] (cpL ks)
def cpL : List RP → List RP
  | [] => []
  | t :: ts => cpT t :: cpL ts
end
theorem cpL_map (ts : List RP) : cpL ts = ts.map cpT := by
  induction ts with
  | nil => simp [cpL]
  | cons t ts ih => simp [cpL, ih]
/-- a monomial with another exponent -/
def setE (m : Mo) (i : Nat) (x : Int) : Mo :=
  match i with
  | 0 => (x, m.2.1, m.2.2.1, m.2.2.2)
  | 1 => (m.1, x, m.2.2.1, m.2.2.2)
  | 2 => (m.1, m.2.1, x, m.2.2.2)
  | _ => (m.1, m.2.1, m.2.2.1, x)
def expE (m : Mo) (i : Nat) : Int :=
  match i with
  | 0 => m.1
  | 1 => m.2.1
  | 2 => m.2.2.1
  | _ => m.2.2.2
mutual
/-- the terms of a tree, multiplied by a monomial -/
def colT : RP → Mo → List ((Bool × List Nat) × Mo)
  | .mk l g ds ks, m => if l ≤ 0 then [((g, ds), m)] else if 4 < l then [] else colL (l.toNat - 1) ks m (expE m (l.toNat - 1))
def colL (i : Nat) : List RP → Mo → Int → List ((Bool × List Nat) × Mo)
  | [], _, _ => []
  | t :: ts, m, e => colT t (setE m i e) ++ colL i ts m (e + 1)
end
end Go.Proofs.YtkkliemgidhgmaaGreatDoor
