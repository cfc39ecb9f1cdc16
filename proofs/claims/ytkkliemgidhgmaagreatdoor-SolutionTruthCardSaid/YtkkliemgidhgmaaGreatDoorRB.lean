/- Plain facts of recursive polynomials: their size. -/
import Derived.Test.YtkkliemgidhgmaaGreatDoorRA
namespace Go.Proofs.YtkkliemgidhgmaaGreatDoor

mutual
def roomT (dg : Nat) : RP → Int → Nat → Int
  | .mk _ _ ds ks, n, deep => if deep = 0 then -1 else if dg < ds.length then -1 else if 12 < ks.length then -1 else roomL dg ks (n - 1) (deep - 1)
def roomL (dg : Nat) : List RP → Int → Nat → Int
  | [], n, _ => n
  | t :: ts, n, d => if n < 0 then -1 else roomL dg ts (roomT dg t n d) d
end
mutual
def cntT : RP → Nat
  | .mk _ _ _ ks => cntL ks + 1
def cntL : List RP → Nat
  | [] => 0
  | t :: ts => cntT t + cntL ts
end
mutual
def FewT (dg : Nat) : RP → Prop
  | .mk _ _ ds ks => ds.length ≤ dg ∧ ks.length ≤ 12 ∧ FewL dg ks
def FewL (dg : Nat) : List RP → Prop
  | [] => True
  | t :: ts => FewT dg t ∧ FewL dg ts
end
theorem roomL_neg (dg : Nat) (ts : List RP) (n : Int) (d : Nat) (h : n < 0) : roomL dg ts n d < 0 := by
  cases ts with
  | nil => simp only [roomL]; exact h
  | cons t ts => simp only [roomL]; rw [if_pos h]; omega
mutual
theorem roomT_few (dg : Nat) : ∀ (t : RP) (n : Int) (d : Nat), 0 ≤ roomT dg t n d → (cntT t : Int) + roomT dg t n d ≤ n ∧ depT t ≤ d ∧ FewT dg t
  | .mk l g ds ks, n, d, h => by
    simp only [roomT] at h ⊢
    by_cases h0 : d = 0
    · rw [if_pos h0] at h; omega
    · rw [if_neg h0] at h ⊢
      by_cases h1 : dg < ds.length
      · rw [if_pos h1] at h; omega
      · rw [if_neg h1] at h ⊢
        by_cases h2 : 12 < ks.length
        · rw [if_pos h2] at h; omega
        · rw [if_neg h2] at h ⊢
          obtain ⟨a1, a2, a3⟩ := roomL_few dg ks (n - 1) (d - 1) h
          refine ⟨?_, ?_, ?_⟩
          · simp only [cntT]; omega
          · simp only [depT]; omega
          · simp only [FewT]; exact ⟨by omega, by omega, a3⟩
theorem roomL_few (dg : Nat) : ∀ (ts : List RP) (n : Int) (d : Nat), 0 ≤ roomL dg ts n d → (cntL ts : Int) + roomL dg ts n d ≤ n ∧ depL ts ≤ d ∧ FewL dg ts
  | [], n, d, h => by simp [roomL, cntL, depL, FewL]
  | t :: ts, n, d, h => by
    simp only [roomL] at h ⊢
    by_cases h0 : n < 0
    · rw [if_pos h0] at h; omega
    · rw [if_neg h0] at h ⊢
      have h1 : 0 ≤ roomT dg t n d := Int.not_lt.1 fun hn => by have := roomL_neg dg ts _ d hn; omega
      obtain ⟨a1, a2, a3⟩ := roomT_few dg t n d h1
      obtain ⟨b1, b2, b3⟩ := roomL_few dg ts _ d h
      refine ⟨?_, ?_, ?_⟩
      · simp only [cntL]; omega
      · simp only [depL]; omega
      · simp only [FewL]; exact ⟨a3, b3⟩
end
theorem roomL_cons (dg : Nat) (t : RP) (ts : List RP) (n : Int) (d : Nat) : roomL dg (t :: ts) n d = if n < 0 then -1 else roomL dg ts (roomT dg t n d) d := by rw [roomL]
theorem roomL_append (dg : Nat) : ∀ (ts us : List RP) (n : Int) (d : Nat), roomL dg (ts ++ us) n d = if us = [] then roomL dg ts n d else if roomL dg ts n d < 0 then -1 else roomL dg us (roomL dg ts n d) d
  | [], us, n, d => by
    have e : roomL dg [] n d = n := by rw [roomL]
    rw [e, List.nil_append]
    cases us with
    | nil => rw [if_pos rfl, e]
    | cons u us =>
      rw [if_neg (by simp), roomL_cons]
      by_cases h : n < 0
      · rw [if_pos h, if_pos h]
      · rw [if_neg h, if_neg h]
  | t :: ts, us, n, d => by
    rw [List.cons_append, roomL_cons, roomL_cons]
    by_cases h0 : n < 0
    · rw [if_pos h0, if_pos h0]; simp
    · rw [if_neg h0, if_neg h0, roomL_append dg ts us]
mutual
theorem roomT_bd (dg : Nat) : ∀ (t : RP) (n : Int) (d : Nat), 0 ≤ n → -1 ≤ roomT dg t n d ∧ roomT dg t n d ≤ n
  | .mk l g ds ks, n, d, h => by
    simp only [roomT]
    split
    · omega
    · split
      · omega
      · split
        · omega
        · have := roomL_bd dg ks (n - 1) (d - 1) (by omega)
          omega
theorem roomL_bd (dg : Nat) : ∀ (ts : List RP) (n : Int) (d : Nat), -1 ≤ n → -1 ≤ roomL dg ts n d ∧ roomL dg ts n d ≤ n
  | [], n, d, h => by simp only [roomL]; omega
  | t :: ts, n, d, h => by
    simp only [roomL]
    split
    · omega
    · have h1 := roomT_bd dg t n d (by omega)
      have h2 := roomL_bd dg ts (roomT dg t n d) d h1.1
      omega
end
theorem roomL_take {dg : Nat} {ts : List RP} {k : Nat} {u : RP} (h : ts[k]? = some u) (n : Int) (d : Nat) (h0 : 0 ≤ roomL dg (ts.take k) n d) : roomL dg (ts.take (k + 1)) n d = roomT dg u (roomL dg (ts.take k) n d) d := by
  have hl : k < ts.length := (List.getElem?_eq_some_iff.1 h).1
  have e : ts[k] = u := (List.getElem?_eq_some_iff.1 h).2
  rw [List.take_succ_eq_append_getElem hl, roomL_append, if_neg (by simp), if_neg (by omega), e]
  simp only [roomL]
  rw [if_neg (by omega)]
theorem roomL_stop {dg : Nat} {ts : List RP} {k : Nat} (hk : k < ts.length) (n : Int) (d : Nat) (h0 : roomL dg (ts.take k) n d < 0) : roomL dg ts n d = -1 := by
  have := roomL_append dg (ts.take k) (ts.drop k) n d
  rw [List.take_append_drop, if_neg (by intro e; have := congrArg List.length e; simp at this; omega), if_pos h0] at this
  exact this
theorem roomT_eq (dg : Nat) (t : RP) (n : Int) (d : Nat) : roomT dg t n d = if d = 0 then -1 else if dg < t.ds.length then -1 else if 12 < t.ks.length then -1 else roomL dg t.ks (n - 1) (d - 1) := by
  cases t
  rw [roomT]
  rfl
end Go.Proofs.YtkkliemgidhgmaaGreatDoor
