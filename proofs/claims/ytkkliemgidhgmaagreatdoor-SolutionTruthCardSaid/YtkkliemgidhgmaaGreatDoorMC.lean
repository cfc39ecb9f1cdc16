/- The matrix of terms, plain; contract of solution.relation. -/
import Derived.IntWalk
import Derived.Test.YtkkliemgidhgmaaGreatDoorMB
import Derived.Test.YtkkliemgidhgmaaGreatDoorRR
namespace Go.Proofs.YtkkliemgidhgmaaGreatDoor
open Go.RowKit

/-- the relation of a sign -/
def relN (s : Int) : Int := if s = 1 then 1 else if s = 2 then 3 else if s = 3 then 2 else if s = 4 then 6 else if s = 5 then 4 else 5
open Classical in
/-- what Normal makes of a tree -/
noncomputable def nrT (t : RP) : RP := if h : ∃ T, CanT t T then cpT h.choose else zeroT
theorem nrT_eq {t T : RP} (h : CanT t T) : nrT t = cpT T := by
  have hx : ∃ T, CanT t T := ⟨T, h⟩
  unfold nrT
  rw [dif_pos hx, CanT.unique hx.choose_spec h]
theorem nrT_cases (t : RP) : (∃ T, CanT t T ∧ nrT t = cpT T) ∨ nrT t = zeroT := by
  by_cases hx : ∃ T, CanT t T
  · obtain ⟨T, h⟩ := hx
    exact .inl ⟨T, h, nrT_eq h⟩
  · right
    unfold nrT
    rw [dif_neg hx]
noncomputable def atm (p : RP) (s : Int) : List MX := if s = 7 then [] else if s = 0 then [zeroM] else [.mk 2 (relN s) (nrT p) []]
noncomputable def atms : List RP → List Int → List MX
  | p :: ps, s :: ss => atm p s ++ atms ps ss
  | [], _ => []
  | _ :: _, [] => []
theorem atms_nil (ps : List RP) : atms ps [] = [] := by cases ps <;> rfl
theorem atms_take : ∀ (ps : List RP) (ss : List Int) (k : Nat) (p : RP) (s : Int), ps[k]? = some p → ss[k]? = some s → atms ps (ss.take (k + 1)) = atms ps (ss.take k) ++ atm p s
  | [], _, _, _, _, h, _ => by simp at h
  | _ :: _, [], _, _, _, _, h => by simp at h
  | p :: ps, s :: ss, 0, q, r, h, h' => by
    simp at h h'
    subst h; subst h'
    simp [atms, atms_nil]
  | p :: ps, s :: ss, k + 1, q, r, h, h' => by
    have := atms_take ps ss k q r (by simpa using h) (by simpa using h')
    simp only [List.take_succ_cons, atms, this, List.append_assoc]
theorem atms_len : ∀ (ps : List RP) (ss : List Int), (atms ps ss).length ≤ ss.length
  | [], ss => by simp [atms]
  | _ :: _, [] => by simp [atms]
  | p :: ps, s :: ss => by
    have h1 := atms_len ps ss
    have h2 : (atm p s).length ≤ 1 := by
      unfold atm
      split
      · simp
      · split <;> simp
    simp only [atms, List.length_append, List.length_cons]
    omega
noncomputable def andM (ps : List RP) (ss : List Int) : MX := .mk 3 0 zeroT (atms ps ss)
noncomputable def orM (ps : List RP) (ts : List (List Int)) : MX := .mk 4 0 zeroT (ts.map (andM ps))
def sgB (s : Int) : Bool := decide (0 ≤ s) && decide (s ≤ 7)
def termB (n : Nat) (t : List Int) : Bool := decide (t.length = n) && t.all sgB
def matB (n : Nat) (ts : List (List Int)) : Bool := ts.all (termB n)
/-- what both functions return -/
def MatRes (ps : List RP) (ts : List (List Int)) (w : World) (e : Ending) (w' : World) : Prop :=
  (if matB ps.length ts = true then ∃ L lc, e = .returned (.tuple #[.agg #[.int .i64 4, .int .i64 0, .int .i64 0, .bool false, .slice none 0 0, .slice none 0 0, .slice L ts.length lc], .int .i64 0]) ∧ MV w' (OkM w' w.heap.size none) (orM ps ts) (mcell (orM ps ts) none 0 none 0 L lc)
    else e = .returned (.tuple #[.agg #[.int .i64 0, .int .i64 0, .int .i64 0, .bool false, .slice none 0 0, .slice none 0 0, .slice none 0 0], .int .i64 1])) ∧ Below w.heap.size w w'
theorem all_bad {α : Type} {f : α → Bool} {l : List α} {x : α} (h : x ∈ l) (hf : f x = false) : l.all f = false := by
  rw [List.all_eq_false]
  exact ⟨x, h, by simp [hf]⟩
theorem all_take_succ {α : Type} {f : α → Bool} {l : List α} {k : Nat} {x : α} (h : l[k]? = some x) (h0 : (l.take k).all f = true) (hf : f x = true) : (l.take (k + 1)).all f = true := by
  obtain ⟨hk, rfl⟩ := List.getElem?_eq_some_iff.1 h
  rw [List.take_succ_eq_append_getElem hk, List.all_append, h0]
  simp [hf]
theorem mapM_take (ps : List RP) (ts : List (List Int)) (k : Nat) (t : List Int) (h : ts[k]? = some t) : (ts.take (k + 1)).map (andM ps) = (ts.take k).map (andM ps) ++ [andM ps t] := by
  obtain ⟨hk, rfl⟩ := List.getElem?_eq_some_iff.1 h
  rw [List.take_succ_eq_append_getElem hk, List.map_append]
  rfl
set_option maxHeartbeats 1000000 in
theorem rel_any (s : Int) (w : World) : Calls Tryz.prog 40 #[.int .i64 s] w fun e w' => e = .returned (.int .i64 (relN s)) ∧ w' = w := by
  by_cases h1 : s = 1
  · subst h1
    go_enter Tryz.func40, Tryz.ntmps40
    go_wp2
    go_ret
    exact ⟨rfl, rfl⟩
  by_cases h2 : s = 2
  · subst h2
    go_enter Tryz.func40, Tryz.ntmps40
    go_wp2
    go_ret
    exact ⟨rfl, rfl⟩
  by_cases h3 : s = 3
  · subst h3
    go_enter Tryz.func40, Tryz.ntmps40
    go_wp2
    go_ret
    exact ⟨rfl, rfl⟩
  by_cases h4 : s = 4
  · subst h4
    go_enter Tryz.func40, Tryz.ntmps40
    go_wp2
    go_ret
    exact ⟨rfl, rfl⟩
  by_cases h5 : s = 5
  · subst h5
    go_enter Tryz.func40, Tryz.ntmps40
    go_wp2
    go_ret
    exact ⟨rfl, rfl⟩
  have e : relN s = 5 := by unfold relN; simp [h1, h2, h3, h4, h5]
  have e1 : (s == 1) = false := by simpa using h1
  have e2 : (s == 2) = false := by simpa using h2
  have e3 : (s == 3) = false := by simpa using h3
  have e4 : (s == 4) = false := by simpa using h4
  have e5 : (s == 5) = false := by simpa using h5
  rw [e]
  clear h1 h2 h3 h4 h5 e
  go_enter Tryz.func40, Tryz.ntmps40
  go_wp2
  go_ret
  exact ⟨rfl, rfl⟩
end Go.Proofs.YtkkliemgidhgmaaGreatDoor
