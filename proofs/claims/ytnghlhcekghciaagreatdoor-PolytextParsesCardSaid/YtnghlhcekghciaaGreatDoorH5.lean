/- Contracts of the closure of sparse.Compare, slices.CompareFunc at terms. -/
import Derived.Test.YtnghlhcekghciaaGreatDoorH4
namespace Go.Proofs.YtnghlhcekghciaaGreatDoor
open Go.RowKit

def cmpT (s t : Tm) : Int := if s.2 = t.2 then cmpZ s.1 t.1 else cmpM s.2 t.2
def cmpL : List Tm → List Tm → Int
  | [], [] => 0
  | [], _ :: _ => -1
  | _ :: _, [] => 1
  | s :: p, t :: q => if cmpT s t = 0 then cmpL p q else cmpT s t
theorem cmpZ_zero' {a b : Int} : cmpZ a b = 0 ↔ a = b := by
  unfold cmpZ
  constructor
  · intro h
    split at h
    · omega
    · split at h <;> omega
  · rintro rfl; simp
theorem cmpT_zero {s t : Tm} : cmpT s t = 0 ↔ s = t := by
  unfold cmpT
  by_cases h : s.2 = t.2
  · rw [if_pos h, cmpZ_zero']
    exact ⟨fun k => Prod.ext k h, fun k => congrArg Prod.fst k⟩
  · rw [if_neg h, cmpM_zero]
    exact ⟨fun k => absurd k h, fun k => absurd (congrArg Prod.snd k) h⟩
theorem cmpL_zero {p q : List Tm} : cmpL p q = 0 ↔ p = q := by
  induction p generalizing q with
  | nil => cases q <;> simp [cmpL]
  | cons s p ih =>
    cases q with
    | nil => simp [cmpL]
    | cons t q =>
      simp only [cmpL]
      by_cases h : cmpT s t = 0
      · rw [if_pos h, ih]
        have := cmpT_zero.1 h
        subst this
        simp
      · rw [if_neg h]
        have : s ≠ t := fun e => h (cmpT_zero.2 e)
        simp [this, h]

set_option maxRecDepth 100000 in
theorem Tryz.eq_mono (a b : Mo) (ha : WfM a) (hb : WfM b) (w : World) : (Op.equalIn 10000 45 (.agg (moV a)) (.agg (moV b))).run Tryz.prog w = .ok (decide (a = b)) w := by
  obtain ⟨r, hr, hi⟩ := run_equal_deep w (m := 2) (by decide) Tryz.keyAt2 Tryz.wideMono (key_lit ha) (key_lit hb)
  have : r = decide (a = b) := by
    rw [Bool.eq_iff_iff, hi, decide_eq_true_eq]
    exact ⟨fun e => klit_inj ha hb e, fun e => by rw [e]⟩
  rw [← this]
  exact hr
theorem cmpL_step {ps qs : List PT} {k : Nat} {p q : PT} (hp : ps[k]? = some p) (hq : qs[k]? = some q) : cmpL ((ps.drop k).map PT.tm) ((qs.drop k).map PT.tm) = if cmpT p.tm q.tm = 0 then cmpL ((ps.drop (k + 1)).map PT.tm) ((qs.drop (k + 1)).map PT.tm) else cmpT p.tm q.tm := by
  have h1 : k < ps.length := (List.getElem?_eq_some_iff.1 hp).1
  have h2 : k < qs.length := (List.getElem?_eq_some_iff.1 hq).1
  have e1 : ps[k] = p := (List.getElem?_eq_some_iff.1 hp).2
  have e2 : qs[k] = q := (List.getElem?_eq_some_iff.1 hq).2
  rw [List.drop_eq_getElem_cons h1, List.drop_eq_getElem_cons h2, e1, e2]
  rfl
theorem cmpL_long {ps qs : List PT} {k : Nat} (hp : k < ps.length) (hq : qs.length ≤ k) : cmpL ((ps.drop k).map PT.tm) ((qs.drop k).map PT.tm) = 1 := by
  rw [List.drop_eq_getElem_cons hp, List.drop_eq_nil_of_le hq]
  rfl
theorem cmpL_end1 {ps qs : List PT} {k : Nat} (hp : ps.length ≤ k) (hq : k < qs.length) : cmpL ((ps.drop k).map PT.tm) ((qs.drop k).map PT.tm) = -1 := by
  rw [List.drop_eq_getElem_cons hq, List.drop_eq_nil_of_le hp]
  rfl
theorem cmpL_end0 {ps qs : List PT} {k : Nat} (hp : ps.length ≤ k) (hq : qs.length ≤ k) : cmpL ((ps.drop k).map PT.tm) ((qs.drop k).map PT.tm) = 0 := by
  rw [List.drop_eq_nil_of_le hq, List.drop_eq_nil_of_le hp]
  rfl

theorem cf_all {ps qs : List PT} {W W' : World} {b b' N N' M M' : Nat} {E E' : Int} {v v' : Value} {F G : Mo → Int} (h : PGood W b v ps F N E M) (h' : PGood W' b' v' qs G N' E' M') (hFG : ∀ m, F m = G m) : ps.map PT.tm = qs.map PT.tm :=
  h.can.unique h'.can fun m => (h.cf m).trans ((hFG m).trans (h'.cf m).symm)
theorem cf_not {ps qs : List PT} {W W' : World} {b b' N N' M M' : Nat} {E E' : Int} {v v' : Value} {F G : Mo → Int} (h : PGood W b v ps F N E M) (h' : PGood W' b' v' qs G N' E' M') (he : ps.map PT.tm = qs.map PT.tm) (m : Mo) : F m = G m := by
  rw [← h.cf, ← h'.cf, he]

/-- what Compare hands back: the order of the canonical forms -/
def CmpRes (F G : Mo → Int) (w : World) (e : Ending) (w' : World) : Prop := ∃ P Q, Canon P ∧ Canon Q ∧ (∀ m, cf P m = F m) ∧ (∀ m, cf Q m = G m) ∧ e = .returned (.int .i64 (cmpL P Q)) ∧ Below w.heap.size w w'

/-- what Same hands back -/
def SameRes (F G : Mo → Int) (w : World) (e : Ending) (w' : World) : Prop := ∃ b : Bool, (b = true ↔ ∀ m, F m = G m) ∧ e = .returned (.bool b) ∧ Below w.heap.size w w'
theorem SameRes.yes {F G : Mo → Int} {w : World} {e : Ending} {w' : World} (h : SameRes F G w e w') (hFG : ∀ m, F m = G m) : e = .returned (.bool true) ∧ Below w.heap.size w w' := by
  obtain ⟨b, hb, he, hw⟩ := h
  rw [hb.2 hFG] at he
  exact ⟨he, hw⟩
theorem SameRes.no {F G : Mo → Int} {w : World} {e : Ending} {w' : World} (h : SameRes F G w e w') {m : Mo} (hFG : F m ≠ G m) : e = .returned (.bool false) ∧ Below w.heap.size w w' := by
  obtain ⟨b, hb, he, hw⟩ := h
  cases b with
  | true => exact absurd (hb.1 rfl m) hFG
  | false => exact ⟨he, hw⟩
end Go.Proofs.YtnghlhcekghciaaGreatDoor
