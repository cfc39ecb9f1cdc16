/- Contracts of the reference's Valid, CompareMono, Few, and of few. -/
import Derived.IntWalk
import Derived.Test.YtnghlhcekghciaaGreatDoorH5
import Derived.Test.YtnghlhcekghciaaGreatDoorZK
import Derived.Test.YtnghlhcekghciaaGreatDoorT3
namespace Go.Proofs.YtnghlhcekghciaaGreatDoor
open Go.RowKit

/-- few digits, exponents neither great nor very negative -/
def fewP (d : Nat) (M : Int) (p : PT) : Prop := p.ds.length ≤ d ∧ ∀ j, j < 4 → -1000 ≤ gt p.m j ∧ gt p.m j ≤ M
def FewRes (t d : Nat) (M : Int) (ps : List PT) (w : World) (e : Ending) (w' : World) : Prop := ∃ b : Bool, e = .returned (.bool b) ∧ (b = true → ps.length ≤ t ∧ ∀ p ∈ ps, fewP d M p) ∧ w = w'
end Go.Proofs.YtnghlhcekghciaaGreatDoor

/- Contract of the reference's Canonical at canonical polynomials. -/
namespace Go.Proofs.YtnghlhcekghciaaGreatDoor
open Go.RowKit
attribute [local go_sem ↓] Go.wp_at_zero Go.wp_at_succ

theorem dig_last (v : Nat) (hv : v ≠ 0) : (dig v).getD ((dig v).length - 1) 0 ≠ 0 := by
  induction v using Nat.strongRecOn with
  | _ v ih =>
    rw [dig_pos hv]
    by_cases h : v / 4294967296 = 0
    · rw [h, dig_zero]
      simp
      omega
    · have hl : 0 < (dig (v / 4294967296)).length := dig_len_pos.2 (by omega)
      have e : (v % 4294967296 :: dig (v / 4294967296)).length - 1 = ((dig (v / 4294967296)).length - 1) + 1 := by simp; omega
      rw [e, List.getD_cons_succ]
      exact ih _ (by omega) h
theorem Canon.lt_at {ps : List PT} (h : Canon (ps.map PT.tm)) {i j : Nat} {p q : PT} (hp : ps[i]? = some p) (hq : ps[j]? = some q) (hij : i < j) : ltM q.m p.m := by
  have h1 := List.pairwise_iff_getElem.1 h.so i j (by simp; exact (List.getElem?_eq_some_iff.1 hp).1) (by simp; exact (List.getElem?_eq_some_iff.1 hq).1) hij
  simp only [List.getElem_map] at h1
  rw [(List.getElem?_eq_some_iff.1 hp).2, (List.getElem?_eq_some_iff.1 hq).2] at h1
  exact h1

end Go.Proofs.YtnghlhcekghciaaGreatDoor

/- Contract of the reference's Coef. -/
namespace Go.Proofs.YtnghlhcekghciaaGreatDoor
open Go.RowKit
attribute [local go_sem ↓] Go.wp_at_zero Go.wp_at_succ

theorem cf_take {ps : List PT} {k : Nat} {p : PT} (hp : ps[k]? = some p) {m : Mo} (hv : vld m = true) : cf ((ps.take (k + 1)).map PT.tm) m = cf ((ps.take k).map PT.tm) m + if p.m = m then p.tm.1 else 0 := by
  rw [take_snoc_tm hp, cf_append, cf_cons, cf_nil]
  by_cases e : p.m = m
  · subst e; rw [if_pos ⟨hv, rfl⟩, if_pos rfl]; omega
  · rw [if_neg (fun h => e h.2), if_neg e]; omega
theorem cf_invalid (l : List Tm) {m : Mo} (hv : vld m = false) : cf l m = 0 := by
  induction l with
  | nil => rfl
  | cons t l ih =>
    rw [cf_cons, ih, if_neg]
    · rfl
    · rintro ⟨h1, rfl⟩
      rw [hv] at h1
      cases h1

end Go.Proofs.YtnghlhcekghciaaGreatDoor

/- Contract of fit: the fixed example holds. -/
namespace Go.Proofs.YtnghlhcekghciaaGreatDoor
open Go.RowKit
attribute [local go_sem ↓] Go.wp_at_zero Go.wp_at_succ

def fitL : List Tm := [(1, (0, 2, 0, 0)), (2, (1, 1, 0, 0)), (1, (2, 0, 0, 0))]
def fitX : List Tm := [(1, (1, 0, 0, 0)), (1, (0, 1, 0, 0))]
theorem fit_can : Canon fitL := by
  refine ⟨by decide, by decide, ?_⟩
  unfold fitL
  simp [ltM]
theorem fit_cf (m : Mo) : cf fitL m = mulC fitX fitX m := by
  unfold cf mulC mulW fitL fitX
  simp only [lin, addM]
  by_cases h1 : ((0, 2, 0, 0) : Mo) = m
  · subst h1; decide
  · by_cases h2 : ((1, 1, 0, 0) : Mo) = m
    · subst h2; decide
    · by_cases h3 : ((2, 0, 0, 0) : Mo) = m
      · subst h3; decide
      · simp [h1, h2, h3]
theorem fit_lv : lvL fitL = 2 := by decide
theorem fit_sum (m : Mo) : cf [(1, (1, 0, 0, 0))] m + cf [(1, (0, 1, 0, 0))] m = cf fitX m := by
  rw [show fitX = [(1, (1, 0, 0, 0))] ++ [(1, (0, 1, 0, 0))] from rfl, cf_append]
theorem fit_qs {qs : List PT} (h : qs.map PT.tm = fitL) : ∃ q0 q1 q2, qs = [q0, q1, q2] ∧ q0.m = (0, 2, 0, 0) ∧ q1.m = (1, 1, 0, 0) ∧ q2.m = (2, 0, 0, 0) ∧ q1.tm.1 = 2 := by
  unfold fitL at h
  rcases qs with _ | ⟨q0, _ | ⟨q1, _ | ⟨q2, _ | ⟨q3, l⟩⟩⟩⟩
  · simp at h
  · simp at h
  · simp at h
  · simp [PT.tm] at h
    exact ⟨q0, q1, q2, rfl, h.1.2, h.2.1.2, h.2.2.2, h.2.1.1⟩
  · simp at h

end Go.Proofs.YtnghlhcekghciaaGreatDoor

/- SparseProduct: few polynomials; the plain law. -/
namespace Go.Proofs.YtnghlhcekghciaaGreatDoor
open Go.RowKit

theorem pw_mul (a b : Nat) : pw a * pw b = pw (a + b) := (Nat.pow_add _ a b).symm
theorem pw_pos (a : Nat) : 0 < pw a := Nat.pow_pos (by omega)
theorem pw_dbl (a : Nat) : pw a + pw a ≤ pw (a + 1) := by
  have : pw (a + 1) = pw a * 4294967296 := Nat.pow_succ ..
  have := pw_pos a
  omega
theorem pw_le {a b : Nat} (h : a ≤ b) : pw a ≤ pw b := Nat.pow_le_pow_right (by omega) h
theorem val_pw {ds : List Nat} (h : Dig ds) {k : Nat} (hk : ds.length ≤ k) : val ds < pw k := Nat.lt_of_lt_of_le (val_lt h) (pw_le hk)
theorem nrm_le_each (l : List Tm) (K : Nat) (h : ∀ t ∈ l, t.1.natAbs ≤ K) : nrm l ≤ l.length * K := by
  induction l with
  | nil => simp [nrm]
  | cons t l ih =>
    have h1 := h t List.mem_cons_self
    have h2 := ih fun s hs => h s (List.mem_cons_of_mem _ hs)
    simp only [nrm, List.length_cons, Nat.add_mul, Nat.one_mul]
    omega
theorem few_pin {w : World} {B : Nat} {A : Option Addr} {ps : List PT} (h : PolyIn w B A ps) (hw : ∀ p ∈ ps, WfM p.m) {t d : Nat} {M : Int} (hf : ps.length ≤ t ∧ ∀ p ∈ ps, fewP d M p) (ht : t ≤ 4294967296) (hd : d ≤ 1000) : PIn w B A ps t M (pw (d + 1)) where
  pin := h
  dl p hp := Nat.le_trans (hf.2 p hp).1 hd
  wf := hw
  mb p hp _ := ⟨((hf.2 p hp).2 0 (by omega)).2, ((hf.2 p hp).2 1 (by omega)).2, ((hf.2 p hp).2 2 (by omega)).2, ((hf.2 p hp).2 3 (by omega)).2⟩
  len := hf.1
  nm := by
    have h1 := nrm_le_each (ps.map PT.tm) (pw d) (fun t ht => by
      obtain ⟨p, hp, rfl⟩ := List.mem_map.1 ht
      show (ival p.ng p.ds).natAbs ≤ _
      rw [ival_abs]
      exact Nat.le_of_lt (val_pw (h.nt p hp).dg (hf.2 p hp).1))
    have h2 : (ps.map PT.tm).length * pw d ≤ 4294967296 * pw d := Nat.mul_le_mul_right _ (by rw [List.length_map]; omega)
    have h3 : pw (d + 1) = pw d * 4294967296 := Nat.pow_succ ..
    omega
def vF (l : List Tm) : List Tm := l.filter fun t => vld t.2
theorem lin_vF (f : Mo → Int) (l : List Tm) : lin f (vF l) = lin f l := by
  induction l with
  | nil => rfl
  | cons t l ih =>
    unfold vF at *
    by_cases h : vld t.2 = true
    · simp only [List.filter_cons, h, if_true, lin, ih]
    · simp only [List.filter_cons, h, lin]
      simpa using ih
theorem cf_vF (l : List Tm) (m : Mo) : cf (vF l) m = cf l m := lin_vF _ l
theorem vF_vl (l : List Tm) : ∀ t ∈ vF l, vld t.2 = true := fun _ ht => (List.mem_filter.1 ht).2
theorem cf_all_prod (p q : List Tm) (m : Mo) : cf (mulL (vF p) (vF q)) m = mulC p q m := by
  rw [cf_mulL _ _ (vF_vl p) (vF_vl q)]
  exact mulC_ext (cf_vF p) (cf_vF q) m
theorem vF_snoc (l : List Tm) (t : Tm) : vF (l ++ [t]) = if vld t.2 = true then vF l ++ [t] else vF l := by
  unfold vF
  rw [List.filter_append]
  by_cases h : vld t.2 = true <;> simp [h]
/-- the law of distribution -/
theorem mulC_dist {p q r s : List Tm} (h : ∀ m, cf s m = cf q m + cf r m) (m : Mo) : mulC p s m = mulC p q m + mulC p r m := by
  rw [← mulC_add]
  exact mulC_ext (fun _ => rfl) (fun x => by rw [h, cf_append]) m
/-- the products of one term with valid ones -/
def rowV (p : Tm) (l : List Tm) : List Tm := if vld p.2 = true then mulRow p (vF l) else []
theorem rowV_nil (p : Tm) : rowV p [] = [] := by unfold rowV; split <;> rfl
theorem rowV_bad {p : Tm} (h : vld p.2 = false) (l : List Tm) : rowV p l = [] := by unfold rowV; rw [if_neg (by simp [h])]
theorem rowV_skip {p t : Tm} (l : List Tm) (h : vld t.2 = false) : rowV p (l ++ [t]) = rowV p l := by
  have e : vF (l ++ [t]) = vF l := by rw [vF_snoc, if_neg (by simp [h])]
  unfold rowV
  rw [e]
theorem rowV_snoc {p t : Tm} (l : List Tm) (hp : vld p.2 = true) (h : vld t.2 = true) : rowV p (l ++ [t]) = rowV p l ++ [(p.1 * t.1, addM p.2 t.2)] := by
  unfold rowV
  rw [if_pos hp, if_pos hp, vF_snoc, if_pos h]
  simp [mulRow]
theorem mulV_snoc (P Q : List Tm) (p : Tm) : mulL (vF (P ++ [p])) (vF Q) = mulL (vF P) (vF Q) ++ rowV p Q := by
  unfold rowV
  rw [vF_snoc]
  by_cases h : vld p.2 = true
  · rw [if_pos h, if_pos h, mulL_snoc]
  · rw [if_neg h, if_neg h, List.append_nil]
theorem vF_len (l : List Tm) : (vF l).length ≤ l.length := List.length_filter_le _ _
theorem rowV_len (p : Tm) (l : List Tm) : (rowV p l).length ≤ l.length := by
  unfold rowV
  split
  · rw [len_mulRow]; exact vF_len l
  · simp
theorem allV_len (P Q l : List Tm) (p : Tm) (h1 : P.length ≤ 8) (h2 : Q.length ≤ 8) (h3 : l.length ≤ 8) : (mulL (vF P) (vF Q) ++ rowV p l).length ≤ 100 := by
  rw [List.length_append, len_mulL]
  have a1 := vF_len P; have a2 := vF_len Q; have a3 := rowV_len p l
  have : (vF P).length * (vF Q).length ≤ 8 * 8 := Nat.mul_le_mul (by omega) (by omega)
  omega
theorem nrm_vF (l : List Tm) : nrm (vF l) ≤ nrm l := by
  induction l with
  | nil => simp [vF]
  | cons t l ih =>
    unfold vF at *
    by_cases h : vld t.2 = true
    · simp only [List.filter_cons, h, if_true, nrm]; omega
    · simp only [List.filter_cons, h, nrm]; simp; omega
theorem own_new_ne {w : World} {base n size : Nat} {e : TypeId} {v : Value} {xs : List Value} (h : w.ownsRow base e size v n xs) (k : Nat) : v.ownBlock ≠ some (w.heap.size + k) := fun e1 => by
  rcases h.2 with ⟨rfl, _⟩ | ⟨r, _, cur, rfl, _, hh, _⟩
  · simp [Value.ownBlock] at e1
  · have h1 : r = w.heap.size + k := by simpa [Value.ownBlock] using e1
    have h2 := (show Blk w r _ cur from hh).lt
    omega
theorem cell_far1 {w : World} {g b o o' : Nat} {u x : Value} (h : w.cell? ⟨b, o, none⟩ = some x) (hne : b ≠ g) : (w.setCell ⟨g, o', none⟩ u).cell? ⟨b, o, none⟩ = some x := by
  rw [World.cell?_setCell_other _ _ _ _ (fun e => hne (congrArg Addr.block e).symm)]
  exact h
def mix6 (a b : Value) (x0 x1 x2 x3 : Int) : Nat → Array Value
  | 0 => #[a, b, .int .i64 0, .int .i64 0, .int .i64 0, .int .i64 0]
  | 1 => #[a, b, .int .i64 x0, .int .i64 0, .int .i64 0, .int .i64 0]
  | 2 => #[a, b, .int .i64 x0, .int .i64 x1, .int .i64 0, .int .i64 0]
  | 3 => #[a, b, .int .i64 x0, .int .i64 x1, .int .i64 x2, .int .i64 0]
  | _ => #[a, b, .int .i64 x0, .int .i64 x1, .int .i64 x2, .int .i64 x3]
/-- a row of terms with one more -/
theorem POwn.snoc {X w4 : World} {base : Nat} {v v' : Value} {al : List PT} {q : PT} (h : POwn X base v al) (hb : base ≤ X.heap.size) (hq : NatB X q.A q.ds) (hqc : q.ds.length ≤ q.c) (hqn : Cn q) (o : Obj)
    (hown : w4.ownsRow base 47 6 v' (al.length + 1) (al.flatMap PT.cells ++ q.cells)) (hg : (X.alloc o).grownBy w4 v.ownBlock) : POwn w4 base v' (al ++ [q]) ∧ Below base X w4 := by
  have hba : Below X.heap.size X (X.alloc o) := (Below.refl _ X).alloc (Nat.le_refl _) o
  have row1 := own_old h.row hba
  have t : GTurn base X w4 := (GTurn.of_below hb hba).trans (.grown (Nat.le_trans hb hba.size) row1 hg)
  refine ⟨⟨by rw [flat_snoc, List.length_append]; exact hown, fun p hp => ?_, fun p hp => ?_⟩, t.below⟩
  · rcases List.mem_append.1 hp with k | k
    · exact ⟨t.natB (h.dg p k).1, (h.dg p k).2⟩
    · simp at k
      subst k
      exact ⟨t.natB hq, hqc⟩
  · rcases List.mem_append.1 hp with k | k
    · exact h.cn p k
    · simp at k
      subst k
      exact hqn
end Go.Proofs.YtnghlhcekghciaaGreatDoor
