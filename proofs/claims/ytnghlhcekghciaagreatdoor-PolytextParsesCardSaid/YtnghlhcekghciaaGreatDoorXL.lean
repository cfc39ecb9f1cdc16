/- Rows of terms of the call's own, with digits wherever; the reference's Add at any signs; the plain law of PolytextOrder. -/
import Derived.Test.YtnghlhcekghciaaGreatDoorZU
import Derived.Test.YtnghlhcekghciaaGreatDoorXE
namespace Go.Proofs.YtnghlhcekghciaaGreatDoor
open Go.RowKit

theorem RAdd_any (ng ng' : Bool) (A A' : Option Addr) (c c' B : Nat) (ds es : List Nat) (w : World) (hB : B ≤ w.heap.size) (h : NatIn w B A c ds) (h' : NatIn w B A' c' es) (hm : ds.length ≤ 100000) (hm' : es.length ≤ 100000) :
    Calls Tryz.prog 31 #[.agg #[.bool ng, .slice A ds.length c], .agg #[.bool ng', .slice A' es.length c']] w (IntResK (ival ng ds + ival ng' es) w) := by
  by_cases e : ng' = ng
  · subst e; exact RAdd_same ng' A A' c c' B ds es w hB h h' hm hm'
  · obtain rfl : ng' = !ng := by cases ng <;> cases ng' <;> simp_all
    exact RAdd_other ng A A' c c' B ds es w hB h h' hm hm'

/-- a row of terms of the call's own -/
structure PRow (w : World) (base : Nat) (v : Value) (ps : List PT) : Prop where
  row : w.ownsRow base 47 6 v ps.length (ps.flatMap PT.cells)
  dg : ∀ p ∈ ps, NatK w p.A p.ds ∧ Dig p.ds ∧ p.ds.length ≤ p.c
theorem PRow.nil (w : World) (base : Nat) : PRow w base (.slice none 0 0) [] := ⟨⟨rfl, .inl ⟨rfl, rfl⟩⟩, by simp⟩
theorem PRow.old {w w' : World} {base : Nat} {v : Value} {ps : List PT} (h : PRow w base v ps) (hb : Below w.heap.size w w') : PRow w' base v ps :=
  ⟨own_after h.row hb, fun p hp => ⟨(h.dg p hp).1.old hb, (h.dg p hp).2⟩⟩
theorem PRow.polyIn {w : World} {base n c : Nat} {A : Option Addr} {ps : List PT} (h : PRow w base (.slice A n c) ps) : PolyIn w w.heap.size A ps := by
  have hn : n = ps.length := by
    rcases h.row.2 with ⟨hv, h0⟩ | ⟨g, cap, cur, hv, _⟩
    · injection hv with _ hv _; omega
    · injection hv with _ hv _
  subst hn
  exact ⟨Reads.of_own h.row, fun p hp => ⟨(h.dg p hp).1.reads, (h.dg p hp).2.1, (h.dg p hp).2.2⟩⟩
/-- a term is appended: what the law of append gives -/
theorem PRow.snoc {w w' : World} {base : Nat} {v v' : Value} {ps : List PT} {p : PT} (h : PRow w base v ps) (hp : NatK w p.A p.ds ∧ Dig p.ds ∧ p.ds.length ≤ p.c)
    (ho : w'.ownsRow base 47 6 v' (ps.length + 1) (ps.flatMap PT.cells ++ p.cells)) (hg : w.grownBy w' v.ownBlock) : PRow w' base v' (ps ++ [p]) := by
  have hk : ∀ q : PT, NatK w q.A q.ds → NatK w' q.A q.ds := fun q k => k.keep fun g cs hb => hb.grown hg (own_blk_ne h.row hb (by decide))
  refine ⟨by rw [List.length_append, List.length_singleton, List.flatMap_append, List.flatMap_singleton]; exact ho, fun q hq => ?_⟩
  rcases List.mem_append.1 hq with hq | hq
  · exact ⟨hk q (h.dg q hq).1, (h.dg q hq).2⟩
  · rw [List.mem_singleton] at hq; subst hq; exact ⟨hk q hp.1, hp.2⟩

/-! ### the rotated polynomial -/
def rotL (ts : List Tm) (t k : Nat) : List Tm := (List.range k).map fun i => ((ts.getD ((i + t) % ts.length) (0, (0, 0, 0, 0))).1 + 1, (ts.getD ((i + t) % ts.length) (0, (0, 0, 0, 0))).2)
def minL (ts : List Tm) : List Tm := ts.map fun s => (-1, s.2)
theorem rotL_snoc (ts : List Tm) (t k : Nat) {s : Tm} (h : ts[(k + t) % ts.length]? = some s) : rotL ts t (k + 1) = rotL ts t k ++ [(s.1 + 1, s.2)] := by
  unfold rotL
  rw [List.range_succ, List.map_append, List.map_singleton, List.getD_eq_getElem?_getD, h]
  rfl
theorem rot_list (ts : List Tm) (t : Nat) (h : 0 < ts.length) : ((List.range ts.length).map fun i => ts.getD ((i + t) % ts.length) (0, (0, 0, 0, 0))) = ts.drop (t % ts.length) ++ ts.take (t % ts.length) := by
  have hr : t % ts.length < ts.length := Nat.mod_lt _ h
  apply List.ext_getElem
  · simp; omega
  · intro i h1 h2
    have hi : i < ts.length := by simpa using h1
    simp only [List.getElem_map, List.getElem_range]
    have e : (i + t) % ts.length = if i + t % ts.length < ts.length then i + t % ts.length else i + t % ts.length - ts.length := by
      rw [Nat.add_mod, Nat.mod_eq_of_lt hi]
      split
      · rw [Nat.mod_eq_of_lt (by omega)]
      · rw [Nat.mod_eq_sub_mod (by omega), Nat.mod_eq_of_lt (by omega)]
    have hlt : (i + t) % ts.length < ts.length := Nat.mod_lt _ h
    rw [List.getD_eq_getElem?_getD, List.getElem?_eq_getElem hlt, Option.getD_some]
    by_cases hc : i + t % ts.length < ts.length
    · rw [if_pos hc] at e
      rw [List.getElem_append_left (by simp; omega), List.getElem_drop]
      congr 1
      omega
    · rw [if_neg hc] at e
      rw [List.getElem_append_right (by simp; omega), List.getElem_take]
      congr 1
      simp
      omega
theorem cf_plus (ts : List Tm) (m : Mo) : cf (ts.map fun s => (s.1 + 1, s.2)) m + cf (minL ts) m = cf ts m := by
  unfold minL
  induction ts with
  | nil => rfl
  | cons s l ih =>
    simp only [List.map_cons]
    rw [cf_cons, cf_cons, cf_cons]
    split <;> omega
theorem cf_rot (ts : List Tm) (t : Nat) (m : Mo) : cf (rotL ts t ts.length ++ minL ts) m = cf ts m := by
  rcases Nat.eq_zero_or_pos ts.length with h0 | h0
  · obtain rfl := List.eq_nil_of_length_eq_zero h0; rfl
  · rw [cf_append, ← cf_plus ts m]
    congr 1
    have e : rotL ts t ts.length = (ts.drop (t % ts.length) ++ ts.take (t % ts.length)).map fun s => (s.1 + 1, s.2) := by
      rw [← rot_list ts t h0, List.map_map]
      rfl
    rw [e]
    apply cf_perm
    refine List.Perm.map _ ?_
    have := List.perm_append_comm (l₁ := ts.drop (t % ts.length)) (l₂ := ts.take (t % ts.length))
    rwa [List.take_append_drop] at this
/-- bounds of the terms of the rotated polynomial -/
def Q21 (p : PT) : Prop := p.ds.length ≤ 21 ∧ WfM p.m ∧ ∀ j, j < 4 → gt p.m j ≤ 1073741824
theorem pin_row {w : World} {base n c : Nat} {A : Option Addr} {ps : List PT} (h : PRow w base (.slice A n c) ps) (hq : ∀ p ∈ ps, Q21 p) (hl : ps.length ≤ 40) : PIn w w.heap.size A ps 40 1073741824 (pw 22) where
  pin := h.polyIn
  dl p hp := Nat.le_trans (hq p hp).1 (by omega)
  wf p hp := (hq p hp).2.1
  mb p hp _ := ⟨(hq p hp).2.2 0 (by omega), (hq p hp).2.2 1 (by omega), (hq p hp).2.2 2 (by omega), (hq p hp).2.2 3 (by omega)⟩
  len := hl
  nm := by
    have key : ∀ qs : List PT, (∀ p ∈ qs, val p.ds < pw 21) → nrm (qs.map PT.tm) ≤ qs.length * pw 21 := by
      intro qs
      induction qs with
      | nil => intro _; simp [nrm]
      | cons q qs ih =>
        intro hh
        have h1 := ih fun p hp => hh p (List.mem_cons_of_mem _ hp)
        have h2 := hh q (by simp)
        simp only [List.map_cons, nrm, List.length_cons, Nat.add_mul]
        have : q.tm.1.natAbs = val q.ds := ival_abs _ _
        omega
    have h1 := key ps fun p hp => val_pw (h.dg p hp).2.1 (hq p hp).1
    have h2 : ps.length * pw 21 ≤ pw 1 * pw 21 := Nat.mul_le_mul_right _ (by unfold pw; omega)
    rw [pw_mul] at h2
    exact Nat.le_trans h1 h2
theorem big22 : pw 22 < Big := pw_lt (by decide)
theorem plus_one_len {ng : Bool} {ds : List Nat} (hd : Dig ds) (hl : ds.length ≤ 20) : (dig (ival ng ds + ival false [1]).natAbs).length ≤ 21 := by
  refine dig_len_pw (k := 21) ?_
  have h1 := val_pw hd hl
  have h2 : pw 20 + 1 < pw 21 := by
    have : pw 20 * 4294967296 = pw 21 := rfl
    have hp : pw 0 < pw 20 := pw_lt (by decide)
    omega
  have h3 : (ival ng ds).natAbs = val ds := ival_abs _ _
  have h4 : ival false [1] = 1 := rfl
  omega
end Go.Proofs.YtnghlhcekghciaaGreatDoor
