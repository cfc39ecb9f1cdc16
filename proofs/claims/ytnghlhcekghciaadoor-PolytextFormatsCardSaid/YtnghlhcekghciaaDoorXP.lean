/- Rows of terms: a part of one, a term set, a term put in. -/
import Derived.Test.YtnghlhcekghciaaDoorXN
import Derived.Test.YtnghlhcekghciaaDoorXL
import Derived.Test.YtnghlhcekghciaaDoorH5
namespace Go.Proofs.YtnghlhcekghciaaDoor
open Go.RowKit Go.Sort

theorem flat_pre {qs : List PT} {a : Nat} (ha : a ≤ qs.length) {j : Nat} {u : Value} (h : ((qs.take a).flatMap PT.cells)[j]? = some u) : (qs.flatMap PT.cells)[j]? = some u := by
  have hl : ((qs.take a).flatMap PT.cells).length = a * 6 := by rw [flat_len, List.length_take, Nat.min_eq_left ha]
  have hj : j < a * 6 := by rw [← hl]; exact (List.getElem?_eq_some_iff.1 h).1
  rw [show qs = qs.take a ++ qs.drop a from (List.take_append_drop a qs).symm, List.flatMap_append, List.getElem?_append_left (by omega)]
  exact h
theorem flat_suf {qs : List PT} {a : Nat} (ha : a ≤ qs.length) {j : Nat} {u : Value} (h : ((qs.drop a).flatMap PT.cells)[j]? = some u) : (qs.flatMap PT.cells)[a * 6 + j]? = some u := by
  have hl : ((qs.take a).flatMap PT.cells).length = a * 6 := by rw [flat_len, List.length_take, Nat.min_eq_left ha]
  rw [show qs = qs.take a ++ qs.drop a from (List.take_append_drop a qs).symm, List.flatMap_append, List.getElem?_append_right (by omega), hl, Nat.add_sub_cancel_left]
  exact h
theorem PolyIn.pre {w : World} {B : Nat} {A : Option Addr} {qs : List PT} (h : PolyIn w B A qs) {a : Nat} (ha : a ≤ qs.length) : Reads w B 6 A a ((qs.take a).flatMap PT.cells) := by
  refine ⟨by rw [flat_len, List.length_take, Nat.min_eq_left ha], fun hp => ?_⟩
  obtain ⟨b, o, e, hb, hc⟩ := h.rd.2 (by omega)
  exact ⟨b, o, e, hb, fun j u hu => hc j u (flat_pre ha hu)⟩
/-- the address of the part from element a on -/
def sufOf (A : Option Addr) (c a : Nat) : Option Addr := if a < c then A.map (fun x => x.add (a * 6)) else A
theorem PolyIn.suf {w : World} {B : Nat} {A : Option Addr} {qs : List PT} (h : PolyIn w B A qs) {a : Nat} (ha : a ≤ qs.length) (A2 : Option Addr) (hA : a < qs.length → ∃ b o, A = some ⟨b, o, none⟩ ∧ A2 = some ⟨b, o + a * 6, none⟩) :
    Reads w B 6 A2 (qs.length - a) ((qs.drop a).flatMap PT.cells) := by
  refine ⟨by rw [flat_len, List.length_drop], fun hp => ?_⟩
  obtain ⟨b, o, e, hb, hc⟩ := h.rd.2 (by omega)
  obtain ⟨b', o', e', e2⟩ := hA (by omega)
  rw [e] at e'
  injection e' with e'
  injection e' with x1 x2
  subst x1
  subst x2
  refine ⟨b, o + a * 6, e2, hb, fun j u hu => ?_⟩
  have := hc _ u (flat_suf ha hu)
  rwa [← Nat.add_assoc] at this
theorem Tryd.slice_pre (Aq : Option Addr) (n c a : Nat) (h : a ≤ c) (hn : Aq = none → c = 0) (W : World) : (Instr.slice 23 (.slice Aq n c) none (some (.int .i64 (a : Int))) none).run Tryd.prog W = .ok (.slice Aq a c) W := by
  cases Aq with
  | none =>
    have := hn rfl
    obtain rfl : a = 0 := by omega
    subst this
    simp [Instr.slice, run_underlying Tryd.underlying23, go_sem]
  | some x =>
    simp [Instr.slice, run_underlying Tryd.underlying23, go_sem]
    intro hh
    omega
theorem Tryd.sizeTermP : (Tryd.prog.info? 40).map (·.size) = some 6 := by kernel_rfl
theorem Tryd.slice_suf (Aq : Option Addr) (n c a : Nat) (h : a ≤ n) (hc : n ≤ c) (hn : Aq = none → c = 0) (W : World) : (Instr.slice 23 (.slice Aq n c) (some (.int .i64 (a : Int))) none none).run Tryd.prog W = .ok (.slice (sufOf Aq c a) (n - a) (c - a)) W := by
  unfold sufOf
  obtain ⟨j, hj, hjs⟩ := Option.map_eq_some_iff.1 Tryd.sizeTermP
  cases Aq with
  | none =>
    have := hn rfl
    obtain rfl : a = 0 := by omega
    obtain rfl : n = 0 := by omega
    subst this
    simp [Instr.slice, run_underlying Tryd.underlying23, go_sem]
  | some x =>
    simp [Instr.slice, run_underlying Tryd.underlying23, go_sem]
    rw [if_pos h]
    by_cases e : a < c
    · rw [if_neg (by omega), if_pos e]
    · rw [if_pos (by omega), if_neg e]

/-! ### rows -/
theorem PRow.mono {w : World} {base base' : Nat} {v : Value} {ps : List PT} (h : PRow w base v ps) (hb : base' ≤ base) : PRow w base' v ps :=
  ⟨⟨h.row.1, h.row.2.imp id (fun ⟨g, cap, cur, h1, h2, h3⟩ => ⟨g, cap, cur, h1, Nat.le_trans hb h2, h3⟩)⟩, h.dg⟩
theorem PRow.app {w w' : World} {base : Nat} {v v' : Value} {ps qs : List PT} (h : PRow w base v ps) (hq : ∀ q ∈ qs, NatK w q.A q.ds ∧ Dig q.ds ∧ q.ds.length ≤ q.c)
    (ho : w'.ownsRow base 40 6 v' (ps.length + qs.length) (ps.flatMap PT.cells ++ qs.flatMap PT.cells)) (hg : w.grownBy w' v.ownBlock) : PRow w' base v' (ps ++ qs) := by
  have hk : ∀ q : PT, NatK w q.A q.ds → NatK w' q.A q.ds := fun q k => k.keep fun g cs hb => hb.grown hg (own_blk_ne h.row hb (by decide))
  refine ⟨by rw [List.length_append, List.flatMap_append]; exact ho, fun q hq' => ?_⟩
  rcases List.mem_append.1 hq' with hq' | hq'
  · exact ⟨hk q (h.dg q hq').1, (h.dg q hq').2⟩
  · exact ⟨hk q (hq q hq').1, (hq q hq').2⟩
theorem PRow.upd {w : World} {base g cap n : Nat} {ps : List PT} (h : PRow w base (.slice (some ⟨g, 0, none⟩) n cap) ps) {i : Nat} {p : PT} (hp : ps[i]? = some p) (z : Int) (A : Option Addr) (c : Nat) (hn : NatK w A (dig z.natAbs)) (hc : (dig z.natAbs).length ≤ c) :
    PRow ((w.setCell ⟨g, i * 6, none⟩ (.bool (decide (z < 0)))).setCell ⟨g, i * 6 + 1, none⟩ (.slice A (dig z.natAbs).length c)) base (.slice (some ⟨g, 0, none⟩) n cap) (ps.set i (mkP z A c p.m)) := by
  obtain ⟨cur, hb, _⟩ := own_blk (n := n) (rb := g) (cap := cap) (by have hl : n = ps.length := by
                                                                      rcases h.row.2 with ⟨hv, _⟩ | ⟨g', cap', cur, hv, _⟩
                                                                      · cases hv
                                                                      · injection hv with _ hv _
                                                                     have := h.row
                                                                     rw [← hl] at this
                                                                     exact this)
  have hk : ∀ q : PT, NatK w q.A q.ds → NatK ((w.setCell ⟨g, i * 6, none⟩ (.bool (decide (z < 0)))).setCell ⟨g, i * 6 + 1, none⟩ (.slice A (dig z.natAbs).length c)) q.A q.ds := fun q k => (k.far hb (by decide) _ _).far (hb.set_ _ _) (by decide) _ _
  have hl : n = ps.length := by
    rcases h.row.2 with ⟨hv, _⟩ | ⟨g', cap', cur, hv, _⟩
    · cases hv
    · injection hv with _ hv _
  subst hl
  refine ⟨?_, fun q hq => ?_⟩
  · rw [List.length_set, flat_set ps i p (mkP z A c p.m) hp rfl]
    exact ((h.row.stored (i * 6) _).1.stored (i * 6 + 1) _).1
  · rcases List.mem_or_eq_of_mem_set hq with hq | rfl
    · exact ⟨hk q (h.dg q hq).1, (h.dg q hq).2⟩
    · exact ⟨hk _ hn, dig_dig _, hc⟩

/-! ### the row that is put together: canonical numbers -/
structure CRow (w : World) (base : Nat) (v : Value) (qs : List PT) (ts : List Tm) : Prop where
  row : PRow w base v qs
  cn : ∀ q ∈ qs, Cn q
  wf : ∀ q ∈ qs, WfM q.m
  so : Srt (qs.map PT.tm)
  cf : ∀ m, Go.Proofs.YtnghlhcekghciaaDoor.cf (qs.map PT.tm) m = Go.Proofs.YtnghlhcekghciaaDoor.cf ts m
  len : qs.length ≤ ts.length
  nm : nrm (qs.map PT.tm) ≤ nrm ts
theorem CRow.nil (w : World) (base : Nat) : CRow w base (.slice none 0 0) [] [] := ⟨PRow.nil w base, by simp, by simp, Srt.nil, fun _ => rfl, Nat.le_refl _, Nat.le_refl _⟩
theorem CRow.old {w w' : World} {base : Nat} {v : Value} {qs : List PT} {ts : List Tm} (h : CRow w base v qs ts) (hb : Below w.heap.size w w') : CRow w' base v qs ts := { h with row := h.row.old hb }
theorem CRow.skip {w : World} {base : Nat} {v : Value} {qs : List PT} {ts : List Tm} {t : Tm} (h : CRow w base v qs ts) (ht : vld t.2 = false) : CRow w base v qs (ts ++ [t]) :=
  { h with cf := fun m => by rw [h.cf, cf_append, cf_cons, cf_nil, if_neg (by simp [ht])]; omega
           len := by rw [List.length_append]; have := h.len; omega
           nm := by rw [nrm_append]; have := h.nm; omega }
theorem CRow.dl {w : World} {base : Nat} {v : Value} {qs : List PT} {ts : List Tm} (h : CRow w base v qs ts) (hb : nrm ts < Big) {q : PT} (hq : q ∈ qs) : q.ds.length ≤ 600 := by
  rw [(h.cn q hq).ds]
  exact dig_len_big (Nat.lt_of_le_of_lt (Nat.le_trans (nrm_mem (List.mem_map.2 ⟨q, hq, rfl⟩)) h.nm) hb)
theorem nrm_one (c : Int) (m : Mo) : nrm [(c, m)] = c.natAbs := by simp [nrm]
/-- a term is added to the one at its place -/
theorem CRow.upd {w w' : World} {base : Nat} {v v' : Value} {qs : List PT} {ts : List Tm} (h : CRow w base v qs ts) {i : Nat} {q : PT} (hq : qs[i]? = some q) {A : Option Addr} {c : Nat} {cc : Int} (hr : PRow w' base v' (qs.set i (mkP (q.tm.1 + cc) A c q.m))) :
    CRow w' base v' (qs.set i (mkP (q.tm.1 + cc) A c q.m)) (ts ++ [(cc, q.m)]) := by
  have hi : (qs.map PT.tm)[i]? = some (q.tm.1, q.m) := by rw [List.getElem?_map, hq]; rfl
  have hm : (qs.set i (mkP (q.tm.1 + cc) A c q.m)).map PT.tm = (qs.map PT.tm).set i (q.tm.1 + cc, q.m) := by rw [List.map_set, mkP_tm]
  obtain ⟨u1, u2⟩ := h.so.upd (c := cc) hi
  have hqm := List.mem_of_getElem? hq
  refine ⟨hr, fun p hp => ?_, fun p hp => ?_, by rw [hm]; exact u1, fun m => ?_, ?_, ?_⟩
  · rcases List.mem_or_eq_of_mem_set hp with hp | rfl
    · exact h.cn p hp
    · exact mkP_cn _ _ _ _
  · rcases List.mem_or_eq_of_mem_set hp with hp | rfl
    · exact h.wf p hp
    · exact h.wf q hqm
  · rw [hm, u2, cf_append, cf_append, h.cf]
  · rw [List.length_set, List.length_append]; have := h.len; omega
  · rw [hm, nrm_append, nrm_one]
    have := nrm_set (c := cc) hi
    have := h.nm
    omega
/-- a term is put in at its place -/
theorem CRow.ins {w w' : World} {base : Nat} {v v' : Value} {qs : List PT} {ts : List Tm} (h : CRow w base v qs ts) {a : Nat} {m : Mo} (hm : vld m = true) (hw : WfM m) (ha : At (qs.map PT.tm) m a) (hn : ∀ t, (qs.map PT.tm)[a]? = some t → ltM t.2 m) {A : Option Addr} {c : Nat} {cc : Int}
    (hr : PRow w' base v' (qs.take a ++ [mkP cc A c m] ++ qs.drop a)) : CRow w' base v' (qs.take a ++ [mkP cc A c m] ++ qs.drop a) (ts ++ [(cc, m)]) := by
  have e : (qs.take a ++ [mkP cc A c m] ++ qs.drop a).map PT.tm = (qs.map PT.tm).take a ++ [(cc, m)] ++ (qs.map PT.tm).drop a := by
    rw [List.map_append, List.map_append, List.map_take, List.map_drop, List.map_singleton, mkP_tm]
  obtain ⟨u1, u2⟩ := h.so.ins (c := cc) hm ha hn
  have hmem : ∀ p ∈ qs.take a ++ [mkP cc A c m] ++ qs.drop a, p ∈ qs ∨ p = mkP cc A c m := fun p hp => by
    simp only [List.mem_append, List.mem_singleton] at hp
    rcases hp with (hp | hp) | hp
    · exact .inl (List.mem_of_mem_take hp)
    · exact .inr hp
    · exact .inl (List.mem_of_mem_drop hp)
  refine ⟨hr, fun p hp => ?_, fun p hp => ?_, by rw [e]; exact u1, fun x => ?_, ?_, ?_⟩
  · rcases hmem p hp with hp | rfl
    · exact h.cn p hp
    · exact mkP_cn _ _ _ _
  · rcases hmem p hp with hp | rfl
    · exact h.wf p hp
    · exact hw
  · rw [e, u2, cf_append, cf_append, h.cf]
  · have := h.len
    simp only [List.length_append, List.length_take, List.length_drop, List.length_singleton]
    omega
  · rw [e, nrm_append, nrm_append, nrm_append, nrm_one]
    have e2 := nrm_append ((qs.map PT.tm).take a) ((qs.map PT.tm).drop a)
    rw [List.take_append_drop] at e2
    have := h.nm
    omega
end Go.Proofs.YtnghlhcekghciaaDoor
