/- The reference's order of monomials; a polynomial put together term by term: plain laws. -/
import Derived.Test.YtnghlhcekghciaaGreatDoorM1
import Derived.Test.YtnghlhcekghciaaGreatDoorXL
import Derived.Test.YtnghlhcekghciaaGreatDoorH5
namespace Go.Proofs.YtnghlhcekghciaaGreatDoor
open Go.RowKit Go.Sort

set_option maxHeartbeats 1000000 in
theorem RBefore_any (a b : Mo) (w : World) : Calls Tryz.prog 30 #[.agg (moV a), .agg (moV b)] w fun e w' => e = .returned (.int .i64 (cmpM a b)) ∧ Laid w w' := by
  obtain ⟨hb0, k0, k1, hs⟩ := boxes2 w 45 45 (moV a) (moV b)
  have hl : Laid w ((w.alloc (.cells (moV a) 45)).alloc (.cells (moV b) 45)) := ((Laid.refl w).alloc _).alloc _
  have HS := Lib.hid hs; clear hs
  have HC := Lib.hid (cmpTo_four a b)
  generalize cmpM a b = r at *
  go_enter Tryz.func30, Tryz.ntmps30
  go_wp2
  generalize (w.alloc (.cells (moV a) 45)).alloc (.cells (moV b) 45) = W at *
  go_loopg [5] 4 (fun gn i wr => ∃ (k : Nat), k ≤ 4 ∧ gn = k ∧ i = .int .i64 ((k : Int) - 1) ∧ cmpTo a b k = r ∧ Drawn W wr)
  case atStart => exact ⟨4, Nat.le_refl _, rfl, rfl, HC.out, Drawn.refl _⟩
  case round =>
    obtain ⟨k, hk, hgk, rfl, hr, hd⟩ := hrel
    have HG := Lib.hid hgk; clear hgk
    have HR := Lib.hid hr; clear hr
    by_cases h0 : 0 < k
    · obtain ⟨j, rfl⟩ : ∃ j, k = j + 1 := ⟨k - 1, by omega⟩
      have c0 : wr.cell? ⟨w.heap.size, j, none⟩ = some (.int .i64 (gt a j)) := ((k0.drawn hd).cell j).trans (moV_at a (by omega))
      have c1 : wr.cell? ⟨w.heap.size + 1, j, none⟩ = some (.int .i64 (gt b j)) := ((k1.drawn hd).cell j).trans (moV_at b (by omega))
      have hkk : ((j + 1 : Nat) : Int) - 1 = (j : Int) := by omega
      rw [hkk]
      have i0 : (0 : Int) ≤ (j : Int) := by omega
      have i1 : (j : Int) < 4 := by omega
      have HNE := Lib.hid (fun h => (@cmpTo_ne a b j h).symm.trans HR.out)
      have HEQ := Lib.hid (fun h => (@cmpTo_eq a b j h).symm.trans HR.out)
      clear hkk HR
      generalize gt a j = x at *
      generalize gt b j = y at *
      rcases Int.lt_trichotomy x y with h | h | h
      · have HR' := Lib.hid (show (-1 : Int) = r by rw [← HNE.out (by simp [cmpI, h])]; simp [cmpI, h])
        have f1 : (x != y) = true := by simp; omega
        clear HNE HEQ
        go_wp2
        go_quiet (fail)
        go_wp2
        go_quiet (fail)
        go_wp2
        go_ret
        exact ⟨by rw [← HR'.out]; rfl, ((hl.drawn hd).drewN _).drewN _⟩
      · subst h
        have HR' := Lib.hid (HEQ.out (by simp [cmpI]))
        clear HNE HEQ
        go_wp2
        go_quiet (fail)
        go_wp2
        go_roundg j
        case rel => exact ⟨j, by omega, rfl, rfl, HR'.out, hd.trans (.drewN _ _)⟩
        case measure => have := HG.out; omega
      · have hn : ¬ x < y := by omega
        have HR' := Lib.hid (show (1 : Int) = r by rw [← HNE.out (by simp [cmpI, h, hn])]; simp [cmpI, h, hn])
        have f1 : (x != y) = true := by simp; omega
        clear HNE HEQ
        go_wp2
        go_quiet (fail)
        go_wp2
        go_quiet (fail)
        go_wp2
        go_ret
        exact ⟨by rw [← HR'.out]; rfl, ((hl.drawn hd).drewN _).drewN _⟩
    · obtain rfl : k = 0 := by omega
      go_wp2
      go_ret
      exact ⟨by rw [← HR.out]; rfl, hl.drawn hd⟩

/-! ### putting in one term after the other -/
/-- strictly descending, no negative exponent -/
structure Srt (l : List Tm) : Prop where
  vl : ∀ t ∈ l, vld t.2 = true
  so : l.Pairwise fun s t => ltM t.2 s.2
theorem Srt.nil : Srt [] := ⟨by simp, List.Pairwise.nil⟩
/-- the place of a monomial: all before it are greater, the one there is not -/
structure At (l : List Tm) (m : Mo) (k : Nat) : Prop where
  le : k ≤ l.length
  gr : ∀ t ∈ l.take k, ltM m t.2
theorem At.zero (l : List Tm) (m : Mo) : At l m 0 := ⟨Nat.zero_le _, by simp⟩
theorem At.step {l : List Tm} {m : Mo} {k : Nat} (h : At l m k) {t : Tm} (ht : l[k]? = some t) (hg : ltM m t.2) : At l m (k + 1) := by
  have hl : k < l.length := (List.getElem?_eq_some_iff.1 ht).1
  refine ⟨hl, fun s hs => ?_⟩
  rw [List.take_succ_eq_append_getElem hl, (List.getElem?_eq_some_iff.1 ht).2] at hs
  rcases List.mem_append.1 hs with hs | hs
  · exact h.gr s hs
  · rw [List.mem_singleton] at hs; subst hs; exact hg
theorem Srt.upd {l : List Tm} (h : Srt l) {k : Nat} {a c : Int} {m : Mo} (hk : l[k]? = some (a, m)) : Srt (l.set k (a + c, m)) ∧ ∀ x, cf (l.set k (a + c, m)) x = cf (l ++ [(c, m)]) x := by
  have hm : vld m = true := h.vl _ (List.mem_of_getElem? hk)
  have hmap : (l.set k (a + c, m)).map (·.2) = l.map (·.2) := by
    apply List.ext_getElem?
    intro j
    simp only [List.getElem?_map, List.getElem?_set]
    split
    · rename_i e
      subst e
      rw [hk]
      split <;> simp_all
    · rfl
  refine ⟨⟨fun t ht => ?_, ?_⟩, fun x => ?_⟩
  · rcases List.mem_or_eq_of_mem_set ht with ht | rfl
    · exact h.vl t ht
    · exact hm
  · have h1 : (l.map (·.2)).Pairwise fun s t => ltM t s := List.pairwise_map.2 h.so
    rw [← hmap] at h1
    exact List.pairwise_map.1 h1
  · rw [cf_set hk hm, cf_append, cf_cons, cf_nil]
    simp [hm]
theorem Srt.ins {l : List Tm} (h : Srt l) {k : Nat} {c : Int} {m : Mo} (hm : vld m = true) (ha : At l m k) (hn : ∀ t, l[k]? = some t → ltM t.2 m) : Srt (l.take k ++ [(c, m)] ++ l.drop k) ∧ ∀ x, cf (l.take k ++ [(c, m)] ++ l.drop k) x = cf (l ++ [(c, m)]) x := by
  have hdrop : ∀ t ∈ l.drop k, ltM t.2 m := by
    intro t ht
    by_cases hk : k < l.length
    · have e := List.drop_eq_getElem_cons hk
      have h0 := hn l[k] (List.getElem?_eq_getElem hk)
      rw [e] at ht
      rcases List.mem_cons.1 ht with rfl | ht
      · exact h0
      · have hp : (l.drop k).Pairwise fun s t => ltM t.2 s.2 := h.so.sublist (List.drop_sublist _ _)
        rw [e] at hp
        exact ltM_trans ((List.pairwise_cons.1 hp).1 t ht) h0
    · rw [List.drop_eq_nil_of_le (by omega)] at ht
      cases ht
  refine ⟨⟨fun t ht => ?_, ?_⟩, fun x => ?_⟩
  · simp only [List.mem_append, List.mem_singleton] at ht
    rcases ht with (ht | ht) | ht
    · exact h.vl t (List.mem_of_mem_take ht)
    · subst ht; exact hm
    · exact h.vl t (List.mem_of_mem_drop ht)
  · rw [List.append_assoc, List.pairwise_append]
    refine ⟨h.so.sublist (List.take_sublist _ _), ?_, fun s hs t ht => ?_⟩
    · rw [List.singleton_append, List.pairwise_cons]
      exact ⟨hdrop, h.so.sublist (List.drop_sublist _ _)⟩
    · rw [List.singleton_append] at ht
      rcases List.mem_cons.1 ht with rfl | ht
      · exact ha.gr s hs
      · exact ltM_trans (hdrop t ht) (ha.gr s hs)
  · have e := cf_append (l.take k) (l.drop k) x
    rw [List.take_append_drop] at e
    rw [cf_append, cf_append, cf_append, e]
    omega
/-- without the zeros it is canonical -/
theorem Srt.canon {l : List Tm} (h : Srt l) : Canon (l.filter fun t => !decide (t.1 = 0)) :=
  ⟨fun t ht => by have := (List.mem_filter.1 ht).2; simpa using this, fun t ht => h.vl t (List.mem_filter.1 ht).1, h.so.sublist List.filter_sublist⟩
end Go.Proofs.YtnghlhcekghciaaGreatDoor

/- Rows of terms: a part of one, a term set, a term put in. -/
namespace Go.Proofs.YtnghlhcekghciaaGreatDoor
open Go.RowKit Go.Sort

theorem flat_pre {qs : List PT} {a : Nat} (ha : a ≤ qs.length) {j : Nat} {u : Value} (h : ((qs.take a).flatMap PT.cells)[j]? = some u) : (qs.flatMap PT.cells)[j]? = some u := by
  have hl : ((qs.take a).flatMap PT.cells).length = a * 6 := by rw [flat_len, List.length_take, Nat.min_eq_left ha]
  have hj : j < a * 6 := by rw [← hl]; exact (List.getElem?_eq_some_iff.1 h).1
  rw [show qs = qs.take a ++ qs.drop a from (List.take_append_drop a qs).symm, List.flatMap_append, List.getElem?_append_left (by omega)]
  exact h
theorem flat_suf {qs : List PT} {a : Nat} (ha : a ≤ qs.length) {j : Nat} {u : Value} (h : ((qs.drop a).flatMap PT.cells)[j]? = some u) : (qs.flatMap PT.cells)[a * 6 + j]? = some u := by
  have hl : ((qs.take a).flatMap PT.cells).length = a * 6 := by rw [flat_len, List.length_take, Nat.min_eq_left ha]
  rw [show qs = qs.take a ++ qs.drop a from (List.take_append_drop a qs).symm, List.flatMap_append, List.getElem?_append_right (by omega), hl, Nat.add_sub_cancel_left]
  exact h
theorem PolyIn.pre {w : World} {B : Nat} {A : Option Addr} {qs : List PT} (h : PolyIn w B A qs) {a : Nat} (ha : a ≤ qs.length) : Reads w B 6 A a ((qs.take a).flatMap PT.cells) := by
  refine ⟨by rw [flat_len, List.length_take, Nat.min_eq_left ha], fun hp => ?_⟩
  obtain ⟨b, o, e, hb, hc⟩ := h.rd.2 (by omega)
  exact ⟨b, o, e, hb, fun j u hu => hc j u (flat_pre ha hu)⟩
/-- the address of the part from element a on -/
def sufOf (A : Option Addr) (c a : Nat) : Option Addr := if a < c then A.map (fun x => x.add (a * 6)) else A
theorem PolyIn.suf {w : World} {B : Nat} {A : Option Addr} {qs : List PT} (h : PolyIn w B A qs) {a : Nat} (ha : a ≤ qs.length) (A2 : Option Addr) (hA : a < qs.length → ∃ b o, A = some ⟨b, o, none⟩ ∧ A2 = some ⟨b, o + a * 6, none⟩) :
    Reads w B 6 A2 (qs.length - a) ((qs.drop a).flatMap PT.cells) := by
  refine ⟨by rw [flat_len, List.length_drop], fun hp => ?_⟩
  obtain ⟨b, o, e, hb, hc⟩ := h.rd.2 (by omega)
  obtain ⟨b', o', e', e2⟩ := hA (by omega)
  rw [e] at e'
  injection e' with e'
  injection e' with x1 x2
  subst x1
  subst x2
  refine ⟨b, o + a * 6, e2, hb, fun j u hu => ?_⟩
  have := hc _ u (flat_suf ha hu)
  rwa [← Nat.add_assoc] at this
theorem Tryz.slice_pre (Aq : Option Addr) (n c a : Nat) (h : a ≤ c) (hn : Aq = none → c = 0) (W : World) : (Instr.slice 26 (.slice Aq n c) none (some (.int .i64 (a : Int))) none).run Tryz.prog W = .ok (.slice Aq a c) W := by
  cases Aq with
  | none =>
    have := hn rfl
    obtain rfl : a = 0 := by omega
    subst this
    simp [Instr.slice, run_underlying Tryz.underlying26, go_sem]
  | some x =>
    simp [Instr.slice, run_underlying Tryz.underlying26, go_sem]
    intro hh
    omega
theorem Tryz.sizeTermP : (Tryz.prog.info? 47).map (·.size) = some 6 := by kernel_rfl
theorem Tryz.slice_suf (Aq : Option Addr) (n c a : Nat) (h : a ≤ n) (hc : n ≤ c) (hn : Aq = none → c = 0) (W : World) : (Instr.slice 26 (.slice Aq n c) (some (.int .i64 (a : Int))) none none).run Tryz.prog W = .ok (.slice (sufOf Aq c a) (n - a) (c - a)) W := by
  unfold sufOf
  obtain ⟨j, hj, hjs⟩ := Option.map_eq_some_iff.1 Tryz.sizeTermP
  cases Aq with
  | none =>
    have := hn rfl
    obtain rfl : a = 0 := by omega
    obtain rfl : n = 0 := by omega
    subst this
    simp [Instr.slice, run_underlying Tryz.underlying26, go_sem]
  | some x =>
    simp [Instr.slice, run_underlying Tryz.underlying26, go_sem]
    rw [if_pos h]
    by_cases e : a < c
    · rw [if_neg (by omega), if_pos e]
    · rw [if_pos (by omega), if_neg e]

/-! ### rows -/
theorem PRow.mono {w : World} {base base' : Nat} {v : Value} {ps : List PT} (h : PRow w base v ps) (hb : base' ≤ base) : PRow w base' v ps :=
  ⟨⟨h.row.1, h.row.2.imp id (fun ⟨g, cap, cur, h1, h2, h3⟩ => ⟨g, cap, cur, h1, Nat.le_trans hb h2, h3⟩)⟩, h.dg⟩
theorem PRow.app {w w' : World} {base : Nat} {v v' : Value} {ps qs : List PT} (h : PRow w base v ps) (hq : ∀ q ∈ qs, NatK w q.A q.ds ∧ Dig q.ds ∧ q.ds.length ≤ q.c)
    (ho : w'.ownsRow base 47 6 v' (ps.length + qs.length) (ps.flatMap PT.cells ++ qs.flatMap PT.cells)) (hg : w.grownBy w' v.ownBlock) : PRow w' base v' (ps ++ qs) := by
  have hk : ∀ q : PT, NatK w q.A q.ds → NatK w' q.A q.ds := fun q k => k.keep fun g cs hb => hb.grown hg (own_blk_ne h.row hb (by decide))
  refine ⟨by rw [List.length_append, List.flatMap_append]; exact ho, fun q hq' => ?_⟩
  rcases List.mem_append.1 hq' with hq' | hq'
  · exact ⟨hk q (h.dg q hq').1, (h.dg q hq').2⟩
  · exact ⟨hk q (hq q hq').1, (hq q hq').2⟩
theorem PRow.upd {w : World} {base g cap n : Nat} {ps : List PT} (h : PRow w base (.slice (some ⟨g, 0, none⟩) n cap) ps) {i : Nat} {p : PT} (hp : ps[i]? = some p) (z : Int) (A : Option Addr) (c : Nat) (hn : NatK w A (dig z.natAbs)) (hc : (dig z.natAbs).length ≤ c) :
    PRow ((w.setCell ⟨g, i * 6, none⟩ (.bool (decide (z < 0)))).setCell ⟨g, i * 6 + 1, none⟩ (.slice A (dig z.natAbs).length c)) base (.slice (some ⟨g, 0, none⟩) n cap) (ps.set i (mkP z A c p.m)) := by
  obtain ⟨cur, hb, _⟩ := own_blk (n := n) (rb := g) (cap := cap) (by have hl : n = ps.length := by
                                                                      rcases h.row.2 with ⟨hv, _⟩ | ⟨g', cap', cur, hv, _⟩
                                                                      · cases hv
                                                                      · injection hv with _ hv _
                                                                     have := h.row
                                                                     rw [← hl] at this
                                                                     exact this)
  have hk : ∀ q : PT, NatK w q.A q.ds → NatK ((w.setCell ⟨g, i * 6, none⟩ (.bool (decide (z < 0)))).setCell ⟨g, i * 6 + 1, none⟩ (.slice A (dig z.natAbs).length c)) q.A q.ds := fun q k => (k.far hb (by decide) _ _).far (hb.set_ _ _) (by decide) _ _
  have hl : n = ps.length := by
    rcases h.row.2 with ⟨hv, _⟩ | ⟨g', cap', cur, hv, _⟩
    · cases hv
    · injection hv with _ hv _
  subst hl
  refine ⟨?_, fun q hq => ?_⟩
  · rw [List.length_set, flat_set ps i p (mkP z A c p.m) hp rfl]
    exact ((h.row.stored (i * 6) _).1.stored (i * 6 + 1) _).1
  · rcases List.mem_or_eq_of_mem_set hq with hq | rfl
    · exact ⟨hk q (h.dg q hq).1, (h.dg q hq).2⟩
    · exact ⟨hk _ hn, dig_dig _, hc⟩

/-! ### the row that is put together: canonical numbers -/
structure CRow (w : World) (base : Nat) (v : Value) (qs : List PT) (ts : List Tm) : Prop where
  row : PRow w base v qs
  cn : ∀ q ∈ qs, Cn q
  wf : ∀ q ∈ qs, WfM q.m
  so : Srt (qs.map PT.tm)
  cf : ∀ m, Go.Proofs.YtnghlhcekghciaaGreatDoor.cf (qs.map PT.tm) m = Go.Proofs.YtnghlhcekghciaaGreatDoor.cf ts m
  len : qs.length ≤ ts.length
  nm : nrm (qs.map PT.tm) ≤ nrm ts
theorem CRow.nil (w : World) (base : Nat) : CRow w base (.slice none 0 0) [] [] := ⟨PRow.nil w base, by simp, by simp, Srt.nil, fun _ => rfl, Nat.le_refl _, Nat.le_refl _⟩
theorem CRow.old {w w' : World} {base : Nat} {v : Value} {qs : List PT} {ts : List Tm} (h : CRow w base v qs ts) (hb : Below w.heap.size w w') : CRow w' base v qs ts := { h with row := h.row.old hb }
theorem CRow.skip {w : World} {base : Nat} {v : Value} {qs : List PT} {ts : List Tm} {t : Tm} (h : CRow w base v qs ts) (ht : vld t.2 = false) : CRow w base v qs (ts ++ [t]) :=
  { h with cf := fun m => by rw [h.cf, cf_append, cf_cons, cf_nil, if_neg (by simp [ht])]; omega
           len := by rw [List.length_append]; have := h.len; omega
           nm := by rw [nrm_append]; have := h.nm; omega }
theorem CRow.dl {w : World} {base : Nat} {v : Value} {qs : List PT} {ts : List Tm} (h : CRow w base v qs ts) (hb : nrm ts < Big) {q : PT} (hq : q ∈ qs) : q.ds.length ≤ 600 := by
  rw [(h.cn q hq).ds]
  exact dig_len_big (Nat.lt_of_le_of_lt (Nat.le_trans (nrm_mem (List.mem_map.2 ⟨q, hq, rfl⟩)) h.nm) hb)
theorem nrm_one (c : Int) (m : Mo) : nrm [(c, m)] = c.natAbs := by simp [nrm]
/-- a term is added to the one at its place -/
theorem CRow.upd {w w' : World} {base : Nat} {v v' : Value} {qs : List PT} {ts : List Tm} (h : CRow w base v qs ts) {i : Nat} {q : PT} (hq : qs[i]? = some q) {A : Option Addr} {c : Nat} {cc : Int} (hr : PRow w' base v' (qs.set i (mkP (q.tm.1 + cc) A c q.m))) :
    CRow w' base v' (qs.set i (mkP (q.tm.1 + cc) A c q.m)) (ts ++ [(cc, q.m)]) := by
  have hi : (qs.map PT.tm)[i]? = some (q.tm.1, q.m) := by rw [List.getElem?_map, hq]; rfl
  have hm : (qs.set i (mkP (q.tm.1 + cc) A c q.m)).map PT.tm = (qs.map PT.tm).set i (q.tm.1 + cc, q.m) := by rw [List.map_set, mkP_tm]
  obtain ⟨u1, u2⟩ := h.so.upd (c := cc) hi
  have hqm := List.mem_of_getElem? hq
  refine ⟨hr, fun p hp => ?_, fun p hp => ?_, by rw [hm]; exact u1, fun m => ?_, ?_, ?_⟩
  · rcases List.mem_or_eq_of_mem_set hp with hp | rfl
    · exact h.cn p hp
    · exact mkP_cn _ _ _ _
  · rcases List.mem_or_eq_of_mem_set hp with hp | rfl
    · exact h.wf p hp
    · exact h.wf q hqm
  · rw [hm, u2, cf_append, cf_append, h.cf]
  · rw [List.length_set, List.length_append]; have := h.len; omega
  · rw [hm, nrm_append, nrm_one]
    have := nrm_set (c := cc) hi
    have := h.nm
    omega
/-- a term is put in at its place -/
theorem CRow.ins {w w' : World} {base : Nat} {v v' : Value} {qs : List PT} {ts : List Tm} (h : CRow w base v qs ts) {a : Nat} {m : Mo} (hm : vld m = true) (hw : WfM m) (ha : At (qs.map PT.tm) m a) (hn : ∀ t, (qs.map PT.tm)[a]? = some t → ltM t.2 m) {A : Option Addr} {c : Nat} {cc : Int}
    (hr : PRow w' base v' (qs.take a ++ [mkP cc A c m] ++ qs.drop a)) : CRow w' base v' (qs.take a ++ [mkP cc A c m] ++ qs.drop a) (ts ++ [(cc, m)]) := by
  have e : (qs.take a ++ [mkP cc A c m] ++ qs.drop a).map PT.tm = (qs.map PT.tm).take a ++ [(cc, m)] ++ (qs.map PT.tm).drop a := by
    rw [List.map_append, List.map_append, List.map_take, List.map_drop, List.map_singleton, mkP_tm]
  obtain ⟨u1, u2⟩ := h.so.ins (c := cc) hm ha hn
  have hmem : ∀ p ∈ qs.take a ++ [mkP cc A c m] ++ qs.drop a, p ∈ qs ∨ p = mkP cc A c m := fun p hp => by
    simp only [List.mem_append, List.mem_singleton] at hp
    rcases hp with (hp | hp) | hp
    · exact .inl (List.mem_of_mem_take hp)
    · exact .inr hp
    · exact .inl (List.mem_of_mem_drop hp)
  refine ⟨hr, fun p hp => ?_, fun p hp => ?_, by rw [e]; exact u1, fun x => ?_, ?_, ?_⟩
  · rcases hmem p hp with hp | rfl
    · exact h.cn p hp
    · exact mkP_cn _ _ _ _
  · rcases hmem p hp with hp | rfl
    · exact h.wf p hp
    · exact hw
  · rw [e, u2, cf_append, cf_append, h.cf]
  · have := h.len
    simp only [List.length_append, List.length_take, List.length_drop, List.length_singleton]
    omega
  · rw [e, nrm_append, nrm_append, nrm_append, nrm_one]
    have e2 := nrm_append ((qs.map PT.tm).take a) ((qs.map PT.tm).drop a)
    rw [List.take_append_drop] at e2
    have := h.nm
    omega
end Go.Proofs.YtnghlhcekghciaaGreatDoor
