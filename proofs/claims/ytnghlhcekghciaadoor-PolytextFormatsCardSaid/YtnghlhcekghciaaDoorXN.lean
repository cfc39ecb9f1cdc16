/- The reference's order of monomials; a polynomial put together term by term: plain laws. -/
import Derived.Test.YtnghlhcekghciaaDoorM1
namespace Go.Proofs.YtnghlhcekghciaaDoor
open Go.RowKit Go.Sort

set_option maxHeartbeats 1000000 in
theorem RBefore_any (a b : Mo) (w : World) : Calls Tryd.prog 28 #[.agg (moV a), .agg (moV b)] w fun e w' => e = .returned (.int .i64 (cmpM a b)) ∧ Laid w w' := by
  obtain ⟨hb0, k0, k1, hs⟩ := boxes2 w 38 38 (moV a) (moV b)
  have hl : Laid w ((w.alloc (.cells (moV a) 38)).alloc (.cells (moV b) 38)) := ((Laid.refl w).alloc _).alloc _
  have HS := Lib.hid hs; clear hs
  have HC := Lib.hid (cmpTo_four a b)
  generalize cmpM a b = r at *
  go_enter Tryd.func28, Tryd.ntmps28
  go_wp2
  generalize (w.alloc (.cells (moV a) 38)).alloc (.cells (moV b) 38) = W at *
  go_loopg [5] 4 (fun gn i wr => ∃ (k : Nat), k ≤ 4 ∧ gn = k ∧ i = .int .i64 ((k : Int) - 1) ∧ cmpTo a b k = r ∧ Drawn W wr)
  case atStart => exact ⟨4, Nat.le_refl _, rfl, rfl, HC.out, Drawn.refl _⟩
  case round =>
    obtain ⟨k, hk, hgk, rfl, hr, hd⟩ := hrel
    have HG := Lib.hid hgk; clear hgk
    have HR := Lib.hid hr; clear hr
    by_cases h0 : 0 < k
    · obtain ⟨j, rfl⟩ : ∃ j, k = j + 1 := ⟨k - 1, by omega⟩
      have c0 : wr.cell? ⟨w.heap.size, j, none⟩ = some (.int .i64 (gt a j)) := ((k0.drawn hd).cell j).trans (moV_at a (by omega))
      have c1 : wr.cell? ⟨w.heap.size + 1, j, none⟩ = some (.int .i64 (gt b j)) := ((k1.drawn hd).cell j).trans (moV_at b (by omega))
      have hkk : ((j + 1 : Nat) : Int) - 1 = (j : Int) := by omega
      rw [hkk]
      have i0 : (0 : Int) ≤ (j : Int) := by omega
      have i1 : (j : Int) < 4 := by omega
      have HNE := Lib.hid (fun h => (@cmpTo_ne a b j h).symm.trans HR.out)
      have HEQ := Lib.hid (fun h => (@cmpTo_eq a b j h).symm.trans HR.out)
      clear hkk HR
      generalize gt a j = x at *
      generalize gt b j = y at *
      rcases Int.lt_trichotomy x y with h | h | h
      · have HR' := Lib.hid (show (-1 : Int) = r by rw [← HNE.out (by simp [cmpI, h])]; simp [cmpI, h])
        have f1 : (x != y) = true := by simp; omega
        clear HNE HEQ
        go_wp2
        go_quiet (fail)
        go_wp2
        go_quiet (fail)
        go_wp2
        go_ret
        exact ⟨by rw [← HR'.out]; rfl, ((hl.drawn hd).drewN _).drewN _⟩
      · subst h
        have HR' := Lib.hid (HEQ.out (by simp [cmpI]))
        clear HNE HEQ
        go_wp2
        go_quiet (fail)
        go_wp2
        go_roundg j
        case rel => exact ⟨j, by omega, rfl, rfl, HR'.out, hd.trans (.drewN _ _)⟩
        case measure => have := HG.out; omega
      · have hn : ¬ x < y := by omega
        have HR' := Lib.hid (show (1 : Int) = r by rw [← HNE.out (by simp [cmpI, h, hn])]; simp [cmpI, h, hn])
        have f1 : (x != y) = true := by simp; omega
        clear HNE HEQ
        go_wp2
        go_quiet (fail)
        go_wp2
        go_quiet (fail)
        go_wp2
        go_ret
        exact ⟨by rw [← HR'.out]; rfl, ((hl.drawn hd).drewN _).drewN _⟩
    · obtain rfl : k = 0 := by omega
      go_wp2
      go_ret
      exact ⟨by rw [← HR.out]; rfl, hl.drawn hd⟩

/-! ### putting in one term after the other -/
/-- strictly descending, no negative exponent -/
structure Srt (l : List Tm) : Prop where
  vl : ∀ t ∈ l, vld t.2 = true
  so : l.Pairwise fun s t => ltM t.2 s.2
theorem Srt.nil : Srt [] := ⟨by simp, List.Pairwise.nil⟩
/-- the place of a monomial: all before it are greater, the one there is not -/
structure At (l : List Tm) (m : Mo) (k : Nat) : Prop where
  le : k ≤ l.length
  gr : ∀ t ∈ l.take k, ltM m t.2
theorem At.zero (l : List Tm) (m : Mo) : At l m 0 := ⟨Nat.zero_le _, by simp⟩
theorem At.step {l : List Tm} {m : Mo} {k : Nat} (h : At l m k) {t : Tm} (ht : l[k]? = some t) (hg : ltM m t.2) : At l m (k + 1) := by
  have hl : k < l.length := (List.getElem?_eq_some_iff.1 ht).1
  refine ⟨hl, fun s hs => ?_⟩
  rw [List.take_succ_eq_append_getElem hl, (List.getElem?_eq_some_iff.1 ht).2] at hs
  rcases List.mem_append.1 hs with hs | hs
  · exact h.gr s hs
  · rw [List.mem_singleton] at hs; subst hs; exact hg
theorem Srt.upd {l : List Tm} (h : Srt l) {k : Nat} {a c : Int} {m : Mo} (hk : l[k]? = some (a, m)) : Srt (l.set k (a + c, m)) ∧ ∀ x, cf (l.set k (a + c, m)) x = cf (l ++ [(c, m)]) x := by
  have hm : vld m = true := h.vl _ (List.mem_of_getElem? hk)
  have hmap : (l.set k (a + c, m)).map (·.2) = l.map (·.2) := by
    apply List.ext_getElem?
    intro j
    simp only [List.getElem?_map, List.getElem?_set]
    split
    · rename_i e
      subst e
      rw [hk]
      split <;> simp_all
    · rfl
  refine ⟨⟨fun t ht => ?_, ?_⟩, fun x => ?_⟩
  · rcases List.mem_or_eq_of_mem_set ht with ht | rfl
    · exact h.vl t ht
    · exact hm
  · have h1 : (l.map (·.2)).Pairwise fun s t => ltM t s := List.pairwise_map.2 h.so
    rw [← hmap] at h1
    exact List.pairwise_map.1 h1
  · rw [cf_set hk hm, cf_append, cf_cons, cf_nil]
    simp [hm]
theorem Srt.ins {l : List Tm} (h : Srt l) {k : Nat} {c : Int} {m : Mo} (hm : vld m = true) (ha : At l m k) (hn : ∀ t, l[k]? = some t → ltM t.2 m) : Srt (l.take k ++ [(c, m)] ++ l.drop k) ∧ ∀ x, cf (l.take k ++ [(c, m)] ++ l.drop k) x = cf (l ++ [(c, m)]) x := by
  have hdrop : ∀ t ∈ l.drop k, ltM t.2 m := by
    intro t ht
    by_cases hk : k < l.length
    · have e := List.drop_eq_getElem_cons hk
      have h0 := hn l[k] (List.getElem?_eq_getElem hk)
      rw [e] at ht
      rcases List.mem_cons.1 ht with rfl | ht
      · exact h0
      · have hp : (l.drop k).Pairwise fun s t => ltM t.2 s.2 := h.so.sublist (List.drop_sublist _ _)
        rw [e] at hp
        exact ltM_trans ((List.pairwise_cons.1 hp).1 t ht) h0
    · rw [List.drop_eq_nil_of_le (by omega)] at ht
      cases ht
  refine ⟨⟨fun t ht => ?_, ?_⟩, fun x => ?_⟩
  · simp only [List.mem_append, List.mem_singleton] at ht
    rcases ht with (ht | ht) | ht
    · exact h.vl t (List.mem_of_mem_take ht)
    · subst ht; exact hm
    · exact h.vl t (List.mem_of_mem_drop ht)
  · rw [List.append_assoc, List.pairwise_append]
    refine ⟨h.so.sublist (List.take_sublist _ _), ?_, fun s hs t ht => ?_⟩
    · rw [List.singleton_append, List.pairwise_cons]
      exact ⟨hdrop, h.so.sublist (List.drop_sublist _ _)⟩
    · rw [List.singleton_append] at ht
      rcases List.mem_cons.1 ht with rfl | ht
      · exact ha.gr s hs
      · exact ltM_trans (hdrop t ht) (ha.gr s hs)
  · have e := cf_append (l.take k) (l.drop k) x
    rw [List.take_append_drop] at e
    rw [cf_append, cf_append, cf_append, e]
    omega
/-- without the zeros it is canonical -/
theorem Srt.canon {l : List Tm} (h : Srt l) : Canon (l.filter fun t => !decide (t.1 = 0)) :=
  ⟨fun t ht => by have := (List.mem_filter.1 ht).2; simpa using this, fun t ht => h.vl t (List.mem_filter.1 ht).1, h.so.sublist List.filter_sublist⟩
end Go.Proofs.YtnghlhcekghciaaDoor
