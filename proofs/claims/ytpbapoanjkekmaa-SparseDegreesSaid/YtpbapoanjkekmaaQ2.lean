/- Plain laws on gathering the terms of a sum by their monomials, and on sorting what was gathered. -/
import Derived.Test.YtpbapoanjkekmaaQ1
namespace Go.Proofs.Ytpbapoanjkekmaa

/-- gs holds what the terms ts add up to, each monomial once -/
structure GInv (ts gs : List Tm) : Prop where
  nd : (gs.map (·.2)).Nodup
  vl : ∀ t ∈ gs, vld t.2 = true
  cf : ∀ m, cf gs m = cf ts m
  len : gs.length ≤ ts.length
  nrm : nrm gs ≤ nrm ts
theorem GInv.nil : GInv [] [] := ⟨by simp, by simp, fun _ => rfl, Nat.le_refl _, Nat.le_refl _⟩
theorem GInv.skip {ts gs : List Tm} (h : GInv ts gs) {m : Mo} (hv : vld m = false) (c : Int) : GInv (ts ++ [(c, m)]) gs where
  nd := h.nd
  vl := h.vl
  cf x := by
    rw [cf_append, cf_cons, if_neg (by simp [hv]), h.cf]
    simp [cf_nil]
  len := by have := h.len; simp; omega
  nrm := by have := h.nrm; rw [nrm_append]; omega
theorem GInv.new {ts gs : List Tm} (h : GInv ts gs) {m : Mo} (hv : vld m = true) (ha : ∀ t ∈ gs, t.2 ≠ m) (c : Int) : GInv (ts ++ [(c, m)]) (gs ++ [(c, m)]) where
  nd := by
    rw [List.map_append, List.nodup_append]
    refine ⟨h.nd, by simp, ?_⟩
    intro a ha' b hb e
    simp at hb
    subst hb
    subst e
    obtain ⟨t, ht, e⟩ := List.mem_map.1 ha'
    exact ha t ht e
  vl t ht := by
    rcases List.mem_append.1 ht with k | k
    · exact h.vl t k
    · simp at k; subst k; exact hv
  cf x := by rw [cf_append, cf_append, h.cf]
  len := by have := h.len; simp; omega
  nrm := by have := h.nrm; rw [nrm_append, nrm_append]; omega
theorem cf_set {gs : List Tm} {i : Nat} {a c : Int} {m : Mo} (hi : gs[i]? = some (a, m)) (hv : vld m = true) (x : Mo) : cf (gs.set i (a + c, m)) x = cf gs x + if m = x then c else 0 := by
  induction gs generalizing i with
  | nil => simp at hi
  | cons t l ih =>
    match i, hi with
    | 0, hi =>
      simp at hi
      subst hi
      simp only [List.set_cons_zero]
      rw [cf_cons, cf_cons]
      simp only [hv, true_and]
      split <;> omega
    | i + 1, hi =>
      simp only [List.set_cons_succ]
      rw [cf_cons, cf_cons, ih (by simpa using hi)]
      omega
theorem nrm_set {gs : List Tm} {i : Nat} {a c : Int} {m : Mo} (hi : gs[i]? = some (a, m)) : nrm (gs.set i (a + c, m)) ≤ nrm gs + c.natAbs := by
  induction gs generalizing i with
  | nil => simp at hi
  | cons t l ih =>
    match i, hi with
    | 0, hi =>
      simp at hi
      subst hi
      simp only [List.set_cons_zero, nrm]
      omega
    | i + 1, hi =>
      simp only [List.set_cons_succ, nrm]
      have := ih (i := i) (by simpa using hi)
      omega
theorem GInv.upd {ts gs : List Tm} (h : GInv ts gs) {m : Mo} {i : Nat} {a : Int} (hi : gs[i]? = some (a, m)) (c : Int) : GInv (ts ++ [(c, m)]) (gs.set i (a + c, m)) := by
  have hv : vld m = true := h.vl _ (List.mem_of_getElem? hi)
  have hm : (gs.set i (a + c, m)).map (·.2) = gs.map (·.2) := by
    apply List.ext_getElem?
    intro j
    simp only [List.getElem?_map, List.getElem?_set]
    split
    · rename_i e
      subst e
      rw [hi]
      split <;> simp_all
    · rfl
  refine ⟨by rw [hm]; exact h.nd, fun t ht => ?_, fun x => ?_, by have := h.len; simp; omega, ?_⟩
  · rcases List.mem_or_eq_of_mem_set ht with k | k
    · exact h.vl t k
    · subst k; exact hv
  · rw [cf_set hi hv, cf_append, cf_cons, h.cf]
    simp [hv, cf_nil]
  · have := nrm_set (c := c) hi
    have := h.nrm
    rw [nrm_append]
    simp only [Go.Proofs.Ytpbapoanjkekmaa.nrm]
    omega

theorem lin_perm (f : Mo → Int) {p q : List Tm} (h : p.Perm q) : lin f p = lin f q := by
  induction h with
  | nil => rfl
  | cons t _ ih => simp only [lin, ih]
  | swap s t l => simp only [lin]; omega
  | trans _ _ ih1 ih2 => rw [ih1, ih2]
theorem cf_perm {p q : List Tm} (h : p.Perm q) (m : Mo) : cf p m = cf q m := lin_perm _ h
theorem cf_ne0 (l : List Tm) (m : Mo) : cf (l.filter fun t => !decide (t.1 = 0)) m = cf l m := by
  induction l with
  | nil => rfl
  | cons t l ih =>
    by_cases h : t.1 = 0
    · simp only [List.filter_cons, h, decide_true, Bool.not_true, Bool.false_eq_true, if_false]
      rw [ih, cf_cons, h]
      split <;> omega
    · simp only [List.filter_cons, h, decide_false, Bool.not_false, if_true]
      rw [cf_cons, cf_cons, ih]
/-- what was gathered, without the zeros and in descending order, is canonical -/
theorem GInv.canon {ts gs q : List Tm} (h : GInv ts gs) (hp : q.Perm (gs.filter fun t => !decide (t.1 = 0))) (hs : q.Pairwise fun s t => ¬ ltM s.2 t.2) : Canon q ∧ (∀ m, Go.Proofs.Ytpbapoanjkekmaa.cf q m = Go.Proofs.Ytpbapoanjkekmaa.cf ts m) ∧ q.length ≤ ts.length := by
  refine ⟨⟨fun t ht => ?_, fun t ht => ?_, ?_⟩, fun m => ?_, ?_⟩
  · have := hp.mem_iff.1 ht
    simpa using (List.mem_filter.1 this).2
  · exact h.vl t (List.mem_filter.1 (hp.mem_iff.1 ht)).1
  · have hnd : (q.map (·.2)).Nodup := by
      have h1 : (q.map (·.2)).Perm ((gs.filter fun t => !decide (t.1 = 0)).map (·.2)) := hp.map _
      rw [h1.nodup_iff]
      exact List.Sublist.nodup (List.filter_sublist.map _) h.nd
    have hnd' : q.Pairwise fun s t => s.2 ≠ t.2 := List.pairwise_map.1 hnd
    refine (List.Pairwise.and hs hnd').imp fun {a b} hab => ?_
    rcases ltM_tri a.2 b.2 with k | k | k
    · exact absurd k hab.1
    · exact absurd k hab.2
    · exact k
  · rw [cf_perm hp, cf_ne0, h.cf]
  · rw [hp.length_eq]
    exact Nat.le_trans (List.length_filter_le _ _) h.len
theorem GInv.mem_nrm {ts gs : List Tm} (h : GInv ts gs) {t : Tm} (ht : t ∈ gs) : t.1.natAbs ≤ Go.Proofs.Ytpbapoanjkekmaa.nrm ts := Nat.le_trans (nrm_mem ht) h.nrm
end Go.Proofs.Ytpbapoanjkekmaa
