/- The plain laws of 'needed' and of 'Cover' as a whole: the terms permit each true row and no false one, none can be widened, none can be omitted. -/
import Derived.Test.YtlfjpfbkkbhhjaaDoorP2
namespace Go.Proofs.YtlfjpfbkkbhhjaaDoor
open Go.RowKit

/-! ### needed -/
def cntP (ys : List (List Int)) (i : Nat) (l : List (List Int)) : Nat := (l.filter fun t => permY t ys i).length
theorem cntP_append (ys : List (List Int)) (i : Nat) (l m : List (List Int)) : cntP ys i (l ++ m) = cntP ys i l + cntP ys i m := by simp [cntP]
theorem cntP_one (ys : List (List Int)) (i : Nat) (t : List Int) : cntP ys i [t] = if permY t ys i then 1 else 0 := by
  unfold cntP
  cases h : permY t ys i <;> simp [h]
theorem take_snoc_getD (ts : List (List Int)) (k : Nat) (h : k < ts.length) : ts.take (k + 1) = ts.take k ++ [ts.getD k []] := by
  rw [List.take_succ_eq_append_getElem h, List.getD_eq_getElem?_getD, List.getElem?_eq_getElem h]; rfl
theorem drop_cons_getD (ts : List (List Int)) (k : Nat) (h : k < ts.length) : ts.drop k = ts.getD k [] :: ts.drop (k + 1) := by
  rw [List.drop_eq_getElem_cons h, List.getD_eq_getElem?_getD, List.getElem?_eq_getElem h]; rfl
theorem cntTo_at (ts ys : List (List Int)) (k i : Nat) (hk : k ≤ ts.length) (hi : i < ys.length) : cAt (cntTo ts ys k) i = cntP ys i (ts.take k) := by
  induction k with
  | zero => simp [cntTo, cAt_replicate, cntP]
  | succ k ih =>
    rw [take_snoc_getD ts k (by omega), cntP_append, cntP_one]
    simp only [cntTo]
    rw [incTo_at _ _ _ _ _ (by rw [cntTo_len]; omega), ih (by omega)]
    by_cases hp : permY (ts.getD k []) ys i = true
    · rw [if_pos ⟨hi, hp⟩, if_pos hp]; omega
    · rw [if_neg (fun h => hp h.2), if_neg hp]; omega
theorem decTo_at (is : List Nat) (cnt : List Int) (hnd : is.Nodup) (hb : ∀ i ∈ is, i < cnt.length) (q : Nat) (hq : q ≤ is.length) (j : Nat) : cAt (decTo is cnt q) j = cAt cnt j - if j ∈ is.take q then 1 else 0 := by
  induction q with
  | zero => simp [decTo]
  | succ q ih =>
    have ih := ih (by omega)
    have hg : is.getD q 0 = is[q] := by rw [List.getD_eq_getElem?_getD, List.getElem?_eq_getElem (by omega)]; rfl
    have hm : is.getD q 0 ∈ is := by rw [hg]; exact List.getElem_mem _
    have ht : is.take (q + 1) = is.take q ++ [is.getD q 0] := by rw [List.take_succ_eq_append_getElem (by omega), hg]
    have hnt : is.getD q 0 ∉ is.take q := by
      intro hin
      have h1 : (is.take (q + 1)).Nodup := hnd.sublist (List.take_sublist _ _)
      rw [ht, List.nodup_append] at h1
      exact h1.2.2 _ hin _ (by simp) rfl
    unfold decTo
    rw [cAt_set _ _ _ _ (by rw [decTo_len]; exact hb _ hm), ht]
    by_cases hj : is.getD q 0 = j
    · subst hj
      rw [if_pos rfl, ih, if_neg hnt, if_pos (by simp)]; omega
    · rw [if_neg hj, ih]
      congr 1
      have : (j ∈ is.take q ++ [is.getD q 0]) ↔ j ∈ is.take q := by
        rw [List.mem_append, List.mem_singleton]
        exact ⟨fun h => h.resolve_right (fun e => hj e.symm), .inl⟩
      simp only [this]
theorem rowsL_mem {t : List Int} {ys : List (List Int)} {i : Nat} : i ∈ rowsL t ys ↔ i < ys.length ∧ permY t ys i = true := by
  unfold rowsL rowsTo
  rw [List.mem_filter, List.mem_range]
theorem rowsL_nodup (t : List Int) (ys : List (List Int)) : (rowsL t ys).Nodup := List.Nodup.sublist List.filter_sublist List.nodup_range
theorem hit_iff {t : List Int} {ys : List (List Int)} {cnt : List Int} : anyTo (hitAt (rowsL t ys) cnt) (rowsL t ys).length = true ↔ ∃ i, i < ys.length ∧ permY t ys i = true ∧ cAt cnt i = 1 := by
  rw [anyTo_iff]
  constructor
  · rintro ⟨k, hk, h⟩
    have hm : (rowsL t ys).getD k 0 ∈ rowsL t ys := by rw [List.getD_eq_getElem?_getD, List.getElem?_eq_getElem hk]; exact List.getElem_mem _
    obtain ⟨h1, h2⟩ := rowsL_mem.1 hm
    exact ⟨_, h1, h2, by simpa [hitAt, oneAt] using h⟩
  · rintro ⟨i, h1, h2, h3⟩
    obtain ⟨k, hk, e⟩ := List.getElem_of_mem (rowsL_mem.2 ⟨h1, h2⟩)
    refine ⟨k, hk, ?_⟩
    unfold hitAt oneAt
    rw [List.getD_eq_getElem?_getD, List.getElem?_eq_getElem hk]
    simp [e, h3]

/-- what stands at every step of 'needed' -/
structure NInv (ts ys : List (List Int)) (j : Nat) : Prop where
  cnt : ∀ i, i < ys.length → cAt (stTo ts ys j).2 i = cntP ys i ((stTo ts ys j).1 ++ ts.drop j)
  pos : ∀ i, i < ys.length → 1 ≤ cAt (stTo ts ys j).2 i
  alone : ∀ t ∈ (stTo ts ys j).1, ∃ i, i < ys.length ∧ permY t ys i = true ∧ cAt (stTo ts ys j).2 i = 1
  sub : ∀ t ∈ (stTo ts ys j).1, t ∈ ts
theorem stTo_inv {ts ys : List (List Int)} (h : ∀ i, i < ys.length → ∃ t ∈ ts, permY t ys i = true) (j : Nat) (hj : j ≤ ts.length) : NInv ts ys j := by
  induction j with
  | zero =>
    have e : ∀ i, i < ys.length → cAt (stTo ts ys 0).2 i = cntP ys i ts := fun i hi => by
      simp only [stTo]
      rw [cntTo_at _ _ _ _ (Nat.le_refl _) hi, List.take_length]
    refine ⟨fun i hi => by rw [e i hi]; simp [stTo], fun i hi => ?_, fun t ht => by simp [stTo] at ht, fun t ht => by simp [stTo] at ht⟩
    rw [e i hi]
    obtain ⟨t, ht, hp⟩ := h i hi
    have : t ∈ ts.filter fun t => permY t ys i := List.mem_filter.2 ⟨ht, hp⟩
    have := List.length_pos_of_mem this
    unfold cntP
    omega
  | succ j ih =>
    have ih := ih (by omega)
    have hd := drop_cons_getD ts j (by omega)
    have hmem := mem_getD (ls := ts) (k := j) (by omega)
    cases hh : anyTo (hitAt (rowsL (ts.getD j []) ys) (stTo ts ys j).2) (rowsL (ts.getD j []) ys).length with
    | true =>
      have e : stTo ts ys (j + 1) = ((stTo ts ys j).1 ++ [ts.getD j []], (stTo ts ys j).2) := by rw [stTo, hh]; rfl
      obtain ⟨i0, h1, h2, h3⟩ := hit_iff.1 hh
      refine ⟨fun i hi => ?_, fun i hi => by rw [e]; exact ih.pos i hi, fun t ht => ?_, fun t ht => ?_⟩
      · rw [e]
        have := ih.cnt i hi
        rw [hd] at this
        simpa using this
      · rw [e] at ht ⊢
        rcases List.mem_append.1 ht with ht | ht
        · exact ih.alone t ht
        · rw [List.mem_singleton] at ht
          subst ht
          exact ⟨i0, h1, h2, h3⟩
      · rw [e] at ht
        rcases List.mem_append.1 ht with ht | ht
        · exact ih.sub t ht
        · rw [List.mem_singleton] at ht
          subst ht
          exact hmem
    | false =>
      have e : stTo ts ys (j + 1) = ((stTo ts ys j).1, decTo (rowsL (ts.getD j []) ys) (stTo ts ys j).2 (rowsL (ts.getD j []) ys).length) := by rw [stTo, hh]; rfl
      have hn : ∀ i, i < ys.length → permY (ts.getD j []) ys i = true → cAt (stTo ts ys j).2 i ≠ 1 := fun i hi hp h1 => by
        have := hit_iff.2 ⟨i, hi, hp, h1⟩
        rw [hh] at this
        cases this
      have hc : ∀ i, i < ys.length → cAt (stTo ts ys (j + 1)).2 i = cAt (stTo ts ys j).2 i - if permY (ts.getD j []) ys i then 1 else 0 := fun i hi => by
        rw [e]
        simp only
        rw [decTo_at _ _ (rowsL_nodup _ _) (fun i hi => by rw [stTo_len]; exact (rowsL_mem.1 hi).1) _ (Nat.le_refl _), List.take_length]
        congr 1
        by_cases hp : permY (ts.getD j []) ys i = true
        · rw [if_pos (rowsL_mem.2 ⟨hi, hp⟩), if_pos hp]
        · rw [if_neg (fun hm => hp (rowsL_mem.1 hm).2), if_neg hp]
      have e1 : (stTo ts ys (j + 1)).1 = (stTo ts ys j).1 := by rw [e]
      refine ⟨fun i hi => ?_, fun i hi => ?_, fun t ht => ?_, fun t ht => by rw [e1] at ht; exact ih.sub t ht⟩
      · rw [hc i hi, e1]
        have := ih.cnt i hi
        rw [hd, ← List.singleton_append, cntP_append, cntP_append, cntP_one] at this
        rw [cntP_append]
        by_cases hp : permY (ts.getD j []) ys i = true
        · rw [if_pos hp] at this ⊢; omega
        · rw [if_neg hp] at this ⊢; omega
      · rw [hc i hi]
        have h1 := ih.pos i hi
        by_cases hp : permY (ts.getD j []) ys i = true
        · rw [if_pos hp]; have := hn i hi hp; omega
        · rw [if_neg hp]; omega
      · rw [e1] at ht
        obtain ⟨i, h1, h2, h3⟩ := ih.alone t ht
        refine ⟨i, h1, h2, ?_⟩
        rw [hc i h1, h3]
        by_cases hp : permY (ts.getD j []) ys i = true
        · exact absurd h3 (hn i h1 hp)
        · rw [if_neg hp]; rfl
theorem one_only {p : List Int → Bool} : ∀ {l : List (List Int)}, (l.filter p).length = 1 → ∀ {a b : Nat}, a < l.length → b < l.length → p (l.getD a []) = true → p (l.getD b []) = true → a = b := by
  intro l
  induction l with
  | nil => intro _ a b ha; simp at ha
  | cons x l ih =>
    intro h a b ha hb pa pb
    cases hx : p x with
    | true =>
      rw [List.filter_cons_of_pos hx] at h
      have h0 : (l.filter p).length = 0 := by simpa using h
      have hz : ∀ k, k < l.length → p (l.getD k []) = false := fun k hk => by
        rw [← Bool.not_eq_true]
        intro hp
        have := List.length_pos_of_mem (List.mem_filter.2 ⟨mem_getD hk, hp⟩)
        omega
      have za : a = 0 := by
        rcases Nat.eq_zero_or_pos a with h | h
        · exact h
        · obtain ⟨a', rfl⟩ : ∃ a', a = a' + 1 := ⟨a - 1, by omega⟩
          have := hz a' (by simp at ha; omega)
          rw [show (x :: l).getD (a' + 1) [] = l.getD a' [] from rfl, this] at pa
          cases pa
      have zb : b = 0 := by
        rcases Nat.eq_zero_or_pos b with h | h
        · exact h
        · obtain ⟨b', rfl⟩ : ∃ b', b = b' + 1 := ⟨b - 1, by omega⟩
          have := hz b' (by simp at hb; omega)
          rw [show (x :: l).getD (b' + 1) [] = l.getD b' [] from rfl, this] at pb
          cases pb
      rw [za, zb]
    | false =>
      rw [List.filter_cons_of_neg (by rw [hx]; simp)] at h
      have na : a ≠ 0 := by rintro rfl; rw [show (x :: l).getD 0 [] = x from rfl, hx] at pa; cases pa
      have nb : b ≠ 0 := by rintro rfl; rw [show (x :: l).getD 0 [] = x from rfl, hx] at pb; cases pb
      obtain ⟨a', rfl⟩ : ∃ a', a = a' + 1 := ⟨a - 1, by omega⟩
      obtain ⟨b', rfl⟩ : ∃ b', b = b' + 1 := ⟨b - 1, by omega⟩
      have := ih h (a := a') (b := b') (by simp at ha; omega) (by simp at hb; omega) pa pb
      omega

/-! ### the terms that are laid -/
theorem bAt_set (l : List Bool) (i j : Nat) (x : Bool) (hi : i < l.length) : bAt (l.set i x) j = if i = j then x else bAt l j := by
  unfold bAt
  by_cases h : i = j
  · subst h; simp [hi]
  · simp [h]
theorem covTo_at (t : List Int) (yes : List (List Int)) (i : Nat) (cov : List Bool) (q : Nat) (hq : i + q ≤ cov.length) (j : Nat) (h : bAt (covTo t yes i cov q) j = true) : bAt cov j = true ∨ permY t yes j = true := by
  induction q with
  | zero => exact .inl h
  | succ q ih =>
    unfold covTo at h
    rw [bAt_set _ _ _ _ (by rw [covTo_len]; omega)] at h
    by_cases e : i + q = j
    · rw [if_pos e] at h
      rcases Bool.or_eq_true_iff.1 h with h | h
      · rw [e] at h; exact ih (by omega) h
      · rw [e] at h; exact .inr h
    · rw [if_neg e] at h; exact ih (by omega) h
theorem cvTo_inv {N : Nat} {yes no : List (List Int)} (hw : ∀ k, k < yes.length → WTerm N no (widenT (yes.getD k []) no) ∧ permY (widenT (yes.getD k []) no) yes k = true) (i : Nat) (hi : i ≤ yes.length) :
    (∀ t ∈ (cvTo yes no i).1, WTerm N no t) ∧ (∀ k, bAt (cvTo yes no i).2 k = true → ∃ t ∈ (cvTo yes no i).1, permY t yes k = true) ∧ ∀ k, k < i → ∃ t ∈ (cvTo yes no i).1, permY t yes k = true := by
  induction i with
  | zero =>
    refine ⟨fun t ht => by simp [cvTo] at ht, fun k hk => ?_, fun k hk => by omega⟩
    have : bAt (List.replicate yes.length false) k = false := by
      unfold bAt
      rw [List.getD_eq_getElem?_getD, List.getElem?_replicate]
      split <;> rfl
    simp only [cvTo] at hk
    rw [this] at hk
    cases hk
  | succ i ih =>
    obtain ⟨h1, h2, h3⟩ := ih (by omega)
    cases hb : bAt (cvTo yes no i).2 i with
    | true =>
      have e : cvTo yes no (i + 1) = cvTo yes no i := by rw [cvTo, hb]; rfl
      rw [e]
      refine ⟨h1, h2, fun k hk => ?_⟩
      by_cases hki : k = i
      · subst hki; exact h2 k hb
      · exact h3 k (by omega)
    | false =>
      have e : cvTo yes no (i + 1) = ((cvTo yes no i).1 ++ [widenT (yes.getD i []) no], covTo (widenT (yes.getD i []) no) yes i (cvTo yes no i).2 (yes.length - i)) := by rw [cvTo, hb]; rfl
      rw [e]
      obtain ⟨w1, w2⟩ := hw i (by omega)
      refine ⟨fun t ht => ?_, fun k hk => ?_, fun k hk => ?_⟩
      · rcases List.mem_append.1 ht with ht | ht
        · exact h1 t ht
        · rw [List.mem_singleton] at ht; rw [ht]; exact w1
      · rcases covTo_at _ _ _ _ _ (by rw [(cvTo_len yes no i).1]; omega) _ hk with hk | hk
        · obtain ⟨t, ht, hp⟩ := h2 k hk
          exact ⟨t, List.mem_append_left _ ht, hp⟩
        · exact ⟨_, by simp, hk⟩
      · by_cases hki : k = i
        · subst hki; exact ⟨_, by simp, w2⟩
        · obtain ⟨t, ht, hp⟩ := h3 k (by omega)
          exact ⟨t, List.mem_append_left _ ht, hp⟩

/-- what 'Cover' promises, in plain words -/
structure CoverOk (N : Nat) (rows : List (List Int × Bool)) (ts : List (List Int)) : Prop where
  count : ts.length ≤ rows.length
  term : ∀ t ∈ ts, t.length = N ∧ ∀ i, i < N → 1 ≤ cAt t i ∧ cAt t i ≤ 7
  yes : ∀ k, k < rows.length → tr rows k = true → ∃ t ∈ ts, permTo t (sg rows k) N = true
  no : ∀ k, k < rows.length → tr rows k = false → ∀ t ∈ ts, permTo t (sg rows k) N = false
  prime : ∀ t ∈ ts, ∀ i, i < N → ∀ s, Sgn s → meet (cAt t i) s = false → ∃ k, k < rows.length ∧ tr rows k = false ∧ permTo (t.set i (bits .or .i64 (cAt t i) (bitOf s))) (sg rows k) N = true
  need : ∀ a, a < ts.length → ∃ k, k < rows.length ∧ tr rows k = true ∧ permTo (ts.getD a []) (sg rows k) N = true ∧ ∀ b, b < ts.length → b ≠ a → permTo (ts.getD b []) (sg rows k) N = false

theorem stTo_len1 (ts ys : List (List Int)) (j : Nat) : (stTo ts ys j).1.length ≤ j := stTo_kept ts ys j
theorem cover_ok {N : Nat} {rows : List (List Int × Bool)} (hv : ValidP N rows) (hs : SepP rows) : CoverOk N rows (coverL rows) := by
  have hy : Signs N (pickTo true rows rows.length) := pick_signs hv (Nat.le_refl _)
  have hn : Signs N (pickTo false rows rows.length) := pick_signs hv (Nat.le_refl _)
  have hyl := pickTo_len true rows rows.length
  have hdis : ∀ y ∈ pickTo true rows rows.length, y ∉ pickTo false rows rows.length := fun y h1 h2 => by
    obtain ⟨i, hi, e1, e2⟩ := pickTo_sub h1
    obtain ⟨j, hj, e3, e4⟩ := pickTo_sub h2
    have := hs i j hi hj (e1.trans e3.symm)
    rw [e2, e4] at this
    cases this
  have hall : ∀ k, k < rows.length → sg rows k ∈ pickTo (tr rows k) rows rows.length := fun k hk => pickTo_all hs (Nat.le_refl _) hk
  have hsub : ∀ b l, l ∈ pickTo b rows rows.length → ∃ j, j < rows.length ∧ sg rows j = l ∧ tr rows j = b := fun b l h => pickTo_sub h
  unfold coverL termsL
  generalize hye : pickTo true rows rows.length = yes at *
  generalize hno : pickTo false rows rows.length = no at *
  have hpy : ∀ t k, k < yes.length → permY t yes k = permTo t (yes.getD k []) N := fun t k hk => by unfold permY; rw [(hy k hk).1]
  have hw : ∀ k, k < yes.length → WTerm N no (widenT (yes.getD k []) no) ∧ permY (widenT (yes.getD k []) no) yes k = true := fun k hk => by
    have h1 := hy k hk
    have h2 := widenT_ok (y := yes.getD k []) (no := no) (fun j hj => sgn_at h1.2 hj) (fun q hq j hj => sgn_at (hn q hq).2 (by rw [(hn q hq).1, ← h1.1]; exact hj)) (fun q hq => (hn q hq).1.trans h1.1.symm) (hdis _ (mem_getD hk))
    rw [h1.1] at h2
    exact ⟨h2.1, by rw [hpy _ _ hk]; exact h2.2⟩
  obtain ⟨c1, c2, c3⟩ := cvTo_inv hw yes.length (Nat.le_refl _)
  have hcl := (cvTo_len yes no yes.length).2
  generalize (cvTo yes no yes.length).1 = ts at *
  have hN := stTo_inv (ts := ts) (ys := yes) c3 ts.length (Nat.le_refl _)
  have hkl := stTo_kept ts yes ts.length
  have hcnt : ∀ i, i < yes.length → cAt (stTo ts yes ts.length).2 i = cntP yes i (stTo ts yes ts.length).1 := fun i hi => by have := hN.cnt i hi; simpa using this
  obtain ⟨_, hpos, halone, hsb⟩ := hN
  generalize (stTo ts yes ts.length).2 = cnt at *
  generalize (stTo ts yes ts.length).1 = ks at *
  have hidx : ∀ k, k < rows.length → tr rows k = true → ∃ q, q < yes.length ∧ yes.getD q [] = sg rows k := fun k hk ht => by
    have := hall k hk
    rw [ht, hye] at this
    exact getD_of_mem this
  refine ⟨by omega, fun t ht => ⟨(c1 t (hsb t ht)).len, (c1 t (hsb t ht)).bd⟩, fun k hk ht => ?_, fun k hk ht t htm => ?_, fun t ht i hi s hsg hm => ?_, fun a ha => ?_⟩
  · obtain ⟨q, hq, e⟩ := hidx k hk ht
    have h1 := hpos q hq
    rw [hcnt q hq] at h1
    unfold cntP at h1
    obtain ⟨t, htm⟩ := List.exists_mem_of_length_pos (l := ks.filter fun t => permY t yes q) (by omega)
    obtain ⟨h2, h3⟩ := List.mem_filter.1 htm
    exact ⟨t, h2, by rw [hpy _ _ hq, e] at h3; exact h3⟩
  · have hmm := hall k hk
    rw [ht, hno] at hmm
    obtain ⟨q, hq, e⟩ := getD_of_mem hmm
    have := (c1 t (hsb t htm)).refuse q hq
    rw [e] at this
    exact this
  · obtain ⟨q, hq, hp⟩ := (c1 t (hsb t ht)).prime i hi s hsg hm
    obtain ⟨j, hj, e1, e2⟩ := hsub false _ (by rw [hno]; exact mem_getD hq)
    exact ⟨j, hj, e2, by rw [e1]; exact hp⟩
  · obtain ⟨q, hq, hp, h1⟩ := halone _ (mem_getD ha)
    obtain ⟨j, hj, e1, e2⟩ := hsub true _ (by rw [hye]; exact mem_getD hq)
    refine ⟨j, hj, e2, by rw [e1, ← hpy _ _ hq]; exact hp, fun b hb hne => ?_⟩
    rw [← Bool.not_eq_true]
    intro hpb
    rw [e1, ← hpy _ _ hq] at hpb
    rw [hcnt q hq] at h1
    have h1' : (ks.filter fun t => permY t yes q).length = 1 := by unfold cntP at h1; omega
    exact hne (one_only h1' hb ha hpb hp)
end Go.Proofs.YtlfjpfbkkbhhjaaDoor
