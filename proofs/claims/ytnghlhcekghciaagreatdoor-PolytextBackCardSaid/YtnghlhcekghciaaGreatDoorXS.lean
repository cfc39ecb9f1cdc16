/- The reference's texts: plain laws. The reference writes the coefficient first and takes a lone 1 back. -/
import Derived.Test.YtnghlhcekghciaaGreatDoorXG
import Derived.Test.YtnghlhcekghciaaGreatDoorXF
namespace Go.Proofs.YtnghlhcekghciaaGreatDoor

/-- what the reference's 'term' holds before name j -/
def rtTo (ns : List Bs) (c : Nat) (m : Mo) : Nat → Bs
  | 0 => Lib.decDigits c
  | j + 1 => if gt m j = 0 then rtTo ns c m j else (if rtTo ns c m j = [49] then [] else rtTo ns c m j ++ [42]) ++ nmAt ns j ++ powS (gt m j)
theorem rtTo_skip {ns : List Bs} {c : Nat} {m : Mo} {j : Nat} (h : gt m j = 0) : rtTo ns c m (j + 1) = rtTo ns c m j := by rw [rtTo, if_pos h]
theorem rtTo_take {ns : List Bs} {c : Nat} {m : Mo} {j : Nat} (h : gt m j ≠ 0) : rtTo ns c m (j + 1) = (if rtTo ns c m j = [49] then [] else rtTo ns c m j ++ [42]) ++ nmAt ns j ++ powS (gt m j) := by rw [rtTo, if_neg h]
theorem nmCh_first {x : Nat} (h : nmCh 0 x = true) : ¬ (48 ≤ x ∧ x ≤ 57) := by
  simp [nmCh] at h
  omega
theorem nm_first {ls : List Bs} (h : NmOk ls) {j : Nat} (hj : j < ls.length) : ∃ x ∈ nmAt ls j, ¬ isDig x := by
  have hn := h _ (nmAt_in hj)
  have hl : 0 < (nmAt ls j).length := by
    simp only [nameB, Bool.and_eq_true, decide_eq_true_eq] at hn
    omega
  refine ⟨(nmAt ls j).getD 0 0, head_getD hl, ?_⟩
  cases hc : nmCh 0 ((nmAt ls j).getD 0 0).toNat with
  | false => rw [nameB_bad hl hc] at hn; cases hn
  | true => exact nmCh_first hc
theorem wrTo_false {ns : List Bs} {c : Nat} {m : Mo} : ∀ j, (wrTo ns c m j).1 = false → (wrTo ns c m j).2 = []
  | 0 => by
    unfold wrTo
    split
    · exact fun _ => rfl
    · intro h; cases h
  | j + 1 => by
    by_cases h : gt m j = 0
    · rw [wrTo_skip h]; exact wrTo_false j
    · rw [wrTo_take h]; intro h; cases h
theorem mo_zero_gt {m : Mo} (h : m = (0, 0, 0, 0)) (j : Nat) : gt m j = 0 := by
  subst h
  unfold gt
  (repeat' split) <;> rfl
theorem dig49 : isDig 49 := by unfold isDig; decide
theorem rtTo_eq {ls : List Bs} (h : NmOk ls) {c : Nat} {m : Mo} (hl : LvOk ls m) (j : Nat) (hj : j ≤ 4) : ((wrTo ls c m j).1 = true → rtTo ls c m j = (wrTo ls c m j).2 ∧ (rtTo ls c m j = [49] → m = (0, 0, 0, 0))) ∧ ((wrTo ls c m j).1 = false → rtTo ls c m j = [49]) := by
  induction j with
  | zero =>
    by_cases h0 : c = 1 ∧ m ≠ (0, 0, 0, 0)
    · have e : wrTo ls c m 0 = (false, []) := by rw [wrTo, if_pos h0]
      rw [e]
      refine ⟨fun h => (by cases h), fun _ => ?_⟩
      show Lib.decDigits c = [49]
      rw [h0.1]
      exact decD_one.2 rfl
    · have e : wrTo ls c m 0 = (true, Lib.decDigits c) := by rw [wrTo, if_neg h0]
      rw [e]
      refine ⟨fun _ => ⟨rfl, fun h1 => ?_⟩, fun h => (by cases h)⟩
      have hc := decD_one.1 h1
      by_cases hm : m = (0, 0, 0, 0)
      · exact hm
      · exact absurd ⟨hc, hm⟩ h0
  | succ j ih =>
    have ih := ih (by omega)
    by_cases hg : gt m j = 0
    · rw [wrTo_skip hg, rtTo_skip hg]; exact ih
    · rw [wrTo_take hg, rtTo_take hg]
      obtain ⟨x, hx, hnd⟩ := nm_first h (hl j (by omega) hg)
      refine ⟨fun _ => ⟨?_, fun h1 => ?_⟩, fun h => (by cases h)⟩
      · cases hf : (wrTo ls c m j).1 with
        | true =>
          obtain ⟨e, hz⟩ := ih.1 hf
          rw [if_neg (fun h1 => hg (mo_zero_gt (hz h1) j)), e]
          rfl
        | false =>
          rw [if_pos (ih.2 hf), wrTo_false j hf]
          rfl
      · exfalso
        have hm : x ∈ (if rtTo ls c m j = [49] then [] else rtTo ls c m j ++ [42]) ++ nmAt ls j ++ powS (gt m j) := List.mem_append_left _ (List.mem_append_right _ hx)
        rw [h1, List.mem_singleton] at hm
        exact hnd (hm ▸ dig49)
theorem rtTo_over {ls : List Bs} {c : Nat} {m : Mo} (hl : LvOk ls m) : ∀ k, ls.length + k ≤ 4 → rtTo ls c m (ls.length + k) = rtTo ls c m ls.length
  | 0, _ => rfl
  | k + 1, h => by
    rw [← Nat.add_assoc, rtTo_skip, rtTo_over hl k (by omega)]
    by_cases h0 : gt m (ls.length + k) = 0
    · exact h0
    · exact absurd (hl _ (by omega) h0) (by omega)
theorem rtTo_term {ls : List Bs} (h : NmOk ls) (h4 : ls.length ≤ 4) {c : Nat} {m : Mo} (hl : LvOk ls m) : rtTo ls c m ls.length = termS ls c m := by
  have e := rtTo_over (c := c) hl (4 - ls.length) (by omega)
  rw [show ls.length + (4 - ls.length) = 4 by omega] at e
  rw [← e]
  have h1 := rtTo_eq h (c := c) hl 4 (Nat.le_refl _)
  cases hf : (wrTo ls c m 4).1 with
  | true => exact (h1.1 hf).1
  | false =>
    have h2 := (wrTo_full h (c := c) hl 4 (Nat.le_refl _)).2 hf
    exact absurd (mo_zero h2.2) h2.1.2
theorem rtTo_len {ns : List Bs} (hns : ∀ n ∈ ns, n.length ≤ 16) {c K : Nat} (hc : (Lib.decDigits c).length ≤ K) {m : Mo} (hm : ∀ j, j < 4 → gt m j ≤ 4398046511104) (j : Nat) (hj : j ≤ 4) : (rtTo ns c m j).length ≤ K + 31 * j := by
  induction j with
  | zero => exact hc
  | succ j ih =>
    have := ih (by omega)
    by_cases h : gt m j = 0
    · rw [rtTo_skip h]; omega
    · rw [rtTo_take h]
      have h1 := powS_len (hm j (by omega))
      have h2 : (nmAt ns j).length ≤ 16 := by
        unfold nmAt
        by_cases hl : j < ns.length
        · rw [List.getD_eq_getElem?_getD, List.getElem?_eq_getElem hl]
          exact hns _ (List.getElem_mem hl)
        · rw [List.getD_eq_getElem?_getD, List.getElem?_eq_none (by omega)]
          simp
      simp only [List.length_append]
      split <;> simp <;> omega

/-! ### levels -/
theorem lvL_fold (l : List Tm) : ∀ a : Int, l.foldl (fun a t => max a (lvM t.2)) a = a ∨ ∃ t ∈ l, l.foldl (fun a t => max a (lvM t.2)) a = lvM t.2 := by
  induction l with
  | nil => intro a; exact .inl rfl
  | cons t l ih =>
    intro a
    rw [List.foldl_cons]
    rcases ih (max a (lvM t.2)) with h | ⟨s, hs, h⟩
    · by_cases hm : lvM t.2 ≤ a
      · exact .inl (by rw [h]; omega)
      · exact .inr ⟨t, by simp, by rw [h]; omega⟩
    · exact .inr ⟨s, List.mem_cons_of_mem _ hs, h⟩
theorem lvL_le {n : Nat} {P : List Tm} (h : ∀ t ∈ P, lvM t.2 ≤ (n : Int)) : lvL P ≤ (n : Int) := by
  rcases lvL_fold P 0 with h1 | ⟨t, ht, h1⟩
  · unfold lvL; rw [h1]; omega
  · unfold lvL; rw [h1]; exact h t ht
theorem lvM_le {n : Nat} {m : Mo} (h : ∀ k, n ≤ k → k < 4 → ¬ 0 < gt m k) : lvM m ≤ (n : Int) := by
  have key : ∀ k, k < 4 → 0 < gt m k → k < n := fun k hk hg => by
    rcases Nat.lt_or_ge k n with h1 | h1
    · exact h1
    · exact absurd hg (h k h1 hk)
  unfold lvM
  split
  · rename_i hg; have := key 3 (by omega) hg; omega
  split
  · rename_i hg; have := key 2 (by omega) hg; omega
  split
  · rename_i hg; have := key 1 (by omega) hg; omega
  split
  · rename_i hg; have := key 0 (by omega) hg; omega
  · omega
theorem lvM_over {n : Nat} {m : Mo} (hv : vld m = true) {k : Nat} (hn : n ≤ k) (hk : k < 4) (hg : 0 < gt m k) : (n : Int) < lvM m := by
  have := lvM_gt hv hk (by omega)
  omega
end Go.Proofs.YtnghlhcekghciaaGreatDoor
