/- Plain laws of reading the terms of variables back from their matrix. -/
import Derived.Test.YtkkliemgidhgmaaGreatDoorBA
import Derived.Test.YtkkliemgidhgmaaGreatDoorQP
import Derived.Test.YtkkliemgidhgmaaGreatDoorMF
namespace Go.Proofs.YtkkliemgidhgmaaGreatDoor
open Go.RowKit

theorem getD_someB {α : Type} {l : List α} {k : Nat} (h : k < l.length) (d : α) : l[k]? = some (l.getD k d) := by simp [List.getElem?_eq_getElem h]
theorem varsT_at {n k : Nat} (h : k < n) : (varsT n)[k]? = some (varT ((k : Int) + 1)) := by simp [varsT, h]
theorem varT_can {i : Int} (h1 : 1 ≤ i) (h4 : i ≤ 4) : canB (varT i) = true := by
  have h0 : i ≠ 0 := by omega
  have h5 : (0 : Int) < i := by omega
  unfold varT
  simp only [canB, canL, zeroT, oneT, RP.lv]
  rw [if_neg h0]
  simp [h1, h4, h5, canC, lastT, isZT, RP.ds]
theorem varT_nr {i : Int} (h1 : 1 ≤ i) (h4 : i ≤ 4) : (nrT (varT i)).lv = i := by
  have h0 : i ≠ 0 := by omega
  rw [nrT_eq (T := varT i) (.inl ⟨varT_can h1 h4, rfl⟩)]
  unfold varT
  simp only [cpT]
  rw [if_neg h0]
  rfl
/-- the positions that are restricted -/
def posL (t : List Int) : Nat → List (Nat × Int)
  | 0 => []
  | k + 1 => posL t k ++ (if t.getD k 0 = 7 then [] else [(k, t.getD k 0)])
noncomputable def atV (x : Nat × Int) : MX := .mk 2 (relN x.2) (nrT (varT ((x.1 : Int) + 1))) []
theorem atms_pos {n : Nat} {t : List Int} (hl : t.length = n) (h0 : ∀ i, i < n → t.getD i 0 ≠ 0) : ∀ k, k ≤ n → atms (varsT n) (t.take k) = (posL t k).map atV
  | 0, _ => by simp [atms_nil, posL]
  | k + 1, hk => by
    have h1 := getD_someB (l := t) (k := k) (by omega) 0
    rw [atms_take (varsT n) t k _ _ (varsT_at (by omega)) h1, atms_pos hl h0 k (by omega)]
    have h2 := h0 k (by omega)
    simp only [posL, List.map_append]
    congr 1
    unfold atm
    by_cases h7 : t.getD k 0 = 7
    · rw [if_pos h7, if_pos h7]; rfl
    · rw [if_neg h7, if_neg h7, if_neg h2]; rfl
theorem posL_len (t : List Int) : ∀ n, (posL t n).length ≤ n
  | 0 => Nat.le_refl _
  | n + 1 => by
    have := posL_len t n
    simp only [posL, List.length_append]
    split <;> simp <;> omega
theorem pos_at (t : List Int) : ∀ (n j : Nat) (x : Nat × Int), (posL t n)[j]? = some x → ∃ i, i < n ∧ x = (i, t.getD i 0) ∧ t.getD i 0 ≠ 7 ∧ (posL t n).take j = posL t i
  | 0, j, x, h => by simp [posL] at h
  | n + 1, j, x, h => by
    simp only [posL] at h ⊢
    by_cases hj : j < (posL t n).length
    · rw [List.getElem?_append_left hj] at h
      obtain ⟨i, h1, h2, h3, h4⟩ := pos_at t n j x h
      exact ⟨i, by omega, h2, h3, by rw [List.take_append_of_le_length (by omega)]; exact h4⟩
    · rw [List.getElem?_append_right (by omega)] at h
      by_cases h7 : t.getD n 0 = 7
      · rw [if_pos h7] at h; simp at h
      · rw [if_neg h7] at h ⊢
        have hj0 : j - (posL t n).length = 0 := by have := (List.getElem?_eq_some_iff.1 h).1; simp at this; omega
        rw [hj0] at h
        simp at h
        refine ⟨n, by omega, h.symm, h7, ?_⟩
        rw [show j = (posL t n).length by omega, List.take_left']
        rfl
def fillU (n : Nat) (l : List (Nat × Int)) : List Int := l.foldl (fun u x => u.set x.1 x.2) (List.replicate n 7)
theorem fillU_pos {t : List Int} {n : Nat} (hl : t.length = n) : ∀ k, k ≤ n → fillU n (posL t k) = t.take k ++ List.replicate (n - k) 7
  | 0, _ => by simp [fillU, posL]
  | k + 1, hk => by
    have ih := fillU_pos hl k (by omega)
    have hkt : k < t.length := by omega
    have e1 : t.getD k 0 = t[k] := by simp [List.getElem?_eq_getElem hkt]
    have e2 : n - k = (n - (k + 1)) + 1 := by omega
    have e3 : (t.take k).length = k := by rw [List.length_take]; omega
    unfold fillU at ih ⊢
    simp only [posL, List.foldl_append, ih, List.take_succ_eq_append_getElem hkt, e2, List.replicate_succ, e1]
    by_cases h7 : t[k] = 7
    · rw [if_pos h7, h7]
      simp
    · rw [if_neg h7]
      simp only [List.foldl_cons, List.foldl_nil]
      rw [List.set_append_right _ _ (by omega), e3, Nat.sub_self, List.set_cons_zero]
      rw [List.append_assoc, List.singleton_append]
/-- behind j atoms -/
theorem fill_at {t : List Int} {n j : Nat} {x : Nat × Int} (hl : t.length = n) (h : (posL t n)[j]? = some x) :
    ∃ i, i < n ∧ x = (i, t.getD i 0) ∧ t.getD i 0 ≠ 7 ∧ (fillU n ((posL t n).take j)).length = n ∧ (fillU n ((posL t n).take j)).getD i 0 = 7 ∧ fillU n ((posL t n).take (j + 1)) = (fillU n ((posL t n).take j)).set i (t.getD i 0) := by
  obtain ⟨i, h1, h2, h3, h4⟩ := pos_at t n j x h
  have h5 := fillU_pos hl i (by omega)
  have e3 : (t.take i).length = i := by rw [List.length_take]; omega
  refine ⟨i, h1, h2, h3, ?_, ?_, ?_⟩
  · rw [h4, h5, List.length_append, e3, List.length_replicate]; omega
  · rw [h4, h5, List.getD_eq_getElem?_getD, List.getElem?_append_right (by omega), e3, Nat.sub_self, show n - i = (n - i - 1) + 1 by omega, List.replicate_succ]
    rfl
  · have hj : j < (posL t n).length := (List.getElem?_eq_some_iff.1 h).1
    have e : (posL t n)[j] = x := by rw [List.getElem?_eq_getElem hj] at h; exact Option.some.inj h
    rw [List.take_succ_eq_append_getElem hj, e, h2]
    unfold fillU
    rw [List.foldl_append]
    rfl
theorem fill_end {t : List Int} {n : Nat} (hl : t.length = n) : fillU n ((posL t n).take (posL t n).length) = t := by
  rw [List.take_length, fillU_pos hl n (Nat.le_refl _), Nat.sub_self, List.take_of_length_le (by omega)]
  simp
theorem fill_start {t : List Int} {n : Nat} : fillU n ((posL t n).take 0) = List.replicate n 7 := rfl
/-- the term that a relation stands for -/
def setsA : List Int := [0, 1, 3, 2, 5, 6, 4]
theorem rel_back {s : Int} (h1 : 1 ≤ s) (h6 : s ≤ 6) : 1 ≤ relN s ∧ relN s ≤ 6 ∧ setsA.getD (relN s).toNat 0 = s := by
  rcases (by omega : s = 1 ∨ s = 2 ∨ s = 3 ∨ s = 4 ∨ s = 5 ∨ s = 6) with rfl | rfl | rfl | rfl | rfl | rfl <;> decide
/-- terms that a cover may have -/
def TermsOk (n : Nat) (ts : List (List Int)) : Prop := ∀ t ∈ ts, t.length = n ∧ ∀ i, i < n → 1 ≤ t.getD i 0 ∧ t.getD i 0 ≤ 7
theorem cover_terms {n : Nat} {rows : List (List Int × Bool)} {ts : List (List Int)} (h : CoverOk n rows ts) : TermsOk n ts := fun t ht => h.term t ht
theorem TermsOk.mat {n : Nat} {ts : List (List Int)} (h : TermsOk n ts) : matB n ts = true := by
  unfold matB
  rw [List.all_eq_true]
  intro t ht
  obtain ⟨h1, h2⟩ := h t ht
  unfold termB
  rw [decide_eq_true h1, Bool.true_and, List.all_eq_true]
  intro s hs
  obtain ⟨i, hi⟩ := List.mem_iff_getElem?.1 hs
  have hil : i < n := by rw [← h1]; exact (List.getElem?_eq_some_iff.1 hi).1
  have := h2 i hil
  rw [List.getD_eq_getElem?_getD, hi] at this
  simp at this
  unfold sgB
  rw [decide_eq_true (by omega), decide_eq_true this.2]
  rfl
theorem vars_few {n : Nat} : ∀ p ∈ varsT n, depT p ≤ 12 ∧ FewT 2 p ∧ cntT p ≤ 1000 := by
  intro p hp
  obtain ⟨j, _, rfl⟩ := List.mem_map.1 hp
  unfold varT zeroT oneT
  refine ⟨by simp [depT, depL], by simp [FewT, FewL], by simp [cntT, cntL]⟩
theorem vars_dig {n : Nat} : ∀ p ∈ varsT n, DigT p := by
  intro p hp
  obtain ⟨j, _, rfl⟩ := List.mem_map.1 hp
  unfold varT zeroT oneT
  simp [DigT, DigL, Dig]
end Go.Proofs.YtkkliemgidhgmaaGreatDoor
