/- Texts of terms with valid names: never empty, no blank and no minus sign in them; texts joined. Plain laws. -/
import Derived.Test.YtnghlhcekghciaaGreatDoorXG
namespace Go.Proofs.YtnghlhcekghciaaGreatDoor

theorem nmCh_ok {k : Nat} {c : UInt8} (h : nmCh k c.toNat = true) : isDig c ∨ 58 ≤ c.toNat ∧ c.toNat ≠ 94 := by
  simp only [nmCh, Bool.or_eq_true, Bool.and_eq_true, decide_eq_true_eq] at h
  unfold isDig
  omega
theorem nameB_ch {l : Bs} (h : nameB l = true) : ∀ c ∈ l, isDig c ∨ 58 ≤ c.toNat ∧ c.toNat ≠ 94 := fun c hc => by
  simp only [nameB, Bool.and_eq_true, decide_eq_true_eq] at h
  obtain ⟨k, hk, rfl⟩ := List.getElem_of_mem hc
  have := nameTo_le h.2.2 (show k + 1 ≤ l.length by omega)
  simp only [nameTo, Bool.and_eq_true] at this
  have e : l.getD k 0 = l[k] := by simp [List.getElem?_eq_getElem hk]
  rw [e] at this
  exact nmCh_ok this.2
/-- valid names -/
def NmOk (ls : List Bs) : Prop := ∀ l ∈ ls, nameB l = true
theorem nmAt_in {ls : List Bs} {j : Nat} (h : j < ls.length) : nmAt ls j ∈ ls := by
  unfold nmAt
  simp [List.getElem?_eq_getElem h]
theorem nmAt_out {ls : List Bs} {j : Nat} (h : ls.length ≤ j) : nmAt ls j = [] := by
  unfold nmAt
  rw [List.getD_eq_getElem?_getD, List.getElem?_eq_none h]
  rfl
theorem NmOk.ch {ls : List Bs} (h : NmOk ls) (j : Nat) : ∀ c ∈ nmAt ls j, isDig c ∨ 58 ≤ c.toNat ∧ c.toNat ≠ 94 := fun c hc => by
  by_cases hj : j < ls.length
  · exact nameB_ch (h _ (nmAt_in hj)) c hc
  · rw [nmAt_out (by omega)] at hc
    cases hc
theorem wrTo_ch {ls : List Bs} (h : NmOk ls) (c : Nat) (m : Mo) : ∀ j, ∀ b ∈ (wrTo ls c m j).2, isDig b ∨ b = 42 ∨ 58 ≤ b.toNat
  | 0, b, hb => by
    unfold wrTo at hb
    split at hb
    · simp at hb
    · exact .inl (decD_dig c b hb)
  | j + 1, b, hb => by
    by_cases hx : gt m j = 0
    · rw [wrTo_skip hx] at hb; exact wrTo_ch h c m j b hb
    · rw [wrTo_take hx] at hb
      simp only [List.mem_append] at hb
      rcases hb with ((hb | hb) | hb) | hb
      · exact wrTo_ch h c m j b hb
      · split at hb
        · exact .inr (.inl (by simpa using hb))
        · simp at hb
      · rcases h.ch j b hb with k | k
        · exact .inl k
        · exact .inr (.inr k.1)
      · unfold powS at hb
        split at hb
        · rcases List.mem_cons.1 hb with hb | hb
          · rw [hb]; exact .inr (.inr (by decide))
          · exact .inl (decD_dig _ b hb)
        · simp at hb
theorem termS_no {ls : List Bs} (h : NmOk ls) (c : Nat) (m : Mo) {k : UInt8} (hk : k.toNat < 42 ∨ k.toNat = 45) : k ∉ termS ls c m := fun hb => by
  rcases wrTo_ch h c m 4 k hb with h1 | h1 | h1
  · unfold isDig at h1; omega
  · rw [h1] at hk; exact absurd hk (by decide)
  · omega
/-- the level of a monomial is that of some name -/
def LvOk (ls : List Bs) (m : Mo) : Prop := ∀ j, j < 4 → gt m j ≠ 0 → j < ls.length
theorem wrTo_full {ls : List Bs} (h : NmOk ls) {c : Nat} {m : Mo} (hl : LvOk ls m) : ∀ j, j ≤ 4 → ((wrTo ls c m j).1 = true → (wrTo ls c m j).2 ≠ []) ∧ ((wrTo ls c m j).1 = false → (c = 1 ∧ m ≠ (0, 0, 0, 0)) ∧ ∀ i, i < j → gt m i = 0)
  | 0, _ => by
    unfold wrTo
    split
    · rename_i hc
      exact ⟨fun k => (by cases k), fun _ => ⟨hc, fun i hi => absurd hi (by omega)⟩⟩
    · exact ⟨fun _ => decD_ne c, fun k => (by cases k)⟩
  | j + 1, hj => by
    obtain ⟨i1, i2⟩ := wrTo_full h hl (c := c) j (by omega)
    by_cases hx : gt m j = 0
    · rw [wrTo_skip hx]
      refine ⟨i1, fun k => ⟨(i2 k).1, fun i hi => ?_⟩⟩
      by_cases e : i = j
      · rw [e]; exact hx
      · exact (i2 k).2 i (by omega)
    · rw [wrTo_take hx]
      refine ⟨fun _ e => ?_, fun k => (by cases k)⟩
      simp only [List.append_eq_nil_iff] at e
      have := nameB_len (h _ (nmAt_in (hl j (by omega) hx)))
      rw [e.1.2] at this
      simp at this
theorem mo_zero {m : Mo} (h : ∀ i, i < 4 → gt m i = 0) : m = (0, 0, 0, 0) := by
  have h0 := h 0 (by omega)
  have h1 := h 1 (by omega)
  have h2 := h 2 (by omega)
  have h3 := h 3 (by omega)
  obtain ⟨a0, a1, a2, a3⟩ := m
  simp only [gt] at h0 h1 h2 h3
  rw [h0, h1, h2, h3]
theorem termS_ne {ls : List Bs} (h : NmOk ls) {c : Nat} {m : Mo} (hl : LvOk ls m) : termS ls c m ≠ [] := by
  obtain ⟨h1, h2⟩ := wrTo_full h hl (c := c) 4 (Nat.le_refl _)
  unfold termS
  cases hq : (wrTo ls c m 4).1 with
  | true => exact h1 hq
  | false => exact absurd (mo_zero (h2 hq).2) (h2 hq).1.2
theorem txt1_ne {ls : List Bs} (h : NmOk ls) {t : Tm} (hl : LvOk ls t.2) : 0 < (txt1 ls t).length := by
  unfold txt1
  have := List.length_pos_iff.2 (termS_ne h (c := t.1.natAbs) hl)
  rw [List.length_append]
  omega
/-- a text that begins with a minus sign is that of a term with a negative coefficient -/
theorem txt1_neg {ls : List Bs} {t : Tm} (ht : t.1 < 0) : txt1 ls t = 45 :: termS ls t.1.natAbs t.2 := by
  unfold txt1
  rw [if_pos ht]
  rfl
theorem txt1_pos {ls : List Bs} (h : NmOk ls) {t : Tm} (ht : ¬ t.1 < 0) : txt1 ls t = termS ls t.1.natAbs t.2 ∧ (45 : UInt8) ∉ txt1 ls t := by
  have e : txt1 ls t = termS ls t.1.natAbs t.2 := by
    unfold txt1
    rw [if_neg ht]
    rfl
  exact ⟨e, by rw [e]; exact termS_no h _ _ (.inr rfl)⟩
theorem head_getD {l : Bs} (h : 0 < l.length) : l.getD 0 0 ∈ l := by
  cases l with
  | nil => simp at h
  | cons a l => simp
theorem lvOk_of {ls : List Bs} {P : List Tm} (hP : Canon P) (hl : lvL P ≤ (ls.length : Int)) {t : Tm} (ht : t ∈ P) : LvOk ls t.2 := fun j hj hne => by
  have h1 := lvM_gt (hP.vl t ht) hj hne
  have h2 := lv_of ht
  omega
/-! ### joining -/
theorem join_neg {ls : List Bs} {l : List Tm} {t : Tm} (hl : l ≠ []) (ht : t.1 < 0) : fmtGo ls true (l ++ [t]) = fmtGo ls true l ++ ([32, 45, 32] ++ termS ls t.1.natAbs t.2) := by
  rw [fmtGo_snoc, List.append_assoc]
  congr 1
  rw [show (true && l.isEmpty) = false by cases l with
    | nil => exact absurd rfl hl
    | cons a b => rfl, decide_eq_true ht]
  rfl
theorem join_pos {ls : List Bs} {l : List Tm} {t : Tm} (hl : l ≠ []) (ht : ¬ t.1 < 0) : fmtGo ls true (l ++ [t]) = fmtGo ls true l ++ ([32, 43, 32] ++ termS ls t.1.natAbs t.2) := by
  rw [fmtGo_snoc, List.append_assoc]
  congr 1
  rw [show (true && l.isEmpty) = false by cases l with
    | nil => exact absurd rfl hl
    | cons a b => rfl, decide_eq_false ht]
  rfl
theorem join_first {ls : List Bs} {t : Tm} : fmtGo ls true [t] = txt1 ls t := by
  unfold txt1 fmtGo fmtGo signS
  by_cases ht : t.1 < 0
  · rw [decide_eq_true ht, if_pos ht]; simp
  · rw [decide_eq_false ht, if_neg ht]; simp
theorem fmtS_go {ls : List Bs} {P : List Tm} (h : P ≠ []) : fmtS ls P = fmtGo ls true P := by unfold fmtS; rw [if_neg h]
end Go.Proofs.YtnghlhcekghciaaGreatDoor
