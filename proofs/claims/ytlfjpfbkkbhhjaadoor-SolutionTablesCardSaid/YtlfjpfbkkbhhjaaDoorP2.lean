/- The plain laws of 'key', 'Separated', 'split', 'needed' and 'Cover'. -/
import Derived.Test.YtlfjpfbkkbhhjaaDoorP1
namespace Go.Proofs.YtlfjpfbkkbhhjaaDoor
open Go.RowKit

/-! ### the key determines the signs -/
theorem dec_digit (u : Nat) : ∀ c ∈ Lib.decDigits u, 48 ≤ c.toNat ∧ c.toNat ≤ 57 := by
  induction u using Nat.strongRecOn with
  | _ u ih =>
    intro c hc
    unfold Lib.decDigits at hc
    split at hc
    · rename_i h
      rw [List.mem_singleton] at hc
      subst hc
      rw [UInt8.toNat_ofNat']
      omega
    · rename_i h
      rcases List.mem_append.1 hc with h1 | h1
      · exact ih (u / 10) (by omega) c h1
      · rw [List.mem_singleton] at h1
        subst h1
        rw [UInt8.toNat_ofNat']
        omega
def decVal (l : List UInt8) : Nat := l.foldl (fun a c => 10 * a + (c.toNat - 48)) 0
theorem decVal_snoc (l : List UInt8) (c : UInt8) : decVal (l ++ [c]) = 10 * decVal l + (c.toNat - 48) := by simp [decVal]
theorem decVal_dec (u : Nat) : decVal (Lib.decDigits u) = u := by
  induction u using Nat.strongRecOn with
  | _ u ih =>
    unfold Lib.decDigits
    split
    · rename_i h
      simp only [decVal, List.foldl_cons, List.foldl_nil, UInt8.toNat_ofNat']
      omega
    · rename_i h
      rw [decVal_snoc, ih (u / 10) (by omega), UInt8.toNat_ofNat']
      omega
theorem dec_inj {u v : Nat} (h : Lib.decDigits u = Lib.decDigits v) : u = v := by
  rw [← decVal_dec u, h, decVal_dec]
theorem itoa_comma (x : Int) : (44 : UInt8) ∉ Lib.itoa x := by
  intro h
  unfold Lib.itoa at h
  split at h
  · rcases List.mem_cons.1 h with h | h
    · exact absurd h (by decide)
    · have := dec_digit _ _ h; simp at this
  · have := dec_digit _ _ h; simp at this
theorem dec_head (u : Nat) (l : List UInt8) : Lib.decDigits u ≠ 45 :: l := by
  intro h
  have := dec_digit u 45 (by rw [h]; simp)
  simp at this
theorem itoa_inj {x y : Int} (h : Lib.itoa x = Lib.itoa y) : x = y := by
  unfold Lib.itoa at h
  split at h <;> split at h
  · injection h with _ h
    have := dec_inj h
    omega
  · exact absurd h.symm (dec_head _ _)
  · exact absurd h (dec_head _ _)
  · have := dec_inj h
    omega
theorem split_at_comma {a b p q : List UInt8} (ha : (44 : UInt8) ∉ a) (hb : (44 : UInt8) ∉ b) (h : a ++ 44 :: p = b ++ 44 :: q) : a = b ∧ p = q := by
  induction a generalizing b with
  | nil =>
    cases b with
    | nil => simpa using h
    | cons c b =>
      simp at h
      exact absurd h.1.symm (fun e => hb (by rw [← e]; simp))
  | cons c a ih =>
    cases b with
    | nil =>
      simp at h
      exact absurd h.1 (fun e => ha (by rw [e]; simp))
    | cons d b =>
      simp only [List.cons_append, List.cons.injEq] at h
      obtain ⟨e1, e2⟩ := ih (fun hm => ha (List.mem_cons_of_mem _ hm)) (fun hm => hb (List.mem_cons_of_mem _ hm)) h.2
      exact ⟨by rw [h.1, e1], e2⟩
theorem keyOf_inj {l m : List Int} (h : keyOf l = keyOf m) : l = m := by
  induction l generalizing m with
  | nil =>
    cases m with
    | nil => rfl
    | cons y m => simp [keyOf] at h
  | cons x l ih =>
    cases m with
    | nil => simp [keyOf] at h
    | cons y m =>
      have h' : Lib.itoa x ++ 44 :: keyOf l = Lib.itoa y ++ 44 :: keyOf m := by simpa [keyOf] using h
      obtain ⟨e1, e2⟩ := split_at_comma (itoa_comma x) (itoa_comma y) h'
      rw [itoa_inj e1, ih e2]

/-! ### Separated -/
theorem knownF_none {rows : List (List Int × Bool)} {k : Nat} {s : List Int} (h : ∀ j, j < k → sg rows j ≠ s) : knownF rows k (keyOf s) = none := by
  induction k with
  | zero => rfl
  | succ k ih =>
    unfold knownF
    rw [if_neg (fun e => h k (by omega) (keyOf_inj e).symm)]
    exact ih fun j hj => h j (by omega)
theorem knownF_some {rows : List (List Int × Bool)} {k : Nat} {s : List Int} {v : Bool} (h : knownF rows k (keyOf s) = some v) : ∃ j, j < k ∧ sg rows j = s ∧ tr rows j = v := by
  induction k with
  | zero => cases h
  | succ k ih =>
    unfold knownF at h
    split at h
    · rename_i e
      exact ⟨k, by omega, (keyOf_inj e).symm, by injection h⟩
    · obtain ⟨j, hj, h1⟩ := ih h
      exact ⟨j, by omega, h1⟩
theorem knownF_isSome {rows : List (List Int × Bool)} {k : Nat} {s : List Int} {j : Nat} (hj : j < k) (hs : sg rows j = s) : ∃ v, knownF rows k (keyOf s) = some v := by
  induction k with
  | zero => omega
  | succ k ih =>
    unfold knownF
    split
    · exact ⟨_, rfl⟩
    · rename_i e
      by_cases hjk : j = k
      · subst hjk; exact absurd (by rw [hs]) e
      · exact ih (by omega)
/-- no two rows of equal signs differ -/
def SepP (rows : List (List Int × Bool)) : Prop := ∀ i j, i < rows.length → j < rows.length → sg rows i = sg rows j → tr rows i = tr rows j
theorem sepB_iff {rows : List (List Int × Bool)} : sepB rows = true ↔ SepP rows := by
  unfold sepB
  rw [allTo_iff]
  constructor
  · intro h i j hi hj hs
    have aux : ∀ a b, a < rows.length → b < a → sg rows a = sg rows b → tr rows a = tr rows b := fun a b ha hb hab => by
      have := allTo_iff.1 (h a ha) b hb
      unfold clash at this
      simp [hab] at this
      exact this
    rcases Nat.lt_trichotomy i j with h1 | h1 | h1
    · exact (aux j i hj h1 hs.symm).symm
    · rw [h1]
    · exact aux i j hi h1 hs
  · intro h i hi
    unfold sepTo
    rw [allTo_iff]
    intro k hk
    unfold clash
    by_cases hs : sg rows i = sg rows k
    · simp [hs, h i k hi (by omega) hs]
    · simp [hs]
theorem codeSep_iff {rows : List (List Int × Bool)} : codeSep rows = true ↔ SepP rows := by
  unfold codeSep
  rw [allTo_iff]
  constructor
  · intro h
    have aux : ∀ n, n ≤ rows.length → ∀ i j, i < n → j < n → sg rows i = sg rows j → tr rows i = tr rows j := by
      intro n
      induction n with
      | zero => intro _ i j hi; omega
      | succ n ih =>
        intro hn i j hi hj hs
        have key : ∀ a, a < n → sg rows a = sg rows n → tr rows a = tr rows n := fun a ha hs' => by
          have hk := h n (by omega)
          unfold sepAt at hk
          obtain ⟨v, hv⟩ := knownF_isSome (k := n) ha hs'
          rw [hv] at hk
          obtain ⟨b, hb, hb1, hb2⟩ := knownF_some hv
          have e1 : v = tr rows n := by simpa using hk
          rw [← e1, ← hb2]
          exact ih (by omega) a b ha hb (hs'.trans hb1.symm)
        by_cases h1 : i = n
        · by_cases h2 : j = n
          · rw [h1, h2]
          · subst h1; exact (key j (by omega) hs.symm).symm
        · by_cases h2 : j = n
          · subst h2; exact key i (by omega) hs
          · exact ih (by omega) i j (by omega) (by omega) hs
    intro i j hi hj hs
    exact aux _ (Nat.le_refl _) i j hi hj hs
  · intro h k hk
    unfold sepAt
    cases hv : knownF rows k (keyOf (sg rows k)) with
    | none => simp
    | some v =>
      obtain ⟨b, hb, hb1, hb2⟩ := knownF_some hv
      have := h b k (by omega) hk hb1
      simp [← hb2, this]
theorem codeSep_eq (rows : List (List Int × Bool)) : codeSep rows = sepB rows := by
  rw [Bool.eq_iff_iff, codeSep_iff, sepB_iff]

/-! ### split -/
theorem pickTo_sub {b : Bool} {rows : List (List Int × Bool)} {k : Nat} {l : List Int} (h : l ∈ pickTo b rows k) : ∃ j, j < k ∧ sg rows j = l ∧ tr rows j = b := by
  induction k with
  | zero => cases h
  | succ k ih =>
    unfold pickTo at h
    have up : (l ∈ pickTo b rows k) → ∃ j, j < k + 1 ∧ sg rows j = l ∧ tr rows j = b := fun h => by
      obtain ⟨j, hj, h1⟩ := ih h
      exact ⟨j, by omega, h1⟩
    split at h
    · exact up h
    · split at h
      · rename_i hb
        rcases List.mem_append.1 h with h | h
        · exact up h
        · simp at h
          exact ⟨k, by omega, h.symm, by simpa using hb⟩
      · exact up h
theorem seenF_some {rows : List (List Int × Bool)} {k : Nat} {s : List Int} (h : (seenF rows k (keyOf s)).getD false = true) : ∃ j, j < k ∧ sg rows j = s := by
  induction k with
  | zero => cases h
  | succ k ih =>
    unfold seenF at h
    split at h
    · obtain ⟨j, hj, h1⟩ := ih h
      exact ⟨j, by omega, h1⟩
    · by_cases e : keyOf s = keyOf (sg rows k)
      · exact ⟨k, by omega, (keyOf_inj e).symm⟩
      · simp only [if_neg e] at h
        obtain ⟨j, hj, h1⟩ := ih h
        exact ⟨j, by omega, h1⟩
theorem pickTo_all {rows : List (List Int × Bool)} (hs : SepP rows) {k : Nat} (hk : k ≤ rows.length) {j : Nat} (hj : j < k) : sg rows j ∈ pickTo (tr rows j) rows k := by
  induction k generalizing j with
  | zero => omega
  | succ k ih =>
    have mono : ∀ b l, l ∈ pickTo b rows k → l ∈ pickTo b rows (k + 1) := fun b l hl => by
      unfold pickTo
      split
      · exact hl
      · split
        · exact List.mem_append_left _ hl
        · exact hl
    by_cases hjk : j = k
    · subst hjk
      cases hf : (seenF rows j (keyOf (sg rows j))).getD false with
      | true =>
        obtain ⟨i, hi, h1⟩ := seenF_some hf
        have := ih (by omega) hi
        rw [h1, hs i j (by omega) (by omega) h1] at this
        exact mono _ _ this
      | false =>
        unfold pickTo
        rw [hf]
        simp
    · exact mono _ _ (ih (by omega) (by omega))
theorem mem_getD {ls : List (List Int)} {k : Nat} (h : k < ls.length) : ls.getD k [] ∈ ls := by
  rw [List.getD_eq_getElem?_getD, List.getElem?_eq_getElem h]; exact List.getElem_mem _
theorem getD_of_mem {ls : List (List Int)} {l : List Int} (h : l ∈ ls) : ∃ k, k < ls.length ∧ ls.getD k [] = l := by
  obtain ⟨k, hk, e⟩ := List.getElem_of_mem h
  exact ⟨k, hk, by rw [List.getD_eq_getElem?_getD, List.getElem?_eq_getElem hk]; exact e⟩

/-- the rows are valid for N -/
def ValidP (N : Nat) (rows : List (List Int × Bool)) : Prop := ∀ k, k < rows.length → (sg rows k).length = N ∧ ∀ x ∈ sg rows k, -1 ≤ x ∧ x ≤ 1
theorem sgns_iff {l : List Int} : allTo (sgnB l) l.length = true ↔ ∀ x ∈ l, -1 ≤ x ∧ x ≤ 1 := by
  rw [allTo_iff]
  constructor
  · intro h x hx
    obtain ⟨i, hi, e⟩ := List.getElem_of_mem hx
    have := h i hi
    unfold sgnB at this
    rw [List.getD_eq_getElem?_getD, List.getElem?_eq_getElem hi] at this
    simp only [Option.getD_some, e, Bool.and_eq_true, decide_eq_true_eq] at this
    exact this
  · intro h i hi
    have := h (l.getD i 0) (getD_mem hi)
    unfold sgnB
    simp only [Bool.and_eq_true, decide_eq_true_eq]
    exact this
theorem validB_iff {N : Nat} {rows : List (List Int × Bool)} : validB (N : Int) rows = true ↔ ValidP N rows := by
  unfold validB
  rw [allTo_iff]
  constructor
  · intro h k hk
    have := h k hk
    unfold rowOk at this
    rw [Bool.and_eq_true, sgns_iff, decide_eq_true_eq] at this
    exact ⟨by omega, this.2⟩
  · intro h k hk
    have := h k hk
    unfold rowOk
    rw [Bool.and_eq_true, sgns_iff, decide_eq_true_eq]
    exact ⟨by omega, this.2⟩
theorem pick_signs {b : Bool} {N : Nat} {rows : List (List Int × Bool)} (h : ValidP N rows) {n : Nat} (hn : n ≤ rows.length) : Signs N (pickTo b rows n) := fun k hk => by
  obtain ⟨j, hj, h1, _⟩ := pickTo_sub (mem_getD hk)
  have := h j (by omega)
  rw [h1] at this
  exact this
theorem sgn_at {l : List Int} (h : ∀ x ∈ l, -1 ≤ x ∧ x ≤ 1) {i : Nat} (hi : i < l.length) : Sgn (cAt l i) := h _ (getD_mem hi)
end Go.Proofs.YtlfjpfbkkbhhjaaDoor
