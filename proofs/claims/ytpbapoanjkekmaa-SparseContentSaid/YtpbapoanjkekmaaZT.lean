/- The text of a polynomial, in plain words. -/
import Derived.Lib.ItoaNum
import Derived.Test.YtpbapoanjkekmaaM1
namespace Go.Proofs.Ytpbapoanjkekmaa

abbrev Bs := List UInt8

/-! ### decimal numerals -/
/-- the number that a row of digits says -/
def decV (l : Bs) : Nat := l.foldl (fun a c => a * 10 + (c.toNat - 48)) 0
theorem decV_snoc (l : Bs) (c : UInt8) : decV (l ++ [c]) = decV l * 10 + (c.toNat - 48) := by simp [decV]
theorem decD_small {n : Nat} (h : n < 10) : Lib.decDigits n = [UInt8.ofNat (48 + n)] := by rw [Lib.decDigits, dif_pos h]
theorem decD_big {n : Nat} (h : ¬ n < 10) : Lib.decDigits n = Lib.decDigits (n / 10) ++ [UInt8.ofNat (48 + n % 10)] := by rw [Lib.decDigits, dif_neg h]
theorem digit_nat {d : Nat} (h : d < 10) : (UInt8.ofNat (48 + d)).toNat = 48 + d := by
  rw [UInt8.toNat_ofNat']
  exact Nat.mod_eq_of_lt (by omega)
theorem decV_decD (n : Nat) : decV (Lib.decDigits n) = n := by
  induction n using Nat.strongRecOn with
  | _ n ih =>
    by_cases h : n < 10
    · rw [decD_small h]
      simp only [decV, List.foldl_cons, List.foldl_nil, digit_nat h]
      omega
    · rw [decD_big h, decV_snoc, ih (n / 10) (by omega), digit_nat (by omega)]
      omega
theorem decD_inj {a b : Nat} (h : Lib.decDigits a = Lib.decDigits b) : a = b := by rw [← decV_decD a, ← decV_decD b, h]
theorem decD_one {n : Nat} : Lib.decDigits n = [49] ↔ n = 1 := by
  have e : Lib.decDigits 1 = [49] := by rw [decD_small (by omega)]; rfl
  exact ⟨fun h => decD_inj (h.trans e.symm), fun h => by rw [h, e]⟩
/-- a digit -/
def isDig (c : UInt8) : Prop := 48 ≤ c.toNat ∧ c.toNat ≤ 57
theorem decD_dig (n : Nat) : ∀ c ∈ Lib.decDigits n, isDig c := by
  induction n using Nat.strongRecOn with
  | _ n ih =>
    by_cases h : n < 10
    · rw [decD_small h]
      intro c hc
      rw [List.mem_singleton] at hc
      rw [hc, isDig, digit_nat h]
      omega
    · rw [decD_big h]
      intro c hc
      rcases List.mem_append.1 hc with hc | hc
      · exact ih (n / 10) (by omega) c hc
      · rw [List.mem_singleton] at hc
        rw [hc, isDig, digit_nat (by omega)]
        omega
theorem decD_ne (n : Nat) : Lib.decDigits n ≠ [] := by
  by_cases h : n < 10
  · rw [decD_small h]; simp
  · rw [decD_big h]; simp
theorem decD_len {n k : Nat} (h : n < 10 ^ (k + 1)) : (Lib.decDigits n).length ≤ k + 1 := by
  induction k generalizing n with
  | zero => rw [decD_small (by simpa using h)]; simp
  | succ k ih =>
    by_cases hs : n < 10
    · rw [decD_small hs]; simp
    · rw [decD_big hs, List.length_append]
      have := ih (n := n / 10) (by rw [Nat.pow_succ] at h; omega)
      simp only [List.length_cons, List.length_nil]
      omega
theorem pow_dec (k : Nat) : 2 ^ (32 * k) ≤ 10 ^ (10 * k) := by
  rw [Nat.pow_mul, Nat.pow_mul]
  exact Nat.pow_le_pow_left (by decide) k

/-! ### the text of a term -/
def nmAt (ns : List Bs) (j : Nat) : Bs := ns.getD j []
def powS (e : Int) : Bs := if 1 < e then 94 :: Lib.decDigits e.toNat else []
/-- what the writer of a term has written before factor j, and whether it has written anything -/
def wrTo (ns : List Bs) (c : Nat) (m : Mo) : Nat → Bool × Bs
  | 0 => if c = 1 ∧ m ≠ (0, 0, 0, 0) then (false, []) else (true, Lib.decDigits c)
  | j + 1 => if gt m j = 0 then wrTo ns c m j else (true, (wrTo ns c m j).2 ++ (if (wrTo ns c m j).1 then [42] else []) ++ nmAt ns j ++ powS (gt m j))
def termS (ns : List Bs) (c : Nat) (m : Mo) : Bs := (wrTo ns c m 4).2
theorem wrTo_skip {ns : List Bs} {c : Nat} {m : Mo} {j : Nat} (h : gt m j = 0) : wrTo ns c m (j + 1) = wrTo ns c m j := by rw [wrTo, if_pos h]
theorem wrTo_take {ns : List Bs} {c : Nat} {m : Mo} {j : Nat} (h : gt m j ≠ 0) : wrTo ns c m (j + 1) = (true, (wrTo ns c m j).2 ++ (if (wrTo ns c m j).1 then [42] else []) ++ nmAt ns j ++ powS (gt m j)) := by rw [wrTo, if_neg h]

/-! ### the text of a polynomial -/
def signS (first neg : Bool) : Bs := if first then (if neg then [45] else []) else (if neg then [32, 45, 32] else [32, 43, 32])
def fmtGo (ns : List Bs) : Bool → List Tm → Bs
  | _, [] => []
  | first, t :: l => signS first (decide (t.1 < 0)) ++ termS ns t.1.natAbs t.2 ++ fmtGo ns false l
def fmtS (ns : List Bs) (P : List Tm) : Bs := if P = [] then [48] else fmtGo ns true P
theorem fmtGo_snoc (ns : List Bs) (t : Tm) : ∀ (l : List Tm) (first : Bool), fmtGo ns first (l ++ [t]) = fmtGo ns first l ++ signS (first && l.isEmpty) (decide (t.1 < 0)) ++ termS ns t.1.natAbs t.2
  | [], first => by simp [fmtGo]
  | s :: l, first => by
    rw [List.cons_append, fmtGo, fmtGo_snoc ns t l false, fmtGo]
    simp
/-- the texts of the terms, each with its sign -/
def termsS (ns : List Bs) (P : List Tm) : List Bs := P.map fun t => (if t.1 < 0 then [45] else []) ++ termS ns t.1.natAbs t.2

/-! ### sizes -/
theorem powS_len {e : Int} (h : e ≤ 4398046511104) : (powS e).length ≤ 14 := by
  unfold powS
  split
  · have := decD_len (n := e.toNat) (k := 12) (by omega)
    simp only [List.length_cons]
    omega
  · simp
theorem wrTo_len {ns : List Bs} (hns : ∀ n ∈ ns, n.length ≤ 16) {c K : Nat} (hc : (Lib.decDigits c).length ≤ K) {m : Mo} (hm : ∀ j, j < 4 → gt m j ≤ 4398046511104) (j : Nat) (hj : j ≤ 4) : (wrTo ns c m j).2.length ≤ K + 31 * j := by
  induction j with
  | zero =>
    unfold wrTo
    split
    · simp
    · simpa using hc
  | succ j ih =>
    have := ih (by omega)
    by_cases h : gt m j = 0
    · rw [wrTo_skip h]; omega
    · rw [wrTo_take h]
      have h1 := powS_len (hm j (by omega))
      have h2 : (nmAt ns j).length ≤ 16 := by
        unfold nmAt
        by_cases hl : j < ns.length
        · rw [List.getD_eq_getElem?_getD, List.getElem?_eq_getElem hl]
          exact hns _ (List.getElem_mem hl)
        · rw [List.getD_eq_getElem?_getD, List.getElem?_eq_none (by omega)]
          simp
      simp only [List.length_append]
      split <;> simp <;> omega
theorem termS_len {ns : List Bs} (hns : ∀ n ∈ ns, n.length ≤ 16) {c K : Nat} (hc : (Lib.decDigits c).length ≤ K) {m : Mo} (hm : ∀ j, j < 4 → gt m j ≤ 4398046511104) : (termS ns c m).length ≤ K + 124 := by
  have := wrTo_len hns hc hm 4 (Nat.le_refl _)
  unfold termS
  omega
end Go.Proofs.Ytpbapoanjkekmaa

/- Texts of polynomials: two equal texts are of equal polynomials; other letters. Plain laws. -/
namespace Go.Proofs.Ytpbapoanjkekmaa

/-! ### parting a text at a byte -/
theorem part_at {k : UInt8} : ∀ {a a' b b' : Bs}, k ∉ a → k ∉ a' → a ++ k :: b = a' ++ k :: b' → a = a' ∧ b = b'
  | [], [], _, _, _, _, h => ⟨rfl, by simpa using h⟩
  | [], x :: a', _, _, _, h2, h => by
    have : k = x := by simp at h; exact h.1
    exact absurd (by rw [this]; simp) h2
  | x :: a, [], _, _, h1, _, h => by
    have : x = k := by simp at h; exact h.1
    exact absurd (by rw [this]; simp) h1
  | x :: a, y :: a', b, b', h1, h2, h => by
    simp only [List.cons_append, List.cons.injEq] at h
    obtain ⟨e1, e2⟩ := part_at (fun hh => h1 (List.mem_cons_of_mem _ hh)) (fun hh => h2 (List.mem_cons_of_mem _ hh)) h.2
    exact ⟨by rw [h.1, e1], e2⟩
/-- a rest: nothing, or what begins with a blank -/
def Rest (r : Bs) : Prop := r = [] ∨ ∃ s, r = 32 :: s
theorem part_rest {a a' r r' : Bs} (h1 : (32 : UInt8) ∉ a) (h2 : (32 : UInt8) ∉ a') (hr : Rest r) (hr' : Rest r') (h : a ++ r = a' ++ r') : a = a' ∧ r = r' := by
  rcases hr with rfl | ⟨s, rfl⟩ <;> rcases hr' with rfl | ⟨s', rfl⟩
  · simp at h; exact ⟨h, rfl⟩
  · rw [List.append_nil] at h
    exact absurd (by rw [h]; simp) h1
  · rw [List.append_nil] at h
    exact absurd (by rw [← h]; simp) h2
  · obtain ⟨e1, e2⟩ := part_at h1 h2 h
    exact ⟨e1, by rw [e2]⟩

/-! ### four letters -/
/-- names of one byte each, four of them, no two alike, none a digit, a sign, a blank, a star or a caret -/
structure Letters (ns : List Bs) (f : Nat → UInt8) : Prop where
  nm : ∀ j, j < 4 → nmAt ns j = [f j]
  ne : ∀ i j, i < 4 → j < 4 → i ≠ j → f i ≠ f j
  big : ∀ j, j < 4 → 57 < (f j).toNat ∧ (f j).toNat ≠ 94
theorem dig_ne {c : UInt8} (h : isDig c) {k : UInt8} (hk : ¬ isDig k) : c ≠ k := fun e => hk (e ▸ h)
/-- the bytes of a text that is written before factor j -/
theorem wrTo_mem {ns : List Bs} {f : Nat → UInt8} (L : Letters ns f) {c : Nat} {m : Mo} : ∀ j, j ≤ 4 → ∀ b ∈ (wrTo ns c m j).2, isDig b ∨ b = 42 ∨ b = 94 ∨ ∃ i, i < j ∧ b = f i
  | 0, _, b, hb => by
    unfold wrTo at hb
    split at hb
    · simp at hb
    · exact .inl (decD_dig c b hb)
  | j + 1, hj, b, hb => by
    by_cases h : gt m j = 0
    · rw [wrTo_skip h] at hb
      rcases wrTo_mem L j (by omega) b hb with h1 | h1 | h1 | ⟨i, h1, h2⟩
      · exact .inl h1
      · exact .inr (.inl h1)
      · exact .inr (.inr (.inl h1))
      · exact .inr (.inr (.inr ⟨i, by omega, h2⟩))
    · rw [wrTo_take h] at hb
      simp only [List.mem_append] at hb
      rcases hb with ((hb | hb) | hb) | hb
      · rcases wrTo_mem L j (by omega) b hb with h1 | h1 | h1 | ⟨i, h1, h2⟩
        · exact .inl h1
        · exact .inr (.inl h1)
        · exact .inr (.inr (.inl h1))
        · exact .inr (.inr (.inr ⟨i, by omega, h2⟩))
      · split at hb
        · exact .inr (.inl (by simpa using hb))
        · simp at hb
      · rw [L.nm j (by omega)] at hb
        exact .inr (.inr (.inr ⟨j, by omega, by simpa using hb⟩))
      · unfold powS at hb
        split at hb
        · rcases List.mem_cons.1 hb with hb | hb
          · exact .inr (.inr (.inl hb))
          · exact .inl (decD_dig _ b hb)
        · simp at hb
theorem not_dig {k : UInt8} (h : 57 < k.toNat ∨ k.toNat < 48) : ¬ isDig k := fun hh => by unfold isDig at hh; omega
theorem wrTo_letter {ns : List Bs} {f : Nat → UInt8} (L : Letters ns f) {c : Nat} {m : Mo} {j : Nat} (hj : j < 4) : f j ∉ (wrTo ns c m j).2 := fun hb => by
  have hbig := L.big j hj
  rcases wrTo_mem L j (by omega) _ hb with h1 | h1 | h1 | ⟨i, h1, h2⟩
  · exact not_dig (.inl hbig.1) h1
  · rw [h1] at hbig; exact absurd hbig.1 (by decide)
  · rw [h1] at hbig; exact hbig.2 rfl
  · exact L.ne j i hj (by omega) (by omega) h2
theorem powS_letter {k : UInt8} (h : 57 < k.toNat ∧ k.toNat ≠ 94) (e : Int) : k ∉ powS e := fun hb => by
  unfold powS at hb
  split at hb
  · rcases List.mem_cons.1 hb with hb | hb
    · rw [hb] at h; exact h.2 rfl
    · exact not_dig (.inl h.1) (decD_dig _ k hb)
  · simp at hb
theorem powS_inj {e e' : Int} (h : 1 ≤ e) (h' : 1 ≤ e') (he : powS e = powS e') : e = e' := by
  unfold powS at he
  split at he <;> split at he
  · have := decD_inj (List.cons.inj he).2
    omega
  · simp at he
  · simp at he
  · omega
/-- nothing is written just where the text is empty -/
theorem wrTo_flag (ns : List Bs) (c : Nat) (m : Mo) (hn : ∀ j, j < 4 → nmAt ns j ≠ []) : ∀ j, j ≤ 4 → ((wrTo ns c m j).1 = false ↔ (wrTo ns c m j).2 = [])
  | 0, _ => by
    unfold wrTo
    split
    · simp
    · simp [decD_ne]
  | j + 1, hj => by
    by_cases h : gt m j = 0
    · rw [wrTo_skip h]; exact wrTo_flag ns c m hn j (by omega)
    · rw [wrTo_take h]
      simp [hn j (by omega)]
/-- a text says the factors, from the last one on -/
theorem wrTo_inj {ns : List Bs} {f : Nat → UInt8} (L : Letters ns f) {c c' : Nat} {m m' : Mo} (hm : ∀ j, j < 4 → 0 ≤ gt m j) (hm' : ∀ j, j < 4 → 0 ≤ gt m' j) : ∀ j, j ≤ 4 → (wrTo ns c m j).2 = (wrTo ns c' m' j).2 → (∀ i, i < j → gt m i = gt m' i) ∧ (wrTo ns c m 0).2 = (wrTo ns c' m' 0).2
  | 0, _, h => ⟨fun i hi => absurd hi (by omega), h⟩
  | j + 1, hj, h => by
    have hn : ∀ j, j < 4 → nmAt ns j ≠ [] := fun j hj => by rw [L.nm j hj]; simp
    have fl := wrTo_flag ns c m hn j (by omega)
    have fl' := wrTo_flag ns c' m' hn j (by omega)
    have hl := wrTo_letter L (c := c) (m := m) (j := j) (by omega)
    have hl' := wrTo_letter L (c := c') (m := m') (j := j) (by omega)
    have hb := L.big j (by omega)
    have hst : f j ≠ 42 := fun e => by rw [e] at hb; exact absurd hb.1 (by decide)
    have key : gt m j = gt m' j ∧ (wrTo ns c m j).2 = (wrTo ns c' m' j).2 := by
      by_cases h0 : gt m j = 0 <;> by_cases h0' : gt m' j = 0
      · rw [wrTo_skip h0, wrTo_skip h0'] at h
        exact ⟨by rw [h0, h0'], h⟩
      · rw [wrTo_skip h0, wrTo_take h0', L.nm j (by omega)] at h
        exact absurd (by rw [h]; simp) hl
      · rw [wrTo_take h0, wrTo_skip h0', L.nm j (by omega)] at h
        exact absurd (by rw [← h]; simp) hl'
      · rw [wrTo_take h0, wrTo_take h0', L.nm j (by omega)] at h
        simp only [List.append_assoc, List.singleton_append] at h
        rw [← List.append_assoc, ← List.append_assoc] at h
        obtain ⟨e1, e2⟩ := part_at (k := f j) (by
          intro hh
          rcases List.mem_append.1 hh with hh | hh
          · exact hl hh
          · split at hh
            · exact hst (by simpa using hh)
            · simp at hh) (by
          intro hh
          rcases List.mem_append.1 hh with hh | hh
          · exact hl' hh
          · split at hh
            · exact hst (by simpa using hh)
            · simp at hh) h
        have g1 := hm j (by omega)
        have g2 := hm' j (by omega)
        refine ⟨powS_inj (by omega) (by omega) e2, ?_⟩
        cases hq : (wrTo ns c m j).1 <;> cases hq' : (wrTo ns c' m' j).1
        · rw [fl.1 hq, fl'.1 hq']
        · rw [hq, hq', fl.1 hq] at e1
          simp at e1
        · rw [hq, hq', fl'.1 hq'] at e1
          simp at e1
        · rw [hq, hq'] at e1
          simpa using e1
    obtain ⟨k1, k2⟩ := wrTo_inj L hm hm' j (by omega) key.2
    refine ⟨fun i hi => ?_, k2⟩
    by_cases e : i = j
    · rw [e]; exact key.1
    · exact k1 i (by omega)
theorem mo_ext {a b : Mo} (h : ∀ i, i < 4 → gt a i = gt b i) : a = b := by
  have h0 := h 0 (by omega)
  have h1 := h 1 (by omega)
  have h2 := h 2 (by omega)
  have h3 := h 3 (by omega)
  obtain ⟨a0, a1, a2, a3⟩ := a
  obtain ⟨b0, b1, b2, b3⟩ := b
  simp only [gt] at h0 h1 h2 h3
  rw [h0, h1, h2, h3]
theorem termS_inj {ns : List Bs} {f : Nat → UInt8} (L : Letters ns f) {c c' : Nat} {m m' : Mo} (hm : ∀ j, j < 4 → 0 ≤ gt m j) (hm' : ∀ j, j < 4 → 0 ≤ gt m' j) (h : termS ns c m = termS ns c' m') : c = c' ∧ m = m' := by
  obtain ⟨h1, h2⟩ := wrTo_inj L hm hm' 4 (Nat.le_refl _) h
  have e := mo_ext h1
  refine ⟨?_, e⟩
  rw [e] at h2
  unfold wrTo at h2
  split at h2 <;> split at h2
  · rename_i a b; rw [a.1, b.1]
  · exact absurd h2.symm (decD_ne _)
  · exact absurd h2 (decD_ne _)
  · exact decD_inj h2
theorem termS_blank {ns : List Bs} {f : Nat → UInt8} (L : Letters ns f) (c : Nat) (m : Mo) {k : UInt8} (hk : k.toNat < 42 ∨ k.toNat = 45) : k ∉ termS ns c m := fun hb => by
  rcases wrTo_mem L 4 (Nat.le_refl _) k hb with h1 | h1 | h1 | ⟨i, h1, h2⟩
  · unfold isDig at h1; omega
  · rw [h1] at hk; exact absurd hk (by decide)
  · rw [h1] at hk; exact absurd hk (by decide)
  · have := (L.big i h1).1
    rw [h2] at hk
    omega
theorem fmtGo_rest (ns : List Bs) (l : List Tm) : Rest (fmtGo ns false l) := by
  cases l with
  | nil => exact .inl rfl
  | cons t l =>
    refine .inr ?_
    unfold fmtGo signS
    by_cases h : t.1 < 0
    · rw [decide_eq_true h]; exact ⟨_, rfl⟩
    · rw [decide_eq_false h]; exact ⟨_, rfl⟩
/-- exponents that are not negative -/
def MoOk (t : Tm) : Prop := ∀ j, j < 4 → 0 ≤ gt t.2 j
theorem tm_ext {s t : Tm} (h1 : decide (s.1 < 0) = decide (t.1 < 0)) (h2 : s.1.natAbs = t.1.natAbs) (h3 : s.2 = t.2) : s = t := by
  obtain ⟨a, m⟩ := s
  obtain ⟨b, n⟩ := t
  simp only [decide_eq_decide] at h1 h2 h3
  rw [h3]
  congr 1
  omega
theorem fmtGo_inj {ns : List Bs} {f : Nat → UInt8} (L : Letters ns f) : ∀ (l l' : List Tm), (∀ t ∈ l, MoOk t) → (∀ t ∈ l', MoOk t) → fmtGo ns false l = fmtGo ns false l' → l = l'
  | [], [], _, _, _ => rfl
  | [], t :: l', _, _, h => by
    unfold fmtGo signS at h
    by_cases hh : t.1 < 0
    · rw [decide_eq_true hh] at h; simp at h
    · rw [decide_eq_false hh] at h; simp at h
  | t :: l, [], _, _, h => by
    unfold fmtGo signS at h
    by_cases hh : t.1 < 0
    · rw [decide_eq_true hh] at h; simp at h
    · rw [decide_eq_false hh] at h; simp at h
  | s :: l, t :: l', h1, h2, h => by
    rw [fmtGo, fmtGo] at h
    have hsg : decide (s.1 < 0) = decide (t.1 < 0) ∧ termS ns s.1.natAbs s.2 ++ fmtGo ns false l = termS ns t.1.natAbs t.2 ++ fmtGo ns false l' := by
      unfold signS at h
      by_cases hs : s.1 < 0 <;> by_cases ht : t.1 < 0
      · rw [decide_eq_true hs, decide_eq_true ht] at h ⊢
        simpa using h
      · rw [decide_eq_true hs, decide_eq_false ht] at h
        simp at h
      · rw [decide_eq_false hs, decide_eq_true ht] at h
        simp at h
      · rw [decide_eq_false hs, decide_eq_false ht] at h ⊢
        simpa using h
    obtain ⟨e1, e2⟩ := part_rest (termS_blank L _ _ (.inl (by decide))) (termS_blank L _ _ (.inl (by decide))) (fmtGo_rest ns l) (fmtGo_rest ns l') hsg.2
    obtain ⟨c1, c2⟩ := termS_inj L (h1 s (by simp)) (h2 t (by simp)) e1
    rw [tm_ext hsg.1 c1 c2, fmtGo_inj L l l' (fun x hx => h1 x (List.mem_cons_of_mem _ hx)) (fun x hx => h2 x (List.mem_cons_of_mem _ hx)) e2]
theorem termS_head {ns : List Bs} {f : Nat → UInt8} (L : Letters ns f) (c : Nat) (m : Mo) (r : Bs) (hr : Rest r) : ∀ s, termS ns c m ++ r ≠ 45 :: s := fun s h => by
  cases ht : termS ns c m with
  | nil =>
    rw [ht] at h
    rcases hr with rfl | ⟨q, rfl⟩
    · simp at h
    · simp at h
  | cons x q =>
    rw [ht] at h
    simp only [List.cons_append, List.cons.injEq] at h
    exact termS_blank L c m (k := 45) (.inr rfl) (by rw [ht, h.1]; simp)
theorem fmtGo_inj1 {ns : List Bs} {f : Nat → UInt8} (L : Letters ns f) {s t : Tm} {l l' : List Tm} (h1 : ∀ x ∈ s :: l, MoOk x) (h2 : ∀ x ∈ t :: l', MoOk x) (h : fmtGo ns true (s :: l) = fmtGo ns true (t :: l')) : s :: l = t :: l' := by
  rw [fmtGo, fmtGo] at h
  have hsg : decide (s.1 < 0) = decide (t.1 < 0) ∧ termS ns s.1.natAbs s.2 ++ fmtGo ns false l = termS ns t.1.natAbs t.2 ++ fmtGo ns false l' := by
    unfold signS at h
    by_cases hs : s.1 < 0 <;> by_cases ht : t.1 < 0
    · rw [decide_eq_true hs, decide_eq_true ht] at h ⊢
      simpa using h
    · rw [decide_eq_true hs, decide_eq_false ht] at h
      simp only [if_true, Bool.false_eq_true, if_false, List.cons_append, List.nil_append] at h
      exact absurd h.symm (termS_head L _ _ _ (fmtGo_rest ns l') _)
    · rw [decide_eq_false hs, decide_eq_true ht] at h
      simp only [if_true, Bool.false_eq_true, if_false, List.cons_append, List.nil_append] at h
      exact absurd h (termS_head L _ _ _ (fmtGo_rest ns l) _)
    · rw [decide_eq_false hs, decide_eq_false ht] at h ⊢
      simpa using h
  obtain ⟨e1, e2⟩ := part_rest (termS_blank L _ _ (.inl (by decide))) (termS_blank L _ _ (.inl (by decide))) (fmtGo_rest ns l) (fmtGo_rest ns l') hsg.2
  obtain ⟨c1, c2⟩ := termS_inj L (h1 s (by simp)) (h2 t (by simp)) e1
  rw [tm_ext hsg.1 c1 c2, fmtGo_inj L l l' (fun x hx => h1 x (List.mem_cons_of_mem _ hx)) (fun x hx => h2 x (List.mem_cons_of_mem _ hx)) e2]
/-- the polynomial whose text is written, 0 as a term of its own -/
def some0 (P : List Tm) : List Tm := if P = [] then [(0, (0, 0, 0, 0))] else P
theorem fmtS_some0 (ns : List Bs) (P : List Tm) : fmtS ns P = fmtGo ns true (some0 P) := by
  unfold fmtS some0
  split
  · simp only [fmtGo, signS, termS]
    rw [wrTo_skip rfl, wrTo_skip rfl, wrTo_skip rfl, wrTo_skip rfl]
    simp [wrTo, decD_small]
  · rfl
theorem fmtS_inj {ns : List Bs} {f : Nat → UInt8} (L : Letters ns f) {P Q : List Tm} (hP : ∀ t ∈ P, MoOk t ∧ t.1 ≠ 0) (hQ : ∀ t ∈ Q, MoOk t ∧ t.1 ≠ 0) (h : fmtS ns P = fmtS ns Q) : P = Q := by
  rw [fmtS_some0, fmtS_some0] at h
  have ok0 : ∀ x ∈ [((0 : Int), ((0, 0, 0, 0) : Mo))], MoOk x := fun x hx => by
    rw [List.mem_singleton] at hx
    rw [hx]
    intro j hj
    rcases (by omega : j = 0 ∨ j = 1 ∨ j = 2 ∨ j = 3) with rfl | rfl | rfl | rfl <;> exact Int.le_refl _
  cases P with
  | nil =>
    cases Q with
    | nil => rfl
    | cons t l =>
      have := fmtGo_inj1 L ok0 (fun x hx => (hQ x hx).1) h
      have e : t = (0, (0, 0, 0, 0)) := (List.cons.inj this).1.symm
      exact absurd (by rw [e]) (hQ t (by simp)).2
  | cons s l =>
    cases Q with
    | nil =>
      have := fmtGo_inj1 L (fun x hx => (hP x hx).1) ok0 h
      have e : s = (0, (0, 0, 0, 0)) := (List.cons.inj this).1
      exact absurd (by rw [e]) (hP s (by simp)).2
    | cons t l' => exact fmtGo_inj1 L (fun x hx => (hP x hx).1) (fun x hx => (hQ x hx).1) h

/-! ### other letters -/
theorem map_digits {g : UInt8 → UInt8} (hg : ∀ c, isDig c → g c = c) (n : Nat) : (Lib.decDigits n).map g = Lib.decDigits n :=
  (List.map_congr_left fun c hc => hg c (decD_dig n c hc)).trans (List.map_id' _)
theorem powS_map {g : UInt8 → UInt8} (hg : ∀ c, isDig c → g c = c) (h94 : g 94 = 94) (e : Int) : (powS e).map g = powS e := by
  unfold powS
  split
  · rw [List.map_cons, h94, map_digits hg]
  · rfl
theorem wrTo_map {g : UInt8 → UInt8} (hg : ∀ c, isDig c → g c = c) (h94 : g 94 = 94) (h42 : g 42 = 42) {ns ns' : List Bs} (hn : ∀ j, nmAt ns' j = (nmAt ns j).map g) (c : Nat) (m : Mo) : ∀ j, wrTo ns' c m j = ((wrTo ns c m j).1, (wrTo ns c m j).2.map g)
  | 0 => by
    unfold wrTo
    split
    · rfl
    · simp [map_digits hg]
  | j + 1 => by
    by_cases h : gt m j = 0
    · rw [wrTo_skip h, wrTo_skip h]; exact wrTo_map hg h94 h42 hn c m j
    · rw [wrTo_take h, wrTo_take h, wrTo_map hg h94 h42 hn c m j, hn j]
      simp only [List.map_append, powS_map hg h94]
      split <;> simp [h42]
theorem fmtGo_map {g : UInt8 → UInt8} (hg : ∀ c, isDig c → g c = c) (h94 : g 94 = 94) (h42 : g 42 = 42) (h32 : g 32 = 32) (h43 : g 43 = 43) (h45 : g 45 = 45) {ns ns' : List Bs} (hn : ∀ j, nmAt ns' j = (nmAt ns j).map g) : ∀ (l : List Tm) (first : Bool), fmtGo ns' first l = (fmtGo ns first l).map g
  | [], _ => rfl
  | t :: l, first => by
    have hs : (signS first (decide (t.1 < 0))).map g = signS first (decide (t.1 < 0)) := by
      unfold signS
      (repeat' split) <;> simp [h32, h43, h45]
    rw [fmtGo, fmtGo, fmtGo_map hg h94 h42 h32 h43 h45 hn l false, List.map_append, List.map_append, hs]
    unfold termS
    rw [wrTo_map hg h94 h42 hn]
theorem fmtS_map {g : UInt8 → UInt8} (hg : ∀ c, isDig c → g c = c) (h94 : g 94 = 94) (h42 : g 42 = 42) (h32 : g 32 = 32) (h43 : g 43 = 43) (h45 : g 45 = 45) {ns ns' : List Bs} (hn : ∀ j, nmAt ns' j = (nmAt ns j).map g) (P : List Tm) : fmtS ns' P = (fmtS ns P).map g := by
  unfold fmtS
  split
  · simp [hg 48 ⟨by decide, by decide⟩]
  · exact fmtGo_map hg h94 h42 h32 h43 h45 hn P true
end Go.Proofs.Ytpbapoanjkekmaa
