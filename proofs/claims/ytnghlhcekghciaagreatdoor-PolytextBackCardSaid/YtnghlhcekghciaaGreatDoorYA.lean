/- What is printed is read: plain laws. -/
import Derived.Test.YtnghlhcekghciaaGreatDoorY9
import Derived.Test.YtnghlhcekghciaaGreatDoorXS
namespace Go.Proofs.YtnghlhcekghciaaGreatDoor
open Go.RowKit

/-! ### decimal texts -/
theorem dec_head {n : Nat} (h : 0 < n) : ∃ c r, Lib.decDigits n = c :: r ∧ isDig c ∧ c ≠ 48 := by
  induction n using Nat.strongRecOn with
  | _ n ih =>
    by_cases hs : n < 10
    · refine ⟨UInt8.ofNat (48 + n), [], decD_small hs, ?_, fun e => ?_⟩
      · unfold isDig; rw [digit_nat hs]; omega
      · have := congrArg UInt8.toNat e
        rw [digit_nat hs] at this
        have h48 : (48 : UInt8).toNat = 48 := rfl
        omega
    · obtain ⟨c, r, e, h1, h2⟩ := ih (n / 10) (by omega) (by omega)
      exact ⟨c, r ++ [UInt8.ofNat (48 + n % 10)], by rw [decD_big hs, e]; rfl, h1, h2⟩
theorem dec_zero : Lib.decDigits 0 = [48] := by rw [decD_small (by omega)]; rfl
theorem dig_not45 {c : UInt8} (h : isDig c) : c ≠ 45 := fun e => by subst e; unfold isDig at h; have : (45 : UInt8).toNat = 45 := rfl; omega
theorem decP_dec (n : Nat) : decP (Lib.decDigits n) = some (n : Int) := by
  have hs : sgnB (Lib.decDigits n) = false := by
    rcases Nat.eq_zero_or_pos n with h | h
    · subst h; rw [dec_zero]; rfl
    · obtain ⟨c, r, e, h1, _⟩ := dec_head h
      rw [e]
      simp [sgnB, dig_not45 h1]
  have hr : sgnR (Lib.decDigits n) = Lib.decDigits n := by unfold sgnR; rw [hs]; rfl
  have hall : (Lib.decDigits n).all (fun c => decide (48 ≤ c.toNat ∧ c.toNat ≤ 57)) = true := List.all_eq_true.2 fun c hc => by
    have := decD_dig n c hc
    unfold isDig at this
    simpa using this
  have hok : decOk false (Lib.decDigits n) = true := by
    unfold decOk
    rw [hall, Bool.and_true]
    rcases Nat.eq_zero_or_pos n with h | h
    · subst h; rw [dec_zero]; rfl
    · obtain ⟨c, r, e, _, h2⟩ := dec_head h
      rw [e]
      simp [h2]
  unfold decP
  rw [hs, hr, hok]
  simp [decV_decD]
theorem decP_letter {c : UInt8} {r : Bs} (h : 58 ≤ c.toNat) : decP (c :: r) = none := by
  have hs : sgnB (c :: r) = false := by
    have : c ≠ 45 := fun e => by subst e; have : (45 : UInt8).toNat = 45 := rfl; omega
    simp [sgnB, this]
  unfold decP
  rw [hs]
  have hr : sgnR (c :: r) = c :: r := by unfold sgnR; rw [hs]; rfl
  rw [hr]
  have : decOk false (c :: r) = false := by
    unfold decOk
    rw [List.all_cons, show decide (48 ≤ c.toNat ∧ c.toNat ≤ 57) = false by simp; omega]
    simp
  rw [this]
  rfl

/-! ### names -/
theorem nmCh_big {x : Nat} (h : nmCh 0 x = true) : 58 ≤ x := by
  simp [nmCh] at h
  omega
theorem nm_head {ls : List Bs} (h : NmOk ls) {j : Nat} (hj : j < ls.length) : ∃ c r, nmAt ls j = c :: r ∧ 58 ≤ c.toNat := by
  have hn := h _ (nmAt_in hj)
  cases hl : nmAt ls j with
  | nil => rw [hl] at hn; simp [nameB] at hn
  | cons c r =>
    refine ⟨c, r, rfl, ?_⟩
    rw [hl] at hn
    cases hc : nmCh 0 c.toNat with
    | false => rw [nameB_bad (k := 0) (by simp) (by simpa using hc)] at hn; cases hn
    | true => exact nmCh_big hc
theorem nm_apart {ls : List Bs} (h : namesB ls = true) {i j : Nat} (hij : i < j) (hj : j < ls.length) : ls.getD i [] ≠ ls.getD j [] := fun e => by
  have hb : (nameB (ls.getD j []) && !(ls.take j).contains (ls.getD j [])) = false := by
    have : (ls.take j).contains (ls.getD j []) = true := by
      rw [List.contains_iff_mem, ← e, List.getD_eq_getElem?_getD, List.getElem?_eq_getElem (by omega)]
      have h1 : (ls.take j)[i]? = some ls[i] := by rw [List.getElem?_take, if_pos hij, List.getElem?_eq_getElem (by omega)]
      exact List.mem_of_getElem? h1
    rw [this]
    simp
  rw [namesB_bad hj hb] at h
  cases h
theorem toB_inj {a b : Bs} (h : toB a = toB b) : a = b := by
  have := congrArg (fun x : ByteArray => x.data.toList) h
  simpa [toB] using this
theorem toB_getD {ls : List Bs} {i : Nat} (h : i < ls.length) : (ls.map toB).getD i ByteArray.empty = toB (ls.getD i []) := by
  rw [List.getD_eq_getElem?_getD, List.getElem?_map, List.getElem?_eq_getElem h, List.getD_eq_getElem?_getD, List.getElem?_eq_getElem h]
  rfl
theorem idxN_at {ls : List Bs} (h : namesB ls = true) {j : Nat} (hj : j < ls.length) : idxN ls (nmAt ls j) = (j : Int) := by
  unfold idxN Lib.idxOfS nmAt
  have := Lib.idxFromS_hit (toB (ls.getD j [])) (ls.map toB) j 0 (by simpa using hj) (toB_getD hj) (fun i hi => by
    rw [toB_getD (by omega)]
    exact fun e => nm_apart h hi hj (toB_inj e))
  rw [this]
  simp

/-! ### a term's parts -/
def fpart (ls : List Bs) (m : Mo) (j : Nat) : Bs := nmAt ls j ++ powS (gt m j)
def facs (ls : List Bs) (m : Mo) : Nat → List Bs
  | 0 => []
  | j + 1 => if gt m j = 0 then facs ls m j else facs ls m j ++ [fpart ls m j]
def joinS : List Bs → Bs
  | [] => []
  | [a] => a
  | a :: b :: r => a ++ 42 :: joinS (b :: r)
theorem joinS_snoc (x : Bs) : ∀ (l : List Bs), l ≠ [] → joinS (l ++ [x]) = joinS l ++ 42 :: x
  | [], h => absurd rfl h
  | [a], _ => rfl
  | a :: b :: r, _ => by
    have ih := joinS_snoc x (b :: r) (by simp)
    rw [List.cons_append, List.cons_append, joinS, ← List.cons_append, ih, joinS, List.append_assoc]
    rfl
theorem parts_join : ∀ (l : List Bs), l ≠ [] → (∀ p ∈ l, (42 : UInt8) ∉ p) → partsS 42 (joinS l) = l
  | [], h, _ => absurd rfl h
  | [a], _, h => parts_no (h a (by simp))
  | a :: b :: r, _, h => by
    rw [joinS, parts_at _ (h a (by simp)), parts_join (b :: r) (by simp) (fun p hp => h p (List.mem_cons_of_mem _ hp))]
def headP (c : Nat) (m : Mo) : List Bs := if c = 1 ∧ m ≠ (0, 0, 0, 0) then [] else [Lib.decDigits c]
theorem wrTo_parts (ls : List Bs) (c : Nat) (m : Mo) : ∀ j, (wrTo ls c m j).2 = joinS (headP c m ++ facs ls m j) ∧ ((wrTo ls c m j).1 = false ↔ headP c m ++ facs ls m j = [])
  | 0 => by
    unfold headP
    rw [wrTo, facs]
    split
    · exact ⟨rfl, by simp⟩
    · exact ⟨rfl, by simp⟩
  | j + 1 => by
    have ih := wrTo_parts ls c m j
    by_cases hg : gt m j = 0
    · rw [wrTo_skip hg, facs, if_pos hg]; exact ih
    · rw [wrTo_take hg, facs, if_neg hg, ← List.append_assoc]
      refine ⟨?_, by simp⟩
      generalize headP c m ++ facs ls m j = L at *
      cases hf : (wrTo ls c m j).1 with
      | false =>
        have hL := ih.2.1 hf
        rw [hL] at ih ⊢
        rw [ih.1]
        simp [joinS, fpart]
      | true =>
        have hL : L ≠ [] := fun e => by rw [ih.2.2 e] at hf; cases hf
        rw [joinS_snoc _ _ hL, ih.1]
        simp [fpart]
theorem termS_parts (ls : List Bs) (c : Nat) (m : Mo) : termS ls c m = joinS (headP c m ++ facs ls m 4) := (wrTo_parts ls c m 4).1
theorem facs_no {ls : List Bs} (h : NmOk ls) (m : Mo) : ∀ j, ∀ p ∈ facs ls m j, (42 : UInt8) ∉ p
  | 0 => by simp [facs]
  | j + 1 => by
    intro p hp
    rw [facs] at hp
    split at hp
    · exact facs_no h m j p hp
    · rcases List.mem_append.1 hp with hp | hp
      · exact facs_no h m j p hp
      · rw [List.mem_singleton] at hp
        subst hp
        intro hm
        rcases List.mem_append.1 hm with hm | hm
        · rcases h.ch j 42 hm with h1 | h1
          · unfold isDig at h1; have : (42 : UInt8).toNat = 42 := rfl; omega
          · have : (42 : UInt8).toNat = 42 := rfl; omega
        · unfold powS at hm
          split at hm
          · rcases List.mem_cons.1 hm with hm | hm
            · cases hm
            · have := decD_dig _ _ hm; unfold isDig at this; have : (42 : UInt8).toNat = 42 := rfl; omega
          · cases hm
/-- the exponents below j -/
def mTo (m : Mo) (j : Nat) : Mo := (if 0 < j then m.1 else 0, if 1 < j then m.2.1 else 0, if 2 < j then m.2.2.1 else 0, if 3 < j then m.2.2.2 else 0)
theorem mTo_four (m : Mo) : mTo m 4 = m := rfl
theorem mTo_add (m : Mo) {j : Nat} (hj : j < 4) : addAt (mTo m j) j (gt m j) = mTo m (j + 1) := by
  rcases (by omega : j = 0 ∨ j = 1 ∨ j = 2 ∨ j = 3) with rfl | rfl | rfl | rfl <;> simp [addAt, mTo, gt]
theorem mTo_skip (m : Mo) {j : Nat} (hj : j < 4) (h : gt m j = 0) : mTo m (j + 1) = mTo m j := by
  rcases (by omega : j = 0 ∨ j = 1 ∨ j = 2 ∨ j = 3) with rfl | rfl | rfl | rfl <;> simp [gt] at h <;> simp [mTo, h]
theorem factsR_app (ls : List Bs) : ∀ (a b : List Bs) (m : Mo), factsR ls (a ++ b) m = (factsR ls a m).bind (factsR ls b)
  | [], b, m => rfl
  | p :: a, b, m => by
    rw [List.cons_append, factsR, factsR]
    cases factR ls p with
    | none => rfl
    | some x => exact factsR_app ls a b _
theorem factR_at {ls : List Bs} (h : namesB ls = true) (ho : NmOk ls) {m : Mo} {j : Nat} (hj : j < ls.length) (h0 : 0 ≤ gt m j) (h1 : gt m j ≠ 0) : factR ls (fpart ls m j) = if gt m j ≤ 1073741824 then some (j, gt m j) else none := by
  have h94 : (94 : UInt8) ∉ nmAt ls j := fun hm => by
    rcases ho.ch j 94 hm with hh | hh
    · unfold isDig at hh; have : (94 : UInt8).toNat = 94 := rfl; omega
    · exact hh.2 rfl
  have hi := idxN_at h hj
  unfold fpart powS
  by_cases he : 1 < gt m j
  · rw [if_pos he]
    unfold factR
    rw [cut_at _ h94]
    simp only [hi]
    rw [if_neg (by omega), if_neg (by decide), decP_dec]
    simp only [Int.toNat_natCast]
    rw [Int.toNat_of_nonneg h0]
    by_cases hb : gt m j ≤ 1073741824
    · rw [if_pos hb, if_pos ⟨by omega, hb⟩]
    · rw [if_neg hb, if_neg (fun e => hb e.2)]
  · rw [if_neg he, List.append_nil]
    unfold factR
    rw [cut_no h94]
    simp only [hi]
    rw [if_neg (by omega), if_pos trivial, if_pos (by omega), show gt m j = 1 by omega]
    simp
/-- the exponents that Parse accepts -/
def ExOk (m : Mo) (j : Nat) : Prop := ∀ i, i < j → gt m i ≤ 1073741824
theorem factsR_facs {ls : List Bs} (h : namesB ls = true) (ho : NmOk ls) {m : Mo} (hl : LvOk ls m) (h0 : ∀ j, j < 4 → 0 ≤ gt m j) (he : ExOk m 4) : ∀ j, j ≤ 4 → factsR ls (facs ls m j) (0, 0, 0, 0) = some (mTo m j)
  | 0, _ => rfl
  | j + 1, hj => by
    have ih := factsR_facs h ho hl h0 he j (by omega)
    by_cases hg : gt m j = 0
    · rw [facs, if_pos hg, mTo_skip m (by omega) hg]; exact ih
    · rw [facs, if_neg hg, factsR_app, ih]
      show factsR ls [fpart ls m j] (mTo m j) = _
      rw [factsR, factR_at h ho (hl j (by omega) hg) (h0 j (by omega)) hg, if_pos (he j (by omega))]
      show some _ = _
      rw [mTo_add m (by omega)]
theorem facs_head {ls : List Bs} (ho : NmOk ls) {m : Mo} (hl : LvOk ls m) : ∀ j, j ≤ 4 → ∀ p r, facs ls m j = p :: r → decP p = none
  | 0, _, p, r, h => by cases h
  | j + 1, hj, p, r, h => by
    have ih := facs_head ho hl j (by omega)
    rw [facs] at h
    by_cases hg : gt m j = 0
    · rw [if_pos hg] at h
      exact ih p r h
    · rw [if_neg hg] at h
      cases hf : facs ls m j with
      | nil =>
        rw [hf] at h
        injection h with h _
        subst h
        obtain ⟨c, t, e, hc⟩ := nm_head ho (hl j (by omega) hg)
        unfold fpart
        rw [e]
        exact decP_letter hc
      | cons q t =>
        rw [hf] at h
        injection h with h _
        subst h
        exact ih q t hf
theorem headP_no {c : Nat} {m : Mo} : ∀ p ∈ headP c m, (42 : UInt8) ∉ p := fun p hp => by
  unfold headP at hp
  split at hp
  · cases hp
  · rw [List.mem_singleton] at hp
    subst hp
    intro hm
    have := decD_dig _ _ hm
    unfold isDig at this
    have : (42 : UInt8).toNat = 42 := rfl
    omega
theorem parts_ne {ls : List Bs} {c : Nat} {m : Mo} : headP c m ++ facs ls m 4 ≠ [] := fun e => by
  have hf := (wrTo_parts ls c m 4).2.2 e
  have h2 := List.append_eq_nil_iff.1 e
  unfold headP at h2
  by_cases hc : c = 1 ∧ m ≠ (0, 0, 0, 0)
  · apply hc.2
    apply mo_zero
    intro i hi
    have key : ∀ j, j ≤ 4 → facs ls m j = [] → ∀ i, i < j → gt m i = 0 := by
      intro j
      induction j with
      | zero => intro _ _ i hi; omega
      | succ j ih =>
        intro hj he i hi
        rw [facs] at he
        by_cases hg : gt m j = 0
        · rw [if_pos hg] at he
          by_cases hij : i = j
          · rw [hij]; exact hg
          · exact ih (by omega) he i (by omega)
        · rw [if_neg hg] at he
          exact absurd he (by simp)
    exact key 4 (Nat.le_refl _) h2.2 i hi
  · rw [if_neg hc] at h2
    cases h2.1
theorem term_parts {ls : List Bs} (ho : NmOk ls) {c : Nat} {m : Mo} : partsS 42 (termS ls c m) = headP c m ++ facs ls m 4 := by
  rw [termS_parts]
  exact parts_join _ parts_ne (fun p hp => (List.mem_append.1 hp).elim (headP_no p) (facs_no ho m 4 p))
theorem termR_at {ls : List Bs} (h : namesB ls = true) {c : Nat} {m : Mo} (hl : LvOk ls m) (h0 : ∀ j, j < 4 → 0 ≤ gt m j) (he : ExOk m 4) : termR ls (termS ls c m) = some ((c : Int), m) := by
  have ho : NmOk ls := (namesB_ok h).2
  have hfa := factsR_facs h ho hl h0 he 4 (Nat.le_refl _)
  rw [mTo_four] at hfa
  have hne := parts_ne (ls := ls) (c := c) (m := m)
  unfold termR
  rw [term_parts ho]
  unfold headP at *
  by_cases hc : c = 1 ∧ m ≠ (0, 0, 0, 0)
  · rw [if_pos hc, List.nil_append] at *
    cases hf : facs ls m 4 with
    | nil => exact absurd hf hne
    | cons p r =>
      rw [hf] at hfa
      simp only [facs_head ho hl 4 (Nat.le_refl _) p r hf, hfa, hc.1]
      rfl
  · rw [if_neg hc]
    simp only [List.singleton_append, decP_dec, hfa]
    rfl

/-! ### the whole text -/
theorem termS_first {ls : List Bs} (ho : NmOk ls) {c : Nat} {m : Mo} (hl : LvOk ls m) : ∃ b r, termS ls c m = b :: r ∧ b ≠ 45 := by
  have hn := termS_ne ho (c := c) hl
  have h45 := termS_no ho c m (k := 45) (.inr rfl)
  cases ht : termS ls c m with
  | nil => exact absurd ht hn
  | cons b r =>
    refine ⟨b, r, rfl, fun e => h45 ?_⟩
    rw [ht, e]
    simp
def TOk (ls : List Bs) (t : Tm) : Prop := LvOk ls t.2 ∧ (∀ j, j < 4 → 0 ≤ gt t.2 j) ∧ ExOk t.2 4
theorem readGo_at {ls : List Bs} (h : namesB ls = true) : ∀ (l : List Tm) (t : Tm) (n : Nat) (acc : List Tm), (∀ x ∈ t :: l, TOk ls x) → l.length < n → readGo ls n (decide (t.1 < 0)) (termS ls t.1.natAbs t.2 ++ fmtGo ls false l) acc = some (acc ++ t :: l)
  | l, t, 0, acc, _, hn => by omega
  | [], t, n + 1, acc, hx, _ => by
    have ho : NmOk ls := (namesB_ok h).2
    have h1 := hx t (by simp)
    have h32 := termS_no ho t.1.natAbs t.2 (k := 32) (.inl (by decide))
    rw [show fmtGo ls false [] = [] from rfl, List.append_nil, readGo, cut_no h32, termR_at h h1.1 h1.2.1 h1.2.2]
    simp only [if_true]
    congr 3
    by_cases hs : t.1 < 0
    · simp [hs]
      ext <;> simp
      omega
    · simp [hs]
      ext <;> simp
      omega
  | u :: l, t, n + 1, acc, hx, hn => by
    have ho : NmOk ls := (namesB_ok h).2
    have h1 := hx t (by simp)
    have h32 := termS_no ho t.1.natAbs t.2 (k := 32) (.inl (by decide))
    have ih := readGo_at h l u n (acc ++ [t]) (fun x hx' => hx x (List.mem_cons_of_mem _ hx')) (by simpa using hn)
    have hval : (if decide (t.1 < 0) then -((t.1.natAbs : Nat) : Int) else ((t.1.natAbs : Nat) : Int)) = t.1 := by
      by_cases hs : t.1 < 0
      · simp [hs]; omega
      · simp [hs]; omega
    by_cases hu : u.1 < 0
    · have e : fmtGo ls false (u :: l) = 32 :: ([45, 32] ++ (termS ls u.1.natAbs u.2 ++ fmtGo ls false l)) := by
        rw [fmtGo, signS, if_neg (by decide), if_pos (by simpa using hu)]
        simp
      rw [e, readGo, cut_at _ h32, termR_at h h1.1 h1.2.1 h1.2.2]
      simp only [hval]
      rw [if_neg (by decide), if_neg (by simp [Lib.hasPrefix, List.isPrefixOf]), if_pos (by simp [Lib.hasPrefix, List.isPrefixOf])]
      rw [show decide (u.1 < 0) = true by simpa using hu] at ih
      simp only [List.cons_append, List.nil_append, List.drop_succ_cons, List.drop_zero]
      rw [ih]
      simp
    · have e : fmtGo ls false (u :: l) = 32 :: ([43, 32] ++ (termS ls u.1.natAbs u.2 ++ fmtGo ls false l)) := by
        rw [fmtGo, signS, if_neg (by decide), if_neg (by simpa using hu)]
        simp
      rw [e, readGo, cut_at _ h32, termR_at h h1.1 h1.2.1 h1.2.2]
      simp only [hval]
      rw [if_neg (by decide), if_pos (by simp [Lib.hasPrefix, List.isPrefixOf])]
      rw [show decide (u.1 < 0) = false by simpa using hu] at ih
      simp only [List.cons_append, List.nil_append, List.drop_succ_cons, List.drop_zero]
      rw [ih]
      simp
theorem fmtGo_many {ls : List Bs} (ho : NmOk ls) : ∀ (l : List Tm), (∀ x ∈ l, LvOk ls x.2) → l.length ≤ (fmtGo ls false l).length
  | [], _ => by simp
  | u :: l, hx => by
    have ih := fmtGo_many ho l (fun x hx' => hx x (List.mem_cons_of_mem _ hx'))
    have h1 := termS_ne ho (c := u.1.natAbs) (hx u (by simp))
    have h2 : 0 < (termS ls u.1.natAbs u.2).length := List.length_pos_iff.2 h1
    rw [fmtGo, List.length_append, List.length_append, List.length_cons]
    omega
theorem readR_at {ls : List Bs} (h : namesB ls = true) {P : List Tm} (hx : ∀ x ∈ P, TOk ls x) : readR ls (fmtS ls P) = some (some0 P) := by
  have ho : NmOk ls := (namesB_ok h).2
  have key : ∀ (t : Tm) (l : List Tm), (∀ x ∈ t :: l, TOk ls x) → readR ls (fmtGo ls true (t :: l)) = some (t :: l) := fun t l hx => by
    obtain ⟨b, r, e, hb⟩ := termS_first ho (c := t.1.natAbs) (hx t (by simp)).1
    have hm := fmtGo_many ho l (fun x hx' => (hx x (List.mem_cons_of_mem _ hx')).1)
    have hlen : l.length < (fmtGo ls true (t :: l)).length + 1 := by
      rw [fmtGo, List.length_append]
      omega
    have hgo := readGo_at h l t _ [] hx hlen
    rw [List.nil_append] at hgo
    by_cases ht : t.1 < 0
    · rw [show decide (t.1 < 0) = true by simpa using ht] at hgo
      have e2 : fmtGo ls true (t :: l) = 45 :: (termS ls t.1.natAbs t.2 ++ fmtGo ls false l) := by
        rw [fmtGo, signS, if_pos rfl, if_pos (by simpa using ht)]
        simp
      unfold readR
      rw [show Lib.hasPrefix (fmtGo ls true (t :: l)) [45] = true by rw [e2]; simp [Lib.hasPrefix, List.isPrefixOf]]
      rw [show Lib.trimPrefix (fmtGo ls true (t :: l)) [45] = termS ls t.1.natAbs t.2 ++ fmtGo ls false l by rw [e2]; simp [Lib.trimPrefix, Lib.hasPrefix, List.isPrefixOf]]
      exact hgo
    · rw [show decide (t.1 < 0) = false by simpa using ht] at hgo
      have e2 : fmtGo ls true (t :: l) = termS ls t.1.natAbs t.2 ++ fmtGo ls false l := by
        rw [fmtGo, signS, if_pos rfl, if_neg (by simpa using ht)]
        simp
      have hp : Lib.hasPrefix (fmtGo ls true (t :: l)) [45] = false := by
        rw [e2, e]
        simp [Lib.hasPrefix, List.isPrefixOf, Ne.symm hb]
      unfold readR
      rw [hp, show Lib.trimPrefix (fmtGo ls true (t :: l)) [45] = termS ls t.1.natAbs t.2 ++ fmtGo ls false l by unfold Lib.trimPrefix; rw [hp]; exact e2]
      exact hgo
  rw [fmtS_some0]
  unfold some0
  by_cases hP : P = []
  · rw [if_pos hP]
    refine key _ _ fun x hx' => ?_
    rw [List.mem_singleton] at hx'
    subst hx'
    refine ⟨fun j hj hne => absurd (mo_zero_gt rfl j) hne, fun j hj => by rw [mo_zero_gt rfl j]; exact Int.le_refl _, fun j hj => by rw [mo_zero_gt rfl j]; decide⟩
  · rw [if_neg hP]
    cases P with
    | nil => exact absurd rfl hP
    | cons t l => exact key t l hx
end Go.Proofs.YtnghlhcekghciaaGreatDoor
