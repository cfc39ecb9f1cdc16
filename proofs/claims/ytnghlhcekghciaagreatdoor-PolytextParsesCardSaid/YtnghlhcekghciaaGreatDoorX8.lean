/- Contracts of polytext.isName and of polytext.Names. -/
import Derived.Lib.SlicesS
import Derived.Test.YtnghlhcekghciaaGreatDoorShelf
import Derived.Test.YtnghlhcekghciaaGreatDoorZT
namespace Go.Proofs.YtnghlhcekghciaaGreatDoor
open Go.RowKit

def strV (l : Bs) : Value := .string ⟨l.toArray⟩
def nmCh (k c : Nat) : Bool := (decide (97 ≤ c) && decide (c ≤ 122)) || (decide (65 ≤ c) && decide (c ≤ 90)) || decide (c = 95) || (decide (48 ≤ c) && decide (c ≤ 57) && decide (0 < k))
def nameTo (l : Bs) : Nat → Bool
  | 0 => true
  | k + 1 => nameTo l k && nmCh k (l.getD k 0).toNat
def nameB (l : Bs) : Bool := decide (1 ≤ l.length) && (decide (l.length ≤ 16) && nameTo l l.length)
theorem nameTo_le {l : Bs} {k n : Nat} (h : nameTo l n = true) (hk : k ≤ n) : nameTo l k = true := by
  induction n with
  | zero => rw [show k = 0 by omega]; rfl
  | succ n ih =>
    simp only [nameTo, Bool.and_eq_true] at h
    by_cases e : k = n + 1
    · rw [e]; simp only [nameTo, Bool.and_eq_true]; exact h
    · exact ih h.1 (by omega)
theorem nameB_bad {l : Bs} {k : Nat} (hk : k < l.length) (h : nmCh k (l.getD k 0).toNat = false) : nameB l = false := by
  cases hh : nameTo l l.length with
  | false => simp [nameB, hh]
  | true =>
    have := nameTo_le hh (show k + 1 ≤ l.length by omega)
    simp only [nameTo, h, Bool.and_false] at this
    cases this
theorem Tryz.str_at (l : Bs) (k : Nat) (h : k < l.length) (W : World) : (Instr.index 9 (.string ⟨l.toArray⟩) (.int .i64 (k : Int))).run Tryz.prog W = .ok (.int .u8 ((l.getD k 0).toNat : Int)) W := by
  have e : l.getD k 0 = l[k] := by simp [List.getElem?_eq_getElem h]
  rw [e]
  simp [Instr.index, run_underlying Tryz.underlying9, asIntOf, go_sem, h]
  rfl

set_option maxHeartbeats 1000000 in
set_option maxRecDepth 100000 in
theorem isName_any (l : Bs) (w : World) (hm : l.length ≤ 1000000) : Calls Tryz.prog 28 #[.string ⟨l.toArray⟩] w fun e w' => e = .returned (.bool (nameB l)) ∧ w = w' := by
  by_cases h1 : l.length < 1
  · have HE := Lib.hid (show nameB l = false by simp [nameB]; omega)
    have i1 : (l.length : Int) < 1 := by omega
    go_enter Tryz.func28, Tryz.ntmps28
    go_wp2
    go_ret
    exact ⟨by rw [HE.out]; rfl, rfl⟩
  by_cases h2 : 16 < l.length
  · have HE := Lib.hid (show nameB l = false by simp [nameB]; omega)
    have i1 : ¬ (l.length : Int) < 1 := by omega
    have i2 : (16 : Int) < (l.length : Int) := by omega
    go_enter Tryz.func28, Tryz.ntmps28
    go_wp2
    go_ret
    exact ⟨by rw [HE.out]; rfl, rfl⟩
  have i1 : ¬ (l.length : Int) < 1 := by omega
  have i2 : ¬ (16 : Int) < (l.length : Int) := by omega
  have HOK := Lib.hid (show nameTo l l.length = true → nameB l = true from fun h => by simp [nameB, h]; omega)
  have HBAD := Lib.hid (fun k => @nameB_bad l k)
  have HST := Lib.hid (fun k => show nameTo l (k + 1) = (nameTo l k && nmCh k (l.getD k 0).toNat) from rfl)
  generalize nameB l = r at *
  go_enter Tryz.func28, Tryz.ntmps28
  go_wp2
  go_loopg [3, 4, 15, 21, 36] l.length (fun gn _ _ i _ _ wr => ∃ k : Nat, k ≤ l.length ∧ gn = l.length - k ∧ i = .int .i64 k ∧ nameTo l k = true ∧ w = wr)
  case atStart => exact ⟨0, by omega, rfl, rfl, rfl, rfl⟩
  case round =>
    obtain ⟨k, hk, hgk, rfl, hnt, rfl⟩ := hrel
    have HG := Lib.hid hgk; have HNT := Lib.hid hnt
    clear hgk hnt
    by_cases hlt : k < l.length
    · have hix := fun (W : World) => Tryz.str_at l k hlt W
      have HB := Lib.hid (HBAD.out k hlt)
      have HS := Lib.hid (HST.out k)
      have j1 : (k : Int) < (l.length : Int) := by omega
      clear HBAD HST
      generalize (l.getD k 0).toNat = c at *
      rcases (by omega : (97 ≤ c ∧ c ≤ 122) ∨ 122 < c ∨ (91 ≤ c ∧ c ≤ 96 ∧ c ≠ 95) ∨ c = 95 ∨ (65 ≤ c ∧ c ≤ 90) ∨ (58 ≤ c ∧ c ≤ 64) ∨ (48 ≤ c ∧ c ≤ 57) ∨ c < 48) with hc | hc | hc | hc | hc | hc | hc | hc
      · have f0 : (97 : Int) ≤ (c : Int) := by omega
        have f1 : (c : Int) ≤ 122 := by omega
        have fe : ((c : Int) == 95) = false := by simp; omega
        have HN := Lib.hid (show nameTo l (k + 1) = true by rw [HS.out, HNT.out]; simp [nmCh]; omega)
        clear HS HB
        go_wp2
        go_roundg (l.length - (k + 1))
        case rel => exact ⟨k + 1, by omega, rfl, by go_num, HN.out, rfl⟩
        case measure => have := HG.out; omega
      · have f0 : (97 : Int) ≤ (c : Int) := by omega
        have f1 : ¬ (c : Int) ≤ 122 := by omega
        have f2 : (65 : Int) ≤ (c : Int) := by omega
        have f3 : ¬ (c : Int) ≤ 90 := by omega
        have f4 : (48 : Int) ≤ (c : Int) := by omega
        have f5 : ¬ (c : Int) ≤ 57 := by omega
        have fe : ((c : Int) == 95) = false := by simp; omega
        have HN := Lib.hid (HB.out (by simp [nmCh]; omega))
        clear HS HB
        go_wp2
        go_ret
        exact ⟨by rw [HN.out]; rfl, rfl⟩
      · have f0 : ¬ (97 : Int) ≤ (c : Int) := by omega
        have f1 : (65 : Int) ≤ (c : Int) := by omega
        have f2 : ¬ (c : Int) ≤ 90 := by omega
        have f3 : (48 : Int) ≤ (c : Int) := by omega
        have f4 : ¬ (c : Int) ≤ 57 := by omega
        have fe : ((c : Int) == 95) = false := by simp; omega
        have HN := Lib.hid (HB.out (by simp [nmCh]; omega))
        clear HS HB
        go_wp2
        go_ret
        exact ⟨by rw [HN.out]; rfl, rfl⟩
      · subst hc
        have HN := Lib.hid (show nameTo l (k + 1) = true by rw [HS.out, HNT.out]; simp [nmCh])
        clear HS HB
        go_wp2
        go_roundg (l.length - (k + 1))
        case rel => exact ⟨k + 1, by omega, rfl, by go_num, HN.out, rfl⟩
        case measure => have := HG.out; omega
      · have f0 : ¬ (97 : Int) ≤ (c : Int) := by omega
        have f1 : (65 : Int) ≤ (c : Int) := by omega
        have f2 : (c : Int) ≤ 90 := by omega
        have fe : ((c : Int) == 95) = false := by simp; omega
        have HN := Lib.hid (show nameTo l (k + 1) = true by rw [HS.out, HNT.out]; simp [nmCh]; omega)
        clear HS HB
        go_wp2
        go_roundg (l.length - (k + 1))
        case rel => exact ⟨k + 1, by omega, rfl, by go_num, HN.out, rfl⟩
        case measure => have := HG.out; omega
      · have f0 : ¬ (97 : Int) ≤ (c : Int) := by omega
        have f1 : ¬ (65 : Int) ≤ (c : Int) := by omega
        have f2 : (48 : Int) ≤ (c : Int) := by omega
        have f3 : ¬ (c : Int) ≤ 57 := by omega
        have fe : ((c : Int) == 95) = false := by simp; omega
        have HN := Lib.hid (HB.out (by simp [nmCh]; omega))
        clear HS HB
        go_wp2
        go_ret
        exact ⟨by rw [HN.out]; rfl, rfl⟩
      · have f0 : ¬ (97 : Int) ≤ (c : Int) := by omega
        have f1 : ¬ (65 : Int) ≤ (c : Int) := by omega
        have f2 : (48 : Int) ≤ (c : Int) := by omega
        have f3 : (c : Int) ≤ 57 := by omega
        have fe : ((c : Int) == 95) = false := by simp; omega
        by_cases hk0 : 0 < k
        · have fk : (0 : Int) < (k : Int) := by omega
          have HN := Lib.hid (show nameTo l (k + 1) = true by rw [HS.out, HNT.out]; simp [nmCh]; omega)
          clear HS HB
          go_wp2
          go_roundg (l.length - (k + 1))
          case rel => exact ⟨k + 1, by omega, rfl, by go_num, HN.out, rfl⟩
          case measure => have := HG.out; omega
        · have fk : ¬ (0 : Int) < (k : Int) := by omega
          have HN := Lib.hid (HB.out (by simp [nmCh]; omega))
          clear HS HB
          go_wp2
          go_ret
          exact ⟨by rw [HN.out]; rfl, rfl⟩
      · have f0 : ¬ (97 : Int) ≤ (c : Int) := by omega
        have f1 : ¬ (65 : Int) ≤ (c : Int) := by omega
        have f2 : ¬ (48 : Int) ≤ (c : Int) := by omega
        have fe : ((c : Int) == 95) = false := by simp; omega
        have HN := Lib.hid (HB.out (by simp [nmCh]; omega))
        clear HS HB
        go_wp2
        go_ret
        exact ⟨by rw [HN.out]; rfl, rfl⟩
    · obtain rfl : k = l.length := by omega
      have HR := Lib.hid (HOK.out HNT.out)
      go_wp2
      go_ret
      exact ⟨by rw [HR.out]; rfl, rfl⟩

/-! ### lists of names -/
def namesTo (ls : List Bs) : Nat → Bool
  | 0 => true
  | k + 1 => namesTo ls k && (nameB (ls.getD k []) && !(ls.take k).contains (ls.getD k []))
def namesB (ls : List Bs) : Bool := decide (ls.length ≤ 4) && namesTo ls ls.length
theorem namesTo_le {ls : List Bs} {k n : Nat} (h : namesTo ls n = true) (hk : k ≤ n) : namesTo ls k = true := by
  induction n with
  | zero => rw [show k = 0 by omega]; rfl
  | succ n ih =>
    have h' := h
    simp only [namesTo, Bool.and_eq_true] at h
    by_cases e : k = n + 1
    · rw [e]; exact h'
    · exact ih h.1 (by omega)
theorem namesB_bad {ls : List Bs} {k : Nat} (hk : k < ls.length) (h : (nameB (ls.getD k []) && !(ls.take k).contains (ls.getD k [])) = false) : namesB ls = false := by
  cases hh : namesTo ls ls.length with
  | false => simp [namesB, hh]
  | true =>
    have := namesTo_le hh (show k + 1 ≤ ls.length by omega)
    simp only [namesTo] at this
    rw [h, Bool.and_false] at this
    cases this
theorem strs_at {w : World} {B n k : Nat} {A : Option Addr} {ls : List Bs} (h : Reads w B 1 A n (ls.map strV)) (hk : k < n) : ∃ b o, A = some ⟨b, o, none⟩ ∧ b < B ∧ w.cell? ⟨b, o + k, none⟩ = some (.string ⟨(ls.getD k []).toArray⟩) := by
  obtain ⟨b, o, e, hb, hc⟩ := h.2 (by omega)
  have hl : k < ls.length := by have := h.1; simp at this; omega
  exact ⟨b, o, e, hb, hc k _ (by simp [List.getElem?_eq_getElem hl, strV])⟩
theorem bs_mem {ls : List Bs} {x : Bs} : (⟨x.toArray⟩ : ByteArray) ∈ ls.map (fun l => (⟨l.toArray⟩ : ByteArray)) ↔ x ∈ ls := by
  rw [List.mem_map]
  constructor
  · rintro ⟨l, hl, e⟩
    have : l = x := by
      have := congrArg (fun b : ByteArray => b.data.toList) e
      simpa using this
    exact this ▸ hl
  · exact fun h => ⟨x, h, rfl⟩
theorem Contains_any (A : Option Addr) (c B k : Nat) (ls : List Bs) (x : Bs) (w : World) (h : Reads w B 1 A ls.length (ls.map strV)) (hk : k ≤ ls.length) (hm : ls.length ≤ 1000000) :
    Calls Tryz.prog 29 #[.slice A k c, .string ⟨x.toArray⟩] w fun e w' => e = .returned (.bool ((ls.take k).contains x)) ∧ w = w' := by
  rcases Nat.eq_zero_or_pos k with rfl | h0
  · refine (Tryz.slices_Contains_string_empty A c ⟨x.toArray⟩ w).mono ?_
    rintro e w' ⟨rfl, rfl⟩
    exact ⟨by simp, rfl⟩
  · obtain ⟨b, o, rfl, hb, hc⟩ := h.2 (by omega)
    refine (Tryz.slices_Contains_string b o k c (ls.map fun l => (⟨l.toArray⟩ : ByteArray)) ⟨x.toArray⟩ w (by simpa using hk) (by omega) (fun j hj => ?_)).mono ?_
    · have hj' : j < ls.length := by simpa using hj
      rw [hc j (strV (ls[j])) (by simp [List.getElem?_eq_getElem hj'])]
      simp [List.getElem?_eq_getElem hj', strV]
    · rintro e w' ⟨rfl, rfl⟩
      refine ⟨?_, rfl⟩
      have : Lib.containsS ((ls.map fun l => (⟨l.toArray⟩ : ByteArray)).take k) ⟨x.toArray⟩ = (ls.take k).contains x := by
        rw [Bool.eq_iff_iff, Lib.containsS_iff, ← List.map_take, bs_mem, List.contains_iff_mem]
      rw [this]

set_option maxHeartbeats 1000000 in
set_option maxRecDepth 100000 in
theorem Names_any (A : Option Addr) (c B : Nat) (ls : List Bs) (w : World) (h : Reads w B 1 A ls.length (ls.map strV)) (hc : ls.length ≤ c) (hm : ls.length ≤ 1000000) (hl : ∀ l ∈ ls, l.length ≤ 1000000) :
    Calls Tryz.prog 13 #[.slice A ls.length c] w fun e w' => e = .returned (.bool (namesB ls)) ∧ w = w' := by
  by_cases h1 : 4 < ls.length
  · have HE := Lib.hid (show namesB ls = false by simp [namesB]; omega)
    have i1 : (4 : Int) < (ls.length : Int) := by omega
    clear h hl
    go_enter Tryz.func13, Tryz.ntmps13
    go_wp2
    go_ret
    exact ⟨by rw [HE.out]; rfl, rfl⟩
  have i1 : ¬ (4 : Int) < (ls.length : Int) := by omega
  have HOK := Lib.hid (show namesTo ls ls.length = true → namesB ls = true from fun h => by simp [namesB, h]; omega)
  have HBAD := Lib.hid (fun k => @namesB_bad ls k)
  have HST := Lib.hid (fun k => show namesTo ls (k + 1) = (namesTo ls k && (nameB (ls.getD k []) && !(ls.take k).contains (ls.getD k []))) from rfl)
  have HL := Lib.hid hl; have H := Lib.hid h
  clear hl h
  generalize namesB ls = r at *
  go_enter Tryz.func13, Tryz.ntmps13
  go_wp2
  go_loopg [3, 4, 10] ls.length (fun gn _ _ i wr => ∃ k : Nat, k ≤ ls.length ∧ gn = ls.length - k ∧ i = .int .i64 k ∧ namesTo ls k = true ∧ w = wr)
  case atStart => exact ⟨0, by omega, rfl, rfl, rfl, rfl⟩
  case round =>
    obtain ⟨k, hk, hgk, rfl, hnt, rfl⟩ := hrel
    have HG := Lib.hid hgk; have HNT := Lib.hid hnt
    clear hgk hnt
    by_cases hlt : k < ls.length
    · have hdm : ls.getD k [] ∈ ls := by simp [List.getElem?_eq_getElem hlt]
      obtain ⟨b, o, rfl, hb, c0⟩ := strs_at H.out hlt
      have HI := Lib.hid (fun W => isName_any (ls.getD k []) W (HL.out _ hdm))
      have HC := Lib.hid (fun cc => Contains_any (some ⟨b, o, none⟩) cc B k ls (ls.getD k []) w H.out hk hm)
      have HB := Lib.hid (HBAD.out k hlt)
      have HS := Lib.hid (HST.out k)
      have j1 : (k : Int) < (ls.length : Int) := by omega
      have j2 : (k : Int) ≤ (c : Int) := by omega
      have j0 : (0 : Int) ≤ (k : Int) := by omega
      clear HBAD HST hdm
      generalize ls.getD k [] = l at *
      generalize (ls.take k).contains l = u at *
      generalize nameB l = v at *
      cases v with
      | false =>
        have HN := Lib.hid (HB.out rfl)
        clear HS HB
        go_wp2_with fail
        refine (HI.out _).mono ?_
        rintro e w' ⟨rfl, rfl⟩
        go_wp2_with fail
        go_ret
        exact ⟨by rw [HN.out]; rfl, rfl⟩
      | true =>
        cases u with
        | true =>
          have HN := Lib.hid (HB.out rfl)
          clear HS HB
          go_wp2_with fail
          refine (HI.out _).mono ?_
          rintro e w' ⟨rfl, rfl⟩
          go_wp2_with fail
          refine (HC.out _).mono ?_
          rintro e w' ⟨rfl, rfl⟩
          go_wp2_with fail
          go_ret
          exact ⟨by rw [HN.out]; rfl, rfl⟩
        | false =>
          have HN := Lib.hid (show namesTo ls (k + 1) = true by rw [HS.out, HNT.out]; rfl)
          clear HS HB
          go_wp2_with fail
          refine (HI.out _).mono ?_
          rintro e w' ⟨rfl, rfl⟩
          go_wp2_with fail
          refine (HC.out _).mono ?_
          rintro e w' ⟨rfl, rfl⟩
          go_wp2_with fail
          go_roundg (ls.length - (k + 1))
          case rel => exact ⟨k + 1, by omega, rfl, by go_num, HN.out, rfl⟩
          case measure => have := HG.out; omega
    · obtain rfl : k = ls.length := by omega
      have HR := Lib.hid (HOK.out HNT.out)
      go_wp2
      go_ret
      exact ⟨by rw [HR.out]; rfl, rfl⟩
end Go.Proofs.YtnghlhcekghciaaGreatDoor
