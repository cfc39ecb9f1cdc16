/- Contracts of polytext.isName and of polytext.Names. -/
import Derived.Lib.SlicesS
import Derived.Test.YtpbapoanjkekmaaShelf
import Derived.Test.YtpbapoanjkekmaaZT
namespace Go.Proofs.Ytpbapoanjkekmaa
open Go.RowKit

def strV (l : Bs) : Value := .string ⟨l.toArray⟩
def nmCh (k c : Nat) : Bool := (decide (97 ≤ c) && decide (c ≤ 122)) || (decide (65 ≤ c) && decide (c ≤ 90)) || decide (c = 95) || (decide (48 ≤ c) && decide (c ≤ 57) && decide (0 < k))
def nameTo (l : Bs) : Nat → Bool
  | 0 => true
  | k + 1 => nameTo l k && nmCh k (l.getD k 0).toNat
def nameB (l : Bs) : Bool := decide (1 ≤ l.length) && (decide (l.length ≤ 16) && nameTo l l.length)
theorem nameTo_le {l : Bs} {k n : Nat} (h : nameTo l n = true) (hk : k ≤ n) : nameTo l k = true := by
  induction n with
  | zero => rw [show k = 0 by omega]; rfl
  | succ n ih =>
    simp only [nameTo, Bool.and_eq_true] at h
    by_cases e : k = n + 1
    · rw [e]; simp only [nameTo, Bool.and_eq_true]; exact h
    · exact ih h.1 (by omega)
theorem nameB_bad {l : Bs} {k : Nat} (hk : k < l.length) (h : nmCh k (l.getD k 0).toNat = false) : nameB l = false := by
  cases hh : nameTo l l.length with
  | false => simp [nameB, hh]
  | true =>
    have := nameTo_le hh (show k + 1 ≤ l.length by omega)
    simp only [nameTo, h, Bool.and_false] at this
    cases this
theorem Try.str_at (l : Bs) (k : Nat) (h : k < l.length) (W : World) : (Instr.index 9 (.string ⟨l.toArray⟩) (.int .i64 (k : Int))).run Try.prog W = .ok (.int .u8 ((l.getD k 0).toNat : Int)) W := by
  have e : l.getD k 0 = l[k] := by simp [List.getElem?_eq_getElem h]
  rw [e]
  simp [Instr.index, run_underlying Try.underlying9, asIntOf, go_sem, h]
  rfl

/-! ### lists of names -/
def namesTo (ls : List Bs) : Nat → Bool
  | 0 => true
  | k + 1 => namesTo ls k && (nameB (ls.getD k []) && !(ls.take k).contains (ls.getD k []))
def namesB (ls : List Bs) : Bool := decide (ls.length ≤ 4) && namesTo ls ls.length
theorem namesTo_le {ls : List Bs} {k n : Nat} (h : namesTo ls n = true) (hk : k ≤ n) : namesTo ls k = true := by
  induction n with
  | zero => rw [show k = 0 by omega]; rfl
  | succ n ih =>
    have h' := h
    simp only [namesTo, Bool.and_eq_true] at h
    by_cases e : k = n + 1
    · rw [e]; exact h'
    · exact ih h.1 (by omega)
theorem namesB_bad {ls : List Bs} {k : Nat} (hk : k < ls.length) (h : (nameB (ls.getD k []) && !(ls.take k).contains (ls.getD k [])) = false) : namesB ls = false := by
  cases hh : namesTo ls ls.length with
  | false => simp [namesB, hh]
  | true =>
    have := namesTo_le hh (show k + 1 ≤ ls.length by omega)
    simp only [namesTo] at this
    rw [h, Bool.and_false] at this
    cases this
theorem strs_at {w : World} {B n k : Nat} {A : Option Addr} {ls : List Bs} (h : Reads w B 1 A n (ls.map strV)) (hk : k < n) : ∃ b o, A = some ⟨b, o, none⟩ ∧ b < B ∧ w.cell? ⟨b, o + k, none⟩ = some (.string ⟨(ls.getD k []).toArray⟩) := by
  obtain ⟨b, o, e, hb, hc⟩ := h.2 (by omega)
  have hl : k < ls.length := by have := h.1; simp at this; omega
  exact ⟨b, o, e, hb, hc k _ (by simp [List.getElem?_eq_getElem hl, strV])⟩
theorem bs_mem {ls : List Bs} {x : Bs} : (⟨x.toArray⟩ : ByteArray) ∈ ls.map (fun l => (⟨l.toArray⟩ : ByteArray)) ↔ x ∈ ls := by
  rw [List.mem_map]
  constructor
  · rintro ⟨l, hl, e⟩
    have : l = x := by
      have := congrArg (fun b : ByteArray => b.data.toList) e
      simpa using this
    exact this ▸ hl
  · exact fun h => ⟨x, h, rfl⟩
end Go.Proofs.Ytpbapoanjkekmaa
