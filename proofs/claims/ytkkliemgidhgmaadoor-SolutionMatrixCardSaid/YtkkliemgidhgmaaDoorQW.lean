/- Contracts of solution.bit and solution.permits, for signs from -1 to 1 and lists of at most 1000 places. -/
import Derived.Test.YtkkliemgidhgmaaDoorRows
import Derived.Deep.QuietTactic
import Derived.BigQuiet
import Derived.Outline
import Derived.Deep.RegionHeld3
import Derived.Test.YtkkliemgidhgmaaDoorZN
namespace Go.Proofs.YtkkliemgidhgmaaDoor
open Go.RowKit

def bitOf (s : Int) : Int := if s = -1 then 1 else if s = 0 then 2 else 4
theorem bit_eq (s : Int) (h0 : -1 ≤ s) (h1 : s ≤ 1) : wrap64 (2 ^ (s + 1).toNat) = bitOf s := by
  obtain rfl | rfl | rfl : s = -1 ∨ s = 0 ∨ s = 1 := by omega
  all_goals (simp [bitOf]; unfold wrap64; rfl)
theorem bit_any (s : Int) (w : World) (h0 : -1 ≤ s) (h1 : s ≤ 1) :
    Calls Tryd.prog 25 #[.int .i64 s] w fun e w' => e = .returned (.int .i64 (bitOf s)) ∧ Drawn w w' := by
  go_enter Tryd.func25, Tryd.ntmps25
  go_wp2
  go_ret
  refine ⟨?_, .refl _⟩
  show Ending.returned (.int .i64 (wrap64 (2 ^ (s + 1).toNat))) = _
  rw [bit_eq s h0 h1]

/-- the test of one place -/
def meet (t s : Int) : Bool := !(bits .and .i64 t (bitOf s) == 0)
def permTo (ts ss : List Int) (k : Nat) : Bool := (List.range k).all fun i => meet (ts.getD i 0) (ss.getD i 0)
theorem permTo_succ (ts ss : List Int) (k : Nat) : permTo ts ss (k + 1) = (permTo ts ss k && meet (ts.getD k 0) (ss.getD k 0)) := by
  simp [permTo, List.range_succ]
theorem permTo_false {ts ss : List Int} {k m : Nat} (h : meet (ts.getD k 0) (ss.getD k 0) = false) (hk : k < m) : permTo ts ss m = false := by
  rw [← Bool.not_eq_true]
  intro hh
  have := List.all_eq_true.1 hh k (List.mem_range.2 hk)
  rw [h] at this
  cases this

set_option maxHeartbeats 400000 in
theorem permits_any (A A' : Option Addr) (n m c c' B : Nat) (ts ss : List Int) (w : World) (ht : Reads w B 1 A n (ts.map (Value.int .i64))) (hs : Reads w B 1 A' m (ss.map (Value.int .i64)))
    (hle : m ≤ n) (hm : n ≤ 1000) (hr : ∀ x ∈ ss, -1 ≤ x ∧ x ≤ 1) :
    Calls Tryd.prog 18 #[.slice A n c, .slice A' m c'] w fun e w' => e = .returned (.bool (permTo ts ss m)) ∧ Drawn w w' := by
  go_enter Tryd.func18, Tryd.ntmps18
  go_wp2
  go_loopw [5, 6, 9] (fun _ _ i wr => ∃ (k : Nat), k ≤ m ∧ i = .int .i64 k ∧ permTo ts ss k = true ∧ Drawn w wr) (fun _ _ i _ => m - (intOf i).toNat)
  case atStart => exact ⟨0, Nat.zero_le _, rfl, rfl, .refl _⟩
  case round =>
    obtain ⟨k, hk, rfl, hp, hd⟩ := hrel
    have HP := Lib.hid hp; clear hp
    by_cases hlt : k < m
    · obtain ⟨b1, o1, rfl, q1, c1⟩ := (ht.drawn hd).int_at (k := k) (by omega)
      obtain ⟨b2, o2, rfl, q2, c2⟩ := (hs.drawn hd).int_at (k := k) (by omega)
      obtain ⟨x1, x2⟩ := hr (ss.getD k 0) (getD_mem (by have := hs.1; simp at this; omega))
      have HR := Lib.hid hr; clear hr
      have HS := Lib.hid (permTo_succ ts ss k)
      have HF := Lib.hid (@permTo_false ts ss k m)
      generalize ss.getD k 0 = sk at *
      generalize ts.getD k 0 = tk at *
      have i1 : (k : Int) < n := by omega
      by_cases hb : meet tk sk = true
      · have hb' : (bits .and .i64 tk (bitOf sk) == 0) = false := by simpa [meet] using hb
        have HB := Lib.hid hb; clear hb
        go_wp2
        go_quiet ((go_at_call 25; exact Drawn.quiet (bit_any _ _ x1 x2)))
        go_wp2
        go_roundw
        case rel => exact ⟨k + 1, by omega, by go_num, by rw [HS.out, HP.out, HB.out]; rfl, hd.trans (.drewN _ _)⟩
        case measure => simp [intOf]; omega
      · have hb' : (bits .and .i64 tk (bitOf sk) == 0) = true := by simpa [meet] using hb
        have HB := Lib.hid hb; clear hb
        go_wp2
        go_quiet ((go_at_call 25; exact Drawn.quiet (bit_any _ _ x1 x2)))
        go_wp2
        go_ret
        exact ⟨ret_bool (HF.out (by simpa using HB.out) hlt).symm, hd.trans (.drewN _ _)⟩
    · go_wp2
      go_ret
      exact ⟨ret_bool (by rw [show m = k by omega]; exact HP.out.symm), hd⟩
end Go.Proofs.YtkkliemgidhgmaaDoor

/- Contracts of the reference's bit, sameSigns and Permits, for signs from -1 to 1 and lists of at most 1000 places. -/
namespace Go.Proofs.YtkkliemgidhgmaaDoor
open Go.RowKit

def allEq (a b : List Int) (k : Nat) : Bool := (List.range k).all fun i => a.getD i 0 == b.getD i 0
theorem allEq_succ (a b : List Int) (k : Nat) : allEq a b (k + 1) = (allEq a b k && (a.getD k 0 == b.getD k 0)) := by
  simp [allEq, List.range_succ]
theorem allEq_false {a b : List Int} {k m : Nat} (h : (a.getD k 0 == b.getD k 0) = false) (hk : k < m) : allEq a b m = false := by
  rw [← Bool.not_eq_true]
  intro hh
  have := List.all_eq_true.1 hh k (List.mem_range.2 hk)
  rw [h] at this
  cases this
theorem allEq_iff {a b : List Int} (hl : a.length = b.length) : allEq a b a.length = true ↔ a = b := by
  constructor
  · intro h
    apply List.ext_getElem hl
    intro i h1 h2
    have := List.all_eq_true.1 h i (List.mem_range.2 h1)
    simpa [List.getElem?_eq_getElem h1, List.getElem?_eq_getElem h2] using this
  · rintro rfl
    simp [allEq]

end Go.Proofs.YtkkliemgidhgmaaDoor

/- Contracts of the reference's Few (every list of rows) and of solution.valid (at most 90 rows of at most 6 signs). -/
namespace Go.Proofs.YtkkliemgidhgmaaDoor
open Go.RowKit

def allTo (p : Nat → Bool) (k : Nat) : Bool := (List.range k).all p
theorem allTo_succ (p : Nat → Bool) (k : Nat) : allTo p (k + 1) = (allTo p k && p k) := by simp [allTo, List.range_succ]
theorem allTo_false {p : Nat → Bool} {k m : Nat} (h : p k = false) (hk : k < m) : allTo p m = false := by
  rw [← Bool.not_eq_true]
  intro hh
  have := List.all_eq_true.1 hh k (List.mem_range.2 hk)
  rw [h] at this
  cases this
theorem allTo_iff {p : Nat → Bool} {m : Nat} : allTo p m = true ↔ ∀ k, k < m → p k = true := by simp [allTo]

def fewB (rows : List (List Int × Bool)) : Bool := decide (rows.length ≤ 90) && allTo (fun k => decide ((sg rows k).length ≤ 6)) rows.length

def sgnB (l : List Int) (k : Nat) : Bool := decide (-1 ≤ l.getD k 0) && decide (l.getD k 0 ≤ 1)
def rowOk (n : Int) (l : List Int) : Bool := decide ((l.length : Int) = n) && allTo (sgnB l) l.length
def validB (n : Int) (rows : List (List Int × Bool)) : Bool := allTo (fun k => rowOk n (sg rows k)) rows.length

set_option maxHeartbeats 400000 in
theorem valid_any (x : Int) (A : Option Addr) (n c B : Nat) (rows : List (List Int × Bool)) (w : World) (hB : B ≤ w.heap.size) (hr : RowsAt w B A rows) (hn : n = rows.length) (hm : n ≤ 90) (hq : ∀ k, k < rows.length → (sg rows k).length ≤ 6) :
    Calls Tryd.prog 14 #[.int .i64 x, .slice A n c] w fun e w' => e = .returned (.bool (validB x rows)) ∧ Below w.heap.size w w' := by
  have HN := Lib.hid hn; clear hn
  have HQ := Lib.hid hq; clear hq
  go_enter Tryd.func14, Tryd.ntmps14
  go_wp2
  go_loopw [6, 8, 11] (fun _ _ i wr => ∃ (k : Nat), k ≤ n ∧ i = .int .i64 k ∧ allTo (fun k => rowOk x (sg rows k)) k = true ∧ Below w.heap.size w wr) (fun _ _ i _ => n - (intOf i).toNat)
  case atStart => exact ⟨0, Nat.zero_le _, rfl, rfl, .refl _ _⟩
  case round =>
    obtain ⟨k, hk, rfl, hp, hd⟩ := hrel
    have HP := Lib.hid hp; clear hp
    by_cases hlt : k < n
    · obtain ⟨b1, o1, Ak, ck, rfl, q1, c1, c2, hs⟩ := (hr.below (hd.mono hB)).at_ (k := k) (by have := HN.out; omega)
      have HS := Lib.hid (allTo_succ (fun k => rowOk x (sg rows k)) k)
      have HF := Lib.hid (@allTo_false (fun k => rowOk x (sg rows k)) k n)
      have h6 := HQ.out k (by have := HN.out; omega)
      generalize sg rows k = l at *
      generalize tr rows k = tk at *
      have hz := hd.size
      by_cases hx : (l.length : Int) = x
      · have hx' : ((l.length : Int) != x) = false := by simpa using hx
        have HX := Lib.hid hx; clear hx
        go_wp2
        go_loop [8, 23] (fun _ i => ∃ (j : Nat), j ≤ l.length ∧ i = .int .i64 j ∧ allTo (sgnB l) j = true) (fun _ i => l.length - (intOf i).toNat)
        case atStart => exact ⟨0, Nat.zero_le _, rfl, rfl⟩
        case round =>
          obtain ⟨j, hj, rfl, hp2⟩ := hrel
          have HP2 := Lib.hid hp2; clear hp2
          by_cases hlt2 : j < l.length
          · obtain ⟨b2, o2, rfl, q2, c3⟩ := hs.int_at (k := j) hlt2
            have z2 : b2 < wr.heap.size := by omega
            have HS2 := Lib.hid (allTo_succ (sgnB l) j)
            have HF2 := Lib.hid (@allTo_false (sgnB l) j l.length)
            have HG := Lib.hid (show sgnB l j = (decide (-1 ≤ l.getD j 0) && decide (l.getD j 0 ≤ 1)) from rfl)
            generalize l.getD j 0 = y at *
            by_cases hy : -1 ≤ y
            · by_cases hy2 : y ≤ 1
              · go_wp2
                go_round
                case rel => exact ⟨j + 1, by omega, by go_num, by rw [HS2.out, HP2.out, HG.out]; simp [hy, hy2]⟩
                case measure => simp [intOf]; omega
              · go_wp2
                go_ret
                refine ⟨ret_bool ?_, hd.alloc (by omega) _⟩
                have h1 : rowOk x l = false := by unfold rowOk; rw [HF2.out (by rw [HG.out]; simp only [Bool.and_eq_false_iff, decide_eq_false_iff_not]; omega) hlt2]; simp
                have := HF.out h1 hlt
                rw [HN.out] at this
                exact this.symm
            · go_wp2
              go_ret
              refine ⟨ret_bool ?_, hd.alloc (by omega) _⟩
              have h1 : rowOk x l = false := by unfold rowOk; rw [HF2.out (by rw [HG.out]; simp only [Bool.and_eq_false_iff, decide_eq_false_iff_not]; omega) hlt2]; simp
              have := HF.out h1 hlt
              rw [HN.out] at this
              exact this.symm
          · go_wp2
            go_roundw
            case rel => exact ⟨k + 1, by omega, by go_num, by rw [HS.out, HP.out]; have := HP2.out; rw [show j = l.length by omega] at this; simp [rowOk, this, HX.out], hd.alloc (by omega) _⟩
            case measure => simp [intOf]; omega
      · have hx' : ((l.length : Int) != x) = true := by simpa using hx
        have HX := Lib.hid hx; clear hx
        go_wp2
        go_ret
        refine ⟨ret_bool ?_, hd.alloc (by omega) _⟩
        have h1 : rowOk x l = false := by unfold rowOk; simp [HX.out]
        have := HF.out h1 hlt
        rw [HN.out] at this
        exact this.symm
    · go_wp2
      go_ret
      refine ⟨ret_bool ?_, hd⟩
      have := HP.out
      rw [show k = n by omega, HN.out] at this
      simp [validB, this]
end Go.Proofs.YtkkliemgidhgmaaDoor

/- Contract of the reference's Separated, for at most 90 rows of at most 6 signs. -/
namespace Go.Proofs.YtkkliemgidhgmaaDoor
open Go.RowKit

def clash (rows : List (List Int × Bool)) (i k : Nat) : Bool := (tr rows i != tr rows k) && decide (sg rows i = sg rows k)
def sepTo (rows : List (List Int × Bool)) (i : Nat) : Bool := allTo (fun k => !clash rows i k) i
def sepB (rows : List (List Int × Bool)) : Bool := allTo (sepTo rows) rows.length

end Go.Proofs.YtkkliemgidhgmaaDoor

/- Contract of the reference's Error, for at most 90 rows of at most 6 signs. -/
namespace Go.Proofs.YtkkliemgidhgmaaDoor
open Go.RowKit

def errOf (x : Int) (rows : List (List Int × Bool)) : Int := if x < 0 then 1 else if validB x rows = false then 1 else if sepB rows = false then 5 else 0
theorem ret_int {k : IntKind} {a b : Int} (h : a = b) : Ending.returned (.int k a) = .returned (.int k b) := by rw [h]

end Go.Proofs.YtkkliemgidhgmaaDoor

/- Contracts of the reference's permitsFalse and Covers, for at most 1000 rows of at most 6 valid signs and at most 1000 terms. -/
namespace Go.Proofs.YtkkliemgidhgmaaDoor
open Go.RowKit

def anyTo (p : Nat → Bool) (k : Nat) : Bool := (List.range k).any p
theorem anyTo_succ (p : Nat → Bool) (k : Nat) : anyTo p (k + 1) = (anyTo p k || p k) := by simp [anyTo, List.range_succ]
theorem anyTo_true {p : Nat → Bool} {k m : Nat} (h : p k = true) (hk : k < m) : anyTo p m = true := by
  simp only [anyTo, List.any_eq_true]; exact ⟨k, List.mem_range.2 hk, h⟩
theorem anyTo_iff {p : Nat → Bool} {m : Nat} : anyTo p m = true ↔ ∃ k, k < m ∧ p k = true := by simp [anyTo]

def permT (t s : List Int) : Bool := decide (t.length = s.length) && permTo t s t.length
def falseAt (t : List Int) (rows : List (List Int × Bool)) (k : Nat) : Bool := !tr rows k && permT t (sg rows k)
def falseB (t : List Int) (rows : List (List Int × Bool)) : Bool := anyTo (falseAt t rows) rows.length

def covAt (ts : List (List Int)) (rows : List (List Int × Bool)) (i k : Nat) : Bool := permT (ts.getD k []) (sg rows i)
def covRow (ts : List (List Int)) (rows : List (List Int × Bool)) (i : Nat) : Bool := anyTo (covAt ts rows i) ts.length == tr rows i
def covB (ts : List (List Int)) (rows : List (List Int × Bool)) : Bool := allTo (covRow ts rows) rows.length

end Go.Proofs.YtkkliemgidhgmaaDoor
