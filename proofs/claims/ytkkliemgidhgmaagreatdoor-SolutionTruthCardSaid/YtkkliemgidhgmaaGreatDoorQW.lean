/- Contracts of solution.bit and solution.permits, for signs from -1 to 1 and lists of at most 1000 places. -/
import Derived.Test.YtkkliemgidhgmaaGreatDoorRows
import Derived.Deep.QuietTactic
import Derived.BigQuiet
import Derived.Outline
import Derived.Deep.RegionHeld3
import Derived.Test.YtkkliemgidhgmaaGreatDoorZN
namespace Go.Proofs.YtkkliemgidhgmaaGreatDoor
open Go.RowKit

def bitOf (s : Int) : Int := if s = -1 then 1 else if s = 0 then 2 else 4
theorem bit_eq (s : Int) (h0 : -1 ≤ s) (h1 : s ≤ 1) : wrap64 (2 ^ (s + 1).toNat) = bitOf s := by
  obtain rfl | rfl | rfl : s = -1 ∨ s = 0 ∨ s = 1 := by omega
  all_goals (simp [bitOf]; unfold wrap64; rfl)
theorem bit_any (s : Int) (w : World) (h0 : -1 ≤ s) (h1 : s ≤ 1) :
    Calls Tryz.prog 57 #[.int .i64 s] w fun e w' => e = .returned (.int .i64 (bitOf s)) ∧ Drawn w w' := by
  go_enter Tryz.func57, Tryz.ntmps57
  go_wp2
  go_ret
  refine ⟨?_, .refl _⟩
  show Ending.returned (.int .i64 (wrap64 (2 ^ (s + 1).toNat))) = _
  rw [bit_eq s h0 h1]

/-- the test of one place -/
def meet (t s : Int) : Bool := !(bits .and .i64 t (bitOf s) == 0)
def permTo (ts ss : List Int) (k : Nat) : Bool := (List.range k).all fun i => meet (ts.getD i 0) (ss.getD i 0)
theorem permTo_succ (ts ss : List Int) (k : Nat) : permTo ts ss (k + 1) = (permTo ts ss k && meet (ts.getD k 0) (ss.getD k 0)) := by
  simp [permTo, List.range_succ]
theorem permTo_false {ts ss : List Int} {k m : Nat} (h : meet (ts.getD k 0) (ss.getD k 0) = false) (hk : k < m) : permTo ts ss m = false := by
  rw [← Bool.not_eq_true]
  intro hh
  have := List.all_eq_true.1 hh k (List.mem_range.2 hk)
  rw [h] at this
  cases this

set_option maxHeartbeats 400000 in
theorem permits_any (A A' : Option Addr) (n m c c' B : Nat) (ts ss : List Int) (w : World) (ht : Reads w B 1 A n (ts.map (Value.int .i64))) (hs : Reads w B 1 A' m (ss.map (Value.int .i64)))
    (hle : m ≤ n) (hm : n ≤ 1000) (hr : ∀ x ∈ ss, -1 ≤ x ∧ x ≤ 1) :
    Calls Tryz.prog 38 #[.slice A n c, .slice A' m c'] w fun e w' => e = .returned (.bool (permTo ts ss m)) ∧ Drawn w w' := by
  go_enter Tryz.func38, Tryz.ntmps38
  go_wp2
  go_loopw [5, 6, 9] (fun _ _ i wr => ∃ (k : Nat), k ≤ m ∧ i = .int .i64 k ∧ permTo ts ss k = true ∧ Drawn w wr) (fun _ _ i _ => m - (intOf i).toNat)
  case atStart => exact ⟨0, Nat.zero_le _, rfl, rfl, .refl _⟩
  case round =>
    obtain ⟨k, hk, rfl, hp, hd⟩ := hrel
    have HP := Lib.hid hp; clear hp
    by_cases hlt : k < m
    · obtain ⟨b1, o1, rfl, q1, c1⟩ := (ht.drawn hd).int_at (k := k) (by omega)
      obtain ⟨b2, o2, rfl, q2, c2⟩ := (hs.drawn hd).int_at (k := k) (by omega)
      obtain ⟨x1, x2⟩ := hr (ss.getD k 0) (getD_mem (by have := hs.1; simp at this; omega))
      have HR := Lib.hid hr; clear hr
      have HS := Lib.hid (permTo_succ ts ss k)
      have HF := Lib.hid (@permTo_false ts ss k m)
      generalize ss.getD k 0 = sk at *
      generalize ts.getD k 0 = tk at *
      have i1 : (k : Int) < n := by omega
      by_cases hb : meet tk sk = true
      · have hb' : (bits .and .i64 tk (bitOf sk) == 0) = false := by simpa [meet] using hb
        have HB := Lib.hid hb; clear hb
        go_wp2
        go_quiet ((go_at_call 57; exact Drawn.quiet (bit_any _ _ x1 x2)))
        go_wp2
        go_roundw
        case rel => exact ⟨k + 1, by omega, by go_num, by rw [HS.out, HP.out, HB.out]; rfl, hd.trans (.drewN _ _)⟩
        case measure => simp [intOf]; omega
      · have hb' : (bits .and .i64 tk (bitOf sk) == 0) = true := by simpa [meet] using hb
        have HB := Lib.hid hb; clear hb
        go_wp2
        go_quiet ((go_at_call 57; exact Drawn.quiet (bit_any _ _ x1 x2)))
        go_wp2
        go_ret
        exact ⟨ret_bool (HF.out (by simpa using HB.out) hlt).symm, hd.trans (.drewN _ _)⟩
    · go_wp2
      go_ret
      exact ⟨ret_bool (by rw [show m = k by omega]; exact HP.out.symm), hd⟩
end Go.Proofs.YtkkliemgidhgmaaGreatDoor

/- Contracts of the reference's bit, sameSigns and Permits, for signs from -1 to 1 and lists of at most 1000 places. -/
namespace Go.Proofs.YtkkliemgidhgmaaGreatDoor
open Go.RowKit

/-- ref bit: a new row of three, and one of its cells -/
theorem rbit_any (s : Int) (w : World) (h0 : -1 ≤ s) (h1 : s ≤ 1) :
    Calls Tryz.prog 46 #[.int .i64 s] w fun e w' => e = .returned (.int .i64 (bitOf s)) ∧ Below w.heap.size w w' := by
  obtain rfl | rfl | rfl : s = -1 ∨ s = 0 ∨ s = 1 := by omega
  all_goals
    go_enter Tryz.func46, Tryz.ntmps46
    go_wp2
    go_ret
    exact ⟨by simp [bitOf], (Below.refl _ _).alloc (Nat.le_refl _) _⟩

def allEq (a b : List Int) (k : Nat) : Bool := (List.range k).all fun i => a.getD i 0 == b.getD i 0
theorem allEq_succ (a b : List Int) (k : Nat) : allEq a b (k + 1) = (allEq a b k && (a.getD k 0 == b.getD k 0)) := by
  simp [allEq, List.range_succ]
theorem allEq_false {a b : List Int} {k m : Nat} (h : (a.getD k 0 == b.getD k 0) = false) (hk : k < m) : allEq a b m = false := by
  rw [← Bool.not_eq_true]
  intro hh
  have := List.all_eq_true.1 hh k (List.mem_range.2 hk)
  rw [h] at this
  cases this
theorem allEq_iff {a b : List Int} (hl : a.length = b.length) : allEq a b a.length = true ↔ a = b := by
  constructor
  · intro h
    apply List.ext_getElem hl
    intro i h1 h2
    have := List.all_eq_true.1 h i (List.mem_range.2 h1)
    simpa [List.getElem?_eq_getElem h1, List.getElem?_eq_getElem h2] using this
  · rintro rfl
    simp [allEq]

set_option maxHeartbeats 400000 in
theorem same_any (A A' : Option Addr) (n m c c' B : Nat) (ts ss : List Int) (w : World) (ht : Reads w B 1 A n (ts.map (Value.int .i64))) (hs : Reads w B 1 A' m (ss.map (Value.int .i64)))
    (hm : n ≤ 1000) (hm' : m ≤ 1000) :
    Calls Tryz.prog 42 #[.slice A n c, .slice A' m c'] w fun e w' => e = .returned (.bool (decide (ts = ss))) ∧ Drawn w w' := by
  have hl1 : ts.length = n := by have := ht.1; simpa using this
  have hl2 : ss.length = m := by have := hs.1; simpa using this
  have HL1 := Lib.hid hl1; clear hl1
  have HL2 := Lib.hid hl2; clear hl2
  by_cases hnm : n = m
  · obtain rfl : n = m := hnm
    have hb0 : ((n : Int) != n) = false := by simp
    go_enter Tryz.func42, Tryz.ntmps42
    go_wp2
    go_loopw [5, 13] (fun _ i wr => ∃ (k : Nat), k ≤ n ∧ i = .int .i64 k ∧ allEq ts ss k = true ∧ Drawn w wr) (fun _ i _ => n - (intOf i).toNat)
    case atStart => exact ⟨0, Nat.zero_le _, rfl, rfl, .refl _⟩
    case round =>
      obtain ⟨k, hk, rfl, hp, hd⟩ := hrel
      have HP := Lib.hid hp; clear hp
      by_cases hlt : k < n
      · obtain ⟨b1, o1, rfl, q1, c1⟩ := (ht.drawn hd).int_at (k := k) (by omega)
        obtain ⟨b2, o2, rfl, q2, c2⟩ := (hs.drawn hd).int_at (k := k) (by omega)
        have HS := Lib.hid (allEq_succ ts ss k)
        have HF := Lib.hid (@allEq_false ts ss k n)
        generalize ss.getD k 0 = sk at *
        generalize ts.getD k 0 = tk at *
        have i1 : (k : Int) < n := by omega
        by_cases hb : (tk == sk) = true
        · have hb' : (tk != sk) = false := by simpa using hb
          have HB := Lib.hid hb; clear hb
          go_wp2
          go_quiet (fail)
          go_wp2
          go_roundw
          case rel => exact ⟨k + 1, by omega, by go_num, by rw [HS.out, HP.out, HB.out]; rfl, hd.trans (.drewN _ _)⟩
          case measure => simp [intOf]; omega
        · have hb' : (tk != sk) = true := by simpa using hb
          have HB := Lib.hid hb; clear hb
          go_wp2
          go_quiet (fail)
          go_wp2
          go_ret
          refine ⟨ret_bool ?_, hd.trans (.drewN _ _)⟩
          have := HF.out (by simpa using HB.out) hlt
          rw [← HL1.out] at this
          symm
          rw [decide_eq_false_iff_not, ← allEq_iff (by rw [HL1.out, HL2.out]), this]
          simp
      · go_wp2
        go_ret
        refine ⟨ret_bool ?_, hd⟩
        symm
        rw [decide_eq_true_iff, ← allEq_iff (by rw [HL1.out, HL2.out]), HL1.out, show n = k by omega, HP.out]
  · have hb0 : ((n : Int) != m) = true := by simp; omega
    go_enter Tryz.func42, Tryz.ntmps42
    go_wp2
    go_ret
    refine ⟨ret_bool ?_, .refl _⟩
    symm
    rw [decide_eq_false_iff_not]
    rintro rfl
    exact hnm (HL1.out.symm.trans HL2.out)

set_option maxHeartbeats 400000 in
theorem Permits_any (A A' : Option Addr) (n m c c' B : Nat) (ts ss : List Int) (w : World) (hB : B ≤ w.heap.size) (ht : Reads w B 1 A n (ts.map (Value.int .i64))) (hs : Reads w B 1 A' m (ss.map (Value.int .i64)))
    (hm : n ≤ 1000) (hm' : m ≤ 1000) (hr : ∀ x ∈ ss, -1 ≤ x ∧ x ≤ 1) :
    Calls Tryz.prog 25 #[.slice A n c, .slice A' m c'] w fun e w' => e = .returned (.bool (decide (n = m) && permTo ts ss n)) ∧ Below w.heap.size w w' := by
  by_cases hnm : n = m
  · obtain rfl : n = m := hnm
    have hb0 : ((n : Int) != n) = false := by simp
    go_enter Tryz.func25, Tryz.ntmps25
    go_wp2
    go_loopw [5, 13] (fun _ i wr => ∃ (k : Nat), k ≤ n ∧ i = .int .i64 k ∧ permTo ts ss k = true ∧ Below w.heap.size w wr) (fun _ i _ => n - (intOf i).toNat)
    case atStart => exact ⟨0, Nat.zero_le _, rfl, rfl, .refl _ _⟩
    case round =>
      obtain ⟨k, hk, rfl, hp, hd⟩ := hrel
      have HP := Lib.hid hp; clear hp
      by_cases hlt : k < n
      · obtain ⟨b1, o1, rfl, q1, c1⟩ := (ht.below (hd.mono hB)).int_at (k := k) (by omega)
        obtain ⟨b2, o2, rfl, q2, c2⟩ := (hs.below (hd.mono hB)).int_at (k := k) (by omega)
        obtain ⟨x1, x2⟩ := hr (ss.getD k 0) (getD_mem (by have := hs.1; simp at this; omega))
        have HR := Lib.hid hr; clear hr
        have HS := Lib.hid (permTo_succ ts ss k)
        have HF := Lib.hid (@permTo_false ts ss k n)
        generalize ss.getD k 0 = sk at *
        generalize ts.getD k 0 = tk at *
        have i1 : (k : Int) < n := by omega
        have hz := hd.size
        by_cases hb : meet tk sk = true
        · have hb' : (bits .and .i64 tk (bitOf sk) == 0) = false := by simpa [meet] using hb
          have HB := Lib.hid hb; clear hb
          go_wp2
          go_region_held3 (fun w' => w'.cell? ⟨b1, o1 + k, none⟩ = some (.int .i64 tk) ∧ w'.cell? ⟨b2, o2 + k, none⟩ = some (.int .i64 sk)) (first | exact ⟨c1, c2⟩ | exact ⟨(hb1.cell (by simp; omega)).trans c1, (hb1.cell (by simp; omega)).trans c2⟩)
            (first | (go_at_call 46; refine (rbit_any _ _ x1 x2).mono ?_; rintro e w1 ⟨rfl, hb1⟩))
          go_wp2
          go_roundw
          case rel => exact ⟨k + 1, by omega, by go_num, by rw [HS.out, HP.out, HB.out]; rfl, hd.drew.trans (hb1.mono (by simp; omega))⟩
          case measure => simp [intOf]; omega
        · have hb' : (bits .and .i64 tk (bitOf sk) == 0) = true := by simpa [meet] using hb
          have HB := Lib.hid hb; clear hb
          go_wp2
          go_region_held3 (fun w' => w'.cell? ⟨b1, o1 + k, none⟩ = some (.int .i64 tk) ∧ w'.cell? ⟨b2, o2 + k, none⟩ = some (.int .i64 sk)) (first | exact ⟨c1, c2⟩ | exact ⟨(hb1.cell (by simp; omega)).trans c1, (hb1.cell (by simp; omega)).trans c2⟩)
            (first | (go_at_call 46; refine (rbit_any _ _ x1 x2).mono ?_; rintro e w1 ⟨rfl, hb1⟩))
          go_wp2
          go_ret
          exact ⟨ret_bool (by simp; exact (HF.out (by simpa using HB.out) hlt)), hd.drew.trans (hb1.mono (by simp; omega))⟩
      · go_wp2
        go_ret
        exact ⟨ret_bool (by simp; rw [show n = k by omega]; exact HP.out), hd⟩
  · have hb0 : ((n : Int) != m) = true := by simp; omega
    go_enter Tryz.func25, Tryz.ntmps25
    go_wp2
    go_ret
    exact ⟨ret_bool (by simp [hnm]), .refl _ _⟩
end Go.Proofs.YtkkliemgidhgmaaGreatDoor

/- Contracts of the reference's Few (every list of rows) and of solution.valid (at most 90 rows of at most 6 signs). -/
namespace Go.Proofs.YtkkliemgidhgmaaGreatDoor
open Go.RowKit

def allTo (p : Nat → Bool) (k : Nat) : Bool := (List.range k).all p
theorem allTo_succ (p : Nat → Bool) (k : Nat) : allTo p (k + 1) = (allTo p k && p k) := by simp [allTo, List.range_succ]
theorem allTo_false {p : Nat → Bool} {k m : Nat} (h : p k = false) (hk : k < m) : allTo p m = false := by
  rw [← Bool.not_eq_true]
  intro hh
  have := List.all_eq_true.1 hh k (List.mem_range.2 hk)
  rw [h] at this
  cases this
theorem allTo_iff {p : Nat → Bool} {m : Nat} : allTo p m = true ↔ ∀ k, k < m → p k = true := by simp [allTo]

def fewB (rows : List (List Int × Bool)) : Bool := decide (rows.length ≤ 90) && allTo (fun k => decide ((sg rows k).length ≤ 6)) rows.length

set_option maxHeartbeats 400000 in
theorem Few_any (A : Option Addr) (n c B : Nat) (rows : List (List Int × Bool)) (w : World) (hr : RowsAt w B A rows) (hn : n = rows.length) (hm : n ≤ 9223372036854775807) :
    Calls Tryz.prog 6 #[.slice A n c] w fun e w' => e = .returned (.bool (fewB rows)) ∧ w = w' := by
  have HN := Lib.hid hn; clear hn
  by_cases h90 : n ≤ 90
  · go_enter Tryz.func6, Tryz.ntmps6
    go_wp2
    go_loop [3, 9] (fun _ i => ∃ (k : Nat), k ≤ n ∧ i = .int .i64 k ∧ allTo (fun k => decide ((sg rows k).length ≤ 6)) k = true) (fun _ i => n - (intOf i).toNat)
    case atStart => exact ⟨0, Nat.zero_le _, rfl, rfl⟩
    case round =>
      obtain ⟨k, hk, rfl, hp⟩ := hrel
      have HP := Lib.hid hp; clear hp
      by_cases hlt : k < n
      · obtain ⟨b1, o1, Ak, ck, rfl, q1, c1, _, _⟩ := hr.at_ (k := k) (by have := HN.out; omega)
        have HS := Lib.hid (allTo_succ (fun k => decide ((sg rows k).length ≤ 6)) k)
        have HF := Lib.hid (@allTo_false (fun k => decide ((sg rows k).length ≤ 6)) k n)
        generalize (sg rows k).length = lk at *
        by_cases hb : lk ≤ 6
        · go_wp2
          go_round
          case rel => exact ⟨k + 1, by omega, by go_num, by rw [HS.out, HP.out]; simpa using hb⟩
          case measure => simp [intOf]; omega
        · go_wp2
          go_ret
          refine ⟨ret_bool ?_, rfl⟩
          have := HF.out (by simpa using hb) hlt
          rw [HN.out] at this
          simp [fewB, this]
      · go_wp2
        go_ret
        refine ⟨ret_bool ?_, rfl⟩
        have := HP.out
        rw [show k = n by omega, HN.out] at this
        have h9 : rows.length ≤ 90 := by have := HN.out; omega
        simp [fewB, this, h9]
  · go_enter Tryz.func6, Tryz.ntmps6
    go_wp2
    go_ret
    refine ⟨ret_bool ?_, rfl⟩
    have h9 : ¬ rows.length ≤ 90 := by have := HN.out; omega
    simp [fewB, h9]

def sgnB (l : List Int) (k : Nat) : Bool := decide (-1 ≤ l.getD k 0) && decide (l.getD k 0 ≤ 1)
def rowOk (n : Int) (l : List Int) : Bool := decide ((l.length : Int) = n) && allTo (sgnB l) l.length
def validB (n : Int) (rows : List (List Int × Bool)) : Bool := allTo (fun k => rowOk n (sg rows k)) rows.length

set_option maxHeartbeats 400000 in
theorem valid_any (x : Int) (A : Option Addr) (n c B : Nat) (rows : List (List Int × Bool)) (w : World) (hB : B ≤ w.heap.size) (hr : RowsAt w B A rows) (hn : n = rows.length) (hm : n ≤ 90) (hq : ∀ k, k < rows.length → (sg rows k).length ≤ 6) :
    Calls Tryz.prog 35 #[.int .i64 x, .slice A n c] w fun e w' => e = .returned (.bool (validB x rows)) ∧ Below w.heap.size w w' := by
  have HN := Lib.hid hn; clear hn
  have HQ := Lib.hid hq; clear hq
  go_enter Tryz.func35, Tryz.ntmps35
  go_wp2
  go_loopw [6, 8, 11] (fun _ _ i wr => ∃ (k : Nat), k ≤ n ∧ i = .int .i64 k ∧ allTo (fun k => rowOk x (sg rows k)) k = true ∧ Below w.heap.size w wr) (fun _ _ i _ => n - (intOf i).toNat)
  case atStart => exact ⟨0, Nat.zero_le _, rfl, rfl, .refl _ _⟩
  case round =>
    obtain ⟨k, hk, rfl, hp, hd⟩ := hrel
    have HP := Lib.hid hp; clear hp
    by_cases hlt : k < n
    · obtain ⟨b1, o1, Ak, ck, rfl, q1, c1, c2, hs⟩ := (hr.below (hd.mono hB)).at_ (k := k) (by have := HN.out; omega)
      have HS := Lib.hid (allTo_succ (fun k => rowOk x (sg rows k)) k)
      have HF := Lib.hid (@allTo_false (fun k => rowOk x (sg rows k)) k n)
      have h6 := HQ.out k (by have := HN.out; omega)
      generalize sg rows k = l at *
      generalize tr rows k = tk at *
      have hz := hd.size
      by_cases hx : (l.length : Int) = x
      · have hx' : ((l.length : Int) != x) = false := by simpa using hx
        have HX := Lib.hid hx; clear hx
        go_wp2
        go_loop [8, 23] (fun _ i => ∃ (j : Nat), j ≤ l.length ∧ i = .int .i64 j ∧ allTo (sgnB l) j = true) (fun _ i => l.length - (intOf i).toNat)
        case atStart => exact ⟨0, Nat.zero_le _, rfl, rfl⟩
        case round =>
          obtain ⟨j, hj, rfl, hp2⟩ := hrel
          have HP2 := Lib.hid hp2; clear hp2
          by_cases hlt2 : j < l.length
          · obtain ⟨b2, o2, rfl, q2, c3⟩ := hs.int_at (k := j) hlt2
            have z2 : b2 < wr.heap.size := by omega
            have HS2 := Lib.hid (allTo_succ (sgnB l) j)
            have HF2 := Lib.hid (@allTo_false (sgnB l) j l.length)
            have HG := Lib.hid (show sgnB l j = (decide (-1 ≤ l.getD j 0) && decide (l.getD j 0 ≤ 1)) from rfl)
            generalize l.getD j 0 = y at *
            by_cases hy : -1 ≤ y
            · by_cases hy2 : y ≤ 1
              · go_wp2
                go_round
                case rel => exact ⟨j + 1, by omega, by go_num, by rw [HS2.out, HP2.out, HG.out]; simp [hy, hy2]⟩
                case measure => simp [intOf]; omega
              · go_wp2
                go_ret
                refine ⟨ret_bool ?_, hd.alloc (by omega) _⟩
                have h1 : rowOk x l = false := by unfold rowOk; rw [HF2.out (by rw [HG.out]; simp only [Bool.and_eq_false_iff, decide_eq_false_iff_not]; omega) hlt2]; simp
                have := HF.out h1 hlt
                rw [HN.out] at this
                exact this.symm
            · go_wp2
              go_ret
              refine ⟨ret_bool ?_, hd.alloc (by omega) _⟩
              have h1 : rowOk x l = false := by unfold rowOk; rw [HF2.out (by rw [HG.out]; simp only [Bool.and_eq_false_iff, decide_eq_false_iff_not]; omega) hlt2]; simp
              have := HF.out h1 hlt
              rw [HN.out] at this
              exact this.symm
          · go_wp2
            go_roundw
            case rel => exact ⟨k + 1, by omega, by go_num, by rw [HS.out, HP.out]; have := HP2.out; rw [show j = l.length by omega] at this; simp [rowOk, this, HX.out], hd.alloc (by omega) _⟩
            case measure => simp [intOf]; omega
      · have hx' : ((l.length : Int) != x) = true := by simpa using hx
        have HX := Lib.hid hx; clear hx
        go_wp2
        go_ret
        refine ⟨ret_bool ?_, hd.alloc (by omega) _⟩
        have h1 : rowOk x l = false := by unfold rowOk; simp [HX.out]
        have := HF.out h1 hlt
        rw [HN.out] at this
        exact this.symm
    · go_wp2
      go_ret
      refine ⟨ret_bool ?_, hd⟩
      have := HP.out
      rw [show k = n by omega, HN.out] at this
      simp [validB, this]
end Go.Proofs.YtkkliemgidhgmaaGreatDoor

/- Contract of the reference's Separated, for at most 90 rows of at most 6 signs. -/
namespace Go.Proofs.YtkkliemgidhgmaaGreatDoor
open Go.RowKit

def clash (rows : List (List Int × Bool)) (i k : Nat) : Bool := (tr rows i != tr rows k) && decide (sg rows i = sg rows k)
def sepTo (rows : List (List Int × Bool)) (i : Nat) : Bool := allTo (fun k => !clash rows i k) i
def sepB (rows : List (List Int × Bool)) : Bool := allTo (sepTo rows) rows.length

set_option maxHeartbeats 1000000 in
theorem rSep_any (A : Option Addr) (n c B : Nat) (rows : List (List Int × Bool)) (w : World) (hr : RowsAt w B A rows) (hn : n = rows.length) (hm : n ≤ 90) (hq : ∀ k, k < rows.length → (sg rows k).length ≤ 6) :
    Calls Tryz.prog 22 #[.slice A n c] w fun e w' => e = .returned (.bool (sepB rows)) ∧ Drawn w w' := by
  have HN := Lib.hid hn; clear hn
  have HQ := Lib.hid hq; clear hq
  go_enter Tryz.func22, Tryz.ntmps22
  go_wp2
  go_loopw [3, 4, 7] (fun _ _ i wr => ∃ (k : Nat), k ≤ n ∧ i = .int .i64 k ∧ allTo (sepTo rows) k = true ∧ Drawn w wr) (fun _ _ i _ => n - (intOf i).toNat)
  case atStart => exact ⟨0, Nat.zero_le _, rfl, rfl, .refl _⟩
  case round =>
    obtain ⟨i, hi, rfl, hp, hd⟩ := hrel
    have HP := Lib.hid hp; clear hp
    obtain ⟨wo, rfl⟩ : ∃ wo : World, wo = wr := ⟨_, rfl⟩
    by_cases hlt : i < n
    · go_wp2
      go_loopw [4] (fun j wr => ∃ (k : Nat), k ≤ i ∧ j = .int .i64 k ∧ allTo (fun k => !clash rows i k) k = true ∧ Drawn w wr) (fun j _ => i - (intOf j).toNat)
      case atStart => exact ⟨0, Nat.zero_le _, rfl, rfl, hd⟩
      case round =>
        clear hd
        obtain ⟨k, hk, rfl, hp2, hd⟩ := hrel
        have HP2 := Lib.hid hp2; clear hp2
        by_cases hlt2 : k < i
        · obtain ⟨b1, o1, A1, c1', rfl, q1, c1, c2, hs1⟩ := (hr.drawn hd).at_ (k := i) (by have := HN.out; omega)
          obtain ⟨b2, o2, A2, c2', e2, q2, c3, c4, hs2⟩ := (hr.drawn hd).at_ (k := k) (by have := HN.out; omega)
          obtain ⟨rfl, rfl⟩ : b1 = b2 ∧ o1 = o2 := by simpa using e2
          clear e2
          have h1 := HQ.out i (by have := HN.out; omega)
          have h2 := HQ.out k (by have := HN.out; omega)
          have HS2 := Lib.hid (allTo_succ (fun k => !clash rows i k) k)
          have HF2 := Lib.hid (@allTo_false (fun k => !clash rows i k) k i)
          have HF := Lib.hid (@allTo_false (sepTo rows) i n)
          have HG := Lib.hid (show clash rows i k = ((tr rows i != tr rows k) && decide (sg rows i = sg rows k)) from rfl)
          have i1 : (i : Int) < n := by omega
          have i2 : (k : Int) < n := by omega
          generalize sg rows i = si at *
          generalize sg rows k = sk at *
          generalize tr rows i = ti at *
          generalize tr rows k = tk at *
          by_cases hg : (ti == tk) = false
          · have HGD := Lib.hid hg
            by_cases hsm : si = sk
            · have hdec : decide (si = sk) = true := by simpa using hsm
              have HSM := Lib.hid hsm; clear hsm
              go_wp2
              go_quiet ((go_at_call 42; exact Drawn.quiet (same_any _ _ _ _ _ _ B si sk _ (hs1.drawn (.drewN _ _)) (hs2.drawn (.drewN _ _)) (by omega) (by omega))))
              go_wp2
              go_ret
              refine ⟨ret_bool ?_, hd.trans (.drewN _ _)⟩
              have h1 : clash rows i k = true := by rw [HG.out]; simp only [hdec, Bool.and_true, bne, HGD.out]; rfl
              have h2 : sepTo rows i = false := HF2.out (by rw [h1]; rfl) hlt2
              have := HF.out h2 hlt
              rw [HN.out] at this
              exact this.symm
            · have hdec : decide (si = sk) = false := by simpa using hsm
              have HSM := Lib.hid hsm; clear hsm
              go_wp2
              go_quiet ((go_at_call 42; exact Drawn.quiet (same_any _ _ _ _ _ _ B si sk _ (hs1.drawn (.drewN _ _)) (hs2.drawn (.drewN _ _)) (by omega) (by omega))))
              go_wp2
              go_roundw
              case rel => exact ⟨k + 1, by omega, by go_num, by rw [HS2.out, HP2.out, HG.out, hdec]; simp, hd.trans (.drewN _ _)⟩
              case measure => simp [intOf]; omega
          · have hg' : (ti == tk) = true := by simpa using hg
            have HGD := Lib.hid hg'
            clear hg
            go_wp2
            go_quiet (fail)
            go_wp2
            go_roundw
            case rel => exact ⟨k + 1, by omega, by go_num, by rw [HS2.out, HP2.out, HG.out, bne, HGD.out]; rfl, hd.trans (.drewN _ _)⟩
            case measure => simp [intOf]; omega
        · have HS := Lib.hid (allTo_succ (sepTo rows) i)
          go_wp2
          go_roundw
          case rel => exact ⟨i + 1, by omega, by go_num, by rw [HS.out, HP.out]; have := HP2.out; rw [show k = i by omega] at this; exact this, hd⟩
          case measure => simp [intOf]; omega
    · go_wp2
      go_ret
      refine ⟨ret_bool ?_, hd⟩
      have := HP.out
      rw [show i = n by omega, HN.out] at this
      exact this.symm
end Go.Proofs.YtkkliemgidhgmaaGreatDoor

/- Contract of the reference's Error, for at most 90 rows of at most 6 signs. -/
namespace Go.Proofs.YtkkliemgidhgmaaGreatDoor
open Go.RowKit

def errOf (x : Int) (rows : List (List Int × Bool)) : Int := if x < 0 then 1 else if validB x rows = false then 1 else if sepB rows = false then 5 else 0
theorem ret_int {k : IntKind} {a b : Int} (h : a = b) : Ending.returned (.int k a) = .returned (.int k b) := by rw [h]

set_option maxHeartbeats 1000000 in
theorem Error_any (x : Int) (A : Option Addr) (n c B : Nat) (rows : List (List Int × Bool)) (w : World) (hr : RowsAt w B A rows) (hn : n = rows.length) (hm : n ≤ 90) (hq : ∀ k, k < rows.length → (sg rows k).length ≤ 6) :
    Calls Tryz.prog 9 #[.int .i64 x, .slice A n c] w fun e w' => e = .returned (.int .i64 (errOf x rows)) ∧ Drawn w w' := by
  have HN := Lib.hid hn; clear hn
  have HQ := Lib.hid hq; clear hq
  by_cases hx0 : x < 0
  · go_enter Tryz.func9, Tryz.ntmps9
    go_wp2
    go_ret
    exact ⟨ret_int (by simp [errOf, hx0]), .refl _⟩
  go_enter Tryz.func9, Tryz.ntmps9
  go_wp2
  go_loop [5, 6, 11] (fun _ _ i => ∃ (k : Nat), k ≤ n ∧ i = .int .i64 k ∧ allTo (fun k => rowOk x (sg rows k)) k = true) (fun _ _ i => n - (intOf i).toNat)
  case atStart => exact ⟨0, Nat.zero_le _, rfl, rfl⟩
  case round =>
    obtain ⟨k, hk, rfl, hp⟩ := hrel
    have HP := Lib.hid hp; clear hp
    by_cases hlt : k < n
    · obtain ⟨b1, o1, Ak, ck, rfl, q1, c1, c2, hs⟩ := hr.at_ (k := k) (by have := HN.out; omega)
      have HS := Lib.hid (allTo_succ (fun k => rowOk x (sg rows k)) k)
      have HF := Lib.hid (fun h : rowOk x (sg rows k) = false => show errOf x rows = 1 by
        have := @allTo_false (fun k => rowOk x (sg rows k)) k n h hlt
        rw [HN.out] at this
        simp [errOf, validB, this])
      have h6 := HQ.out k (by have := HN.out; omega)
      have i1 : (k : Int) < n := by omega
      generalize sg rows k = l at *
      clear c2
      by_cases hx : (l.length : Int) = x
      · have hx' : ((l.length : Int) != x) = false := by simpa using hx
        have HX := Lib.hid hx; clear hx
        go_wp2
        go_loop [6, 28] (fun _ i => ∃ (j : Nat), j ≤ l.length ∧ i = .int .i64 j ∧ allTo (sgnB l) j = true) (fun _ i => l.length - (intOf i).toNat)
        case atStart => exact ⟨0, Nat.zero_le _, rfl, rfl⟩
        case round =>
          obtain ⟨j, hj, rfl, hp2⟩ := hrel
          have HP2 := Lib.hid hp2; clear hp2
          by_cases hlt2 : j < l.length
          · obtain ⟨b2, o2, rfl, q2, c3⟩ := hs.int_at (k := j) hlt2
            have HS2 := Lib.hid (allTo_succ (sgnB l) j)
            have HF2 := Lib.hid (@allTo_false (sgnB l) j l.length)
            have HG := Lib.hid (show sgnB l j = (decide (-1 ≤ l.getD j 0) && decide (l.getD j 0 ≤ 1)) from rfl)
            have i2 : (j : Int) < l.length := by omega
            generalize l.getD j 0 = y at *
            by_cases hy : -1 ≤ y
            · by_cases hy2 : y ≤ 1
              · go_wp2
                go_round
                case rel => exact ⟨j + 1, by omega, by go_num, by rw [HS2.out, HP2.out, HG.out]; simp [hy, hy2]⟩
                case measure => simp [intOf]; omega
              · go_wp2
                go_ret
                refine ⟨ret_int (HF.out ?_).symm, .refl _⟩
                unfold rowOk; rw [HF2.out (by rw [HG.out]; simp only [Bool.and_eq_false_iff, decide_eq_false_iff_not]; omega) hlt2]; simp
            · go_wp2
              go_ret
              refine ⟨ret_int (HF.out ?_).symm, .refl _⟩
              unfold rowOk; rw [HF2.out (by rw [HG.out]; simp only [Bool.and_eq_false_iff, decide_eq_false_iff_not]; omega) hlt2]; simp
          · go_wp2
            go_round
            case rel => exact ⟨k + 1, by omega, by go_num, by rw [HS.out, HP.out]; have := HP2.out; rw [show j = l.length by omega] at this; simp [rowOk, this, HX.out]⟩
            case measure => simp [intOf]; omega
      · have hx' : ((l.length : Int) != x) = true := by simpa using hx
        have HX := Lib.hid hx; clear hx
        go_wp2
        go_ret
        exact ⟨ret_int (HF.out (by unfold rowOk; simp [HX.out])).symm, .refl _⟩
    · have HV := Lib.hid (show validB x rows = true by have := HP.out; rw [show k = n by omega, HN.out] at this; exact this)
      have HN2 := Lib.hid (show n = rows.length from HN.out)
      cases hsep : sepB rows
      all_goals
        have HE := Lib.hid hsep
        go_wp2_with (go_at_call 22; refine (rSep_any _ _ _ B rows _ hr HN2.out hm (HQ.out)).mono ?_; rintro e w1 ⟨rfl, hd1⟩)
        go_ret
        refine ⟨ret_int ?_, hd1⟩
        simp [errOf, HV.out, HE.out]
        omega
end Go.Proofs.YtkkliemgidhgmaaGreatDoor

/- Contracts of the reference's permitsFalse and Covers, for at most 1000 rows of at most 6 valid signs and at most 1000 terms. -/
namespace Go.Proofs.YtkkliemgidhgmaaGreatDoor
open Go.RowKit

def anyTo (p : Nat → Bool) (k : Nat) : Bool := (List.range k).any p
theorem anyTo_succ (p : Nat → Bool) (k : Nat) : anyTo p (k + 1) = (anyTo p k || p k) := by simp [anyTo, List.range_succ]
theorem anyTo_true {p : Nat → Bool} {k m : Nat} (h : p k = true) (hk : k < m) : anyTo p m = true := by
  simp only [anyTo, List.any_eq_true]; exact ⟨k, List.mem_range.2 hk, h⟩
theorem anyTo_iff {p : Nat → Bool} {m : Nat} : anyTo p m = true ↔ ∃ k, k < m ∧ p k = true := by simp [anyTo]

def permT (t s : List Int) : Bool := decide (t.length = s.length) && permTo t s t.length
def falseAt (t : List Int) (rows : List (List Int × Bool)) (k : Nat) : Bool := !tr rows k && permT t (sg rows k)
def falseB (t : List Int) (rows : List (List Int × Bool)) : Bool := anyTo (falseAt t rows) rows.length

theorem PermitsT (A A' : Option Addr) (n m c c' B : Nat) (ts ss : List Int) (w : World) (hB : B ≤ w.heap.size) (ht : Reads w B 1 A n (ts.map (Value.int .i64))) (hs : Reads w B 1 A' m (ss.map (Value.int .i64)))
    (hm : n ≤ 1000) (hm' : m ≤ 1000) (hr : ∀ x ∈ ss, -1 ≤ x ∧ x ≤ 1) :
    Calls Tryz.prog 25 #[.slice A n c, .slice A' m c'] w fun e w' => e = .returned (.bool (permT ts ss)) ∧ Below w.heap.size w w' := by
  have h1 := ht.len
  have h2 := hs.len
  subst h1 h2
  exact Permits_any A A' _ _ c c' B ts ss w hB ht hs hm hm' hr

set_option maxHeartbeats 1000000 in
theorem pFalse_any (A0 A : Option Addr) (m n c0 c B : Nat) (t : List Int) (rows : List (List Int × Bool)) (w : World) (hB : B ≤ w.heap.size) (ht : Reads w B 1 A0 m (t.map (Value.int .i64))) (hr : RowsAt w B A rows) (hn : n = rows.length)
    (hm : n ≤ 1000) (hm0 : m ≤ 1000) (hq : ∀ k, k < rows.length → (sg rows k).length ≤ 6) (hv : ∀ k, k < rows.length → ∀ x ∈ sg rows k, -1 ≤ x ∧ x ≤ 1) :
    Calls Tryz.prog 26 #[.slice A0 m c0, .slice A n c] w fun e w' => e = .returned (.bool (falseB t rows)) ∧ Below w.heap.size w w' := by
  have HN := Lib.hid hn; clear hn
  have HQ := Lib.hid hq; clear hq
  have HV := Lib.hid hv; clear hv
  go_enter Tryz.func26, Tryz.ntmps26
  go_wp2
  go_loopw [5, 8] (fun _ i wr => ∃ (k : Nat), k ≤ n ∧ i = .int .i64 k ∧ anyTo (falseAt t rows) k = false ∧ Below w.heap.size w wr) (fun _ i _ => n - (intOf i).toNat)
  case atStart => exact ⟨0, Nat.zero_le _, rfl, rfl, .refl _ _⟩
  case round =>
    obtain ⟨k, hk, rfl, hp, hd⟩ := hrel
    have HP := Lib.hid hp; clear hp
    have hz := hd.size
    by_cases hlt : k < n
    · obtain ⟨b1, o1, Ak, ck, rfl, q1, c1, c2, hs⟩ := (hr.below (hd.mono hB)).at_ (k := k) (by have := HN.out; omega)
      have ht1 := ht.below (hd.mono hB)
      have HS := Lib.hid (anyTo_succ (falseAt t rows) k)
      have HF := Lib.hid (fun h : falseAt t rows k = true => show falseB t rows = true from anyTo_true h (by have := HN.out; omega))
      have HG := Lib.hid (show falseAt t rows k = (!tr rows k && permT t (sg rows k)) from rfl)
      have h6 := HQ.out k (by have := HN.out; omega)
      have HVk := Lib.hid (HV.out k (by have := HN.out; omega))
      have i1 : (k : Int) < n := by omega
      have z1 : b1 < wr.heap.size := by omega
      generalize sg rows k = l at *
      generalize tr rows k = tk at *
      cases tk
      · cases hpt : permT t l
        · have HPT := Lib.hid hpt
          go_wp2_with (go_at_call 25; refine (PermitsT _ _ _ _ _ _ B t l _ (by omega) ht1 hs hm0 (by omega) HVk.out).mono ?_; rintro e w1 ⟨rfl, hb1⟩)
          go_roundw
          case rel => exact ⟨k + 1, by omega, by go_num, by rw [HS.out, HP.out, HG.out, HPT.out]; rfl, hd.trans (hb1.mono hz)⟩
          case measure => simp [intOf]; omega
        · have HPT := Lib.hid hpt
          go_wp2_with (go_at_call 25; refine (PermitsT _ _ _ _ _ _ B t l _ (by omega) ht1 hs hm0 (by omega) HVk.out).mono ?_; rintro e w1 ⟨rfl, hb1⟩)
          go_ret
          exact ⟨ret_bool (HF.out (by rw [HG.out, HPT.out]; rfl)).symm, hd.trans (hb1.mono hz)⟩
      · go_wp2_with fail
        go_roundw
        case rel => exact ⟨k + 1, by omega, by go_num, by rw [HS.out, HP.out, HG.out]; rfl, hd⟩
        case measure => simp [intOf]; omega
    · go_wp2
      go_ret
      refine ⟨ret_bool ?_, hd⟩
      have := HP.out
      rw [show k = n by omega, HN.out] at this
      exact this.symm

def covAt (ts : List (List Int)) (rows : List (List Int × Bool)) (i k : Nat) : Bool := permT (ts.getD k []) (sg rows i)
def covRow (ts : List (List Int)) (rows : List (List Int × Bool)) (i : Nat) : Bool := anyTo (covAt ts rows i) ts.length == tr rows i
def covB (ts : List (List Int)) (rows : List (List Int × Bool)) : Bool := allTo (covRow ts rows) rows.length

set_option maxHeartbeats 1000000 in
theorem Covers_any (A0 A : Option Addr) (m n c0 c B : Nat) (ts : List (List Int)) (rows : List (List Int × Bool)) (w : World) (hB : B ≤ w.heap.size) (ht : ListsAt w B A0 ts) (hr : RowsAt w B A rows) (hm : m = ts.length) (hn : n = rows.length)
    (hm0 : m ≤ 1000) (hn0 : n ≤ 1000) (hqt : ∀ k, k < ts.length → (ts.getD k []).length ≤ 1000) (hq : ∀ k, k < rows.length → (sg rows k).length ≤ 6) (hv : ∀ k, k < rows.length → ∀ x ∈ sg rows k, -1 ≤ x ∧ x ≤ 1) :
    Calls Tryz.prog 13 #[.slice A0 m c0, .slice A n c] w fun e w' => e = .returned (.bool (covB ts rows)) ∧ Below w.heap.size w w' := by
  have HN := Lib.hid hn; clear hn
  have HM := Lib.hid hm; clear hm
  have HQ := Lib.hid hq; clear hq
  have HQT := Lib.hid hqt; clear hqt
  have HV := Lib.hid hv; clear hv
  go_enter Tryz.func13, Tryz.ntmps13
  go_wp2
  go_loopw [5, 6, 7, 10] (fun _ _ _ i wr => ∃ (k : Nat), k ≤ n ∧ i = .int .i64 k ∧ allTo (covRow ts rows) k = true ∧ Below w.heap.size w wr) (fun _ _ _ i _ => n - (intOf i).toNat)
  case atStart => exact ⟨0, Nat.zero_le _, rfl, rfl, .refl _ _⟩
  case round =>
    obtain ⟨i, hi, rfl, hp, hd⟩ := hrel
    have HP := Lib.hid hp; clear hp
    obtain ⟨wo, rfl⟩ : ∃ wo : World, wo = wr := ⟨_, rfl⟩
    by_cases hlt : i < n
    · go_wp2
      go_loopw [6, 7, 15] (fun f _ j wr => ∃ (k : Nat), k ≤ m ∧ j = .int .i64 k ∧ f = .bool (anyTo (covAt ts rows i) k) ∧ Below w.heap.size w wr) (fun _ _ j _ => m - (intOf j).toNat)
      case atStart => exact ⟨0, Nat.zero_le _, rfl, rfl, hd⟩
      case round =>
        clear hd
        obtain ⟨k, hk, rfl, rfl, hd⟩ := hrel
        have hz := hd.size
        obtain ⟨b1, o1, A1, c1', rfl, q1, c1, c2, hs1⟩ := (hr.below (hd.mono hB)).at_ (k := i) (by have := HN.out; omega)
        have i1 : (i : Int) < n := by omega
        by_cases hlt2 : k < m
        · obtain ⟨b2, o2, A2, c2', rfl, q2, c3, hs2⟩ := (ht.below (hd.mono hB)).at_ (k := k) (by have := HM.out; omega)
          have h1 := HQ.out i (by have := HN.out; omega)
          have h2 := HQT.out k (by have := HM.out; omega)
          have HVk := Lib.hid (HV.out i (by have := HN.out; omega))
          have HS2 := Lib.hid (anyTo_succ (covAt ts rows i) k)
          have HG := Lib.hid (show covAt ts rows i k = permT (ts.getD k []) (sg rows i) from rfl)
          have i2 : (k : Int) < m := by omega
          have z1 : b1 < wr.drew.heap.size := by simp; omega
          have z2 : b2 < wr.drew.heap.size := by simp; omega
          have z0 : B ≤ wr.drew.heap.size := by simp; omega
          have h1' : (sg rows i).length ≤ 1000 := by omega
          generalize sg rows i = si at *
          generalize ts.getD k [] = tk at *
          generalize tr rows i = ti at *
          generalize hf : anyTo (covAt ts rows i) k = fk at *
          clear hf
          cases fk
          · go_wp2
            go_region_held3 (fun w' => w'.cell? ⟨b1, o1 + i * 2, none⟩ = some (.slice A1 si.length c1') ∧ w'.cell? ⟨b2, o2 + k, none⟩ = some (.slice A2 tk.length c2')) (first | exact ⟨c1, c3⟩ | exact ⟨(hb1.cell z1).trans c1, (hb1.cell z2).trans c3⟩)
              (first | (go_at_call 25; refine (PermitsT _ _ _ _ _ _ B tk si _ z0 hs2 hs1 h2 h1' HVk.out).mono ?_; rintro e w1 ⟨rfl, hb1⟩))
            go_wp2
            go_roundw
            case rel => exact ⟨k + 1, by omega, by go_num, by rw [HS2.out, HG.out]; rfl, hd.drew.trans (hb1.mono (by simp; omega))⟩
            case measure => simp [intOf]; omega
          · go_wp2
            go_quiet (fail)
            go_wp2
            go_roundw
            case rel => exact ⟨k + 1, by omega, by go_num, by rw [HS2.out]; rfl, hd.trans ((Drawn.drewN _ _).below _)⟩
            case measure => simp [intOf]; omega
        · have HS := Lib.hid (allTo_succ (covRow ts rows) i)
          have HG := Lib.hid (show covRow ts rows i = (anyTo (covAt ts rows i) ts.length == tr rows i) from rfl)
          have HF := Lib.hid (@allTo_false (covRow ts rows) i n)
          have HKM := Lib.hid (show k = ts.length by have := HM.out; omega)
          generalize tr rows i = ti at *
          generalize hf : anyTo (covAt ts rows i) k = fk at *
          have HFK := Lib.hid hf; clear hf
          by_cases hg : (fk == ti) = true
          · go_wp2
            go_roundw
            case rel => exact ⟨i + 1, by omega, by go_num, by rw [HS.out, HP.out, HG.out, ← HKM.out, HFK.out, hg]; rfl, hd⟩
            case measure => simp [intOf]; omega
          · have hg' : (fk == ti) = false := by simpa using hg
            clear hg
            go_wp2
            go_ret
            refine ⟨ret_bool ?_, hd⟩
            have := HF.out (by rw [HG.out, ← HKM.out, HFK.out, hg']) hlt
            rw [HN.out] at this
            exact this.symm
    · go_wp2
      go_ret
      refine ⟨ret_bool ?_, hd⟩
      have := HP.out
      rw [show i = n by omega, HN.out] at this
      exact this.symm
end Go.Proofs.YtkkliemgidhgmaaGreatDoor
