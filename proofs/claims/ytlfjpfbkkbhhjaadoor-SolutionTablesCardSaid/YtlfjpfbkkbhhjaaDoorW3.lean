/- Contracts of the reference's Few (every list of rows) and of solution.valid (at most 90 rows of at most 6 signs). -/
import Derived.Test.YtlfjpfbkkbhhjaaDoorW2
namespace Go.Proofs.YtlfjpfbkkbhhjaaDoor
open Go.RowKit

def allTo (p : Nat → Bool) (k : Nat) : Bool := (List.range k).all p
theorem allTo_succ (p : Nat → Bool) (k : Nat) : allTo p (k + 1) = (allTo p k && p k) := by simp [allTo, List.range_succ]
theorem allTo_false {p : Nat → Bool} {k m : Nat} (h : p k = false) (hk : k < m) : allTo p m = false := by
  rw [← Bool.not_eq_true]
  intro hh
  have := List.all_eq_true.1 hh k (List.mem_range.2 hk)
  rw [h] at this
  cases this
theorem allTo_iff {p : Nat → Bool} {m : Nat} : allTo p m = true ↔ ∀ k, k < m → p k = true := by simp [allTo]

def fewB (rows : List (List Int × Bool)) : Bool := decide (rows.length ≤ 90) && allTo (fun k => decide ((sg rows k).length ≤ 6)) rows.length

set_option maxHeartbeats 400000 in
theorem Few_any (A : Option Addr) (n c B : Nat) (rows : List (List Int × Bool)) (w : World) (hr : RowsAt w B A rows) (hn : n = rows.length) (hm : n ≤ 9223372036854775807) :
    Calls Tryd.prog 9 #[.slice A n c] w fun e w' => e = .returned (.bool (fewB rows)) ∧ w = w' := by
  have HN := Lib.hid hn; clear hn
  by_cases h90 : n ≤ 90
  · go_enter Tryd.func9, Tryd.ntmps9
    go_wp2
    go_loop [3, 9] (fun _ i => ∃ (k : Nat), k ≤ n ∧ i = .int .i64 k ∧ allTo (fun k => decide ((sg rows k).length ≤ 6)) k = true) (fun _ i => n - (intOf i).toNat)
    case atStart => exact ⟨0, Nat.zero_le _, rfl, rfl⟩
    case round =>
      obtain ⟨k, hk, rfl, hp⟩ := hrel
      have HP := Lib.hid hp; clear hp
      by_cases hlt : k < n
      · obtain ⟨b1, o1, Ak, ck, rfl, q1, c1, _, _⟩ := hr.at_ (k := k) (by have := HN.out; omega)
        have HS := Lib.hid (allTo_succ (fun k => decide ((sg rows k).length ≤ 6)) k)
        have HF := Lib.hid (@allTo_false (fun k => decide ((sg rows k).length ≤ 6)) k n)
        generalize (sg rows k).length = lk at *
        by_cases hb : lk ≤ 6
        · go_wp2
          go_round
          case rel => exact ⟨k + 1, by omega, by go_num, by rw [HS.out, HP.out]; simpa using hb⟩
          case measure => simp [intOf]; omega
        · go_wp2
          go_ret
          refine ⟨ret_bool ?_, rfl⟩
          have := HF.out (by simpa using hb) hlt
          rw [HN.out] at this
          simp [fewB, this]
      · go_wp2
        go_ret
        refine ⟨ret_bool ?_, rfl⟩
        have := HP.out
        rw [show k = n by omega, HN.out] at this
        have h9 : rows.length ≤ 90 := by have := HN.out; omega
        simp [fewB, this, h9]
  · go_enter Tryd.func9, Tryd.ntmps9
    go_wp2
    go_ret
    refine ⟨ret_bool ?_, rfl⟩
    have h9 : ¬ rows.length ≤ 90 := by have := HN.out; omega
    simp [fewB, h9]

def sgnB (l : List Int) (k : Nat) : Bool := decide (-1 ≤ l.getD k 0) && decide (l.getD k 0 ≤ 1)
def rowOk (n : Int) (l : List Int) : Bool := decide ((l.length : Int) = n) && allTo (sgnB l) l.length
def validB (n : Int) (rows : List (List Int × Bool)) : Bool := allTo (fun k => rowOk n (sg rows k)) rows.length

set_option maxHeartbeats 400000 in
theorem valid_any (x : Int) (A : Option Addr) (n c B : Nat) (rows : List (List Int × Bool)) (w : World) (hB : B ≤ w.heap.size) (hr : RowsAt w B A rows) (hn : n = rows.length) (hm : n ≤ 90) (hq : ∀ k, k < rows.length → (sg rows k).length ≤ 6) :
    Calls Tryd.prog 18 #[.int .i64 x, .slice A n c] w fun e w' => e = .returned (.bool (validB x rows)) ∧ Below w.heap.size w w' := by
  have HN := Lib.hid hn; clear hn
  have HQ := Lib.hid hq; clear hq
  go_enter Tryd.func18, Tryd.ntmps18
  go_wp2
  go_loopw [6, 8, 11] (fun _ _ i wr => ∃ (k : Nat), k ≤ n ∧ i = .int .i64 k ∧ allTo (fun k => rowOk x (sg rows k)) k = true ∧ Below w.heap.size w wr) (fun _ _ i _ => n - (intOf i).toNat)
  case atStart => exact ⟨0, Nat.zero_le _, rfl, rfl, .refl _ _⟩
  case round =>
    obtain ⟨k, hk, rfl, hp, hd⟩ := hrel
    have HP := Lib.hid hp; clear hp
    by_cases hlt : k < n
    · obtain ⟨b1, o1, Ak, ck, rfl, q1, c1, c2, hs⟩ := (hr.below (hd.mono hB)).at_ (k := k) (by have := HN.out; omega)
      have HS := Lib.hid (allTo_succ (fun k => rowOk x (sg rows k)) k)
      have HF := Lib.hid (@allTo_false (fun k => rowOk x (sg rows k)) k n)
      have h6 := HQ.out k (by have := HN.out; omega)
      generalize sg rows k = l at *
      generalize tr rows k = tk at *
      have hz := hd.size
      by_cases hx : (l.length : Int) = x
      · have hx' : ((l.length : Int) != x) = false := by simpa using hx
        have HX := Lib.hid hx; clear hx
        go_wp2
        go_loop [8, 23] (fun _ i => ∃ (j : Nat), j ≤ l.length ∧ i = .int .i64 j ∧ allTo (sgnB l) j = true) (fun _ i => l.length - (intOf i).toNat)
        case atStart => exact ⟨0, Nat.zero_le _, rfl, rfl⟩
        case round =>
          obtain ⟨j, hj, rfl, hp2⟩ := hrel
          have HP2 := Lib.hid hp2; clear hp2
          by_cases hlt2 : j < l.length
          · obtain ⟨b2, o2, rfl, q2, c3⟩ := hs.int_at (k := j) hlt2
            have z2 : b2 < wr.heap.size := by omega
            have HS2 := Lib.hid (allTo_succ (sgnB l) j)
            have HF2 := Lib.hid (@allTo_false (sgnB l) j l.length)
            have HG := Lib.hid (show sgnB l j = (decide (-1 ≤ l.getD j 0) && decide (l.getD j 0 ≤ 1)) from rfl)
            generalize l.getD j 0 = y at *
            by_cases hy : -1 ≤ y
            · by_cases hy2 : y ≤ 1
              · go_wp2
                go_round
                case rel => exact ⟨j + 1, by omega, by go_num, by rw [HS2.out, HP2.out, HG.out]; simp [hy, hy2]⟩
                case measure => simp [intOf]; omega
              · go_wp2
                go_ret
                refine ⟨ret_bool ?_, hd.alloc (by omega) _⟩
                have h1 : rowOk x l = false := by unfold rowOk; rw [HF2.out (by rw [HG.out]; simp only [Bool.and_eq_false_iff, decide_eq_false_iff_not]; omega) hlt2]; simp
                have := HF.out h1 hlt
                rw [HN.out] at this
                exact this.symm
            · go_wp2
              go_ret
              refine ⟨ret_bool ?_, hd.alloc (by omega) _⟩
              have h1 : rowOk x l = false := by unfold rowOk; rw [HF2.out (by rw [HG.out]; simp only [Bool.and_eq_false_iff, decide_eq_false_iff_not]; omega) hlt2]; simp
              have := HF.out h1 hlt
              rw [HN.out] at this
              exact this.symm
          · go_wp2
            go_roundw
            case rel => exact ⟨k + 1, by omega, by go_num, by rw [HS.out, HP.out]; have := HP2.out; rw [show j = l.length by omega] at this; simp [rowOk, this, HX.out], hd.alloc (by omega) _⟩
            case measure => simp [intOf]; omega
      · have hx' : ((l.length : Int) != x) = true := by simpa using hx
        have HX := Lib.hid hx; clear hx
        go_wp2
        go_ret
        refine ⟨ret_bool ?_, hd.alloc (by omega) _⟩
        have h1 : rowOk x l = false := by unfold rowOk; simp [HX.out]
        have := HF.out h1 hlt
        rw [HN.out] at this
        exact this.symm
    · go_wp2
      go_ret
      refine ⟨ret_bool ?_, hd⟩
      have := HP.out
      rw [show k = n by omega, HN.out] at this
      simp [validB, this]
end Go.Proofs.YtlfjpfbkkbhhjaaDoor
