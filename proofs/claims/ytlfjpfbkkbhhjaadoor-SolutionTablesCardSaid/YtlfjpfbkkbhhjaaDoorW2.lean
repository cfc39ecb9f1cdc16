/- Contracts of the reference's bit, sameSigns and Permits, for signs from -1 to 1 and lists of at most 1000 places. -/
import Derived.Test.YtlfjpfbkkbhhjaaDoorW1
import Derived.Deep.RegionHeld3
namespace Go.Proofs.YtlfjpfbkkbhhjaaDoor
open Go.RowKit

/-- ref bit: a new row of three, and one of its cells -/
theorem rbit_any (s : Int) (w : World) (h0 : -1 ≤ s) (h1 : s ≤ 1) :
    Calls Tryd.prog 32 #[.int .i64 s] w fun e w' => e = .returned (.int .i64 (bitOf s)) ∧ Below w.heap.size w w' := by
  obtain rfl | rfl | rfl : s = -1 ∨ s = 0 ∨ s = 1 := by omega
  all_goals
    go_enter Tryd.func32, Tryd.ntmps32
    go_wp2
    go_ret
    exact ⟨by simp [bitOf], (Below.refl _ _).alloc (Nat.le_refl _) _⟩

def allEq (a b : List Int) (k : Nat) : Bool := (List.range k).all fun i => a.getD i 0 == b.getD i 0
theorem allEq_succ (a b : List Int) (k : Nat) : allEq a b (k + 1) = (allEq a b k && (a.getD k 0 == b.getD k 0)) := by
  simp [allEq, List.range_succ]
theorem allEq_false {a b : List Int} {k m : Nat} (h : (a.getD k 0 == b.getD k 0) = false) (hk : k < m) : allEq a b m = false := by
  rw [← Bool.not_eq_true]
  intro hh
  have := List.all_eq_true.1 hh k (List.mem_range.2 hk)
  rw [h] at this
  cases this
theorem allEq_iff {a b : List Int} (hl : a.length = b.length) : allEq a b a.length = true ↔ a = b := by
  constructor
  · intro h
    apply List.ext_getElem hl
    intro i h1 h2
    have := List.all_eq_true.1 h i (List.mem_range.2 h1)
    simpa [List.getElem?_eq_getElem h1, List.getElem?_eq_getElem h2] using this
  · rintro rfl
    simp [allEq]

set_option maxHeartbeats 400000 in
theorem same_any (A A' : Option Addr) (n m c c' B : Nat) (ts ss : List Int) (w : World) (ht : Reads w B 1 A n (ts.map (Value.int .i64))) (hs : Reads w B 1 A' m (ss.map (Value.int .i64)))
    (hm : n ≤ 1000) (hm' : m ≤ 1000) :
    Calls Tryd.prog 26 #[.slice A n c, .slice A' m c'] w fun e w' => e = .returned (.bool (decide (ts = ss))) ∧ Drawn w w' := by
  have hl1 : ts.length = n := by have := ht.1; simpa using this
  have hl2 : ss.length = m := by have := hs.1; simpa using this
  have HL1 := Lib.hid hl1; clear hl1
  have HL2 := Lib.hid hl2; clear hl2
  by_cases hnm : n = m
  · obtain rfl : n = m := hnm
    have hb0 : ((n : Int) != n) = false := by simp
    go_enter Tryd.func26, Tryd.ntmps26
    go_wp2
    go_loopw [5, 13] (fun _ i wr => ∃ (k : Nat), k ≤ n ∧ i = .int .i64 k ∧ allEq ts ss k = true ∧ Drawn w wr) (fun _ i _ => n - (intOf i).toNat)
    case atStart => exact ⟨0, Nat.zero_le _, rfl, rfl, .refl _⟩
    case round =>
      obtain ⟨k, hk, rfl, hp, hd⟩ := hrel
      have HP := Lib.hid hp; clear hp
      by_cases hlt : k < n
      · obtain ⟨b1, o1, rfl, q1, c1⟩ := (ht.drawn hd).int_at (k := k) (by omega)
        obtain ⟨b2, o2, rfl, q2, c2⟩ := (hs.drawn hd).int_at (k := k) (by omega)
        have HS := Lib.hid (allEq_succ ts ss k)
        have HF := Lib.hid (@allEq_false ts ss k n)
        generalize ss.getD k 0 = sk at *
        generalize ts.getD k 0 = tk at *
        have i1 : (k : Int) < n := by omega
        by_cases hb : (tk == sk) = true
        · have hb' : (tk != sk) = false := by simpa using hb
          have HB := Lib.hid hb; clear hb
          go_wp2
          go_quiet (fail)
          go_wp2
          go_roundw
          case rel => exact ⟨k + 1, by omega, by go_num, by rw [HS.out, HP.out, HB.out]; rfl, hd.trans (.drewN _ _)⟩
          case measure => simp [intOf]; omega
        · have hb' : (tk != sk) = true := by simpa using hb
          have HB := Lib.hid hb; clear hb
          go_wp2
          go_quiet (fail)
          go_wp2
          go_ret
          refine ⟨ret_bool ?_, hd.trans (.drewN _ _)⟩
          have := HF.out (by simpa using HB.out) hlt
          rw [← HL1.out] at this
          symm
          rw [decide_eq_false_iff_not, ← allEq_iff (by rw [HL1.out, HL2.out]), this]
          simp
      · go_wp2
        go_ret
        refine ⟨ret_bool ?_, hd⟩
        symm
        rw [decide_eq_true_iff, ← allEq_iff (by rw [HL1.out, HL2.out]), HL1.out, show n = k by omega, HP.out]
  · have hb0 : ((n : Int) != m) = true := by simp; omega
    go_enter Tryd.func26, Tryd.ntmps26
    go_wp2
    go_ret
    refine ⟨ret_bool ?_, .refl _⟩
    symm
    rw [decide_eq_false_iff_not]
    rintro rfl
    exact hnm (HL1.out.symm.trans HL2.out)

set_option maxHeartbeats 400000 in
theorem Permits_any (A A' : Option Addr) (n m c c' B : Nat) (ts ss : List Int) (w : World) (hB : B ≤ w.heap.size) (ht : Reads w B 1 A n (ts.map (Value.int .i64))) (hs : Reads w B 1 A' m (ss.map (Value.int .i64)))
    (hm : n ≤ 1000) (hm' : m ≤ 1000) (hr : ∀ x ∈ ss, -1 ≤ x ∧ x ≤ 1) :
    Calls Tryd.prog 23 #[.slice A n c, .slice A' m c'] w fun e w' => e = .returned (.bool (decide (n = m) && permTo ts ss n)) ∧ Below w.heap.size w w' := by
  by_cases hnm : n = m
  · obtain rfl : n = m := hnm
    have hb0 : ((n : Int) != n) = false := by simp
    go_enter Tryd.func23, Tryd.ntmps23
    go_wp2
    go_loopw [5, 13] (fun _ i wr => ∃ (k : Nat), k ≤ n ∧ i = .int .i64 k ∧ permTo ts ss k = true ∧ Below w.heap.size w wr) (fun _ i _ => n - (intOf i).toNat)
    case atStart => exact ⟨0, Nat.zero_le _, rfl, rfl, .refl _ _⟩
    case round =>
      obtain ⟨k, hk, rfl, hp, hd⟩ := hrel
      have HP := Lib.hid hp; clear hp
      by_cases hlt : k < n
      · obtain ⟨b1, o1, rfl, q1, c1⟩ := (ht.below (hd.mono hB)).int_at (k := k) (by omega)
        obtain ⟨b2, o2, rfl, q2, c2⟩ := (hs.below (hd.mono hB)).int_at (k := k) (by omega)
        obtain ⟨x1, x2⟩ := hr (ss.getD k 0) (getD_mem (by have := hs.1; simp at this; omega))
        have HR := Lib.hid hr; clear hr
        have HS := Lib.hid (permTo_succ ts ss k)
        have HF := Lib.hid (@permTo_false ts ss k n)
        generalize ss.getD k 0 = sk at *
        generalize ts.getD k 0 = tk at *
        have i1 : (k : Int) < n := by omega
        have hz := hd.size
        by_cases hb : meet tk sk = true
        · have hb' : (bits .and .i64 tk (bitOf sk) == 0) = false := by simpa [meet] using hb
          have HB := Lib.hid hb; clear hb
          go_wp2
          go_region_held3 (fun w' => w'.cell? ⟨b1, o1 + k, none⟩ = some (.int .i64 tk) ∧ w'.cell? ⟨b2, o2 + k, none⟩ = some (.int .i64 sk)) (first | exact ⟨c1, c2⟩ | exact ⟨(hb1.cell (by simp; omega)).trans c1, (hb1.cell (by simp; omega)).trans c2⟩)
            (first | (go_at_call 32; refine (rbit_any _ _ x1 x2).mono ?_; rintro e w1 ⟨rfl, hb1⟩))
          go_wp2
          go_roundw
          case rel => exact ⟨k + 1, by omega, by go_num, by rw [HS.out, HP.out, HB.out]; rfl, hd.drew.trans (hb1.mono (by simp; omega))⟩
          case measure => simp [intOf]; omega
        · have hb' : (bits .and .i64 tk (bitOf sk) == 0) = true := by simpa [meet] using hb
          have HB := Lib.hid hb; clear hb
          go_wp2
          go_region_held3 (fun w' => w'.cell? ⟨b1, o1 + k, none⟩ = some (.int .i64 tk) ∧ w'.cell? ⟨b2, o2 + k, none⟩ = some (.int .i64 sk)) (first | exact ⟨c1, c2⟩ | exact ⟨(hb1.cell (by simp; omega)).trans c1, (hb1.cell (by simp; omega)).trans c2⟩)
            (first | (go_at_call 32; refine (rbit_any _ _ x1 x2).mono ?_; rintro e w1 ⟨rfl, hb1⟩))
          go_wp2
          go_ret
          exact ⟨ret_bool (by simp; exact (HF.out (by simpa using HB.out) hlt)), hd.drew.trans (hb1.mono (by simp; omega))⟩
      · go_wp2
        go_ret
        exact ⟨ret_bool (by simp; rw [show n = k by omega]; exact HP.out), hd⟩
  · have hb0 : ((n : Int) != m) = true := by simp; omega
    go_enter Tryd.func23, Tryd.ntmps23
    go_wp2
    go_ret
    exact ⟨ret_bool (by simp [hnm]), .refl _ _⟩
end Go.Proofs.YtlfjpfbkkbhhjaaDoor
