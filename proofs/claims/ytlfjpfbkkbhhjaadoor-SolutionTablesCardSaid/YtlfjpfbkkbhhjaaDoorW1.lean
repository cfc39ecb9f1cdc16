/- Contracts of solution.bit and solution.permits, for signs from -1 to 1 and lists of at most 1000 places. -/
import Derived.Test.YtlfjpfbkkbhhjaaDoorRows
import Derived.Test.YtlfjpfbkkbhhjaaDoorMem
import Derived.Deep.QuietTactic
import Derived.BigQuiet
import Derived.Outline
namespace Go.Proofs.YtlfjpfbkkbhhjaaDoor
open Go.RowKit

def bitOf (s : Int) : Int := if s = -1 then 1 else if s = 0 then 2 else 4
theorem bit_eq (s : Int) (h0 : -1 ≤ s) (h1 : s ≤ 1) : wrap64 (2 ^ (s + 1).toNat) = bitOf s := by
  obtain rfl | rfl | rfl : s = -1 ∨ s = 0 ∨ s = 1 := by omega
  all_goals (simp [bitOf]; unfold wrap64; rfl)
theorem bit_any (s : Int) (w : World) (h0 : -1 ≤ s) (h1 : s ≤ 1) :
    Calls Tryd.prog 27 #[.int .i64 s] w fun e w' => e = .returned (.int .i64 (bitOf s)) ∧ Drawn w w' := by
  go_enter Tryd.func27, Tryd.ntmps27
  go_wp2
  go_ret
  refine ⟨?_, .refl _⟩
  show Ending.returned (.int .i64 (wrap64 (2 ^ (s + 1).toNat))) = _
  rw [bit_eq s h0 h1]

/-- the test of one place -/
def meet (t s : Int) : Bool := !(bits .and .i64 t (bitOf s) == 0)
def permTo (ts ss : List Int) (k : Nat) : Bool := (List.range k).all fun i => meet (ts.getD i 0) (ss.getD i 0)
theorem permTo_succ (ts ss : List Int) (k : Nat) : permTo ts ss (k + 1) = (permTo ts ss k && meet (ts.getD k 0) (ss.getD k 0)) := by
  simp [permTo, List.range_succ]
theorem permTo_false {ts ss : List Int} {k m : Nat} (h : meet (ts.getD k 0) (ss.getD k 0) = false) (hk : k < m) : permTo ts ss m = false := by
  rw [← Bool.not_eq_true]
  intro hh
  have := List.all_eq_true.1 hh k (List.mem_range.2 hk)
  rw [h] at this
  cases this

set_option maxHeartbeats 400000 in
theorem permits_any (A A' : Option Addr) (n m c c' B : Nat) (ts ss : List Int) (w : World) (ht : Reads w B 1 A n (ts.map (Value.int .i64))) (hs : Reads w B 1 A' m (ss.map (Value.int .i64)))
    (hle : m ≤ n) (hm : n ≤ 1000) (hr : ∀ x ∈ ss, -1 ≤ x ∧ x ≤ 1) :
    Calls Tryd.prog 21 #[.slice A n c, .slice A' m c'] w fun e w' => e = .returned (.bool (permTo ts ss m)) ∧ Drawn w w' := by
  go_enter Tryd.func21, Tryd.ntmps21
  go_wp2
  go_loopw [5, 6, 9] (fun _ _ i wr => ∃ (k : Nat), k ≤ m ∧ i = .int .i64 k ∧ permTo ts ss k = true ∧ Drawn w wr) (fun _ _ i _ => m - (intOf i).toNat)
  case atStart => exact ⟨0, Nat.zero_le _, rfl, rfl, .refl _⟩
  case round =>
    obtain ⟨k, hk, rfl, hp, hd⟩ := hrel
    have HP := Lib.hid hp; clear hp
    by_cases hlt : k < m
    · obtain ⟨b1, o1, rfl, q1, c1⟩ := (ht.drawn hd).int_at (k := k) (by omega)
      obtain ⟨b2, o2, rfl, q2, c2⟩ := (hs.drawn hd).int_at (k := k) (by omega)
      obtain ⟨x1, x2⟩ := hr (ss.getD k 0) (getD_mem (by have := hs.1; simp at this; omega))
      have HR := Lib.hid hr; clear hr
      have HS := Lib.hid (permTo_succ ts ss k)
      have HF := Lib.hid (@permTo_false ts ss k m)
      generalize ss.getD k 0 = sk at *
      generalize ts.getD k 0 = tk at *
      have i1 : (k : Int) < n := by omega
      by_cases hb : meet tk sk = true
      · have hb' : (bits .and .i64 tk (bitOf sk) == 0) = false := by simpa [meet] using hb
        have HB := Lib.hid hb; clear hb
        go_wp2
        go_quiet ((go_at_call 27; exact Drawn.quiet (bit_any _ _ x1 x2)))
        go_wp2
        go_roundw
        case rel => exact ⟨k + 1, by omega, by go_num, by rw [HS.out, HP.out, HB.out]; rfl, hd.trans (.drewN _ _)⟩
        case measure => simp [intOf]; omega
      · have hb' : (bits .and .i64 tk (bitOf sk) == 0) = true := by simpa [meet] using hb
        have HB := Lib.hid hb; clear hb
        go_wp2
        go_quiet ((go_at_call 27; exact Drawn.quiet (bit_any _ _ x1 x2)))
        go_wp2
        go_ret
        exact ⟨ret_bool (HF.out (by simpa using HB.out) hlt).symm, hd.trans (.drewN _ _)⟩
    · go_wp2
      go_ret
      exact ⟨ret_bool (by rw [show m = k by omega]; exact HP.out.symm), hd⟩
end Go.Proofs.YtlfjpfbkkbhhjaaDoor
