/- Contracts of the closure in solution.needed and of slices.IndexFunc and ContainsFunc at that closure. -/
import Derived.Test.YtlfjpfbkkbhhjaaDoorS1
namespace Go.Proofs.YtlfjpfbkkbhhjaaDoor
open Go.RowKit

def cAt (cnt : List Int) (i : Nat) : Int := cnt.getD i 0
def oneAt (cnt : List Int) (i : Nat) : Bool := cAt cnt i == 1
/-- the counters: a cell that holds a slice, and its row -/
structure Counts (w : World) (pc g cap : Nat) (cnt : List Int) : Prop where
  cell : w.cell? ⟨pc, 0, none⟩ = some (.slice (some ⟨g, 0, none⟩) cnt.length cap)
  row : ∀ j, j < cnt.length → w.cell? ⟨g, j, none⟩ = some (.int .i64 (cAt cnt j))

theorem clo_any (i pc g cap : Nat) (cnt : List Int) (w : World) (hc : Counts w pc g cap cnt) (hi : i < cnt.length) :
    Calls Tryd.prog 31 #[.int .i64 (i : Int), .pointer (some ⟨pc, 0, none⟩)] w fun e w' => e = .returned (.bool (oneAt cnt i)) ∧ w = w' := by
  have c1 := hc.cell
  have c2 := hc.row i hi
  have HO := Lib.hid (show oneAt cnt i = (cAt cnt i == 1) from rfl)
  generalize cAt cnt i = x at *
  go_enter Tryd.func31, Tryd.ntmps31
  go_wp2
  go_ret
  exact ⟨ret_bool HO.out.symm, rfl⟩

def hitAt (is : List Nat) (cnt : List Int) (k : Nat) : Bool := oneAt cnt (is.getD k 0)

theorem nats_at {w : World} {B n k : Nat} {A : Option Addr} {l : List Nat} (h : Reads w B 1 A n (natCells l)) (hk : k < n) :
    ∃ b o, A = some ⟨b, o, none⟩ ∧ b < B ∧ w.cell? ⟨b, o + k, none⟩ = some (.int .i64 ((l.getD k 0 : Nat) : Int)) := by
  obtain ⟨b, o, e, hb, hc⟩ := Reads.int_at h hk
  refine ⟨b, o, e, hb, ?_⟩
  rw [hc]
  have hl : k < l.length := by have := h.1; simp [natCells, ofNats] at this; omega
  simp [ofNats, List.getElem?_eq_getElem hl]

set_option maxHeartbeats 1000000 in
theorem idx_any (A : Option Addr) (n c B pc g cap : Nat) (is : List Nat) (cnt : List Int) (w : World) (hr : Reads w B 1 A n (natCells is)) (hc : Counts w pc g cap cnt) (hi : ∀ i ∈ is, i < cnt.length) (hn : n ≤ 1000) :
    Calls Tryd.prog 34 #[.slice A n c, .func (.func 31) #[] #[.pointer (some ⟨pc, 0, none⟩)]] w fun e w' => ∃ x : Int, -1 ≤ x ∧ x ≤ n ∧ e = .returned (.int .i64 x) ∧ decide (0 ≤ x) = anyTo (hitAt is cnt) n ∧ w = w' := by
  have HI := Lib.hid hi; clear hi
  have HL := Lib.hid (show is.length = n by have := hr.1; simpa [natCells, ofNats] using this)
  go_enter Tryd.func34, Tryd.ntmps34
  go_wp2
  go_loopg [5, 8] n (fun gn _ i wr => ∃ (k : Nat), k ≤ n ∧ gn = n - k ∧ i = .int .i64 k ∧ anyTo (hitAt is cnt) k = false ∧ w = wr)
  case atStart => exact ⟨0, Nat.zero_le _, rfl, rfl, rfl, rfl⟩
  case round =>
    obtain ⟨k, hk, hgk, rfl, hp, rfl⟩ := hrel
    have HG := Lib.hid hgk; clear hgk
    have HP := Lib.hid hp; clear hp
    by_cases hlt : k < n
    · obtain ⟨b1, o1, rfl, q1, c1⟩ := nats_at hr hlt
      have HS := Lib.hid (anyTo_succ (hitAt is cnt) k)
      have HH := Lib.hid (show hitAt is cnt k = oneAt cnt (is.getD k 0) from rfl)
      have HT := Lib.hid (@anyTo_true (hitAt is cnt) k n)
      have hik := HI.out (is.getD k 0) (by have := HL.out; simp [List.getElem?_eq_getElem (show k < is.length by omega)])
      have i1 : (k : Int) < n := by omega
      generalize is.getD k 0 = ik at *
      cases hb : oneAt cnt ik
      · have HB := Lib.hid hb
        go_wp2_with (go_at_call 31; refine (clo_any ik pc g cap cnt _ hc hik).mono ?_; rintro e w1 ⟨rfl, rfl⟩)
        go_roundg (n - (k + 1))
        case rel => exact ⟨k + 1, by omega, rfl, by go_num, by rw [HS.out, HP.out, HH.out, HB.out]; rfl, rfl⟩
        case measure => have := HG.out; omega
      · have HB := Lib.hid hb
        go_wp2_with (go_at_call 31; refine (clo_any ik pc g cap cnt _ hc hik).mono ?_; rintro e w1 ⟨rfl, rfl⟩)
        go_ret
        exact ⟨(k : Int), by omega, by omega, rfl, by rw [HT.out (by rw [HH.out, HB.out]) hlt]; simp, rfl⟩
    · go_wp2
      go_ret
      exact ⟨-1, by omega, by omega, rfl, by rw [show n = k by omega, HP.out]; rfl, rfl⟩

theorem cont_any (A : Option Addr) (n c B pc g cap : Nat) (is : List Nat) (cnt : List Int) (w : World) (hr : Reads w B 1 A n (natCells is)) (hc : Counts w pc g cap cnt) (hi : ∀ i ∈ is, i < cnt.length) (hn : n ≤ 1000) :
    Calls Tryd.prog 29 #[.slice A n c, .func (.func 31) #[] #[.pointer (some ⟨pc, 0, none⟩)]] w fun e w' => e = .returned (.bool (anyTo (hitAt is cnt) n)) ∧ w = w' := by
  go_enter Tryd.func29, Tryd.ntmps29
  go_wp2_with (go_at_call 34; refine (idx_any A n c B pc g cap is cnt _ hr hc hi hn).mono ?_; rintro e w1 ⟨x, x1, x2, rfl, hx, rfl⟩; refine Hid.out ?_)
  refine Lib.hid ?_
  have HX := Lib.hid hx; clear hx
  go_wp2
  go_ret
  exact ⟨ret_bool HX.out, rfl⟩
end Go.Proofs.YtlfjpfbkkbhhjaaDoor
