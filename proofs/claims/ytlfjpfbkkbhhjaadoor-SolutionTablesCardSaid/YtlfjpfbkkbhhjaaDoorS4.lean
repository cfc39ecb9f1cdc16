/- Contract of the closure in solution.widen. -/
import Derived.Test.YtlfjpfbkkbhhjaaDoorS3
namespace Go.Proofs.YtlfjpfbkkbhhjaaDoor
open Go.RowKit

theorem Reads.at_c {w : World} {B n k : Nat} {A : Option Addr} {l : List Int} (h : Reads w B 1 A n (l.map (Value.int .i64))) (hk : k < n) :
    ∃ b o, A = some ⟨b, o, none⟩ ∧ b < B ∧ w.cell? ⟨b, o + k, none⟩ = some (.int .i64 (cAt l k)) := h.int_at hk

def freeAt (no : List (List Int)) (bl : List Int) (i : Nat) (s : Int) (k : Nat) : Bool := !((cAt (no.getD k []) i == s) && (cAt bl k == 1))
def freeB (no : List (List Int)) (bl : List Int) (i : Nat) (s : Int) : Bool := allTo (freeAt no bl i s) no.length

set_option maxHeartbeats 1000000 in
theorem free_any (A : Option Addr) (n c cap B pn pb g N i : Nat) (s : Int) (no : List (List Int)) (bl : List Int) (w : World) (hno : ListsAt w B A no) (hn : n = no.length) (cn : w.cell? ⟨pn, 0, none⟩ = some (.slice A n c))
    (cb : w.cell? ⟨pb, 0, none⟩ = some (.slice (some ⟨g, 0, none⟩) n cap)) (hb : ∀ j, j < n → w.cell? ⟨g, j, none⟩ = some (.int .i64 (cAt bl j))) (hN : ∀ k, k < no.length → (no.getD k []).length = N) (hi : i < N) (hN0 : N ≤ 1000) (hn0 : n ≤ 1000) :
    Calls Tryd.prog 28 #[.int .i64 (i : Int), .int .i64 s, .pointer (some ⟨pn, 0, none⟩), .pointer (some ⟨pb, 0, none⟩)] w fun e w' => e = .returned (.bool (freeB no bl i s)) ∧ w = w' := by
  have HN := Lib.hid hn; clear hn
  have HB := Lib.hid hb; clear hb
  have HNN := Lib.hid hN; clear hN
  go_enter Tryd.func28, Tryd.ntmps28
  go_wp2
  go_loop [7, 8, 11] (fun _ _ x => ∃ (k : Nat), k ≤ n ∧ x = .int .i64 k ∧ allTo (freeAt no bl i s) k = true) (fun _ _ x => n - (intOf x).toNat)
  case atStart => exact ⟨0, Nat.zero_le _, rfl, rfl⟩
  case round =>
    obtain ⟨k, hk, rfl, hp⟩ := hrel
    have HP := Lib.hid hp; clear hp
    by_cases hlt : k < n
    · obtain ⟨b1, o1, Ak, ck, rfl, q1, c1, hs⟩ := hno.at_ (k := k) (by have := HN.out; omega)
      have hl := HNN.out k (by have := HN.out; omega)
      have HS := Lib.hid (allTo_succ (freeAt no bl i s) k)
      have HF := Lib.hid (fun h : freeAt no bl i s k = false => show freeB no bl i s = false from allTo_false h (by have := HN.out; omega))
      have HG := Lib.hid (show freeAt no bl i s k = !((cAt (no.getD k []) i == s) && (cAt bl k == 1)) from rfl)
      generalize no.getD k [] = l at *
      have hil : i < l.length := by omega
      have hl1000 : l.length ≤ 1000 := by omega
      clear hl
      obtain ⟨b2, o2, rfl, q2, c2⟩ := hs.at_c hil
      have c3 := HB.out k hlt
      have i1 : (k : Int) < n := by omega
      have i2 : (i : Int) < l.length := by omega
      generalize cAt l i = y at *
      generalize cAt bl k = z at *
      by_cases h1 : (y == s) = true
      · by_cases h2 : (z == 1) = true
        · go_wp2
          go_ret
          exact ⟨ret_bool (HF.out (by rw [HG.out, h1, h2]; rfl)).symm, rfl⟩
        · have h2' : (z == 1) = false := by simpa using h2
          clear h2
          go_wp2
          go_round
          case rel => exact ⟨k + 1, by omega, by go_num, by rw [HS.out, HP.out, HG.out, h1, h2']; rfl⟩
          case measure => simp [intOf]; omega
      · have h1' : (y == s) = false := by simpa using h1
        clear h1
        go_wp2
        go_round
        case rel => exact ⟨k + 1, by omega, by go_num, by rw [HS.out, HP.out, HG.out, h1']; rfl⟩
        case measure => simp [intOf]; omega
    · go_wp2
      go_ret
      refine ⟨ret_bool ?_, rfl⟩
      have := HP.out
      rw [show k = n by omega, HN.out] at this
      exact this.symm
end Go.Proofs.YtlfjpfbkkbhhjaaDoor
