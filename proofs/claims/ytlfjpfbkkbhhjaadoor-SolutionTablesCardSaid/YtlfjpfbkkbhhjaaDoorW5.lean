/- Contract of the reference's Error, for at most 90 rows of at most 6 signs. -/
import Derived.Test.YtlfjpfbkkbhhjaaDoorW4
namespace Go.Proofs.YtlfjpfbkkbhhjaaDoor
open Go.RowKit

def errOf (x : Int) (rows : List (List Int × Bool)) : Int := if x < 0 then 1 else if validB x rows = false then 1 else if sepB rows = false then 5 else 0
theorem ret_int {k : IntKind} {a b : Int} (h : a = b) : Ending.returned (.int k a) = .returned (.int k b) := by rw [h]

set_option maxHeartbeats 1000000 in
theorem Error_any (x : Int) (A : Option Addr) (n c B : Nat) (rows : List (List Int × Bool)) (w : World) (hr : RowsAt w B A rows) (hn : n = rows.length) (hm : n ≤ 90) (hq : ∀ k, k < rows.length → (sg rows k).length ≤ 6) :
    Calls Tryd.prog 11 #[.int .i64 x, .slice A n c] w fun e w' => e = .returned (.int .i64 (errOf x rows)) ∧ Drawn w w' := by
  have HN := Lib.hid hn; clear hn
  have HQ := Lib.hid hq; clear hq
  by_cases hx0 : x < 0
  · go_enter Tryd.func11, Tryd.ntmps11
    go_wp2
    go_ret
    exact ⟨ret_int (by simp [errOf, hx0]), .refl _⟩
  go_enter Tryd.func11, Tryd.ntmps11
  go_wp2
  go_loop [5, 6, 11] (fun _ _ i => ∃ (k : Nat), k ≤ n ∧ i = .int .i64 k ∧ allTo (fun k => rowOk x (sg rows k)) k = true) (fun _ _ i => n - (intOf i).toNat)
  case atStart => exact ⟨0, Nat.zero_le _, rfl, rfl⟩
  case round =>
    obtain ⟨k, hk, rfl, hp⟩ := hrel
    have HP := Lib.hid hp; clear hp
    by_cases hlt : k < n
    · obtain ⟨b1, o1, Ak, ck, rfl, q1, c1, c2, hs⟩ := hr.at_ (k := k) (by have := HN.out; omega)
      have HS := Lib.hid (allTo_succ (fun k => rowOk x (sg rows k)) k)
      have HF := Lib.hid (fun h : rowOk x (sg rows k) = false => show errOf x rows = 1 by
        have := @allTo_false (fun k => rowOk x (sg rows k)) k n h hlt
        rw [HN.out] at this
        simp [errOf, validB, this])
      have h6 := HQ.out k (by have := HN.out; omega)
      have i1 : (k : Int) < n := by omega
      generalize sg rows k = l at *
      clear c2
      by_cases hx : (l.length : Int) = x
      · have hx' : ((l.length : Int) != x) = false := by simpa using hx
        have HX := Lib.hid hx; clear hx
        go_wp2
        go_loop [6, 28] (fun _ i => ∃ (j : Nat), j ≤ l.length ∧ i = .int .i64 j ∧ allTo (sgnB l) j = true) (fun _ i => l.length - (intOf i).toNat)
        case atStart => exact ⟨0, Nat.zero_le _, rfl, rfl⟩
        case round =>
          obtain ⟨j, hj, rfl, hp2⟩ := hrel
          have HP2 := Lib.hid hp2; clear hp2
          by_cases hlt2 : j < l.length
          · obtain ⟨b2, o2, rfl, q2, c3⟩ := hs.int_at (k := j) hlt2
            have HS2 := Lib.hid (allTo_succ (sgnB l) j)
            have HF2 := Lib.hid (@allTo_false (sgnB l) j l.length)
            have HG := Lib.hid (show sgnB l j = (decide (-1 ≤ l.getD j 0) && decide (l.getD j 0 ≤ 1)) from rfl)
            have i2 : (j : Int) < l.length := by omega
            generalize l.getD j 0 = y at *
            by_cases hy : -1 ≤ y
            · by_cases hy2 : y ≤ 1
              · go_wp2
                go_round
                case rel => exact ⟨j + 1, by omega, by go_num, by rw [HS2.out, HP2.out, HG.out]; simp [hy, hy2]⟩
                case measure => simp [intOf]; omega
              · go_wp2
                go_ret
                refine ⟨ret_int (HF.out ?_).symm, .refl _⟩
                unfold rowOk; rw [HF2.out (by rw [HG.out]; simp only [Bool.and_eq_false_iff, decide_eq_false_iff_not]; omega) hlt2]; simp
            · go_wp2
              go_ret
              refine ⟨ret_int (HF.out ?_).symm, .refl _⟩
              unfold rowOk; rw [HF2.out (by rw [HG.out]; simp only [Bool.and_eq_false_iff, decide_eq_false_iff_not]; omega) hlt2]; simp
          · go_wp2
            go_round
            case rel => exact ⟨k + 1, by omega, by go_num, by rw [HS.out, HP.out]; have := HP2.out; rw [show j = l.length by omega] at this; simp [rowOk, this, HX.out]⟩
            case measure => simp [intOf]; omega
      · have hx' : ((l.length : Int) != x) = true := by simpa using hx
        have HX := Lib.hid hx; clear hx
        go_wp2
        go_ret
        exact ⟨ret_int (HF.out (by unfold rowOk; simp [HX.out])).symm, .refl _⟩
    · have HV := Lib.hid (show validB x rows = true by have := HP.out; rw [show k = n by omega, HN.out] at this; exact this)
      have HN2 := Lib.hid (show n = rows.length from HN.out)
      cases hsep : sepB rows
      all_goals
        have HE := Lib.hid hsep
        go_wp2_with (go_at_call 17; refine (rSep_any _ _ _ B rows _ hr HN2.out hm (HQ.out)).mono ?_; rintro e w1 ⟨rfl, hd1⟩)
        go_ret
        refine ⟨ret_int ?_, hd1⟩
        simp [errOf, HV.out, HE.out]
        omega
end Go.Proofs.YtlfjpfbkkbhhjaaDoor
