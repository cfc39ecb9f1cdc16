/- Contract of the reference's Separated, for at most 90 rows of at most 6 signs. -/
import Derived.Test.YtlfjpfbkkbhhjaaDoorW3
namespace Go.Proofs.YtlfjpfbkkbhhjaaDoor
open Go.RowKit

def clash (rows : List (List Int × Bool)) (i k : Nat) : Bool := (tr rows i != tr rows k) && decide (sg rows i = sg rows k)
def sepTo (rows : List (List Int × Bool)) (i : Nat) : Bool := allTo (fun k => !clash rows i k) i
def sepB (rows : List (List Int × Bool)) : Bool := allTo (sepTo rows) rows.length

set_option maxHeartbeats 1000000 in
theorem rSep_any (A : Option Addr) (n c B : Nat) (rows : List (List Int × Bool)) (w : World) (hr : RowsAt w B A rows) (hn : n = rows.length) (hm : n ≤ 90) (hq : ∀ k, k < rows.length → (sg rows k).length ≤ 6) :
    Calls Tryd.prog 17 #[.slice A n c] w fun e w' => e = .returned (.bool (sepB rows)) ∧ Drawn w w' := by
  have HN := Lib.hid hn; clear hn
  have HQ := Lib.hid hq; clear hq
  go_enter Tryd.func17, Tryd.ntmps17
  go_wp2
  go_loopw [3, 4, 7] (fun _ _ i wr => ∃ (k : Nat), k ≤ n ∧ i = .int .i64 k ∧ allTo (sepTo rows) k = true ∧ Drawn w wr) (fun _ _ i _ => n - (intOf i).toNat)
  case atStart => exact ⟨0, Nat.zero_le _, rfl, rfl, .refl _⟩
  case round =>
    obtain ⟨i, hi, rfl, hp, hd⟩ := hrel
    have HP := Lib.hid hp; clear hp
    obtain ⟨wo, rfl⟩ : ∃ wo : World, wo = wr := ⟨_, rfl⟩
    by_cases hlt : i < n
    · go_wp2
      go_loopw [4] (fun j wr => ∃ (k : Nat), k ≤ i ∧ j = .int .i64 k ∧ allTo (fun k => !clash rows i k) k = true ∧ Drawn w wr) (fun j _ => i - (intOf j).toNat)
      case atStart => exact ⟨0, Nat.zero_le _, rfl, rfl, hd⟩
      case round =>
        clear hd
        obtain ⟨k, hk, rfl, hp2, hd⟩ := hrel
        have HP2 := Lib.hid hp2; clear hp2
        by_cases hlt2 : k < i
        · obtain ⟨b1, o1, A1, c1', rfl, q1, c1, c2, hs1⟩ := (hr.drawn hd).at_ (k := i) (by have := HN.out; omega)
          obtain ⟨b2, o2, A2, c2', e2, q2, c3, c4, hs2⟩ := (hr.drawn hd).at_ (k := k) (by have := HN.out; omega)
          obtain ⟨rfl, rfl⟩ : b1 = b2 ∧ o1 = o2 := by simpa using e2
          clear e2
          have h1 := HQ.out i (by have := HN.out; omega)
          have h2 := HQ.out k (by have := HN.out; omega)
          have HS2 := Lib.hid (allTo_succ (fun k => !clash rows i k) k)
          have HF2 := Lib.hid (@allTo_false (fun k => !clash rows i k) k i)
          have HF := Lib.hid (@allTo_false (sepTo rows) i n)
          have HG := Lib.hid (show clash rows i k = ((tr rows i != tr rows k) && decide (sg rows i = sg rows k)) from rfl)
          have i1 : (i : Int) < n := by omega
          have i2 : (k : Int) < n := by omega
          generalize sg rows i = si at *
          generalize sg rows k = sk at *
          generalize tr rows i = ti at *
          generalize tr rows k = tk at *
          by_cases hg : (ti == tk) = false
          · have HGD := Lib.hid hg
            by_cases hsm : si = sk
            · have hdec : decide (si = sk) = true := by simpa using hsm
              have HSM := Lib.hid hsm; clear hsm
              go_wp2
              go_quiet ((go_at_call 26; exact Drawn.quiet (same_any _ _ _ _ _ _ B si sk _ (hs1.drawn (.drewN _ _)) (hs2.drawn (.drewN _ _)) (by omega) (by omega))))
              go_wp2
              go_ret
              refine ⟨ret_bool ?_, hd.trans (.drewN _ _)⟩
              have h1 : clash rows i k = true := by rw [HG.out]; simp only [hdec, Bool.and_true, bne, HGD.out]; rfl
              have h2 : sepTo rows i = false := HF2.out (by rw [h1]; rfl) hlt2
              have := HF.out h2 hlt
              rw [HN.out] at this
              exact this.symm
            · have hdec : decide (si = sk) = false := by simpa using hsm
              have HSM := Lib.hid hsm; clear hsm
              go_wp2
              go_quiet ((go_at_call 26; exact Drawn.quiet (same_any _ _ _ _ _ _ B si sk _ (hs1.drawn (.drewN _ _)) (hs2.drawn (.drewN _ _)) (by omega) (by omega))))
              go_wp2
              go_roundw
              case rel => exact ⟨k + 1, by omega, by go_num, by rw [HS2.out, HP2.out, HG.out, hdec]; simp, hd.trans (.drewN _ _)⟩
              case measure => simp [intOf]; omega
          · have hg' : (ti == tk) = true := by simpa using hg
            have HGD := Lib.hid hg'
            clear hg
            go_wp2
            go_quiet (fail)
            go_wp2
            go_roundw
            case rel => exact ⟨k + 1, by omega, by go_num, by rw [HS2.out, HP2.out, HG.out, bne, HGD.out]; rfl, hd.trans (.drewN _ _)⟩
            case measure => simp [intOf]; omega
        · have HS := Lib.hid (allTo_succ (sepTo rows) i)
          go_wp2
          go_roundw
          case rel => exact ⟨i + 1, by omega, by go_num, by rw [HS.out, HP.out]; have := HP2.out; rw [show k = i by omega] at this; exact this, hd⟩
          case measure => simp [intOf]; omega
    · go_wp2
      go_ret
      refine ⟨ret_bool ?_, hd⟩
      have := HP.out
      rw [show i = n by omega, HN.out] at this
      exact this.symm
end Go.Proofs.YtlfjpfbkkbhhjaaDoor
