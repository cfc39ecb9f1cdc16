/- Contract of the reference's Needed, for at most 1000 rows of at most 6 valid signs and at most 1000 terms. -/
import Derived.Test.YtlfjpfbkkbhhjaaDoorW7
import Derived.Deep.DeepCutAuto
import Derived.Deep.LoopGhost
namespace Go.Proofs.YtlfjpfbkkbhhjaaDoor
open Go.RowKit

def otherAt (ts : List (List Int)) (rows : List (List Int × Bool)) (i k j : Nat) : Bool := (j == i) || !permT (ts.getD j []) (sg rows k)
def baseAt (ts : List (List Int)) (rows : List (List Int × Bool)) (i k : Nat) : Bool := tr rows k && permT (ts.getD i []) (sg rows k)
def aloneAt (ts : List (List Int)) (rows : List (List Int × Bool)) (i k : Nat) : Bool := baseAt ts rows i k && allTo (otherAt ts rows i k) ts.length
def needT (ts : List (List Int)) (rows : List (List Int × Bool)) (i : Nat) : Bool := anyTo (aloneAt ts rows i) rows.length
def needB (ts : List (List Int)) (rows : List (List Int × Bool)) : Bool := allTo (needT ts rows) ts.length

set_option maxHeartbeats 2000000 in
set_option maxRecDepth 100000 in
theorem Needed_any (A0 A : Option Addr) (m n c0 c B : Nat) (ts : List (List Int)) (rows : List (List Int × Bool)) (w : World) (hB : B ≤ w.heap.size) (ht : ListsAt w B A0 ts) (hr : RowsAt w B A rows) (hm : m = ts.length) (hn : n = rows.length)
    (hm0 : m ≤ 1000) (hn0 : n ≤ 1000) (hqt : ∀ k, k < ts.length → (ts.getD k []).length ≤ 1000) (hq : ∀ k, k < rows.length → (sg rows k).length ≤ 6) (hv : ∀ k, k < rows.length → ∀ x ∈ sg rows k, -1 ≤ x ∧ x ≤ 1) :
    Calls Tryd.prog 15 #[.slice A0 m c0, .slice A n c] w fun e w' => e = .returned (.bool (needB ts rows)) ∧ Below w.heap.size w w' := by
  have HN := Lib.hid hn; clear hn
  have HM := Lib.hid hm; clear hm
  have HQ := Lib.hid hq; clear hq
  have HQT := Lib.hid hqt; clear hqt
  have HV := Lib.hid hv; clear hv
  go_enter Tryd.func15, Tryd.ntmps15
  go_wp2
  go_loopg [5, 6, 7, 8, 9, 12] m (fun gn _ _ _ _ _ i wr => ∃ (k : Nat), k ≤ m ∧ gn = m - k ∧ i = .int .i64 k ∧ allTo (needT ts rows) k = true ∧ Below w.heap.size w wr)
  case atStart => exact ⟨0, Nat.zero_le _, rfl, rfl, rfl, .refl _ _⟩
  case round =>
    obtain ⟨i, hi, hgi, rfl, hp, hd⟩ := hrel
    have HGI := Lib.hid hgi; clear hgi
    have HP := Lib.hid hp; clear hp
    obtain ⟨wo, rfl⟩ : ∃ wo : World, wo = wr := ⟨_, rfl⟩
    by_cases hlt : i < m
    · have i1 : (i : Int) < m := by omega
      have HS := Lib.hid (allTo_succ (needT ts rows) i)
      have HF := Lib.hid (fun h : needT ts rows i = false => show needB ts rows = false by
        have := @allTo_false (needT ts rows) i m h hlt
        rw [HM.out] at this
        exact this)
      go_wp2
      go_loopg [6, 7, 8, 9, 17] n (fun gn f _ _ _ j wr => ∃ (k : Nat), k ≤ n ∧ gn = n - k ∧ j = .int .i64 k ∧ f = .bool (anyTo (aloneAt ts rows i) k) ∧ Below w.heap.size w wr)
      case atStart => exact ⟨0, Nat.zero_le _, rfl, rfl, rfl, hd⟩
      case round =>
        clear hd
        obtain ⟨k, hk, hgk, rfl, rfl, hd⟩ := hrel
        have HGK := Lib.hid hgk; clear hgk
        obtain ⟨wo2, rfl⟩ : ∃ wo2 : World, wo2 = wr := ⟨_, rfl⟩
        have HS2 := Lib.hid (anyTo_succ (aloneAt ts rows i) k)
        generalize hfk : anyTo (aloneAt ts rows i) k = fk at *
        have HFK := Lib.hid hfk; clear hfk
        by_cases hlt2 : k < n
        · have hz := hd.size
          obtain ⟨b1, o1, A1, c1', rfl, q1, d1, d2, hs1⟩ := hr.at_ (k := k) (by have := HN.out; omega)
          have i2 : (k : Int) < n := by omega
          have h6 := HQ.out k (by have := HN.out; omega)
          have HVk := Lib.hid (HV.out k (by have := HN.out; omega))
          have HA := Lib.hid (show aloneAt ts rows i k = (baseAt ts rows i k && allTo (otherAt ts rows i k) ts.length) from rfl)
          have HG0 := Lib.hid (show baseAt ts rows i k = (tr rows k && permT (ts.getD i []) (sg rows k)) from rfl)
          have HG : Hid (∀ j, otherAt ts rows i k j = ((j == i) || !permT (ts.getD j []) (sg rows k))) := fun j => rfl
          generalize sg rows k = sk at *
          generalize tr rows k = tk at *
          generalize baseAt ts rows i k = ba at *
          -- the three ways of the first region meet again in the slot 8
          have c1 := (hd.cell (p := ⟨b1, o1 + k * 2, none⟩) (by show b1 < _; omega)).trans d1
          have c2 := (hd.cell (p := ⟨b1, o1 + k * 2 + 1, none⟩) (by show b1 < _; omega)).trans d2
          go_upto_region 8 with (fail)
          go_cut [8] (fun al wc => al = .bool ba ∧ Below w.heap.size w wc)
          case first =>
            cases tk
            · have hz0 : True := trivial
              go_quiet (fail)
              go_wp2
              go_meet
              case rel => exact ⟨by rw [HG0.out]; rfl, hd.trans ((Drawn.drewN _ _).below _)⟩
            · obtain ⟨b2, o2, A2, c2', rfl, q2, d3, hs2⟩ := (ht.below (hd.mono hB)).at_ (k := i) (by have := HM.out; omega)
              have ht1000 := HQT.out i (by have := HM.out; omega)
              have z1 : b1 < wo2.drew.heap.size := by simp; omega
              have z2 : b2 < wo2.drew.heap.size := by simp; omega
              have z0 : B ≤ wo2.drew.heap.size := by simp; omega
              have h6' : sk.length ≤ 1000 := by omega
              have hs1' := hs1.below (hd.mono hB)
              generalize ts.getD i [] = ti at *
              go_region_held3 (fun w' => w'.cell? ⟨b1, o1 + k * 2, none⟩ = some (.slice A1 sk.length c1') ∧ w'.cell? ⟨b1, o1 + k * 2 + 1, none⟩ = some (.bool true) ∧ w'.cell? ⟨b2, o2 + i, none⟩ = some (.slice A2 ti.length c2')) (first | exact ⟨c1, c2, d3⟩ | exact ⟨(hb1.cell z1).trans c1, (hb1.cell z1).trans c2, (hb1.cell z2).trans d3⟩)
                (first | (go_at_call 23; refine (PermitsT _ _ _ _ _ _ B ti sk _ z0 hs2 hs1' ht1000 h6' HVk.out).mono ?_; rintro e w1 ⟨rfl, hb1⟩))
              go_wp2
              go_meet
              case rel => exact ⟨by rw [HG0.out]; rfl, hd.drew.trans (hb1.mono (by simp; omega))⟩
          case rest =>
            obtain ⟨rfl, hd2⟩ := hcut
            clear hd c1 c2 hz
            go_wp2
            go_loopg [8, 9, 39] m (fun gn al _ j wr => ∃ (q : Nat), q ≤ m ∧ gn = m - q ∧ j = .int .i64 q ∧ al = .bool (ba && allTo (otherAt ts rows i k) q) ∧ Below w.heap.size w wr)
            case atStart => exact ⟨0, Nat.zero_le _, rfl, rfl, by simp [allTo], hd2⟩
            case round =>
              clear hd2
              obtain ⟨q, hq, hgq, rfl, rfl, hd⟩ := hrel
              have HGQ := Lib.hid hgq; clear hgq
              have hz := hd.size
              by_cases hlt3 : q < m
              · have i3 : (q : Int) < m := by omega
                have HS3 := Lib.hid (allTo_succ (otherAt ts rows i k) q)
                have HGq := Lib.hid (HG.out q)
                have c1 := (hd.cell (p := ⟨b1, o1 + k * 2, none⟩) (by show b1 < _; omega)).trans d1
                generalize hal : (ba && allTo (otherAt ts rows i k) q) = al at *
                have HAL := Lib.hid hal; clear hal
                have HNX := Lib.hid (show (ba && allTo (otherAt ts rows i k) (q + 1)) = (al && otherAt ts rows i k q) by rw [HS3.out, ← HAL.out, Bool.and_assoc])
                cases al
                · go_wp2
                  go_quiet (fail)
                  go_wp2
                  go_roundg (m - (q + 1))
                  case rel => exact ⟨q + 1, by omega, rfl, by go_num, by rw [HNX.out]; rfl, hd.trans ((Drawn.drewN _ _).below _)⟩
                  case measure => have := HGQ.out; omega
                · by_cases hqi : q = i
                  · have e1 : ((q : Int) == (i : Int)) = true := by rw [hqi]; simp
                    have HE := Lib.hid (show otherAt ts rows i k q = true by rw [HGq.out, hqi]; simp)
                    clear hqi
                    go_wp2
                    go_quiet (fail)
                    go_wp2
                    go_roundg (m - (q + 1))
                    case rel => exact ⟨q + 1, by omega, rfl, by go_num, by rw [HNX.out, HE.out]; rfl, hd.trans ((Drawn.drewN _ _).below _)⟩
                    case measure => have := HGQ.out; omega
                  · have e1 : ((q : Int) == (i : Int)) = false := by simp; omega
                    have HE := Lib.hid (show otherAt ts rows i k q = !permT (ts.getD q []) sk by rw [HGq.out, beq_eq_false_iff_ne.2 hqi]; rfl)
                    clear hqi
                    obtain ⟨b2, o2, A2, c2', rfl, q2, d3, hs2⟩ := (ht.below (hd.mono hB)).at_ (k := q) (by have := HM.out; omega)
                    have ht1000 := HQT.out q (by have := HM.out; omega)
                    have z1 : b1 < wr.drew.heap.size := by simp; omega
                    have z2 : b2 < wr.drew.heap.size := by simp; omega
                    have z0 : B ≤ wr.drew.heap.size := by simp; omega
                    have h6' : sk.length ≤ 1000 := by omega
                    have hs1' := hs1.below (hd.mono hB)
                    generalize ts.getD q [] = tq at *
                    go_wp2
                    go_region_held3 (fun w' => w'.cell? ⟨b1, o1 + k * 2, none⟩ = some (.slice A1 sk.length c1') ∧ w'.cell? ⟨b2, o2 + q, none⟩ = some (.slice A2 tq.length c2')) (first | exact ⟨c1, d3⟩ | exact ⟨(hb1.cell z1).trans c1, (hb1.cell z2).trans d3⟩)
                      (first | (go_at_call 23; refine (PermitsT _ _ _ _ _ _ B tq sk _ z0 hs2 hs1' ht1000 h6' HVk.out).mono ?_; rintro e w1 ⟨rfl, hb1⟩))
                    go_wp2
                    go_roundg (m - (q + 1))
                    case rel => exact ⟨q + 1, by omega, rfl, by go_num, by rw [HNX.out, HE.out]; rfl, hd.drew.trans (hb1.mono (by simp; omega))⟩
                    case measure => have := HGQ.out; omega
              · have HAL := Lib.hid (show aloneAt ts rows i k = (ba && allTo (otherAt ts rows i k) q) by rw [HA.out, show q = ts.length by have := HM.out; omega])
                generalize (ba && allTo (otherAt ts rows i k) q) = al at *
                cases fk
                all_goals
                  go_wp2
                  go_roundg (n - (k + 1))
                  case rel => exact ⟨k + 1, by omega, rfl, by go_num, by rw [HS2.out, HAL.out]; rfl, hd⟩
                  case measure => have := HGK.out; omega
        · cases fk
          · go_wp2
            go_ret
            refine ⟨ret_bool (HF.out ?_).symm, hd⟩
            have := HFK.out
            rw [show k = n by omega, HN.out] at this
            exact this
          · go_wp2
            go_roundg (m - (i + 1))
            case rel => exact ⟨i + 1, by omega, rfl, by go_num, by rw [HS.out, HP.out]; have := HFK.out; rw [show k = n by omega, HN.out] at this; exact this, hd⟩
            case measure => have := HGI.out; omega
    · go_wp2
      go_ret
      refine ⟨ret_bool ?_, hd⟩
      have := HP.out
      rw [show i = m by omega, HM.out] at this
      exact this.symm
end Go.Proofs.YtlfjpfbkkbhhjaaDoor
