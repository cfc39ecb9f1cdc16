/- The reference's valid and Names. -/
import Derived.BigQuiet
import Derived.Test.YtnghlhcekghciaaGreatDoorX8
namespace Go.Proofs.YtnghlhcekghciaaGreatDoor
open Go.RowKit

set_option maxHeartbeats 2000000 in
set_option maxRecDepth 100000 in
theorem RValid_any (l : Bs) (w : World) (hm : l.length ≤ 1000000) : Calls Tryz.prog 32 #[.string ⟨l.toArray⟩] w fun e w' => e = .returned (.bool (nameB l)) ∧ w = w' := by
  by_cases h1 : l.length < 1
  · have HE := Lib.hid (show nameB l = false by simp [nameB]; omega)
    have i1 : (l.length : Int) < 1 := by omega
    go_enter Tryz.func32, Tryz.ntmps32
    go_wp2
    go_ret
    exact ⟨by rw [HE.out]; rfl, rfl⟩
  by_cases h2 : 16 < l.length
  · have HE := Lib.hid (show nameB l = false by simp [nameB]; omega)
    have i1 : ¬ (l.length : Int) < 1 := by omega
    have i2 : (16 : Int) < (l.length : Int) := by omega
    go_enter Tryz.func32, Tryz.ntmps32
    go_wp2
    go_ret
    exact ⟨by rw [HE.out]; rfl, rfl⟩
  have i1 : ¬ (l.length : Int) < 1 := by omega
  have i2 : ¬ (16 : Int) < (l.length : Int) := by omega
  have HOK := Lib.hid (show nameTo l l.length = true → nameB l = true from fun h => by simp [nameB, h]; omega)
  have HBAD := Lib.hid (fun k => @nameB_bad l k)
  have HST := Lib.hid (fun k => show nameTo l (k + 1) = (nameTo l k && nmCh k (l.getD k 0).toNat) from rfl)
  generalize nameB l = r at *
  go_enter Tryz.func32, Tryz.ntmps32
  go_wp2
  go_loopg [3, 4, 5] l.length (fun gn i _ _ wr => ∃ k : Nat, k ≤ l.length ∧ gn = l.length - k ∧ i = .int .i64 k ∧ nameTo l k = true ∧ w = wr)
  case atStart => exact ⟨0, by omega, rfl, rfl, rfl, rfl⟩
  case round =>
    obtain ⟨k, hk, hgk, rfl, hnt, rfl⟩ := hrel
    have HG := Lib.hid hgk; have HNT := Lib.hid hnt
    clear hgk hnt
    by_cases hlt : k < l.length
    · have hix := fun (W : World) => Tryz.str_at l k hlt W
      have HB := Lib.hid (HBAD.out k hlt)
      have HS := Lib.hid (HST.out k)
      have j1 : (k : Int) < (l.length : Int) := by omega
      clear HBAD HST
      generalize (l.getD k 0).toNat = c at *
      rcases (by omega : (97 ≤ c ∧ c ≤ 122) ∨ 122 < c ∨ (91 ≤ c ∧ c ≤ 96 ∧ c ≠ 95) ∨ c = 95 ∨ (65 ≤ c ∧ c ≤ 90) ∨ (58 ≤ c ∧ c ≤ 64) ∨ (48 ≤ c ∧ c ≤ 57) ∨ c < 48) with hc | hc | hc | hc | hc | hc | hc | hc
      · have f0 : (97 : Int) ≤ (c : Int) := by omega
        have f1 : (c : Int) ≤ 122 := by omega
        have f2 : (65 : Int) ≤ (c : Int) := by omega
        have f3 : ¬ (c : Int) ≤ 90 := by omega
        have f4 : ((c : Int) == 95) = false := by simp; omega
        have f5 : ¬ (c : Int) < 48 := by omega
        have f6 : (57 : Int) < (c : Int) := by omega
        have HN := Lib.hid (show nameTo l (k + 1) = true by rw [HS.out, HNT.out]; simp [nmCh]; omega)
        clear HS HB
        go_wp2
        go_roundg (l.length - (k + 1))
        case rel => exact ⟨k + 1, by omega, rfl, by go_num, HN.out, rfl⟩
        case measure => have := HG.out; omega
      · have f0 : (97 : Int) ≤ (c : Int) := by omega
        have f1 : ¬ (c : Int) ≤ 122 := by omega
        have f2 : (65 : Int) ≤ (c : Int) := by omega
        have f3 : ¬ (c : Int) ≤ 90 := by omega
        have f4 : ((c : Int) == 95) = false := by simp; omega
        have f5 : ¬ (c : Int) < 48 := by omega
        have f6 : (57 : Int) < (c : Int) := by omega
        by_cases hk0 : k = 0
        · subst hk0
          have hix0 : ∀ W, (Instr.index 9 (.string ⟨l.toArray⟩) (.int .i64 0)).run Tryz.prog W = .ok (.int .u8 (c : Int)) W := hix
          have j10 : (0 : Int) < (l.length : Int) := j1
          clear hix j1
          have HN := Lib.hid (HB.out (by simp [nmCh]; omega))
          clear HS HB
          go_wp2
          go_ret
          exact ⟨by rw [HN.out]; rfl, rfl⟩
        · have fk : ((k : Int) == 0) = false := by simp; omega
          have HN := Lib.hid (HB.out (by simp [nmCh]; omega))
          clear HS HB
          go_wp2
          go_ret
          exact ⟨by rw [HN.out]; rfl, rfl⟩
      · have f0 : ¬ (97 : Int) ≤ (c : Int) := by omega
        have f1 : (c : Int) ≤ 122 := by omega
        have f2 : (65 : Int) ≤ (c : Int) := by omega
        have f3 : ¬ (c : Int) ≤ 90 := by omega
        have f4 : ((c : Int) == 95) = false := by simp; omega
        have f5 : ¬ (c : Int) < 48 := by omega
        have f6 : (57 : Int) < (c : Int) := by omega
        by_cases hk0 : k = 0
        · subst hk0
          have hix0 : ∀ W, (Instr.index 9 (.string ⟨l.toArray⟩) (.int .i64 0)).run Tryz.prog W = .ok (.int .u8 (c : Int)) W := hix
          have j10 : (0 : Int) < (l.length : Int) := j1
          clear hix j1
          have HN := Lib.hid (HB.out (by simp [nmCh]; omega))
          clear HS HB
          go_wp2
          go_ret
          exact ⟨by rw [HN.out]; rfl, rfl⟩
        · have fk : ((k : Int) == 0) = false := by simp; omega
          have HN := Lib.hid (HB.out (by simp [nmCh]; omega))
          clear HS HB
          go_wp2
          go_ret
          exact ⟨by rw [HN.out]; rfl, rfl⟩
      · have f0 : ¬ (97 : Int) ≤ (c : Int) := by omega
        have f1 : (c : Int) ≤ 122 := by omega
        have f2 : (65 : Int) ≤ (c : Int) := by omega
        have f3 : ¬ (c : Int) ≤ 90 := by omega
        have f4 : ((c : Int) == 95) = true := by simp; omega
        have f5 : ¬ (c : Int) < 48 := by omega
        have f6 : (57 : Int) < (c : Int) := by omega
        have HN := Lib.hid (show nameTo l (k + 1) = true by rw [HS.out, HNT.out]; simp [nmCh]; omega)
        clear HS HB
        go_wp2
        go_roundg (l.length - (k + 1))
        case rel => exact ⟨k + 1, by omega, rfl, by go_num, HN.out, rfl⟩
        case measure => have := HG.out; omega
      · have f0 : ¬ (97 : Int) ≤ (c : Int) := by omega
        have f1 : (c : Int) ≤ 122 := by omega
        have f2 : (65 : Int) ≤ (c : Int) := by omega
        have f3 : (c : Int) ≤ 90 := by omega
        have f4 : ((c : Int) == 95) = false := by simp; omega
        have f5 : ¬ (c : Int) < 48 := by omega
        have f6 : (57 : Int) < (c : Int) := by omega
        have HN := Lib.hid (show nameTo l (k + 1) = true by rw [HS.out, HNT.out]; simp [nmCh]; omega)
        clear HS HB
        go_wp2
        go_roundg (l.length - (k + 1))
        case rel => exact ⟨k + 1, by omega, rfl, by go_num, HN.out, rfl⟩
        case measure => have := HG.out; omega
      · have f0 : ¬ (97 : Int) ≤ (c : Int) := by omega
        have f1 : (c : Int) ≤ 122 := by omega
        have f2 : ¬ (65 : Int) ≤ (c : Int) := by omega
        have f3 : (c : Int) ≤ 90 := by omega
        have f4 : ((c : Int) == 95) = false := by simp; omega
        have f5 : ¬ (c : Int) < 48 := by omega
        have f6 : (57 : Int) < (c : Int) := by omega
        by_cases hk0 : k = 0
        · subst hk0
          have hix0 : ∀ W, (Instr.index 9 (.string ⟨l.toArray⟩) (.int .i64 0)).run Tryz.prog W = .ok (.int .u8 (c : Int)) W := hix
          have j10 : (0 : Int) < (l.length : Int) := j1
          clear hix j1
          have HN := Lib.hid (HB.out (by simp [nmCh]; omega))
          clear HS HB
          go_wp2
          go_ret
          exact ⟨by rw [HN.out]; rfl, rfl⟩
        · have fk : ((k : Int) == 0) = false := by simp; omega
          have HN := Lib.hid (HB.out (by simp [nmCh]; omega))
          clear HS HB
          go_wp2
          go_ret
          exact ⟨by rw [HN.out]; rfl, rfl⟩
      · have f0 : ¬ (97 : Int) ≤ (c : Int) := by omega
        have f1 : (c : Int) ≤ 122 := by omega
        have f2 : ¬ (65 : Int) ≤ (c : Int) := by omega
        have f3 : (c : Int) ≤ 90 := by omega
        have f4 : ((c : Int) == 95) = false := by simp; omega
        have f5 : ¬ (c : Int) < 48 := by omega
        have f6 : ¬ (57 : Int) < (c : Int) := by omega
        by_cases hk0 : k = 0
        · subst hk0
          have hix0 : ∀ W, (Instr.index 9 (.string ⟨l.toArray⟩) (.int .i64 0)).run Tryz.prog W = .ok (.int .u8 (c : Int)) W := hix
          have j10 : (0 : Int) < (l.length : Int) := j1
          clear hix j1
          have HN := Lib.hid (HB.out (by simp [nmCh]; omega))
          clear HS HB
          go_wp2
          go_ret
          exact ⟨by rw [HN.out]; rfl, rfl⟩
        · have fk : ((k : Int) == 0) = false := by simp; omega
          have HN := Lib.hid (show nameTo l (k + 1) = true by rw [HS.out, HNT.out]; simp [nmCh]; omega)
          clear HS HB
          go_wp2
          go_roundg (l.length - (k + 1))
          case rel => exact ⟨k + 1, by omega, rfl, by go_num, HN.out, rfl⟩
          case measure => have := HG.out; omega
      · have f0 : ¬ (97 : Int) ≤ (c : Int) := by omega
        have f1 : (c : Int) ≤ 122 := by omega
        have f2 : ¬ (65 : Int) ≤ (c : Int) := by omega
        have f3 : (c : Int) ≤ 90 := by omega
        have f4 : ((c : Int) == 95) = false := by simp; omega
        have f5 : (c : Int) < 48 := by omega
        have f6 : ¬ (57 : Int) < (c : Int) := by omega
        by_cases hk0 : k = 0
        · subst hk0
          have hix0 : ∀ W, (Instr.index 9 (.string ⟨l.toArray⟩) (.int .i64 0)).run Tryz.prog W = .ok (.int .u8 (c : Int)) W := hix
          have j10 : (0 : Int) < (l.length : Int) := j1
          clear hix j1
          have HN := Lib.hid (HB.out (by simp [nmCh]; omega))
          clear HS HB
          go_wp2
          go_ret
          exact ⟨by rw [HN.out]; rfl, rfl⟩
        · have fk : ((k : Int) == 0) = false := by simp; omega
          have HN := Lib.hid (HB.out (by simp [nmCh]; omega))
          clear HS HB
          go_wp2
          go_ret
          exact ⟨by rw [HN.out]; rfl, rfl⟩
    · obtain rfl : k = l.length := by omega
      have HR := Lib.hid (HOK.out HNT.out)
      go_wp2
      go_ret
      exact ⟨by rw [HR.out]; rfl, rfl⟩

theorem has_step {ls : List Bs} {j : Nat} {x : Bs} (h : j < ls.length) (hn : (ls.take j).contains x = false) : (ls.take (j + 1)).contains x = (ls.getD j [] == x) := by
  rw [List.contains_eq_mem] at hn ⊢
  rw [List.take_succ_eq_append_getElem h, Bool.eq_iff_iff]
  simp only [List.mem_append, List.mem_singleton, decide_eq_true_eq, decide_eq_false_iff_not, beq_iff_eq] at *
  rw [List.getD_eq_getElem?_getD, List.getElem?_eq_getElem h, Option.getD_some]
  constructor
  · rintro (h1 | h1)
    · exact absurd h1 hn
    · exact h1.symm
  · exact fun h1 => .inr h1.symm
theorem bs_list (l : Bs) : (⟨l.toArray⟩ : ByteArray).toList = l := by rw [ByteArray.toList_eq]
theorem has_more {ls : List Bs} {j n : Nat} {x : Bs} (h : (ls.take j).contains x = true) (hj : j ≤ n) : (ls.take n).contains x = true := by
  rw [List.contains_iff_mem] at *
  exact (List.take_sublist_take_left hj).subset h
set_option maxHeartbeats 2000000 in
set_option maxRecDepth 100000 in
theorem RNames_any (A : Option Addr) (c B : Nat) (ls : List Bs) (w : World) (h : Reads w B 1 A ls.length (ls.map strV)) (hm : ls.length ≤ 1000000) (hl : ∀ l ∈ ls, l.length ≤ 1000000) :
    Calls Tryz.prog 16 #[.slice A ls.length c] w fun e w' => e = .returned (.bool (namesB ls)) ∧ Drawn w w' := by
  have HEND := Lib.hid (show namesTo ls ls.length = true → namesB ls = decide ((ls.length : Int) ≤ 4) from fun h => by
    rw [namesB, h, Bool.and_true, Bool.eq_iff_iff]
    simp only [decide_eq_true_eq]
    omega)
  have HBAD := Lib.hid (fun k => @namesB_bad ls k)
  have HST := Lib.hid (fun k => show namesTo ls (k + 1) = (namesTo ls k && (nameB (ls.getD k []) && !(ls.take k).contains (ls.getD k []))) from rfl)
  have HL := Lib.hid hl; have H := Lib.hid h
  clear hl h
  generalize namesB ls = r at *
  go_enter Tryz.func16, Tryz.ntmps16
  go_wp2_with fail
  go_loopg [3, 4, 7] ls.length (fun gn _ _ i wr => ∃ k : Nat, k ≤ ls.length ∧ gn = ls.length - k ∧ i = .int .i64 k ∧ namesTo ls k = true ∧ Drawn w wr)
  case atStart => exact ⟨0, by omega, rfl, rfl, rfl, Drawn.refl _⟩
  case round =>
    obtain ⟨k, hk, hgk, rfl, hnt, hdr⟩ := hrel
    have HG := Lib.hid hgk; have HNT := Lib.hid hnt
    clear hgk hnt
    by_cases hlt : k < ls.length
    · have hdm : ls.getD k [] ∈ ls := by simp [List.getElem?_eq_getElem hlt]
      obtain ⟨b, o, rfl, hb, c0⟩ := strs_at (H.out.drawn hdr) hlt
      have HI := Lib.hid (fun W => RValid_any (ls.getD k []) W (HL.out _ hdm))
      have HB := Lib.hid (HBAD.out k hlt)
      have HS := Lib.hid (HST.out k)
      have HSJ := Lib.hid (fun j (hj : j < k) => @has_step ls j (ls.getD k []) (by omega))
      have HMJ := Lib.hid (fun j (hj : j ≤ k) => fun hh => @has_more ls j k (ls.getD k []) hh hj)
      have HCB := Lib.hid ((hdr.cell _).symm.trans c0)
      have j1 : (k : Int) < (ls.length : Int) := by omega
      have j0 : (0 : Int) ≤ (k : Int) := by omega
      clear HBAD HST hdm
      generalize hx : ls.getD k [] = x at *
      clear hx
      cases hv : nameB x with
      | false =>
        have HN := Lib.hid (HB.out (by rw [hv]; rfl))
        rw [hv] at HI
        clear HS HB hv
        go_wp2_with fail
        refine (HI.out _).mono ?_
        rintro e w' ⟨rfl, rfl⟩
        go_wp2_with fail
        go_ret
        exact ⟨by rw [HN.out]; rfl, hdr⟩
      | true =>
        rw [hv] at HI
        have HV := Lib.hid hv
        clear hv
        go_wp2_with fail
        refine (HI.out _).mono ?_
        rintro e w' ⟨rfl, rfl⟩
        clear c0
        go_wp2_with fail
        go_loopg [4] k (fun gn jv wx => ∃ j : Nat, j ≤ k ∧ gn = k - j ∧ jv = .int .i64 j ∧ (ls.take j).contains x = false ∧ Drawn w wx)
        case atStart => exact ⟨0, by omega, rfl, rfl, rfl, hdr⟩
        case round =>
          clear hdr
          obtain ⟨j, hj, hgj, rfl, hnc, hdr⟩ := hrel
          have HGJ := Lib.hid hgj
          clear hgj
          by_cases hjk : j < k
          · obtain ⟨b', o', e', hb', c1⟩ := strs_at (H.out.drawn hdr) (show j < ls.length by omega)
            injection e' with e'
            injection e' with e1 e2
            subst e1
            subst e2
            have c2 := (hdr.cell ⟨b, o + k, none⟩).trans HCB.out
            have HSS := Lib.hid (HSJ.out j hjk hnc)
            have HMS := Lib.hid (HMJ.out (j + 1) (by omega))
            have k1 : (j : Int) < (k : Int) := by omega
            have k2 : (j : Int) < (ls.length : Int) := by omega
            have k0 : (0 : Int) ≤ (j : Int) := by omega
            generalize ls.getD j [] = y at *
            have hby := bs_list y
            have hbx := bs_list x
            generalize (⟨y.toArray⟩ : ByteArray) = sy at *
            generalize (⟨x.toArray⟩ : ByteArray) = sx at *
            cases hyx : y == x with
            | false =>
              have hss : (sy.toList == sx.toList) = false := by rw [hby, hbx]; exact hyx
              rw [hyx] at HSS
              clear hby hbx hyx
              go_wp2_with fail
              go_quiet (fail)
              have hdr2 := hdr.trans (Drawn.drewN wr nq)
              go_wp2_with fail
              go_roundg (k - (j + 1))
              case rel => exact ⟨j + 1, by omega, rfl, by go_num, HSS.out, hdr2⟩
              case measure => have := HGJ.out; omega
            | true =>
              have hss : (sy.toList == sx.toList) = true := by rw [hby, hbx]; exact hyx
              rw [hyx] at HSS
              have HN := Lib.hid (HB.out (by rw [HV.out, HMS.out HSS.out]; rfl))
              clear hby hbx hyx
              go_wp2_with fail
              go_quiet (fail)
              have hdr2 := hdr.trans (Drawn.drewN wr nq)
              go_wp2_with fail
              go_ret
              exact ⟨by rw [HN.out]; rfl, hdr2⟩
          · obtain rfl : j = k := by omega
            have HN := Lib.hid (show namesTo ls (j + 1) = true by rw [HS.out, HNT.out, HV.out, show (ls.take j).contains x = false from hnc]; rfl)
            go_wp2_with fail
            go_roundg (ls.length - (j + 1))
            case rel => exact ⟨j + 1, by omega, rfl, by go_num, HN.out, hdr⟩
            case measure => have := HG.out; omega
    · obtain rfl : k = ls.length := by omega
      have HR := Lib.hid (HEND.out HNT.out)
      go_wp2_with fail
      go_ret
      exact ⟨by rw [HR.out]; rfl, hdr⟩
end Go.Proofs.YtnghlhcekghciaaGreatDoor
