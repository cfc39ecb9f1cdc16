/- Contracts of recpoly.isLevel, isZero, isCanonical. -/
import Derived.IntWalk
import Derived.Test.YtkkliemgidhgmaaGreatDoorRD
namespace Go.Proofs.YtkkliemgidhgmaaGreatDoor
open Go.RowKit

theorem rlev_any (l : Int) (w : World) : Calls Tryz.prog 41 #[.int .i64 l] w fun e w' => e = .returned (.bool (decide (1 ≤ l) && decide (l ≤ 4))) ∧ w = w' := by
  by_cases h1 : 1 ≤ l
  · by_cases h2 : l ≤ 4
    · have e : (decide (1 ≤ l) && decide (l ≤ 4)) = true := by simp [h1, h2]
      rw [e]
      go_enter Tryz.func41, Tryz.ntmps41
      go_wp2
      go_ret
      exact ⟨by simp, rfl⟩
    · have e : (decide (1 ≤ l) && decide (l ≤ 4)) = false := by simp [h2]
      rw [e]
      go_enter Tryz.func41, Tryz.ntmps41
      go_wp2
      go_ret
      exact ⟨by simp, rfl⟩
  · have e : (decide (1 ≤ l) && decide (l ≤ 4)) = false := by simp [h1]
    rw [e]
    go_enter Tryz.func41, Tryz.ntmps41
    go_wp2
    go_ret
    exact ⟨by simp, rfl⟩
theorem risZ_any (t : RP) (A : Option Addr) (c : Nat) (K : Option Addr) (kc : Nat) (w : World) :
    Calls Tryz.prog 74 #[rval t A c K kc] w fun e w' => e = .returned (.bool (isZT t)) ∧ Below w.heap.size w w' := by
  have hbx := (Below.refl w.heap.size w).alloc (Nat.le_refl _) (.cells #[.int .i64 t.lv, .bool t.ng, .slice A t.ds.length c, .slice K t.ks.length kc] 32)
  have HBX := Lib.hid hbx
  clear hbx
  unfold isZT
  by_cases h0 : t.lv = 0
  · have e0 : (t.lv == 0) = true := by simp [h0]
    have e1 : decide (t.lv = 0) = true := by simp [h0]
    rw [e1]
    clear h0 e1
    have HE := Lib.hid (show ((t.ds.length : Int) == 0) = (true && decide (t.ds.length = 0)) by
      by_cases h : t.ds.length = 0
      · simp [h]
      · have : ¬ ((t.ds.length : Int) = 0) := by omega
        simp [h])
    go_enter Tryz.func74, Tryz.ntmps74
    go_wp2_with fail
    go_ret
    exact ⟨by rw [← HE.out]; rfl, HBX.out⟩
  · have e0 : (t.lv == 0) = false := by simp [h0]
    have e1 : decide (t.lv = 0) = false := by simp [h0]
    rw [e1]
    clear h0 e1
    go_enter Tryz.func74, Tryz.ntmps74
    go_wp2_with fail
    go_ret
    exact ⟨rfl, HBX.out⟩
theorem eq_castR (x : Nat) (h : x ≠ 0) : ((x : Int) == 0) = false := by
  have : ¬ (x : Int) = 0 := by omega
  simpa using this
theorem ne_castR (x : Nat) : ((x : Int) != 0) = decide (x ≠ 0) := by
  by_cases h : x = 0
  · subst h; rfl
  · rw [decide_eq_true h]
    simpa using h
theorem FewL.mem {dg : Nat} {ts : List RP} (h : FewL dg ts) {u : RP} (hu : u ∈ ts) : FewT dg u := by
  induction ts with
  | nil => cases hu
  | cons t ts ih =>
    simp only [FewL] at h
    rcases List.mem_cons.1 hu with rfl | hu
    · exact h.1
    · exact ih h.2 hu
theorem FewT.at_ {dg : Nat} {t : RP} (h : FewT dg t) : t.ds.length ≤ dg ∧ t.ks.length ≤ 12 ∧ ∀ u ∈ t.ks, FewT dg u := by
  cases t
  simp only [FewT] at h
  exact ⟨h.1, h.2.1, fun u hu => h.2.2.mem hu⟩
theorem canB_eq (t : RP) : canB t = if t.lv = 0 then (if 0 < t.ks.length then false else canC t.ng t.ds)
      else if (decide (1 ≤ t.lv) && decide (t.lv ≤ 4) && decide (t.ds.length = 0) && !t.ng && decide (2 ≤ t.ks.length)) = false then false
      else if canL t.lv t.ks = false then false else lastT t.ks := by
  cases t
  rw [canB]
  rfl
set_option maxHeartbeats 4000000 in
set_option maxRecDepth 100000 in
theorem isCan_any (dg : Nat) (hdg : dg ≤ 1000) : ∀ (D : Nat) (t : RP), depT t ≤ D → FewT dg t → ∀ (A : Option Addr) (c : Nat) (K : Option Addr) (kc B : Nat) (w : World), B ≤ w.heap.size → RV w (· < B) t (rcell t A c K kc) →
    Calls Tryz.prog 62 #[rval t A c K kc] w fun e w' => e = .returned (.bool (canB t)) ∧ Below w.heap.size w w'
  | 0, t, hD, _, _, _, _, _, _, _, _, _ => by cases t; simp only [depT] at hD; omega
  | D + 1, t, hD, hf, A, c, K, kc, B, w, hB, h => by
    have IH := Lib.hid (isCan_any dg hdg D)
    have HR := Lib.hid (fun (W : World) (hW : Below w.heap.size w W) => h.below (hW.mono hB))
    have HD := Lib.hid (fun (u : RP) (hu : u ∈ t.ks) => show depT u ≤ D by have := dep_kid hu; omega)
    have HF := Lib.hid hf.at_.2.2
    have HB := Lib.hid hB
    have hbx := (Below.refl w.heap.size w).alloc (Nat.le_refl _) (.cells #[.int .i64 t.lv, .bool t.ng, .slice A t.ds.length c, .slice K t.ks.length kc] 32)
    have kbx := Blk.new w 32 #[.int .i64 t.lv, .bool t.ng, .slice A t.ds.length c, .slice K t.ks.length kc]
    have HBX := Lib.hid (fun (cs : Array Value) => (Below.refl w.heap.size w).alloc (Nat.le_refl _) (.cells cs 32)); have HKX := Lib.hid kbx
    have hdl := hf.at_.1; have hkl := hf.at_.2.1
    have hcb := canB_eq t
    unfold canC at hcb
    show Calls Tryz.prog 62 #[.agg #[.int .i64 t.lv, .bool t.ng, .slice A t.ds.length c, .slice K t.ks.length kc]] w _
    clear h hD hB hf
    generalize hnd : t.ds.length = nd at *
    generalize hnk : t.ks.length = nk at *
    have HND := Lib.hid hnd; have HNK := Lib.hid hnk
    clear hnd hnk
    by_cases h0 : t.lv = 0
    · rw [if_pos h0] at hcb
      have e0 : (t.lv == 0) = true := by simp [h0]
      clear h0
      by_cases h1 : 0 < nk
      · rw [if_pos h1] at hcb
        have i1 : (0 : Int) < (nk : Int) := by omega
        have HV := Lib.hid hcb
        clear hcb
        go_enter Tryz.func62, Tryz.ntmps62
        go_wp2_with fail
        go_ret
        exact ⟨by rw [HV.out]; rfl, HBX.out _⟩
      · rw [if_neg h1] at hcb
        have h1 : nk = 0 := by omega
        have i1 : (nk : Int) ≤ 0 := by omega
        have HK0 := Lib.hid h1
        clear h1
        by_cases h2 : nd = 0
        · rw [if_pos h2] at hcb
          have e2 : ((nd : Int) == 0) = true := by simp [h2]
          have i2 : (nd : Int) ≤ 0 := by omega
          clear h2
          have HV := Lib.hid hcb
          clear hcb
          go_enter Tryz.func62, Tryz.ntmps62
          go_wp2_with fail
          all_goals
            go_ret
            exact ⟨by rw [HV.out]; simp [*], HBX.out _⟩
        · rw [if_neg h2] at hcb
          obtain ⟨m, hm⟩ : ∃ m, nd = m + 1 := ⟨nd - 1, by omega⟩
          have hrv := HR.out _ hbx
          obtain ⟨b, o, rfl, hbB, c0⟩ := nat_at (ds := t.ds) hrv.natIn.rd (k := m) (by rw [HND.out, hm]; exact Nat.lt_succ_self m)
          have hmm : nd - 1 = m := by omega
          rw [hmm] at hcb
          have e2 : ((nd : Int) == 0) = false := eq_castR _ h2
          have i2 : (0 : Int) < (nd : Int) := by omega
          have i3 : (nd : Int) - 1 = (m : Int) := by omega
          have i4 : (0 : Int) ≤ (m : Int) := by omega
          have i5 : (m : Int) < (nd : Int) := by omega
          have hx := at_ltR hrv.node.2.1 m
          have HE := Lib.hid (ne_castR (t.ds.getD m 0))
          generalize t.ds.getD m 0 = x at *
          clear hm hmm h2 hrv
          have HV := Lib.hid hcb
          clear hcb
          go_enter Tryz.func62, Tryz.ntmps62
          go_wp2_with fail
          go_ret
          exact ⟨by rw [HV.out, ← HE.out]; rfl, HBX.out _⟩
    · rw [if_neg h0] at hcb
      have e0 : (t.lv == 0) = false := by simp [h0]
      have HL := Lib.hid (fun (W : World) => rlev_any t.lv W)
      have HZR := Lib.hid (fun (u : RP) (A : Option Addr) (c : Nat) (K : Option Addr) (kc : Nat) (W : World) => risZ_any u A c K kc W)
      clear h0
      by_cases hl : (decide (1 ≤ t.lv) && decide (t.lv ≤ 4)) = true
      · rw [hl] at HL hcb
        have hl1 : 1 ≤ t.lv ∧ t.lv ≤ 4 := by simpa using hl
        clear hl
        by_cases h2 : nd = 0
        · subst h2
          have x2 : decide ((0 : Nat) = 0) = true := rfl
          rw [x2] at hcb
          clear x2
          by_cases h3 : t.ng = true
          · rw [h3] at hcb
            have HV := Lib.hid hcb
            clear hcb
            go_enter Tryz.func62, Tryz.ntmps62
            go_wp2_with fail
            refine (HL.out _).mono ?_
            rintro e w2 ⟨rfl, rfl⟩
            go_wp2_with fail
            go_ret
            exact ⟨by rw [HV.out]; rfl, HBX.out _⟩
          · have h3 : t.ng = false := by simpa using h3
            rw [h3] at hcb
            by_cases h4 : 2 ≤ nk
            · have x4 : decide (2 ≤ nk) = true := decide_eq_true h4
              rw [x4, if_neg (by decide)] at hcb
              have i4 : (2 : Int) ≤ (nk : Int) := by omega
              clear x4
              have HV := Lib.hid hcb
              clear hcb
              go_enter Tryz.func62, Tryz.ntmps62
              go_wp2_with fail
              refine (HL.out _).mono ?_
              rintro e w2 ⟨rfl, rfl⟩
              go_wp2_with fail
              have HKG := Lib.hid (fun (cs : Array Value) => Blk.new w 32 cs)
              clear h3 HKX
              have HNL := Lib.hid (show nk ≤ 12 from hkl)
              go_loopg [6, 63] nk (fun gn _ ix wr => ∃ k : Nat, k ≤ nk ∧ gn = nk - k ∧ ix = .int .i64 k ∧ canL t.lv (t.ks.take k) = true ∧ Below w.heap.size w wr ∧ Blk wr w.heap.size 32 #[.int .i64 t.lv, .bool false, .slice A 0 c, .slice K nk kc])
              case atStart => exact ⟨0, Nat.zero_le _, rfl, rfl, by simp [canL], HBX.out _, HKG.out _⟩
              case round =>
                obtain ⟨k, hk, hgk, rfl, hcl, hbw, hkb⟩ := hrel
                have HG := Lib.hid hgk
                have HCL := Lib.hid hcl
                clear hgk hcl
                have c0 : wr.cell? ⟨w.heap.size, 0, none⟩ = some (.int .i64 t.lv) := hkb.cell 0
                have c3 : wr.cell? ⟨w.heap.size, 3, none⟩ = some (.slice K nk kc) := hkb.cell 3
                have hrv := HR.out wr hbw
                have hkc := hrv.node.2.2.2
                rw [HNK.out] at hkc
                have i5 : (nk : Int) ≤ (kc : Int) := by omega
                have lw := hkb.lt
                by_cases hlt : k < nk
                · obtain ⟨u, hu⟩ : ∃ u, t.ks[k]? = some u := ⟨_, List.getElem?_eq_getElem (by rw [HNK.out]; exact hlt)⟩
                  obtain ⟨b, o, A', c', K', kc', rfl, hbB, e0, e1, e2, e3, hku⟩ := hrv.kid hu
                  have hum := List.mem_of_getElem? hu
                  have HIH := Lib.hid (fun (W : World) (hW : Below wr.heap.size wr W) => IH.out u (HD.out u hum) (HF.out u hum) A' c' K' kc' wr.heap.size W hW.size ((hku.more (Nat.le_trans HB.out hbw.size)).below hW))
                  have HTK := Lib.hid (canL_take t.lv t.ks k u hu)
                  have HBAD := Lib.hid (canL_bad t.lv t.ks k u hu)
                  have i3 : (0 : Int) ≤ (k : Int) := by omega
                  have i4 : (k : Int) < (nk : Int) := by omega
                  have HBW := Lib.hid hbw; have HKB := Lib.hid hkb
                  clear hu hrv hku hkc hbw hkb hum
                  unfold rval at HIH
                  generalize u.ds.length = ud at *
                  generalize u.ks.length = uk at *
                  generalize u.ng = ug at *
                  have HBY := Lib.hid (fun (cs : Array Value) => (Below.refl wr.heap.size wr).alloc (Nat.le_refl _) (.cells cs 32))
                  by_cases hlv : t.lv ≤ u.lv
                  · have hb : (decide (u.lv < t.lv) && canB u) = false := by rw [decide_eq_false (by omega)]; rfl
                    have HF0 := Lib.hid (HBAD.out hb)
                    clear hb
                    go_wp2_with fail
                    go_ret
                    exact ⟨by rw [HV.out, HF0.out]; rfl, HBW.out.trans ((HBY.out _).mono HBW.out.size)⟩
                  · have hd : decide (u.lv < t.lv) = true := decide_eq_true (by omega)
                    have hlv : u.lv < t.lv := by omega
                    rw [hd, Bool.true_and] at HTK HBAD
                    clear hd
                    have HI1 := Lib.hid (HIH.out _ (HBY.out #[.int .i64 u.lv, .bool ug, .slice A' ud c', .slice K' uk kc']))
                    go_wp2_with fail
                    refine HI1.out.mono ?_
                    rintro e w2 ⟨rfl, hb2⟩
                    have hb := (HBY.out #[.int .i64 u.lv, .bool ug, .slice A' ud c', .slice K' uk kc']).trans (hb2.mono (HBY.out _).size)
                    have HB3 := Lib.hid (HBW.out.trans (hb.mono HBW.out.size)); have HK3 := Lib.hid (HKB.out.old hb)
                    clear hb hb2 HI1 HIH HBY HBW HKB
                    generalize hcb : canB u = cb at *
                    clear hcb
                    cases cb with
                    | false =>
                      have HF0 := Lib.hid (HBAD.out rfl)
                      go_wp2_with fail
                      go_ret
                      exact ⟨by rw [HV.out, HF0.out]; rfl, HB3.out⟩
                    | true =>
                      go_wp2_with fail
                      go_roundg (nk - (k + 1))
                      case rel => exact ⟨k + 1, by omega, rfl, by go_num, by rw [HTK.out, HCL.out]; rfl, HB3.out, HK3.out⟩
                      case measure => have := HG.out; omega
                · obtain rfl : k = nk := by omega
                  obtain ⟨m, hm⟩ : ∃ m, k = m + 1 := ⟨k - 1, by omega⟩
                  have hkm : (k : Int) - 1 = (m : Int) := by omega
                  obtain ⟨u, hu⟩ : ∃ u, t.ks[m]? = some u := ⟨_, List.getElem?_eq_getElem (by rw [HNK.out]; omega)⟩
                  obtain ⟨b, o, A', c', K', kc', rfl, hbB, e0, e1, e2, e3, hku⟩ := hrv.kid hu
                  have i3 : (0 : Int) ≤ (m : Int) := by omega
                  have i4 : (m : Int) < (k : Int) := by omega
                  have HLT := Lib.hid (show (if canL t.lv t.ks = false then false else lastT t.ks) = !isZT u by
                    have hc := HCL.out
                    rw [List.take_of_length_le (by rw [HNK.out]; exact Nat.le_refl _)] at hc
                    rw [hc, if_neg (by decide)]
                    unfold lastT
                    rw [HNK.out, hm, Nat.add_sub_cancel, hu])
                  have HZ1 := Lib.hid (HZR.out u A' c' K' kc' wr)
                  unfold rval at HZ1
                  have HBW := Lib.hid hbw
                  clear hu hrv hku hkc hbw hkb hm
                  generalize u.ds.length = ud at *
                  generalize u.ks.length = uk at *
                  generalize u.ng = ug at *
                  go_wp2_with fail
                  refine HZ1.out.mono ?_
                  rintro e w2 ⟨rfl, hb2⟩
                  go_wp2_with fail
                  go_ret
                  exact ⟨by rw [HV.out, HLT.out]; rfl, HBW.out.trans (hb2.mono HBW.out.size)⟩
            · have x4 : decide (2 ≤ nk) = false := decide_eq_false h4
              have i4 : (nk : Int) < 2 := by omega
              rw [x4] at hcb
              clear x4 h4
              have HV := Lib.hid hcb
              clear hcb
              go_enter Tryz.func62, Tryz.ntmps62
              go_wp2_with fail
              refine (HL.out _).mono ?_
              rintro e w2 ⟨rfl, rfl⟩
              go_wp2_with fail
              go_ret
              exact ⟨by rw [HV.out]; rfl, HBX.out _⟩
        · have x2 : decide (nd = 0) = false := decide_eq_false h2
          have i2 : (0 : Int) < (nd : Int) := by omega
          rw [x2] at hcb
          clear x2 h2
          have HV := Lib.hid hcb
          clear hcb
          go_enter Tryz.func62, Tryz.ntmps62
          go_wp2_with fail
          refine (HL.out _).mono ?_
          rintro e w2 ⟨rfl, rfl⟩
          go_wp2_with fail
          go_ret
          exact ⟨by rw [HV.out]; rfl, HBX.out _⟩
      · have hl : (decide (1 ≤ t.lv) && decide (t.lv ≤ 4)) = false := by simpa using hl
        rw [hl] at HL hcb
        clear hl
        have HV := Lib.hid hcb
        clear hcb
        go_enter Tryz.func62, Tryz.ntmps62
        go_wp2_with fail
        refine (HL.out _).mono ?_
        rintro e w2 ⟨rfl, rfl⟩
        go_wp2_with fail
        go_ret
        exact ⟨by rw [HV.out]; rfl, HBX.out _⟩
end Go.Proofs.YtkkliemgidhgmaaGreatDoor
