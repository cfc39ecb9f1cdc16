/- The walk of the law SolutionMatrix. -/
import Derived.IntWalk
import Derived.Test.YtkkliemgidhgmaaDoorQL
import Derived.Test.YtkkliemgidhgmaaDoorMH
import Derived.Test.YtkkliemgidhgmaaDoorME
import Derived.Test.YtkkliemgidhgmaaDoorMG
namespace Go.Proofs.YtkkliemgidhgmaaDoor
open Go.RowKit

noncomputable def resM (ps : List RP) (ts : List (List Int)) : MX := if matB ps.length ts = true then orM ps ts else zeroM
def resE (ps : List RP) (ts : List (List Int)) : Int := if matB ps.length ts = true then 0 else 1
theorem MatRes.uni {ps : List RP} {ts : List (List Int)} {w w' : World} {e : Ending} (h : MatRes ps ts w e w') :
    ∃ A c K kc L lc, e = .returned (.tuple #[.agg #[.int .i64 (resM ps ts).kd, .int .i64 (resM ps ts).rl, .int .i64 (resM ps ts).p.lv, .bool (resM ps ts).p.ng, .slice A (resM ps ts).p.ds.length c, .slice K (resM ps ts).p.ks.length kc, .slice L (resM ps ts).ks.length lc], .int .i64 (resE ps ts)]) ∧
      MV w' (· < w'.heap.size) (resM ps ts) (mcell (resM ps ts) A c K kc L lc) ∧ Below w.heap.size w w' := by
  obtain ⟨h1, h2⟩ := h
  by_cases hm : matB ps.length ts = true
  · rw [if_pos hm] at h1
    obtain ⟨L, lc, rfl, hv⟩ := h1
    have e1 : resM ps ts = orM ps ts := if_pos hm
    have e2 : resE ps ts = 0 := if_pos hm
    have e3 : (orM ps ts).ks.length = ts.length := by unfold orM; simp [MX.ks]
    rw [e1, e2]
    refine ⟨none, 0, none, 0, L, lc, ?_, hv, h2⟩
    rw [e3]
    rfl
  · rw [if_neg hm] at h1
    subst h1
    have e1 : resM ps ts = zeroM := if_neg hm
    have e2 : resE ps ts = 1 := if_neg hm
    rw [e1, e2]
    exact ⟨none, 0, none, 0, none, 0, rfl, MV.zero, h2⟩
theorem resM_ok {ps : List RP} {ts : List (List Int)} (hD : ∀ p ∈ ps, depT p ≤ 12 ∧ FewT 2 p ∧ cntT p ≤ 1000) (hd : ∀ p ∈ ps, DigT p) (hpl : ps.length ≤ 1000) (htl : ts.length ≤ 1000) : SmM 1001 (resM ps ts) ∧ depM (resM ps ts) ≤ 3 := by
  by_cases hm : matB ps.length ts = true
  · have e1 : resM ps ts = orM ps ts := if_pos hm
    rw [e1]
    exact ⟨orM_sm (dg := 2) (by omega) hD hd htl hm hpl, MX.depth⟩
  · have e1 : resM ps ts = zeroM := if_neg hm
    rw [e1]
    exact ⟨zeroM_sm, by unfold zeroM; simp [depM, depML]⟩
set_option maxHeartbeats 2000000 in
set_option maxRecDepth 100000 in
theorem lawMat (ps : List RP) (ts : List (List Int)) (K A : Option Addr) (kc c : Nat) (w : World) (h : RV w (· < w.heap.size) (.mk 0 false [] ps) (rcell (.mk 0 false [] ps) none 0 K kc)) (ht : ListsAt w w.heap.size A ts) (htab : TabOk w) :
    Calls Tryd.prog 3 #[.slice K ps.length kc, .slice A ts.length c] w fun e w' => e = .returned (.bool true) ∧ Below w.heap.size w w' := by
  have HAW := Lib.hid (fun (W : World) (hW : Below w.heap.size w W) => awake_any W (htab.on hW))
  have HFW := Lib.hid (fun (W : World) (hW : Below w.heap.size w W) => FewPs_any ps K kc w.heap.size W hW.size (h.below hW))
  have HB0 := Lib.hid (Below.refl w.heap.size w)
  cases hf : fewMB ps
  · rw [hf] at HFW
    generalize ps.length = np at *
    generalize ts.length = nt at *
    clear h ht hf htab
    go_enter Tryd.func3, Tryd.ntmps3
    go_wp2_with fail
    refine (HAW.out w HB0.out).mono ?_
    rintro e w1 ⟨rfl, hb1⟩
    have HB1 := Lib.hid hb1
    clear hb1
    go_wp2_with fail
    refine (HFW.out w1 HB1.out).mono ?_
    rintro e w2 ⟨rfl, hb2⟩
    have HB2 := Lib.hid (HB1.out.trans (hb2.mono HB1.out.size))
    clear hb2
    go_wp2_with fail
    refine (HAW.out w2 HB2.out).mono ?_
    rintro e w3 ⟨rfl, hb3⟩
    have HB3 := Lib.hid (HB2.out.trans (hb3.mono HB2.out.size))
    clear hb3
    go_wp2_with fail
    go_ret
    exact ⟨rfl, HB3.out⟩
  · rw [hf] at HFW
    by_cases h20 : 20 < ts.length
    · have i20 : (20 : Int) < (ts.length : Int) := by omega
      generalize ps.length = np at *
      generalize ts.length = nt at *
      clear h ht hf htab h20
      go_enter Tryd.func3, Tryd.ntmps3
      go_wp2_with fail
      refine (HAW.out w HB0.out).mono ?_
      rintro e w1 ⟨rfl, hb1⟩
      have HB1 := Lib.hid hb1
      clear hb1
      go_wp2_with fail
      refine (HFW.out w1 HB1.out).mono ?_
      rintro e w2 ⟨rfl, hb2⟩
      have HB2 := Lib.hid (HB1.out.trans (hb2.mono HB1.out.size))
      clear hb2
      go_wp2_with fail
      refine (HAW.out w2 HB2.out).mono ?_
      rintro e w3 ⟨rfl, hb3⟩
      have HB3 := Lib.hid (HB2.out.trans (hb3.mono HB2.out.size))
      clear hb3
      go_wp2_with fail
      go_ret
      exact ⟨rfl, HB3.out⟩
    · have i20 : (ts.length : Int) ≤ 20 := by omega
      obtain ⟨hpl, hcap⟩ := fewMB_caps hf
      have hD : ∀ p ∈ ps, depT p ≤ 12 ∧ FewT 2 p ∧ cntT p ≤ 1000 := fun p hp => by
        obtain ⟨h1, h2, h3⟩ := hcap p hp
        exact ⟨by omega, h2, by omega⟩
      have hdig : ∀ p ∈ ps, DigT p := by
        have := RV.digT _ _ h
        simp only [DigT] at this
        exact DigL.mem.1 this.2
      obtain ⟨hsm, hdm⟩ := resM_ok (ts := ts) hD hdig (by omega) (by omega)
      have HM6 := Lib.hid (fun (W : World) (hW : Below w.heap.size w W) => mat6_any 2 (by omega) ps ts hD (by omega) (by omega) K A kc c w.heap.size W hW.size (h.below hW) (ht.below hW))
      have HM7 := Lib.hid (fun (W : World) (hW : Below w.heap.size w W) => mat7_any 2 (by omega) ps ts hD (by omega) (by omega) K A kc c w.heap.size W hW.size (h.below hW) (ht.below hW))
      have HU := Lib.hid (fun (W : World) (e : Ending) (W' : World) (hr : MatRes ps ts W e W') => hr.uni)
      have HEQ := Lib.hid (Eql_any 1001 (by omega) 3 (resM ps ts) hdm hsm)
      generalize resM ps ts = X at *
      generalize resE ps ts = z at *
      generalize MatRes ps ts = MR at *
      generalize ps.length = np at *
      generalize ts.length = nt at *
      clear h ht hf htab h20 hcap hD hdig hsm hdm hpl
      go_enter Tryd.func3, Tryd.ntmps3
      go_wp2_with fail
      refine (HAW.out w HB0.out).mono ?_
      rintro e w1 ⟨rfl, hb1⟩
      have HB1 := Lib.hid hb1
      clear hb1
      go_wp2_with fail
      refine (HFW.out w1 HB1.out).mono ?_
      rintro e w2 ⟨rfl, hb2⟩
      have HB2 := Lib.hid (HB1.out.trans (hb2.mono HB1.out.size))
      clear hb2
      go_wp2_with fail
      refine (HM6.out w2 HB2.out).mono ?_
      intro e w3 hr
      obtain ⟨A1, c1, K1, kc1, L1, lc1, rfl, hv1, hb3⟩ := HU.out _ _ _ hr
      have HB3 := Lib.hid (HB2.out.trans (hb3.mono HB2.out.size))
      have HV1 := Lib.hid hv1
      clear hr hb3 hv1
      go_wp2_with fail
      have hal := (Below.refl w3.heap.size w3).alloc (Nat.le_refl _) (.cells #[.int .i64 X.kd, .int .i64 X.rl, .int .i64 X.p.lv, .bool X.p.ng, .slice A1 X.p.ds.length c1, .slice K1 X.p.ks.length kc1, .slice L1 X.ks.length lc1] 35)
      have hk1 := Blk.new w3 35 #[.int .i64 X.kd, .int .i64 X.rl, .int .i64 X.p.lv, .bool X.p.ng, .slice A1 X.p.ds.length c1, .slice K1 X.p.ks.length kc1, .slice L1 X.ks.length lc1]
      have HB4 := Lib.hid (HB3.out.trans (hal.mono HB3.out.size))
      have HV4 := Lib.hid (HV1.out.below hal)
      have HK1 := Lib.hid hk1
      have HZ4 := Lib.hid hal.size
      clear hal hk1 HV1 HB3
      generalize w3.alloc (.cells #[.int .i64 X.kd, .int .i64 X.rl, .int .i64 X.p.lv, .bool X.p.ng, .slice A1 X.p.ds.length c1, .slice K1 X.p.ks.length kc1, .slice L1 X.ks.length lc1] 35) = w4 at *
      generalize w3.heap.size = g1 at *
      refine (HM7.out w4 HB4.out).mono ?_
      intro e w5 hr
      obtain ⟨A2, c2, K2, kc2, L2, lc2, rfl, hv2, hb5⟩ := HU.out _ _ _ hr
      have HB5 := Lib.hid (HB4.out.trans (hb5.mono HB4.out.size))
      have HV5 := Lib.hid (HV4.out.below (hb5.mono HZ4.out))
      have HK5 := Lib.hid (HK1.out.old hb5)
      have HW5 := Lib.hid hv2
      clear hr hb5 hv2 HV4 HK1
      go_upto_region 5 with (fail)
      have hal := (Below.refl w5.heap.size w5).alloc (Nat.le_refl _) (.cells #[.int .i64 X.kd, .int .i64 X.rl, .int .i64 X.p.lv, .bool X.p.ng, .slice A2 X.p.ds.length c2, .slice K2 X.p.ks.length kc2, .slice L2 X.ks.length lc2] 35)
      have hk2 := Blk.new w5 35 #[.int .i64 X.kd, .int .i64 X.rl, .int .i64 X.p.lv, .bool X.p.ng, .slice A2 X.p.ds.length c2, .slice K2 X.p.ks.length kc2, .slice L2 X.ks.length lc2]
      have HB6 := Lib.hid (HB5.out.trans (hal.mono HB5.out.size))
      have hk1 := HK5.out.alloc (.cells #[.int .i64 X.kd, .int .i64 X.rl, .int .i64 X.p.lv, .bool X.p.ng, .slice A2 X.p.ds.length c2, .slice K2 X.p.ks.length kc2, .slice L2 X.ks.length lc2] 35)
      have HE := Lib.hid (HEQ.out A1 c1 K1 kc1 L1 lc1 A2 c2 K2 kc2 L2 lc2 w5.heap.size _ hal.size ((HV5.out.below (hal.mono (Nat.le_trans (Nat.le_of_lt HK5.out.lt) (Nat.le_refl _)))).more (Nat.le_of_lt HK5.out.lt)) (HW5.out.below hal))
      clear hal
      generalize w5.alloc (.cells #[.int .i64 X.kd, .int .i64 X.rl, .int .i64 X.p.lv, .bool X.p.ng, .slice A2 X.p.ds.length c2, .slice K2 X.p.ks.length kc2, .slice L2 X.ks.length lc2] 35) = w6 at *
      generalize w5.heap.size = g2 at *
      have a0 := hk1.cell 0; have a1 := hk1.cell 1; have a2 := hk1.cell 2; have a3 := hk1.cell 3; have a4 := hk1.cell 4; have a5 := hk1.cell 5; have a6 := hk1.cell 6
      have b0 := hk2.cell 0; have b1 := hk2.cell 1; have b2 := hk2.cell 2; have b3 := hk2.cell 3; have b4 := hk2.cell 4; have b5 := hk2.cell 5; have b6 := hk2.cell 6
      clear hk1 hk2
      go_wp2_with fail
      refine HE.out.mono ?_
      rintro e w7 ⟨rfl, hb7⟩
      have HB7 := Lib.hid (HB6.out.trans (hb7.mono HB6.out.size))
      clear hb7
      go_wp2_with fail
      go_ret
      exact ⟨rfl, HB7.out⟩
end Go.Proofs.YtkkliemgidhgmaaDoor
