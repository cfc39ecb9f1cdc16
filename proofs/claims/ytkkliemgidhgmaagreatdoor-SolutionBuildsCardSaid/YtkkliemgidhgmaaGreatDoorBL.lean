/- The walk of the law SolutionBuilds. -/
import Derived.IntWalk
import Derived.Test.YtkkliemgidhgmaaGreatDoorQL
import Derived.Test.YtkkliemgidhgmaaGreatDoorBB
import Derived.Test.YtkkliemgidhgmaaGreatDoorBC
import Derived.Test.YtkkliemgidhgmaaGreatDoorME
import Derived.Test.YtkkliemgidhgmaaGreatDoorMG
namespace Go.Proofs.YtkkliemgidhgmaaGreatDoor
open Go.RowKit

set_option maxHeartbeats 4000000 in
set_option maxRecDepth 100000 in
theorem lawBld (n : Nat) (hn : n < 256) (A : Option Addr) (c : Nat) (rows : List (List Int × Bool)) (w : World) (hr : RowsArg w A rows) (htab : TabOk w) :
    Calls Tryz.prog 3 #[.int .u8 (n : Int), .slice A rows.length c] w fun e w' => e = .returned (.bool true) ∧ Below w.heap.size w w' := by
  have HAW := Lib.hid (fun (W : World) (hW : Below w.heap.size w W) => awake_any W (htab.on hW))
  have HTAB := Lib.hid (fun (W : World) (hW : Below w.heap.size w W) => htab.on hW)
  have HB0 := Lib.hid (Below.refl w.heap.size w)
  have HFW := Lib.hid (fun (W : World) (hW : Below w.heap.size w W) => Few_any A rows.length c w.heap.size rows W (hr.at_.below hW) rfl hr.len)
  cases hf : fewB rows
  · rw [hf] at HFW
    clear hr hf htab HTAB hn
    go_enter Tryz.func3, Tryz.ntmps3
    go_wp2_with fail
    refine (HAW.out w HB0.out).mono ?_
    rintro e w1 ⟨rfl, hb1⟩
    have HB1 := Lib.hid hb1
    clear hb1
    go_wp2_with fail
    refine (HFW.out w1 HB1.out).mono ?_
    rintro e w2 ⟨rfl, rfl⟩
    go_wp2_with fail
    refine (HAW.out w1 HB1.out).mono ?_
    rintro e w3 ⟨rfl, hb3⟩
    have HB3 := Lib.hid (HB1.out.trans (hb3.mono HB1.out.size))
    clear hb3
    go_wp2_with fail
    go_ret
    exact ⟨rfl, HB3.out⟩
  · rw [hf] at HFW
    have HR := Lib.hid (fun (W : World) (hW : Below w.heap.size w W) => hr.few hf hW)
    have hmod : (n : Int) % 5 = ((n % 5 : Nat) : Int) := by omega
    have hk4 : n % 5 ≤ 4 := by omega
    have HVAR := Lib.hid (fun (W : World) => variables_any (n % 5) hk4 W)
    have HBLD := Lib.hid (fun (W : World) (hW : Below w.heap.size w W) (K : Option Addr) (kc : Nat) hrv => Build_any (n % 5) hk4 K A kc c W.heap.size rows W (Nat.le_refl _) hrv ⟨(hr.few hf hW).at_.more hW.size, (hr.few hf hW).few, (hr.few hf hW).six, (hr.few hf hW).i64⟩ (htab.on hW))
    have HERR := Lib.hid (fun (W : World) (hW : Below w.heap.size w W) => Error_any ((n % 5 : Nat) : Int) A rows.length c w.heap.size rows W (hr.few hf hW).at_ rfl (hr.few hf hW).few (hr.few hf hW).six)
    have HMOD := Lib.hid hmod
    have HK4 := Lib.hid hk4
    clear hr hf htab hmod hk4
    go_enter Tryz.func3, Tryz.ntmps3
    go_wp2_with fail
    refine (HAW.out w HB0.out).mono ?_
    rintro e w1 ⟨rfl, hb1⟩
    have HB1 := Lib.hid hb1
    clear hb1
    go_wp2_with fail
    refine (HFW.out w1 HB1.out).mono ?_
    rintro e w2 ⟨rfl, rfl⟩
    go_wp2_with fail
    rw [HMOD.out]
    clear HMOD
    generalize n % 5 = q at *
    refine (HVAR.out _).mono ?_
    rintro e w2 ⟨K1, kc1, rfl, hrv, hb2⟩
    have HB2 := Lib.hid (HB1.out.trans (hb2.mono HB1.out.size))
    have HBD := Lib.hid (HBLD.out w2 HB2.out K1 kc1 hrv)
    clear hrv hb2 HBLD
    go_wp2_with fail
    refine HBD.out.mono ?_
    rintro e w3 ⟨X, A1, c1, K2, kc2, L1, lc1, rfl, hmv, hne, hok, hb3⟩
    have HB3 := Lib.hid (HB2.out.trans (hb3.mono HB2.out.size))
    have HMV := Lib.hid hmv
    have HNE := Lib.hid hne
    have HOK := Lib.hid hok
    clear hmv hne hok hb3 HBD
    go_wp2_with fail
    have hal := (Below.refl w3.heap.size w3).alloc (Nat.le_refl _) (.cells #[.int .i64 X.kd, .int .i64 X.rl, .int .i64 X.p.lv, .bool X.p.ng, .slice A1 X.p.ds.length c1, .slice K2 X.p.ks.length kc2, .slice L1 X.ks.length lc1] 35)
    have hk1 := Blk.new w3 35 #[.int .i64 X.kd, .int .i64 X.rl, .int .i64 X.p.lv, .bool X.p.ng, .slice A1 X.p.ds.length c1, .slice K2 X.p.ks.length kc2, .slice L1 X.ks.length lc1]
    have hb4 := HB3.out.trans (hal.mono HB3.out.size)
    have hv4 := HMV.out.below hal
    have hz4 := hal.size
    clear hal HMV HB3
    generalize w3.alloc (.cells #[.int .i64 X.kd, .int .i64 X.rl, .int .i64 X.p.lv, .bool X.p.ng, .slice A1 X.p.ds.length c1, .slice K2 X.p.ks.length kc2, .slice L1 X.ks.length lc1] 35) = w4 at *
    generalize w3.heap.size = g1 at *
    refine (HERR.out w4 hb4).mono ?_
    rintro e w5 ⟨rfl, hd5⟩
    have hd5b := hd5.below w4.heap.size
    have HB5 := Lib.hid (hb4.trans (hd5b.mono hb4.size))
    have hv5 := hv4.below (hd5b.mono hz4)
    have hk5 := hk1.old hd5b
    have hg1 := hk5.lt
    clear hd5 hd5b hb4 hv4 hz4 hk1 HERR
    generalize errOf (q : Int) rows = er at *
    by_cases he : er = 0
    · subst he
      obtain ⟨ts, rfl, hvp, hc⟩ := HOK.out rfl
      have HV5 := Lib.hid (hv5.more (Nat.le_of_lt hg1))
      have hk5 : Blk w5 g1 35 #[.int .i64 4, .int .i64 0, .int .i64 0, .bool false, .slice A1 0 c1, .slice K2 0 kc2, .slice L1 ts.length lc1] := by
        have := hk5
        rw [orM_len] at this
        exact this
      have HK5 := Lib.hid hk5
      have HVP := Lib.hid hvp; have HCO := Lib.hid hc
      have a0 := hk5.cell 0; have a1 := hk5.cell 1; have a2 := hk5.cell 2; have a3 := hk5.cell 3; have a4 := hk5.cell 4; have a5 := hk5.cell 5; have a6 := hk5.cell 6
      have h90 := (HR.out w5 HB5.out).few
      have HCNT := Lib.hid (show ts.length ≤ 90 from Nat.le_trans hc.count h90)
      have HTM := Lib.hid (terms_any q HK4.out ts HCNT.out (cover_terms hc) A1 c1 K2 kc2 L1 lc1 w5.heap.size w5 (Nat.le_refl _) HV5.out)
      clear hk5 hvp hc hv5 HOK HNE h90
      go_wp2_with fail
      refine HTM.out.mono ?_
      rintro e w6 ⟨A2, c2, rfl, hl6, hb6⟩
      have HB6 := Lib.hid (HB5.out.trans (hb6.mono HB5.out.size))
      have HK6 := Lib.hid (HK5.out.old hb6)
      have HV6 := Lib.hid (HV5.out.below hb6)
      have HZ6 := Lib.hid hb6.size
      have HL6 := Lib.hid hl6
      clear hl6 hb6 a0 a1 a2 a3 a4 a5 a6 HV5 HK5 HTM
      go_wp2_with fail
      refine (HVAR.out _).mono ?_
      rintro e w7 ⟨K3, kc3, rfl, hrv7, hb7⟩
      have HB7 := Lib.hid (HB6.out.trans (hb7.mono HB6.out.size))
      have HK7 := Lib.hid (HK6.out.old hb7)
      have HV7 := Lib.hid (HV6.out.below (hb7.mono HZ6.out))
      have HZ7 := Lib.hid (Nat.le_trans HZ6.out hb7.size)
      have HL7 := Lib.hid ((HL6.out.below hb7).more hb7.size)
      have hm7 := mat7_any 2 (by omega) (varsT q) ts vars_few (by rw [varsT_len]; have := HK4.out; omega) (by have := HCNT.out; omega) K3 A2 kc3 c2 w7.heap.size w7 (Nat.le_refl _) hrv7 HL7.out
      rw [varsT_len] at hm7
      have HM7 := Lib.hid hm7
      clear hrv7 hb7 hm7 HK6 HV6 HL6 HZ6
      go_wp2_with fail
      refine HM7.out.mono ?_
      intro e w8 hr8
      unfold MatRes at hr8
      rw [varsT_len, if_pos (cover_terms HCO.out).mat] at hr8
      obtain ⟨⟨L2, lc2, rfl, hmv8⟩, hb8⟩ := hr8
      have HB8 := Lib.hid (HB7.out.trans (hb8.mono HB7.out.size))
      have HK8 := Lib.hid (HK7.out.old hb8)
      have HV8 := Lib.hid (HV7.out.below (hb8.mono HZ7.out))
      have HZ8 := Lib.hid (Nat.le_trans HZ7.out hb8.size)
      have HL8 := Lib.hid ((HL7.out.below hb8).more hb8.size)
      have HW8 := Lib.hid (MV.mono (S' := (· < w8.heap.size)) (fun b hb => hb.lt) _ _ hmv8)
      clear hmv8 hb8 HM7 HK7 HV7 HZ7 HL7
      go_upto_region 10 with (fail)
      have hal := (Below.refl w8.heap.size w8).alloc (Nat.le_refl _) (.cells #[.int .i64 4, .int .i64 0, .int .i64 0, .bool false, .slice none 0 0, .slice none 0 0, .slice L2 ts.length lc2] 35)
      have hk2 := Blk.new w8 35 #[.int .i64 4, .int .i64 0, .int .i64 0, .bool false, .slice none 0 0, .slice none 0 0, .slice L2 ts.length lc2]
      have hk1 := HK8.out.alloc (.cells #[.int .i64 4, .int .i64 0, .int .i64 0, .bool false, .slice none 0 0, .slice none 0 0, .slice L2 ts.length lc2] 35)
      have hb9 := HB8.out.trans (hal.mono HB8.out.size)
      have HL9 := Lib.hid ((HL8.out.below hal).more hal.size)
      have HE := Lib.hid (Eql_any 1001 (by omega) 3 (orM (varsT q) ts) MX.depth (orM_sm (dg := 2) (by omega) vars_few vars_dig (by have := HCNT.out; omega) (by rw [varsT_len]; exact (cover_terms HCO.out).mat) (by rw [varsT_len]; have := HK4.out; omega)) A1 c1 K2 kc2 L1 lc1 none 0 none 0 L2 lc2 w8.heap.size _ hal.size ((HV8.out.below (hal.mono HZ8.out)).more HZ8.out) (HW8.out.below hal))
      rw [orM_len] at HE
      clear hal HK8 HV8 HW8 HL8 HZ8 HB8
      generalize w8.alloc (.cells #[.int .i64 4, .int .i64 0, .int .i64 0, .bool false, .slice none 0 0, .slice none 0 0, .slice L2 ts.length lc2] 35) = w9 at *
      generalize w8.heap.size = g2 at *
      have HB9 := Lib.hid hb9
      have hri := HR.out w9 hb9
      have hq : ∀ k, k < ts.length → (ts.getD k []).length ≤ 1000 := fun k hk => by rw [(HCO.out.term _ (mem_getD hk)).1]; have := HK4.out; omega
      have hz9 := hb9.size
      have HCOV := Lib.hid (fun (W : World) (hW : Below w9.heap.size w9 W) => (covers_of HVP.out HCO.out) ▸ Covers_any A2 A ts.length rows.length c2 c w9.heap.size ts rows W hW.size (HL9.out.below hW) ((hri.at_.more hz9).below hW) rfl rfl (by have := HCNT.out; omega) (by have := hri.few; omega) hq hri.six (fun k hk => (HVP.out k hk).2))
      have HPRI := Lib.hid (fun (W : World) (hW : Below w9.heap.size w9 W) => (prime_of HVP.out HCO.out) ▸ Prime_any A2 A ts.length rows.length c2 c w9.heap.size ts rows W hW.size (HL9.out.below hW) ((hri.at_.more hz9).below hW) rfl rfl (by have := HCNT.out; omega) (by have := hri.few; omega) hq hri.six (fun k hk => (HVP.out k hk).2))
      have HNEE := Lib.hid (fun (W : World) (hW : Below w9.heap.size w9 W) => (need_of HVP.out HCO.out) ▸ Needed_any A2 A ts.length rows.length c2 c w9.heap.size ts rows W hW.size (HL9.out.below hW) ((hri.at_.more hz9).below hW) rfl rfl (by have := HCNT.out; omega) (by have := hri.few; omega) hq hri.six (fun k hk => (HVP.out k hk).2))
      have a0 := hk1.cell 0; have a1 := hk1.cell 1; have a2 := hk1.cell 2; have a3 := hk1.cell 3; have a4 := hk1.cell 4; have a5 := hk1.cell 5; have a6 := hk1.cell 6
      have b0 := hk2.cell 0; have b1 := hk2.cell 1; have b2 := hk2.cell 2; have b3 := hk2.cell 3; have b4 := hk2.cell 4; have b5 := hk2.cell 5; have b6 := hk2.cell 6
      clear hk1 hk2 hri hq hz9 hb9 HL9
      go_wp2_with fail
      refine HE.out.mono ?_
      rintro e x1 ⟨rfl, hx1⟩
      have HX1 := Lib.hid hx1
      clear hx1 HE a0 a1 a2 a3 a4 a5 a6 b0 b1 b2 b3 b4 b5 b6
      go_wp2_with fail
      refine (HCOV.out x1 HX1.out).mono ?_
      rintro e x2 ⟨rfl, hx2⟩
      have HX2 := Lib.hid (HX1.out.trans (hx2.mono HX1.out.size))
      clear hx2
      go_wp2_with fail
      refine (HPRI.out x2 HX2.out).mono ?_
      rintro e x3 ⟨rfl, hx3⟩
      have HX3 := Lib.hid (HX2.out.trans (hx3.mono HX2.out.size))
      clear hx3
      go_wp2_with fail
      refine (HNEE.out x3 HX3.out).mono ?_
      rintro e x4 ⟨rfl, hx4⟩
      have HX4 := Lib.hid (HX3.out.trans (hx4.mono HX3.out.size))
      clear hx4
      go_wp2_with fail
      go_ret
      exact ⟨rfl, HB9.out.trans (HX4.out.mono HB9.out.size)⟩
    · obtain rfl := HNE.out he
      have hne0 : (er != 0) = true := by simpa using he
      have hv6 := hv5.more (Nat.le_of_lt hg1)
      have hk5 : Blk w5 g1 35 #[.int .i64 0, .int .i64 0, .int .i64 0, .bool false, .slice A1 0 c1, .slice K2 0 kc2, .slice L1 0 lc1] := hk5
      have a0 := hk5.cell 0; have a1 := hk5.cell 1; have a2 := hk5.cell 2; have a3 := hk5.cell 3; have a4 := hk5.cell 4; have a5 := hk5.cell 5; have a6 := hk5.cell 6
      have HE := Lib.hid (Eql_any 1001 (by omega) 3 zeroM (by unfold zeroM; simp [depM, depML]) zeroM_sm A1 c1 K2 kc2 L1 lc1 none 0 none 0 none 0 w5.heap.size w5 (Nat.le_refl _) hv6 MV.zero)
      clear hk5 hv5 hv6 HOK HNE
      go_wp2_with fail
      refine HE.out.mono ?_
      rintro e w6 ⟨rfl, hb6⟩
      have HB6 := Lib.hid (HB5.out.trans (hb6.mono HB5.out.size))
      clear hb6
      go_wp2_with fail
      go_ret
      exact ⟨rfl, HB6.out⟩
end Go.Proofs.YtkkliemgidhgmaaGreatDoor
