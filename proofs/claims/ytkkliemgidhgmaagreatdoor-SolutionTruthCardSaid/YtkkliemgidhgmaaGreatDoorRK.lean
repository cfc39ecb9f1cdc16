/- Contract of recpoly.collect. -/
import Derived.IntWalk
import Derived.Deep.DeepCutAuto
import Derived.Test.YtkkliemgidhgmaaGreatDoorRJ
import Derived.Test.YtkkliemgidhgmaaGreatDoorG6
namespace Go.Proofs.YtkkliemgidhgmaaGreatDoor
open Go.RowKit

theorem cells_oneR (x : PT) : ∀ v ∈ x.cells, v.oneCell' = true := by
  intro u hp
  simp [PT.cells] at hp
  rcases hp with rfl | rfl | rfl | rfl | rfl | rfl <;> rfl
set_option maxHeartbeats 4000000 in
set_option maxRecDepth 100000 in
theorem collect_any (dg : Nat) (hdg : dg ≤ 1000) : ∀ (D : Nat) (t : RP), depT t ≤ D → FewT dg t → ∀ (A : Option Addr) (c : Nat) (K : Option Addr) (kc B base : Nat) (ps : List PT) (v : Value) (m : Mo) (X : Int) (w : World), B ≤ base → base ≤ w.heap.size → RV w (· < B) t (rcell t A c K kc) →
      w.ownsRow base 118 6 v ps.length (ps.flatMap PT.cells) → ps.length + cntT t ≤ 1000 → ExpB m X → X + 12 * D ≤ 1000000 →
    Calls Tryz.prog 65 #[v, rval t A c K kc, .agg (moV m)] w (ColRes t m v ps base B w)
  | 0, t, hD, _, _, _, _, _, _, _, _, _, _, _, _, _, _, _, _, _, _, _ => by cases t; simp only [depT] at hD; omega
  | D + 1, t, hD, hf, A, c, K, kc, B, base, ps, v, m, X, w, hB, hbase, h, hown, hcnt, hm, hX => by
    have IH := Lib.hid (collect_any dg hdg D)
    have HD := Lib.hid (fun (u : RP) (hu : u ∈ t.ks) => show depT u ≤ D by have := dep_kid hu; omega)
    have HF := Lib.hid hf.at_.2.2
    have HR := Lib.hid (fun (W : World) (hW : Below B w W) => h.below hW)
    have HOW := Lib.hid hown
    have HX := Lib.hid (fun (cs ds : Array Value) => boxes2 w 32 109 cs ds)
    have hdl := hf.at_.1; have hkl := hf.at_.2.1
    have HM := Lib.hid hm
    have HCQ := Lib.hid (colT_eq t m)
    have HCN := Lib.hid (cntT_eq t ▸ hcnt)
    show Calls Tryz.prog 65 #[v, .agg #[.int .i64 t.lv, .bool t.ng, .slice A t.ds.length c, .slice K t.ks.length kc], .agg #[.int .i64 m.1, .int .i64 m.2.1, .int .i64 m.2.2.1, .int .i64 m.2.2.2]] w _
    have HNI := Lib.hid (h.natIn)
    clear hD hf h hown hcnt hm
    generalize hnd : t.ds.length = nd at *
    generalize hnk : t.ks.length = nk at *
    have HND := Lib.hid hnd; have HNK := Lib.hid hnk
    clear hnd hnk
    obtain ⟨i0, hi0, hz0, hz1, hz2⟩ := info_parts Tryz.infoTerm
    by_cases h0 : t.lv ≤ 0
    · have HC0 := Lib.hid (show colT t m = [((t.ng, t.ds), m)] by rw [HCQ.out, if_pos h0])
      obtain ⟨hb0, _, _, hs⟩ := HX.out #[.int .i64 t.lv, .bool t.ng, .slice A nd c, .slice K nk kc] #[.int .i64 m.1, .int .i64 m.2.1, .int .i64 m.2.2.1, .int .i64 m.2.2.2]
      have HSZ := Lib.hid hs
      have hb1 := hb0.alloc hb0.size (.cells #[.bool t.ng, .slice A nd c, .int .i64 m.1, .int .i64 m.2.1, .int .i64 m.2.2.1, .int .i64 m.2.2.2] 118)
      have hst := ColI.start (B := B) HOW.out
      have hcl := hst.old hb1 (Nat.le_trans hB hbase)
      have hro := hcl.own
      rw [List.append_nil] at hro
      have hrd := Reads.six_new ((w.alloc (.cells #[.int .i64 t.lv, .bool t.ng, .slice A nd c, .slice K nk kc] 32)).alloc (.cells #[.int .i64 m.1, .int .i64 m.2.1, .int .i64 m.2.2.1, .int .i64 m.2.2.2] 109)) [.bool t.ng, .slice A nd c, .int .i64 m.1, .int .i64 m.2.1, .int .i64 m.2.2.1, .int .i64 m.2.2.2] rfl 118
      rw [hs] at hrd
      have HONE := Lib.hid (show ∀ u ∈ ([.bool t.ng, .slice A nd c, .int .i64 m.1, .int .i64 m.2.1, .int .i64 m.2.2.1, .int .i64 m.2.2.2] : List Value), u.oneCell' = true by
        intro u hu
        simp at hu
        rcases hu with rfl | rfl | rfl | rfl | rfl | rfl <;> rfl)
      have HLN := Lib.hid (show ps.length ≤ 1000 by have := HCN.out; omega)
      have HRO := Lib.hid hro; have HRD := Lib.hid hrd; have HCL := Lib.hid hcl; have HB1 := Lib.hid hb1
      clear hro hrd hcl hst hb1 hb0 hs HCQ
      go_enter Tryz.func65, Tryz.ntmps65
      go_wp2_with (first | (at_builtin; refine wpList_append_any _ rfl (.tmp 14) (.tmp 19) 105 rfl base 118 i0 _ 6 64 Tryz.underlying105 hi0 hz0 hz1 hz2 rfl (by decide) v ps.length _ rfl HRO.out (w.heap.size + 2 + 1) (some ⟨w.heap.size + 2, 0, none⟩) 1 1 [.bool t.ng, .slice A nd c, .int .i64 m.1, .int .i64 m.2.1, .int .i64 m.2.2.1, .int .i64 m.2.2.2] rfl HRD.out HONE.out (by have := HLN.out; unfold maxLen; omega) (by have := HLN.out; omega) (Nat.le_trans hbase HB1.out.size) ?_; intro v' w15 hown4 hg4 hat4))
      go_ret
      obtain rfl := HND.out
      refine ⟨v', [⟨t.ng, t.ds, A, c, m⟩], rfl, HCL.out.snoc (q := ⟨t.ng, t.ds, A, c, m⟩) ?_ hg4 hat4 (HNI.out.below (HB1.out.mono (Nat.le_trans hB hbase))) hB hbase, by rw [HC0.out]; rfl⟩
      rw [List.append_nil]
      exact hown4
    · by_cases h4 : 4 < t.lv
      · have HC0 := Lib.hid (show colT t m = [] by rw [HCQ.out, if_neg h0, if_pos h4])
        have h0 : 0 < t.lv := by omega
        go_enter Tryz.func65, Tryz.ntmps65
        go_wp2_with fail
        go_ret
        obtain ⟨hb0, _, _, _⟩ := HX.out #[.int .i64 t.lv, .bool t.ng, .slice A nd c, .slice K nk kc] #[.int .i64 m.1, .int .i64 m.2.1, .int .i64 m.2.2.1, .int .i64 m.2.2.2]
        exact ⟨v, [], rfl, (ColI.start HOW.out).old hb0 (Nat.le_trans hB hbase), by rw [HC0.out]; rfl⟩
      · obtain ⟨i, hi4, hi⟩ : ∃ i : Nat, i < 4 ∧ t.lv = (i : Int) + 1 := ⟨t.lv.toNat - 1, by omega, by omega⟩
        have hli : t.lv - 1 = (i : Int) := by omega
        have HC0 := Lib.hid (show colT t m = colL i t.ks m (expE m i) by
          rw [HCQ.out, if_neg h0, if_neg h4, show t.lv.toNat - 1 = i by omega])
        have heb := HM.out.at_ i
        have HX12 := Lib.hid (show X + 12 + 12 * (D : Int) ≤ 1000000 by omega)
        have hX0 : 0 ≤ X := by omega
        have hX1 : X ≤ 1000000 := by omega
        obtain ⟨hb0, k0, k1, hs⟩ := HX.out #[.int .i64 t.lv, .bool t.ng, .slice A nd c, .slice K nk kc] #[.int .i64 m.1, .int .i64 m.2.1, .int .i64 m.2.2.1, .int .i64 m.2.2.2]
        have c5 := (k1.cell i).trans (moV_atE m i hi4)
        generalize he0 : expE m i = e0 at *
        have HE0 := Lib.hid he0
        clear he0
        have g0 : 0 < t.lv := by omega
        have g4 : t.lv ≤ 4 := by omega
        have j0 : (0 : Int) ≤ (i : Int) := by omega
        have j4 : (i : Int) < 4 := by omega
        have HST := Lib.hid ((ColI.start (B := B) HOW.out).old hb0 (Nat.le_trans hB hbase))
        have HK0 := Lib.hid k0; have HK1 := Lib.hid k1; have HSZ := Lib.hid hs
        clear h0 h4 hi HCQ hb0 k0 k1 hs HNI hX
        go_enter Tryz.func65, Tryz.ntmps65
        go_wp2_with fail
        generalize (w.alloc (.cells #[.int .i64 t.lv, .bool t.ng, .slice A nd c, .slice K nk kc] 32)).alloc (.cells #[.int .i64 m.1, .int .i64 m.2.1, .int .i64 m.2.2.1, .int .i64 m.2.2.2] 109) = W at *
        clear HX c5
        go_loopg [0, 8, 9, 34] nk (fun gn tv _ _ ix wr => ∃ (k : Nat) (qs : List PT) (mk : Mo), k ≤ nk ∧ gn = nk - k ∧ ix = .int .i64 k ∧ ColI w v ps base B wr tv qs ∧ qs.map PT.key = colL i (t.ks.take k) m e0 ∧ Blk wr w.heap.size 32 #[.int .i64 t.lv, .bool t.ng, .slice A nd c, .slice K nk kc] ∧ Blk wr (w.heap.size + 1) 109 (moV mk) ∧ ∀ y, setE mk i y = setE m i y)
        case atStart => exact ⟨0, [], m, Nat.zero_le _, rfl, rfl, HST.out, by simp [colL], HK0.out, HK1.out, fun _ => rfl⟩
        case round =>
          clear HST HK0 HK1
          obtain ⟨k, qs, mk, hk, hgk, rfl, hcl, hkey, hpar, hmon, hmk⟩ := hrel
          have HG := Lib.hid hgk
          clear hgk
          have hbw := hcl.below HOW.out hB hbase
          have hrv := HR.out wr hbw
          have hkc := hrv.node.2.2.2
          rw [HNK.out] at hkc
          have i5 : (nk : Int) ≤ (kc : Int) := by omega
          have c0 : wr.cell? ⟨w.heap.size, 0, none⟩ = some (.int .i64 t.lv) := hpar.cell 0
          have c3 : wr.cell? ⟨w.heap.size, 3, none⟩ = some (.slice K nk kc) := hpar.cell 3
          by_cases hlt : k < nk
          · obtain ⟨u, hu⟩ : ∃ u, t.ks[k]? = some u := ⟨_, List.getElem?_eq_getElem (by rw [HNK.out]; exact hlt)⟩
            obtain ⟨b, o, A', c', K', kc', rfl, hbB, e0', e1, e2, e3, hku⟩ := hrv.kid hu
            have hum := List.mem_of_getElem? hu
            have hkcl := colL_take (i := i) hu m e0
            have hke : IntKind.i64.wrap (e0 + (k : Int)) = e0 + (k : Int) := IntWalk.i64_in _ (by omega)
            have hm2 := HM.out.set i (x := e0 + (k : Int)) (Y := X + 12) (by omega) (by omega) (by omega)
            have hqn : qs.length ≤ cntL (t.ks.take k) := by
              have := congrArg List.length hkey
              rw [List.length_map] at this
              rw [this]
              exact colL_len _ _ _ _
            have hcn : (ps ++ qs).length + cntT u ≤ 1000 := by
              have h1 := cntL_take hu
              have h2 := HCN.out
              rw [List.length_append]
              omega
            have lw := hmon.lt; have lw0 := hpar.lt
            have c5 := (hmon.cell i).trans (moV_atE mk i hi4)
            have f5 := hmon.frozen i
            generalize expE mk i = ek at *
            have hBw : B ≤ w.heap.size := Nat.le_trans hB hbase
            have hcl1 := hcl.set hmon (by decide) (by omega) (by omega) i (.int .i64 (e0 + (k : Int)))
            have hmon1 := hmon.set_ i (.int .i64 (e0 + (k : Int)))
            rw [moV_set mk i hi4, hmk] at hmon1
            have hpar1 := hpar.far (p := ⟨w.heap.size + 1, i, none⟩) (show w.heap.size ≠ w.heap.size + 1 by omega) (.int .i64 (e0 + (k : Int)))
            have hsz : (wr.setCell ⟨w.heap.size + 1, i, none⟩ (.int .i64 (e0 + (k : Int)))).heap.size = wr.heap.size := by simp
            have hba := (Below.refl (wr.setCell ⟨w.heap.size + 1, i, none⟩ (.int .i64 (e0 + (k : Int)))).heap.size (wr.setCell ⟨w.heap.size + 1, i, none⟩ (.int .i64 (e0 + (k : Int))))).alloc (Nat.le_refl _) (.cells #[.int .i64 u.lv, .bool u.ng, .slice A' u.ds.length c', .slice K' u.ks.length kc'] 32)
            have hbB2 : Below B wr ((wr.setCell ⟨w.heap.size + 1, i, none⟩ (.int .i64 (e0 + (k : Int)))).alloc (.cells #[.int .i64 u.lv, .bool u.ng, .slice A' u.ds.length c', .slice K' u.ks.length kc'] 32)) :=
              ((Below.refl B wr).setCell (p := ⟨w.heap.size + 1, i, none⟩) (show B ≤ w.heap.size + 1 by omega) (.int .i64 (e0 + (k : Int)))).trans (hba.mono (by rw [hsz]; exact Nat.le_trans hBw hcl.gro.size))
            have kx2 := Blk.new (wr.setCell ⟨w.heap.size + 1, i, none⟩ (.int .i64 (e0 + (k : Int)))) 32 #[.int .i64 u.lv, .bool u.ng, .slice A' u.ds.length c', .slice K' u.ks.length kc']
            rw [hsz] at kx2
            have hcl2 := hcl1.old hba (by rw [hsz]; exact Nat.le_trans hBw hcl.gro.size)
            have hmon2 := hmon1.old hba
            have hpar2 := hpar1.old hba
            have HIH := Lib.hid (IH.out u (HD.out u hum) (HF.out u hum) A' c' K' kc' B base (ps ++ qs) u0 (setE m i (e0 + (k : Int))) (X + 12) _ hB (Nat.le_trans hbase hcl2.gro.size) (hku.below hbB2) hcl2.own hcn hm2 HX12.out)
            unfold ColRes rval at HIH
            have HKX := Lib.hid kx2; have HCL2 := Lib.hid hcl2; have HMON2 := Lib.hid hmon2; have HPAR2 := Lib.hid hpar2
            have HKEY := Lib.hid hkey; have HKCL := Lib.hid hkcl; have HMK := Lib.hid (setE_setE m (e0 + (k : Int)))
            have i3 : (0 : Int) ≤ (k : Int) := by omega
            have i4 : (k : Int) < (nk : Int) := by omega
            have y0 : ((wr.setCell ⟨w.heap.size + 1, i, none⟩ (.int .i64 (e0 + (k : Int)))).alloc (.cells #[.int .i64 u.lv, .bool u.ng, .slice A' u.ds.length c', .slice K' u.ks.length kc'] 32)).cell? ⟨wr.heap.size, 0, none⟩ = some (.int .i64 u.lv) := kx2.cell 0
            have y1 : ((wr.setCell ⟨w.heap.size + 1, i, none⟩ (.int .i64 (e0 + (k : Int)))).alloc (.cells #[.int .i64 u.lv, .bool u.ng, .slice A' u.ds.length c', .slice K' u.ks.length kc'] 32)).cell? ⟨wr.heap.size, 1, none⟩ = some (.bool u.ng) := kx2.cell 1
            have y2 : ((wr.setCell ⟨w.heap.size + 1, i, none⟩ (.int .i64 (e0 + (k : Int)))).alloc (.cells #[.int .i64 u.lv, .bool u.ng, .slice A' u.ds.length c', .slice K' u.ks.length kc'] 32)).cell? ⟨wr.heap.size, 2, none⟩ = some (.slice A' u.ds.length c') := kx2.cell 2
            have y3 : ((wr.setCell ⟨w.heap.size + 1, i, none⟩ (.int .i64 (e0 + (k : Int)))).alloc (.cells #[.int .i64 u.lv, .bool u.ng, .slice A' u.ds.length c', .slice K' u.ks.length kc'] 32)).cell? ⟨wr.heap.size, 3, none⟩ = some (.slice K' u.ks.length kc') := kx2.cell 3
            have z0 : ((wr.setCell ⟨w.heap.size + 1, i, none⟩ (.int .i64 (e0 + (k : Int)))).alloc (.cells #[.int .i64 u.lv, .bool u.ng, .slice A' u.ds.length c', .slice K' u.ks.length kc'] 32)).cell? ⟨w.heap.size + 1, 0, none⟩ = some (.int .i64 (setE m i (e0 + (k : Int))).1) := hmon2.cell 0
            have z1 : ((wr.setCell ⟨w.heap.size + 1, i, none⟩ (.int .i64 (e0 + (k : Int)))).alloc (.cells #[.int .i64 u.lv, .bool u.ng, .slice A' u.ds.length c', .slice K' u.ks.length kc'] 32)).cell? ⟨w.heap.size + 1, 1, none⟩ = some (.int .i64 (setE m i (e0 + (k : Int))).2.1) := hmon2.cell 1
            have z2 : ((wr.setCell ⟨w.heap.size + 1, i, none⟩ (.int .i64 (e0 + (k : Int)))).alloc (.cells #[.int .i64 u.lv, .bool u.ng, .slice A' u.ds.length c', .slice K' u.ks.length kc'] 32)).cell? ⟨w.heap.size + 1, 2, none⟩ = some (.int .i64 (setE m i (e0 + (k : Int))).2.2.1) := hmon2.cell 2
            have z3 : ((wr.setCell ⟨w.heap.size + 1, i, none⟩ (.int .i64 (e0 + (k : Int)))).alloc (.cells #[.int .i64 u.lv, .bool u.ng, .slice A' u.ds.length c', .slice K' u.ks.length kc'] 32)).cell? ⟨w.heap.size + 1, 3, none⟩ = some (.int .i64 (setE m i (e0 + (k : Int))).2.2.2) := hmon2.cell 3
            clear hu hrv hku hkc hum hkcl hm2 hqn hcn hba hmon1 hpar1 hsz hbB2 hcl1 hcl2 hmon2 hpar2 kx2 hcl hkey hpar hmon hmk hbw
            generalize u.ds.length = ud at *
            generalize u.ks.length = uk at *
            go_upto_region 10 with (fail)
            generalize (wr.setCell ⟨w.heap.size + 1, i, none⟩ (.int .i64 (e0 + (k : Int)))).alloc (.cells #[.int .i64 u.lv, .bool u.ng, .slice A' ud c', .slice K' uk kc'] 32) = W2 at *
            go_wp2_with fail
            refine HIH.out.mono ?_
            rintro e w3 ⟨v2, rs, rfl, h2, hk2⟩
            have hcl2 := HCL2.out
            have HC3 := Lib.hid (hcl2.trans h2 hB hbase)
            have HP3 := Lib.hid (HPAR2.out.grown h2.gro (own_blk_ne hcl2.own HPAR2.out (by decide)))
            have HM3 := Lib.hid (HMON2.out.grown h2.gro (own_blk_ne hcl2.own HMON2.out (by decide)))
            have HK3 := Lib.hid (show (qs ++ rs).map PT.key = colL i (t.ks.take (k + 1)) m e0 by rw [List.map_append, HKEY.out, hk2, HKCL.out])
            clear h2 hk2 hcl2 y0 y1 y2 y3 z0 z1 z2 z3 HIH
            go_wp2_with fail
            go_roundg (nk - (k + 1))
            case rel => exact ⟨k + 1, qs ++ rs, _, by omega, rfl, by go_num, HC3.out, HK3.out, HP3.out, HM3.out, fun y => HMK.out y i⟩
            case measure => have := HG.out; omega
          · obtain rfl : k = nk := by omega
            have HFIN := Lib.hid (show ColRes t m v ps base B w (.returned u0) wr from ⟨u0, qs, rfl, hcl, by rw [hkey, HC0.out, List.take_of_length_le (by rw [HNK.out]; exact Nat.le_refl _)]⟩)
            clear hcl hkey hpar hmon hmk hrv hkc hbw
            go_wp2_with fail
            go_ret
            exact HFIN.out
end Go.Proofs.YtkkliemgidhgmaaGreatDoor
