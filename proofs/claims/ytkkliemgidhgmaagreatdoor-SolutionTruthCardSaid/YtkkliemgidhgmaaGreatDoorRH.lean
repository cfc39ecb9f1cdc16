/- Contract of recpoly.copyOf: the recursion. -/
import Derived.IntWalk
import Derived.Test.YtkkliemgidhgmaaGreatDoorRG
namespace Go.Proofs.YtkkliemgidhgmaaGreatDoor
open Go.RowKit

theorem cpT_const {t : RP} (h : t.lv = 0) : cpT t = .mk 0 (decide (ival t.ng t.ds < 0)) (dig (val t.ds)) [] := by rw [cpT_eq, if_pos h]
theorem cpT_node {t : RP} (h : t.lv ≠ 0) : cpT t = .mk t.lv false [] (t.ks.map cpT) := by rw [cpT_eq, if_neg h]
set_option maxHeartbeats 4000000 in
set_option maxRecDepth 100000 in
theorem copy_any (X : Nat) (hX : X ≤ 100000) : ∀ (D : Nat) (t : RP), depT t ≤ D → SmT X t → ∀ (A : Option Addr) (c : Nat) (K : Option Addr) (kc B : Nat) (w : World), B ≤ w.heap.size → RV w (· < B) t (rcell t A c K kc) →
    Calls Tryz.prog 44 #[rval t A c K kc] w (CopyRes t w)
  | 0, t, hD, _, _, _, _, _, _, _, _, _ => by cases t; simp only [depT] at hD; omega
  | D + 1, t, hD, hf, A, c, K, kc, B, w, hB, h => by
    have IH := Lib.hid (copy_any X hX D)
    have HR := Lib.hid (fun (W : World) (hW : Below w.heap.size w W) => h.below (hW.mono hB))
    have HD := Lib.hid (fun (u : RP) (hu : u ∈ t.ks) => show depT u ≤ D by have := dep_kid hu; omega)
    have HF := Lib.hid hf.at_.2.2
    have HB := Lib.hid hB
    have HX := Lib.hid (fun (cs ds : Array Value) => boxes2 w 32 32 cs ds)
    have hdl := hf.at_.1; have hkl := hf.at_.2.1
    show Calls Tryz.prog 44 #[.agg #[.int .i64 t.lv, .bool t.ng, .slice A t.ds.length c, .slice K t.ks.length kc]] w _
    clear hD hB hf
    have HNI := Lib.hid (fun (W : World) (hW : Below w.heap.size w W) => INormal_any t.ng A c B t.ds W (Nat.le_trans HB.out hW.size) (h.below (hW.mono HB.out)).natIn (by omega))
    unfold IntRes at HNI
    rw [ival_abs] at HNI
    clear h
    generalize hnd : t.ds.length = nd at *
    generalize hnk : t.ks.length = nk at *
    have HND := Lib.hid hnd; have HNK := Lib.hid hnk
    clear hnd hnk
    by_cases h0 : t.lv = 0
    · have e0 : (t.lv == 0) = true := by simp [h0]
      have HC := Lib.hid (cpT_const h0)
      clear h0
      go_enter Tryz.func44, Tryz.ntmps44
      go_wp2_with fail
      obtain ⟨hb0, k0, k1, hs⟩ := HX.out #[.int .i64 t.lv, .bool t.ng, .slice A nd c, .slice K nk kc] #[.int .i64 0, .bool false, .slice none 0 0, .slice none 0 0]
      generalize (w.alloc (.cells #[.int .i64 t.lv, .bool t.ng, .slice A nd c, .slice K nk kc] 32)).alloc (.cells #[.int .i64 0, .bool false, .slice none 0 0, .slice none 0 0] 32) = W at *
      have HN1 := Lib.hid (HNI.out W hb0)
      have HB0 := Lib.hid hb0; have HK1 := Lib.hid k1
      clear HX HNI hb0 k1 k0 hs
      refine HN1.out.mono ?_
      rintro e w2 ⟨A2, c2, rfl, h1, h2, h3⟩
      have kk := HK1.out.old h3
      have hbw := HB0.out.trans (h3.mono HB0.out.size)
      have d0 : w2.cell? ⟨w.heap.size + 1, 0, none⟩ = some (.int .i64 0) := kk.cell 0
      have d1 : w2.cell? ⟨w.heap.size + 1, 1, none⟩ = some (.bool false) := kk.cell 1
      have d2 : w2.cell? ⟨w.heap.size + 1, 2, none⟩ = some (.slice none 0 0) := kk.cell 2
      have d3 : w2.cell? ⟨w.heap.size + 1, 3, none⟩ = some (.slice none 0 0) := kk.cell 3
      have f0 := kk.frozen 0; have f1 := kk.frozen 1; have f2 := kk.frozen 2; have f3 := kk.frozen 3; have z0 := kk.lt
      have HKK := Lib.hid (sets4 (k := 0) kk (.int .i64 0) (.bool (decide (ival t.ng t.ds < 0))) (.slice A2 (dig (val t.ds)).length c2) (.slice none 0 0))
      have HN2 := Lib.hid h2; have HC2 := Lib.hid h1; have HBW := Lib.hid hbw
      clear kk hbw h1 h2 h3 HN1 HB0 HK1
      go_wp2_with fail
      obtain ⟨s1, s2, s3⟩ := HKK.out
      refine ret_blk Tryz.results44 rfl rfl s1 Tryz.underlying32 rfl Tryz.sizeRec ?_
      refine ⟨A2, c2, none, 0, by rw [HC.out]; rfl, ?_, ?_⟩
      · rw [HC.out]
        exact RB.const (HN2.out.keep s2) (dig_dig _) HC2.out
      · exact (((HBW.out.setCell (Nat.le_add_right _ 1) _).setCell (Nat.le_add_right _ 1) _).setCell (Nat.le_add_right _ 1) _).setCell (Nat.le_add_right _ 1) _
    · have e0 : (t.lv == 0) = false := by simp [h0]
      have H0 := Lib.hid h0
      have hmk := fun (W : World) => Tryz.make_rec nk (by omega) W
      clear h0
      go_enter Tryz.func44, Tryz.ntmps44
      go_wp2_with fail
      have HX3 := Lib.hid (boxes3 w 32 32 32 #[.int .i64 t.lv, .bool t.ng, .slice A nd c, .slice K nk kc] #[.int .i64 0, .bool false, .slice none 0 0, .slice none 0 0] (madeCells #[.int .i64 0, .bool false, .slice none 0 0, .slice none 0 0] (nk * 4)))
      generalize ((w.alloc (.cells #[.int .i64 t.lv, .bool t.ng, .slice A nd c, .slice K nk kc] 32)).alloc (.cells #[.int .i64 0, .bool false, .slice none 0 0, .slice none 0 0] 32)).alloc (.cells (madeCells #[.int .i64 0, .bool false, .slice none 0 0, .slice none 0 0] (nk * 4)) 32) = W at *
      obtain ⟨hb0, k0, k1, k2, hs⟩ := HX3.out
      have HI0 := Lib.hid (show CopI w t (w.heap.size + 1 + 1) nk 0 #[.int .i64 t.lv, .bool t.ng, .slice A nd c, .slice K nk kc] W (madeCells #[.int .i64 0, .bool false, .slice none 0 0, .slice none 0 0] (nk * 4)) [] from
        ⟨k2, size_madeCells _ _, rfl, by simp, by simp, by simp [RVs], hb0, k0, k1⟩)
      have hg : w.heap.size + 1 < w.heap.size + 1 + 1 := Nat.lt_succ_self _
      clear HX HX3 hb0 k0 k1 k2 hs hmk HNI
      generalize w.heap.size + 1 + 1 = g at *
      go_loopg [4, 5, 20] nk (fun gn _ _ ix wr => ∃ (k : Nat) (cur : Array Value) (rows : List (List Value)), k ≤ nk ∧ gn = nk - k ∧ ix = .int .i64 k ∧ CopI w t g nk k #[.int .i64 t.lv, .bool t.ng, .slice A nd c, .slice K nk kc] wr cur rows)
      case atStart => exact ⟨0, _, [], Nat.zero_le _, rfl, rfl, HI0.out⟩
      case round =>
        clear HI0
        obtain ⟨k, cur, rows, hk, hgk, rfl, hi⟩ := hrel
        have HG := Lib.hid hgk
        have HI := Lib.hid hi
        clear hgk
        have hrv := HR.out wr hi.bel
        have hkc := hrv.node.2.2.2
        rw [HNK.out] at hkc
        have i5 : (nk : Int) ≤ (kc : Int) := by omega
        have c0 : wr.cell? ⟨w.heap.size, 0, none⟩ = some (.int .i64 t.lv) := hi.par.cell 0
        have c3 : wr.cell? ⟨w.heap.size, 3, none⟩ = some (.slice K nk kc) := hi.par.cell 3
        by_cases hlt : k < nk
        · obtain ⟨u, hu⟩ : ∃ u, t.ks[k]? = some u := ⟨_, List.getElem?_eq_getElem (by rw [HNK.out]; exact hlt)⟩
          obtain ⟨b, o, A', c', K', kc', rfl, hbB, e0', e1, e2, e3, hku⟩ := hrv.kid hu
          have hum := List.mem_of_getElem? hu
          have HIH := Lib.hid (fun (W : World) (hW : Below wr.heap.size wr W) => IH.out u (HD.out u hum) (HF.out u hum) A' c' K' kc' wr.heap.size W hW.size ((hku.more (Nat.le_trans HB.out hi.bel.size)).below hW))
          unfold CopyRes at HIH
          have HNX := Lib.hid (fun (W1 W2 : World) (A K : Option Addr) (c kc : Nat) h1 h2 h3 => hi.next (u := u) (W1 := W1) (W2 := W2) (A := A) (K := K) (c := c) (kc := kc) hlt hg hu h1 h2 h3)
          have HROW := Lib.hid hi.row; have HSZ := Lib.hid hi.siz
          have i3 : (0 : Int) ≤ (k : Int) := by omega
          have i4 : (k : Int) < (nk : Int) := by omega
          have HBY := Lib.hid (fun (cs : Array Value) => (Below.refl wr.heap.size wr).alloc (Nat.le_refl _) (.cells cs 32))
          clear hu hrv hku hkc hum hi HI
          unfold rval at HIH
          generalize u.ds.length = ud at *
          generalize u.ks.length = uk at *
          generalize u.ng = ug at *
          generalize u.lv = ul at *
          have HI1 := Lib.hid (HIH.out _ (HBY.out #[.int .i64 ul, .bool ug, .slice A' ud c', .slice K' uk kc']))
          go_wp2_with fail
          refine HI1.out.mono ?_
          rintro e w2 ⟨A2, c2, K2, kc2, rfl, h2, h3⟩
          have hb := (HBY.out #[.int .i64 ul, .bool ug, .slice A' ud c', .slice K' uk kc']).trans (h3.mono (HBY.out _).size)
          have kk := HROW.out.old hb
          have hz := HSZ.out
          have ex : ∀ i, i < 4 → ∃ v, cur[k * 4 + i]? = some v := fun i hi => ⟨_, Array.getElem?_eq_getElem (by omega)⟩
          obtain ⟨v0, q0⟩ := ex 0 (by omega)
          obtain ⟨v1, q1⟩ := ex 1 (by omega)
          obtain ⟨v2, q2⟩ := ex 2 (by omega)
          obtain ⟨v3, q3⟩ := ex 3 (by omega)
          have d0 : w2.cell? ⟨g, k * 4, none⟩ = some v0 := (kk.cell _).trans q0
          have d1 : w2.cell? ⟨g, k * 4 + 1, none⟩ = some v1 := (kk.cell _).trans q1
          have d2 : w2.cell? ⟨g, k * 4 + 2, none⟩ = some v2 := (kk.cell _).trans q2
          have d3 : w2.cell? ⟨g, k * 4 + 3, none⟩ = some v3 := (kk.cell _).trans q3
          have f0 := kk.frozen (k * 4); have f1 := kk.frozen (k * 4 + 1); have f2 := kk.frozen (k * 4 + 2); have f3 := kk.frozen (k * 4 + 3); have z0 := kk.lt
          have HN2 := Lib.hid (HNX.out _ w2 A2 K2 c2 kc2 (HBY.out #[.int .i64 ul, .bool ug, .slice A' ud c', .slice K' uk kc']) h2 h3)
          clear hb kk hz ex q0 q1 q2 q3 h2 h3 HI1 HIH HNX HROW HSZ HBY
          generalize (cpT u).lv = xl at *
          generalize (cpT u).ng = xg at *
          generalize (cpT u).ds.length = xd at *
          generalize (cpT u).ks.length = xk at *
          go_wp2_with fail
          obtain ⟨cur', hn⟩ := HN2.out
          go_roundg (nk - (k + 1))
          case rel => exact ⟨k + 1, cur', _, by omega, rfl, by go_num, hn⟩
          case measure => have := HG.out; omega
        · obtain rfl : k = nk := by omega
          have d0 : wr.cell? ⟨w.heap.size + 1, 0, none⟩ = some (.int .i64 0) := hi.res.cell 0
          have d1 : wr.cell? ⟨w.heap.size + 1, 1, none⟩ = some (.bool false) := hi.res.cell 1
          have d2 : wr.cell? ⟨w.heap.size + 1, 2, none⟩ = some (.slice none 0 0) := hi.res.cell 2
          have d3 : wr.cell? ⟨w.heap.size + 1, 3, none⟩ = some (.slice none 0 0) := hi.res.cell 3
          have f0 := hi.res.frozen 0; have f1 := hi.res.frozen 1; have f2 := hi.res.frozen 2; have f3 := hi.res.frozen 3; have z0 := hi.res.lt
          have HFN := Lib.hid (hi.fin hg HNK.out H0.out)
          have HS := Lib.hid (sets4 (k := 0) hi.res (.int .i64 t.lv) (.bool false) (.slice none 0 0) (.slice (some ⟨g, 0, none⟩) k k)).1
          have HBW := Lib.hid hi.bel
          have HC := Lib.hid (cpT_node H0.out)
          clear hi HI hrv hkc
          go_wp2_with fail
          refine ret_blk Tryz.results44 rfl rfl HS.out Tryz.underlying32 rfl Tryz.sizeRec ?_
          refine ⟨none, 0, some ⟨g, 0, none⟩, k, ?_, HFN.out, ?_⟩
          · rw [HC.out]
            unfold rval
            show _ = Ending.returned (.agg #[.int .i64 t.lv, .bool false, .slice none 0 0, .slice (some ⟨g, 0, none⟩) (t.ks.map cpT).length k])
            rw [List.length_map, HNK.out]
            rfl
          · exact (((HBW.out.setCell (Nat.le_add_right _ 1) _).setCell (Nat.le_add_right _ 1) _).setCell (Nat.le_add_right _ 1) _).setCell (Nat.le_add_right _ 1) _
end Go.Proofs.YtkkliemgidhgmaaGreatDoor
