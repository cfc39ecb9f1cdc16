/- Contract of sparse.Mul. -/
import Derived.Test.YtpbapoanjkekmaaGreatZH
namespace Go.Proofs.YtpbapoanjkekmaaGreat
open Go.RowKit
attribute [local go_sem ↓] Go.wp_at_zero Go.wp_at_succ

theorem PGood.abs {w : World} {base N M : Nat} {E : Int} {v : Value} {ps : List PT} {F : Mo → Int} (h : PGood w base v ps F N E M) {p : PT} (hp : p ∈ ps) : (ival p.ng p.ds).natAbs ≤ M := Nat.le_trans (nrm_mem (t := p.tm) (List.mem_map.2 ⟨p, hp, rfl⟩)) h.nm
theorem pw_lt {a b : Nat} (h : a < b) : pw a < pw b := Nat.pow_lt_pow_right (by omega) h
theorem SMul_fin {ps qs ps' qs' : List PT} {N1 N2 M1 M2 : Nat} {E1 E2 : Int} {W1 W2 : World} {b1 b2 : Nat} {v1 v2 : Value} (g1 : PGood W1 b1 v1 ps' (cf (ps.map PT.tm)) N1 E1 M1) (g2 : PGood W2 b2 v2 qs' (cf (qs.map PT.tm)) N2 E2 M2)
    {w : World} {e : Ending} {w' : World} (h : PolyRes (cf (mulL (ps'.map PT.tm) (qs'.map PT.tm))) (mulL (ps'.map PT.tm) (qs'.map PT.tm)).length w e w') :
    PRes (mulC (ps.map PT.tm) (qs.map PT.tm)) (N1 * N2) (E1 + E2) (M1 * M2) w e w' := by
  have hmb : ∀ t ∈ mulL (ps'.map PT.tm) (qs'.map PT.tm), vld t.2 = true → MB (E1 + E2) t.2 := fun t ht _ => by
    obtain ⟨a, ha, b, hb, rfl⟩ := mem_mulL ht
    obtain ⟨p, hp, rfl⟩ := List.mem_map.1 ha
    obtain ⟨q, hq, rfl⟩ := List.mem_map.1 hb
    exact (g1.mb p hp).add (g2.mb q hq)
  have hnm : nrm (mulL (ps'.map PT.tm) (qs'.map PT.tm)) ≤ M1 * M2 := by rw [nrm_mulL]; exact Nat.mul_le_mul g1.nm g2.nm
  obtain ⟨A, c, rs, rfl, hg, hb⟩ := h.good hmb hnm
  refine ⟨A, c, rs, rfl, { hg with len := Nat.le_trans hg.len (by rw [len_mulL, List.length_map, List.length_map]; exact Nat.mul_le_mul g1.len g2.len), cf := fun m => ?_ }, hb⟩
  rw [hg.cf, cf_mulL _ _ g1.can.vl g2.can.vl]
  exact mulC_ext g1.cf g2.cf m

set_option maxHeartbeats 8000000 in
set_option maxRecDepth 100000 in
theorem SMul_any (A A' : Option Addr) (c c' B N1 N2 : Nat) (E1 E2 : Int) (M1 M2 : Nat) (ps qs : List PT) (w : World) (hB : B ≤ w.heap.size) (h : PIn w B A ps N1 E1 M1) (h' : PIn w B A' qs N2 E2 M2)
    (hN1 : N1 ≤ 50000) (hN2 : N2 ≤ 50000) (hN : N1 * N2 ≤ 50000) (hE1 : E1 ≤ 1000000) (hE2 : E2 ≤ 1000000) (hM1 : M1 < pw 47) (hM2 : M2 < pw 500) (hM : M1 * M2 < Big) :
    Calls Tryz.prog 14 #[.slice A ps.length c, .slice A' qs.length c'] w (PRes (mulC (ps.map PT.tm) (qs.map PT.tm)) (N1 * N2) (E1 + E2) (M1 * M2) w) := by
  have hB1 : M1 < Big := Nat.lt_trans hM1 (pw_lt (show 47 < 600 by decide))
  have hB2 : M2 < Big := Nat.lt_trans hM2 (pw_lt (show 500 < 600 by decide))
  have HN1 := Lib.hid (Normal_poly A c B N1 E1 M1 ps w hB h hN1 hB1)
  have HN2 := Lib.hid (fun (W : World) (hW : Below w.heap.size w W) => Normal_poly A' c' B N2 E2 M2 qs W (Nat.le_trans hB hW.size) (h'.below (hW.mono hB)) hN2 hB2)
  clear h h'
  go_enter Tryz.func14, Tryz.ntmps14
  go_wp2_with fail
  refine HN1.out.mono ?_
  rintro e w1 ⟨A1, c1, p1, rfl, hg1, hb1⟩
  have HG1 := Lib.hid hg1
  clear hg1 HN1
  go_wp2_with fail
  refine (HN2.out _ hb1).mono ?_
  rintro e w2 ⟨A2, c2, p2, rfl, hg2, hb2⟩
  have HG2 := Lib.hid hg2
  have HF := Lib.hid (fun (W : World) (e : Ending) (w' : World) => SMul_fin (w := W) (e := e) (w' := w') HG1.out HG2.out)
  have hin1 := (HG1.out.pin (by omega) hB1).old hb2
  have hin2 := HG2.out.pin (by omega) hB2
  have HD1 := Lib.hid (fun p hp => HG1.out.dlen hM1 (p := p) hp)
  have HD2 := Lib.hid (fun p hp => HG2.out.dlen hM2 (p := p) hp)
  have HV1 := Lib.hid (fun p hp => HG1.out.vl (p := p) hp)
  have HV2 := Lib.hid (fun p hp => HG2.out.vl (p := p) hp)
  have hbw : Below w.heap.size w w2 := hb1.trans (hb2.mono hb1.size)
  have hnp : nrm (p1.map PT.tm) * nrm (p2.map PT.tm) < Big := Nat.lt_of_le_of_lt (Nat.mul_le_mul HG1.out.nm HG2.out.nm) hM
  have hlp : p1.length * p2.length ≤ 50000 := Nat.le_trans (Nat.mul_le_mul HG1.out.len HG2.out.len) hN
  have HIN1 := Lib.hid hin1; have HIN2 := Lib.hid hin2
  have HPN := Lib.hid (fun (i k : Nat) (p : PT) (hi : p1[i]? = some p) => Nat.lt_of_le_of_lt (part_nrm (qs := p2) (k := k) hi) hnp)
  have HPL := Lib.hid (fun (i k : Nat) (p : PT) (hi : p1[i]? = some p) => Nat.le_trans (part_len (qs := p2) (k := k) hi) hlp)
  have hl1 := hin1.len; have hl2 := hin2.len
  clear hg2 HN2 hin1 hin2 hnp hlp
  generalize hn1 : p1.length = n1 at *
  generalize hn2 : p2.length = n2 at *
  have H1 := Lib.hid hn1; have H2 := Lib.hid hn2
  clear hn1 hn2
  go_wp2_with fail
  refine (newG_any w2).mono ?_
  rintro e W ⟨g, mb, rfl, hg0, hb0⟩
  go_wp2_with fail
  go_loopg [20] n1 (fun gn ix wr => ∃ (i : Nat) (v : Value) (gs : List PT), i ≤ n1 ∧ gn = n1 - i ∧ ix = .int .i64 i ∧ GAt wr w2.heap.size g mb v gs ∧ GInv (mulL ((p1.take i).map PT.tm) (p2.map PT.tm)) (gs.map PT.tm) ∧ Below w2.heap.size w2 wr)
  case atStart => exact ⟨0, _, [], Nat.zero_le _, rfl, rfl, hg0, GInv.nil, hb0⟩
  case round =>
    obtain ⟨i, v, gs, hi, hgi0, rfl, hga, hgi, hbl⟩ := hrel
    have HG := Lib.hid hgi0; clear hgi0
    by_cases hlt : i < n1
    · obtain ⟨p, hp⟩ : ∃ p, p1[i]? = some p := ⟨_, List.getElem?_eq_getElem (by have := H1.out; omega)⟩
      have hpm := List.mem_of_getElem? hp
      have hin := HIN1.out.below hbl
      obtain ⟨b, o, rfl, hbb, d0, d1, d2, d3, d4, d5⟩ := hin.pin.at_ hp
      have i1 : (i : Int) < (n1 : Int) := by omega
      have i2 : (0 : Int) ≤ (i : Int) := by omega
      have hsz := hbl.size
      have HPP := Lib.hid hp
      have HPT := Lib.hid (mulL_take (q := p2.map PT.tm) hp)
      have hne7 : v.ownBlock ≠ some wr.heap.size := fun e => by
        rcases hga.row.2 with ⟨rfl, _⟩ | ⟨r, _, cur, rfl, _, hh, _⟩
        · simp [Value.ownBlock] at e
        · have : r = wr.heap.size := by simpa [Value.ownBlock] using e
          have h2 := (show Blk wr r _ cur from hh).lt
          omega
      have hg7 : wr.heap.size ≠ g := fun e => by have := hga.gb.lt; omega
      have hb7 := (Below.refl wr.heap.size wr).alloc (Nat.le_refl _) (.cells p.cells.toArray 56)
      have k7 := Blk.new wr 56 p.cells.toArray
      have hga7 := hga.old hb7
      have hbl7 := hbl.trans (hb7.mono hsz)
      have hpd := HD1.out p hpm
      have hpv := vld_iff.1 (HV1.out p hpm)
      have hpe := HG1.out.mb p hpm
      unfold MB at hpe
      have HNIN := Lib.hid (HIN1.out.pin.nt p hpm)
      have HMT := Lib.hid (fun (k : Nat) (t : PT) (hk : p2[k]? = some t) => mulRow_take (s := p.tm) hk)
      have HTS := Lib.hid (show p.tm = (ival p.ng p.ds, p.m.1, p.m.2.1, p.m.2.2.1, p.m.2.2.2) from rfl)
      have HPA := Lib.hid (show (ival p.ng p.ds).natAbs ≤ M1 from HG1.out.abs hpm)
      have HPNi := Lib.hid (fun k => HPN.out i k p hp)
      have HPLi := Lib.hid (fun k => HPL.out i k p hp)
      have HR0 := Lib.hid (show mulRow p.tm ((p2.take 0).map PT.tm) = [] from rfl)
      have HRN := Lib.hid (show mulRow p.tm ((p2.take n2).map PT.tm) = mulRow p.tm (p2.map PT.tm) by rw [← H2.out, List.take_length])
      clear hin hga hb7 hp hpm HPP
      simp only [PT.cells] at k7 hga7 hbl7
      generalize p.tm = ptm at *
      generalize p.m.1 = s0 at *
      generalize p.m.2.1 = s1 at *
      generalize p.m.2.2.1 = s2 at *
      generalize p.m.2.2.2 = s3 at *
      generalize p.ng = sn at *
      generalize p.A = sA at *
      generalize p.c = sc at *
      generalize p.ds = sd at *
      go_wp2_with fail
      generalize wr.alloc (.cells #[.bool sn, .slice sA sd.length sc, .int .i64 s0, .int .i64 s1, .int .i64 s2, .int .i64 s3] 56) = W7 at *
      generalize hb7e : wr.heap.size = b7 at *
      clear hb7e
      go_loopg [26] n2 (fun gn ix wr' => ∃ (k : Nat) (v : Value) (gs : List PT), k ≤ n2 ∧ gn = n2 - k ∧ ix = .int .i64 k ∧ GAt wr' w2.heap.size g mb v gs ∧ GInv (mulL ((p1.take i).map PT.tm) (p2.map PT.tm) ++ mulRow ptm ((p2.take k).map PT.tm)) (gs.map PT.tm) ∧ Below w2.heap.size w2 wr' ∧ Blk wr' b7 56 #[.bool sn, .slice sA sd.length sc, .int .i64 s0, .int .i64 s1, .int .i64 s2, .int .i64 s3] ∧ v.ownBlock ≠ some b7)
      case atStart => exact ⟨0, v, gs, Nat.zero_le _, rfl, rfl, hga7, by rw [HR0.out, List.append_nil]; exact hgi, hbl7, k7, hne7⟩
      case round =>
        obtain ⟨k, v, gs, hk, hgk0, rfl, hga, hgi, hbl, k7, hne7⟩ := hrel
        have HGK := Lib.hid hgk0; clear hgk0
        by_cases hlt2 : k < n2
        · obtain ⟨t, ht⟩ : ∃ t, p2[k]? = some t := ⟨_, List.getElem?_eq_getElem (by have := H2.out; omega)⟩
          have htm := List.mem_of_getElem? ht
          have hin := HIN2.out.below hbl
          obtain ⟨b', o', rfl, hbb', d0, d1, d2, d3, d4, d5⟩ := hin.pin.at_ ht
          have j1 : (k : Int) < (n2 : Int) := by omega
          have j2 : (0 : Int) ≤ (k : Int) := by omega
          have hsz := hbl.size
          have e2 : wr.cell? ⟨b7, 2, none⟩ = some (.int .i64 s0) := k7.cell 2
          have e3 : wr.cell? ⟨b7, 3, none⟩ = some (.int .i64 s1) := k7.cell 3
          have e4 : wr.cell? ⟨b7, 4, none⟩ = some (.int .i64 s2) := k7.cell 4
          have e5 : wr.cell? ⟨b7, 5, none⟩ = some (.int .i64 s3) := k7.cell 5
          have l7 := k7.lt
          have htd := HD2.out t htm
          have htv := vld_iff.1 (HV2.out t htm)
          have hte := HG2.out.mb t htm
          unfold MB at hte
          have HTN := Lib.hid (HIN2.out.pin.nt t htm)
          have HMK := Lib.hid (HMT.out k t ht)
          have HTT := Lib.hid (show t.tm = (ival t.ng t.ds, t.m.1, t.m.2.1, t.m.2.2.1, t.m.2.2.2) from rfl)
          have HNK := Lib.hid (HPNi.out k); have HLK := Lib.hid (HPLi.out k)
          have HZ := Lib.hid (show (dig (ival sn sd * ival t.ng t.ds).natAbs).length ≤ 1000 by
            have h1 : (ival sn sd).natAbs ≤ M1 := HPA.out
            have h2 : (ival t.ng t.ds).natAbs ≤ M2 := HG2.out.abs htm
            have h3 : (ival sn sd * ival t.ng t.ds).natAbs < Big := by rw [Int.natAbs_mul]; exact Nat.lt_of_le_of_lt (Nat.mul_le_mul h1 h2) hM
            exact Nat.le_trans (dig_len_big h3) (by omega))
          have x0 : ∀ W, (Instr.index 44 (.agg #[.int .i64 t.m.1, .int .i64 t.m.2.1, .int .i64 t.m.2.2.1, .int .i64 t.m.2.2.2]) (.int .i64 0)).run Tryz.prog W = .ok (.int .i64 t.m.1) W := fun W => Tryz.index_mono t.m 0 (by decide) W
          have x1 : ∀ W, (Instr.index 44 (.agg #[.int .i64 t.m.1, .int .i64 t.m.2.1, .int .i64 t.m.2.2.1, .int .i64 t.m.2.2.2]) (.int .i64 1)).run Tryz.prog W = .ok (.int .i64 t.m.2.1) W := fun W => Tryz.index_mono t.m 1 (by decide) W
          have x2 : ∀ W, (Instr.index 44 (.agg #[.int .i64 t.m.1, .int .i64 t.m.2.1, .int .i64 t.m.2.2.1, .int .i64 t.m.2.2.2]) (.int .i64 2)).run Tryz.prog W = .ok (.int .i64 t.m.2.2.1) W := fun W => Tryz.index_mono t.m 2 (by decide) W
          have x3 : ∀ W, (Instr.index 44 (.agg #[.int .i64 t.m.1, .int .i64 t.m.2.1, .int .i64 t.m.2.2.1, .int .i64 t.m.2.2.2]) (.int .i64 3)).run Tryz.prog W = .ok (.int .i64 t.m.2.2.2) W := fun W => Tryz.index_mono t.m 3 (by decide) W
          clear hin ht htm
          generalize t.tm = ttm at *
          generalize t.m.1 = t0 at *
          generalize t.m.2.1 = t1 at *
          generalize t.m.2.2.1 = t2 at *
          generalize t.m.2.2.2 = t3 at *
          generalize t.ng = tn at *
          generalize t.A = tA at *
          generalize t.c = tc at *
          generalize t.ds = td at *
          obtain ⟨hpv0, hpv1, hpv2, hpv3⟩ := hpv
          obtain ⟨hpe0, hpe1, hpe2, hpe3⟩ := hpe
          obtain ⟨htv0, htv1, htv2, htv3⟩ := htv
          obtain ⟨hte0, hte1, hte2, hte3⟩ := hte
          have HX := Lib.hid (boxes2 wr 56 44 #[.bool tn, .slice tA td.length tc, .int .i64 t0, .int .i64 t1, .int .i64 t2, .int .i64 t3] #[.int .i64 s0, .int .i64 s1, .int .i64 s2, .int .i64 s3])
          go_wp2_with fail
          generalize (wr.alloc (.cells #[.bool tn, .slice tA td.length tc, .int .i64 t0, .int .i64 t1, .int .i64 t2, .int .i64 t3] 56)).alloc (.cells #[.int .i64 s0, .int .i64 s1, .int .i64 s2, .int .i64 s3] 44) = X at *
          obtain ⟨hbx, k9, k10, hxs⟩ := HX.out
          have k7X := k7.old hbx
          have HGO := Lib.hid (fun (Wx : World) (hx : Below (wr.heap.size + 1) X Wx) => show GAt Wx w2.heap.size g mb v gs ∧ Below w2.heap.size w2 Wx from ⟨hga.old (hbx.trans (hx.mono (Nat.le_succ _))), hbl.trans ((hbx.trans (hx.mono (Nat.le_succ _))).mono hsz)⟩)
          have HGI := Lib.hid hgi
          have HSZ := Lib.hid hsz
          have hne9 : v.ownBlock ≠ some wr.heap.size := fun e => by
            rcases hga.row.2 with ⟨rfl, _⟩ | ⟨r, _, cur, rfl, _, hh, _⟩
            · simp [Value.ownBlock] at e
            · have : r = wr.heap.size := by simpa [Value.ownBlock] using e
              have h2 := (show Blk wr r _ cur from hh).lt
              omega
          have hg9 : wr.heap.size ≠ g := fun e => by have := hga.gb.lt; omega
          have hne10 : v.ownBlock ≠ some (wr.heap.size + 1) := fun e => by
            rcases hga.row.2 with ⟨rfl, _⟩ | ⟨r, _, cur, rfl, _, hh, _⟩
            · simp [Value.ownBlock] at e
            · have : r = wr.heap.size + 1 := by simpa [Value.ownBlock] using e
              have h2 := (show Blk wr r _ cur from hh).lt
              omega
          have hg10 : wr.heap.size + 1 ≠ g := fun e => by have := hga.gb.lt; omega
          have HNE10 := Lib.hid hne10; have HG10 := Lib.hid hg10
          clear hne10 hg10
          have HNE9 := Lib.hid hne9; have HG9 := Lib.hid hg9; have HNE7 := Lib.hid hne7; have HG7 := Lib.hid hg7
          have HL7 := Lib.hid l7
          have HXS := Lib.hid hxs
          clear hxs HX d0 d1 d2 d3 d4 d5 e2 e3 e4 e5 hga hgi hbl k7 hbx hne9 hg9 hne7 hsz hbb' l7
          generalize wr.heap.size = b9 at *
          clear wr
          have hX10 := Below.refl (b9 + 1) X
          go_loopg [11, 12, 34] 4 (fun gn _ _ ix wj => ∃ (j : Nat) (z : Int), j ≤ 4 ∧ z = j ∧ gn = 4 - j ∧ ix = .int .i64 z ∧ Blk wj (b9 + 1) 44 (mixM s0 s1 s2 s3 t0 t1 t2 t3 j) ∧ Below (b9 + 1) X wj)
          case atStart => exact ⟨0, 0, by omega, rfl, rfl, rfl, k10, hX10⟩
          case round =>
            obtain ⟨j, z, hj, hz, hgj, rfl, kj, hbj⟩ := hrel
            have HGJ := Lib.hid hgj; clear hgj
            by_cases hlt3 : j < 4
            · have lj := kj.lt
              have fj := kj.frozen j
              rcases (by omega : j = 0 ∨ j = 1 ∨ j = 2 ∨ j = 3) with rfl | rfl | rfl | rfl
              · obtain rfl : z = 0 := hz
                have cj : wr.cell? ⟨b9 + 1, 0, none⟩ = some (.int .i64 s0) := kj.cell 0
                go_wp2_with fail
                go_roundg 3
                case rel => exact ⟨1, 1, by omega, rfl, rfl, rfl, kj.set_ 0 _, hbj.setCell (Nat.le_refl _) _⟩
                case measure => have := HGJ.out; omega
              · obtain rfl : z = 1 := hz
                have cj : wr.cell? ⟨b9 + 1, 1, none⟩ = some (.int .i64 s1) := kj.cell 1
                go_wp2_with fail
                go_roundg 2
                case rel => exact ⟨2, 2, by omega, rfl, rfl, rfl, kj.set_ 1 _, hbj.setCell (Nat.le_refl _) _⟩
                case measure => have := HGJ.out; omega
              · obtain rfl : z = 2 := hz
                have cj : wr.cell? ⟨b9 + 1, 2, none⟩ = some (.int .i64 s2) := kj.cell 2
                go_wp2_with fail
                go_roundg 1
                case rel => exact ⟨3, 3, by omega, rfl, rfl, rfl, kj.set_ 2 _, hbj.setCell (Nat.le_refl _) _⟩
                case measure => have := HGJ.out; omega
              · obtain rfl : z = 3 := hz
                have cj : wr.cell? ⟨b9 + 1, 3, none⟩ = some (.int .i64 s3) := kj.cell 3
                go_wp2_with fail
                go_roundg 0
                case rel => exact ⟨4, 4, by omega, rfl, rfl, rfl, kj.set_ 3 _, hbj.setCell (Nat.le_refl _) _⟩
                case measure => have := HGJ.out; omega
            · obtain rfl : j = 4 := by omega
              obtain rfl : z = 4 := hz
              obtain ⟨hgw, hbw2⟩ := HGO.out _ hbj
              have q7 := k7X.below hbj (Nat.lt_succ_of_lt HL7.out)
              have q9 := k9.below hbj (Nat.lt_succ_self _)
              have hwm : WfM (s0 + t0, s1 + t1, s2 + t2, s3 + t3) := by unfold WfM WfI; simp only; omega
              have HIM := Lib.hid (fun (W : World) (hW : Below wr.heap.size wr W) => IMul_any sn tn sA tA sc tc w2.heap.size sd td W (Nat.le_trans hbw2.size hW.size) (HNIN.out.below (hbw2.trans (hW.mono hbw2.size))) (HTN.out.below (hbw2.trans (hW.mono hbw2.size))) (by omega) (by omega))
              have HGD := Lib.hid (fun (W3 : World) (A3 : Option Addr) (c3 : Nat) (hW : Below wr.heap.size wr W3) (h4 : NatB W3 A3 (dig (ival sn sd * ival tn td).natAbs)) (h3 : (dig (ival sn sd * ival tn td).natAbs).length ≤ c3) =>
                gadd_any w2.heap.size g mb v _ gs (s0 + t0, s1 + t1, s2 + t2, s3 + t3) (decide (ival sn sd * ival tn td < 0)) A3 c3 (dig (ival sn sd * ival tn td).natAbs) W3 (hgw.old hW) HGI.out (Nat.le_trans hbw2.size hW.size) hwm (natB_nin h4 h3) HZ.out (Nat.le_trans HLK.out (by omega)) HNK.out)
              have HID := Lib.hid (ival_dig (ival sn sd * ival tn td))
              clear hgw hwm
              unfold IntRes at HIM
              unfold moV at HGD
              have c0 : wr.cell? ⟨b9 + 1, 0, none⟩ = some (.int .i64 (s0 + t0)) := kj.cell 0
              have c1 : wr.cell? ⟨b9 + 1, 1, none⟩ = some (.int .i64 (s1 + t1)) := kj.cell 1
              have c2 : wr.cell? ⟨b9 + 1, 2, none⟩ = some (.int .i64 (s2 + t2)) := kj.cell 2
              have c3 : wr.cell? ⟨b9 + 1, 3, none⟩ = some (.int .i64 (s3 + t3)) := kj.cell 3
              have c4 : wr.cell? ⟨b7, 0, none⟩ = some (.bool sn) := q7.cell 0
              have c5 : wr.cell? ⟨b7, 1, none⟩ = some (.slice sA sd.length sc) := q7.cell 1
              have c6 : wr.cell? ⟨b9, 0, none⟩ = some (.bool tn) := q9.cell 0
              have c7 : wr.cell? ⟨b9, 1, none⟩ = some (.slice tA td.length tc) := q9.cell 1
              have l10 := kj.lt; have l7 := q7.lt; have l9 := q9.lt
              have hbwd : Below wr.heap.size wr wr.drew := (Drawn.drew _).below _
              have hvn10 : v.ownBlock ≠ some (b9 + 1) := HNE10.out
              have hgn10 : b9 + 1 ≠ g := HG10.out
              go_wp2_with fail
              go_region_held3 (fun w' => w'.cell? ⟨b9 + 1, 0, none⟩ = some (.int .i64 (s0 + t0)) ∧ w'.cell? ⟨b9 + 1, 1, none⟩ = some (.int .i64 (s1 + t1)) ∧ w'.cell? ⟨b9 + 1, 2, none⟩ = some (.int .i64 (s2 + t2)) ∧ w'.cell? ⟨b9 + 1, 3, none⟩ = some (.int .i64 (s3 + t3)) ∧ w'.cell? ⟨b7, 0, none⟩ = some (.bool sn) ∧ w'.cell? ⟨b7, 1, none⟩ = some (.slice sA sd.length sc) ∧ w'.cell? ⟨b9, 0, none⟩ = some (.bool tn) ∧ w'.cell? ⟨b9, 1, none⟩ = some (.slice tA td.length tc))
                (first | exact ⟨c0, c1, c2, c3, c4, c5, c6, c7⟩ | exact ⟨(h5.cell l10).trans c0, (h5.cell l10).trans c1, (h5.cell l10).trans c2, (h5.cell l10).trans c3, (h5.cell l7).trans c4, (h5.cell l7).trans c5, (h5.cell l9).trans c6, (h5.cell l9).trans c7⟩ | exact ⟨y10.cell 0, y10.cell 1, y10.cell 2, y10.cell 3, y7.cell 0, y7.cell 1, y9.cell 0, y9.cell 1⟩)
                (first | (go_at_call 41; refine (HIM.out _ hbwd).mono ?_; rintro e w3 ⟨A3, c3', rfl, h3, h4, h5⟩) | (go_at_call 36; refine (HGD.out w3 A3 c3' (hbwd.trans h5) h4 h3).mono ?_; rintro e w4 ⟨rfl, v', gs', hga', hgi', ht', hf'⟩; have y7 := (hf'.1 _ _ _ (q7.old (hbwd.trans h5)) HG7.out HNE7.out).1; have y9 := (hf'.1 _ _ _ (q9.old (hbwd.trans h5)) HG9.out HNE9.out).1; have y10 := (hf'.1 _ _ _ (kj.old (hbwd.trans h5)) hgn10 hvn10).1; have y77 := (hf'.1 _ _ _ (q7.old (hbwd.trans h5)) HG7.out HNE7.out).2))
              have hbf : Below w2.heap.size w2 w4 := (hbw2.trans ((hbwd.trans h5).mono hbw2.size)).trans ht'.below
              clear c0 c1 c2 c3 c4 c5 c6 c7
              go_wp2_with fail
              go_roundg (n2 - (k + 1))
              case rel =>
                refine ⟨k + 1, v', gs', by omega, rfl, by go_num, hga', ?_, hbf, y7, y77⟩
                rw [HMK.out, ← List.append_assoc, HTS.out, HTT.out]
                rw [HID.out, HTS.out] at hgi'
                exact hgi'
              case measure => have := HGK.out; omega
        · obtain rfl : k = n2 := by omega
          rw [HRN.out] at hgi
          have HGI := Lib.hid hgi
          clear hgi
          go_wp2_with fail
          go_roundg (n1 - (i + 1))
          case rel => exact ⟨i + 1, v, gs, by omega, rfl, by go_num, hga, by rw [HPT.out]; exact HGI.out, hbl⟩
          case measure => have := HG.out; omega
    · obtain rfl : i = n1 := by omega
      have hfull : mulL ((p1.take i).map PT.tm) (p2.map PT.tm) = mulL (p1.map PT.tm) (p2.map PT.tm) := by rw [← H1.out, List.take_length]
      rw [hfull] at hgi
      have hml : (mulL (p1.map PT.tm) (p2.map PT.tm)).length ≤ 50000 := by
        rw [len_mulL, List.length_map, List.length_map]
        exact Nat.le_trans (Nat.mul_le_mul HG1.out.len HG2.out.len) hN
      have hmn : nrm (mulL (p1.map PT.tm) (p2.map PT.tm)) < Big := by
        rw [nrm_mulL]
        exact Nat.lt_of_le_of_lt (Nat.mul_le_mul HG1.out.nm HG2.out.nm) hM
      have hgl : gs.length ≤ 100000 := by have h1 := hgi.len; rw [List.length_map] at h1; omega
      have HP := Lib.hid (poly_any w2.heap.size g mb v _ gs wr hga hgi hgl hmn)
      clear hgi hga hfull hml hmn
      go_wp2_with fail
      refine HP.out.mono ?_
      rintro e w4 hr
      obtain ⟨A1', c1', rs, rfl, hgd, hb4⟩ := HF.out _ _ _ hr
      have hbt : Below w.heap.size w wr := hbw.trans (hbl.mono hbw.size)
      go_wp2_with fail
      go_ret
      exact ⟨A1', c1', rs, rfl, { hgd with own := hgd.own.mono hbt.size }, hbt.trans (hb4.mono hbt.size)⟩
end Go.Proofs.YtpbapoanjkekmaaGreat
