/- The walk of SparseProduct. -/
import Derived.IntWalk
import Derived.Test.YtpbapoanjkekmaaZR
namespace Go.Proofs.Ytpbapoanjkekmaa
open Go.RowKit
attribute [local go_sem ↓] Go.wp_at_zero Go.wp_at_succ

/-- true, and nothing that lay has turned -/
def TrueRes (w : World) (e : Ending) (w' : World) : Prop := e = .returned (.bool true) ∧ Below w.heap.size w w'

set_option maxHeartbeats 8000000 in
set_option maxRecDepth 100000 in
theorem Product_any (A0 A1 A2 : Option Addr) (c0 c1 c2 : Nat) (ps qs rs : List PT) (w : World) (h0 : PolyIn w w.heap.size A0 ps) (h1 : PolyIn w w.heap.size A1 qs) (h2 : PolyIn w w.heap.size A2 rs)
    (v0 : ∀ p ∈ ps, WfM p.m) (v1 : ∀ p ∈ qs, WfM p.m) (v2 : ∀ p ∈ rs, WfM p.m) :
    Calls Try.prog 3 #[.slice A0 ps.length c0, .slice A1 qs.length c1, .slice A2 rs.length c2] w (TrueRes w) := by
  obtain ⟨i0, hi0, hz0, hz1, hz2⟩ := info_parts Try.infoTerm
  have HFT := Lib.hid (fit_any w)
  have H0 := Lib.hid h0; have H1 := Lib.hid h1; have H2 := Lib.hid h2
  have V0 := Lib.hid v0; have V1 := Lib.hid v1; have V2 := Lib.hid v2
  clear h0 h1 h2 v0 v1 v2
  go_enter Try.func3, Try.ntmps3
  go_wp2_with fail
  refine HFT.out.mono ?_
  rintro e w1 ⟨rfl, hb1⟩
  have HF0 := Lib.hid (few_any A0 c0 w.heap.size ps w1 (H0.out.below hb1))
  have HF1 := Lib.hid (few_any A1 c1 w.heap.size qs w1 (H1.out.below hb1))
  have HF2 := Lib.hid (few_any A2 c2 w.heap.size rs w1 (H2.out.below hb1))
  clear HFT
  go_wp2_with fail
  refine HF0.out.mono ?_
  rintro e w1' ⟨b0, rfl, hf0, rfl⟩
  cases b0 with
  | false =>
    clear hf0
    go_wp2_with fail
    go_ret
    exact ⟨rfl, hb1⟩
  | true =>
    have F0 := Lib.hid (hf0 rfl)
    clear hf0
    go_wp2_with fail
    refine HF1.out.mono ?_
    rintro e w1' ⟨b1, rfl, hf1, rfl⟩
    cases b1 with
    | false =>
      clear hf1
      go_wp2_with fail
      go_ret
      exact ⟨rfl, hb1⟩
    | true =>
      have F1 := Lib.hid (hf1 rfl)
      clear hf1
      go_wp2_with fail
      refine HF2.out.mono ?_
      rintro e w1' ⟨b2, rfl, hf2, rfl⟩
      cases b2 with
      | false =>
        clear hf2
        go_wp2_with fail
        go_ret
        exact ⟨rfl, hb1⟩
      | true =>
        have I0 := Lib.hid ((few_pin H0.out V0.out F0.out (by omega) (by omega)).below hb1)
        have I1 := Lib.hid ((few_pin H1.out V1.out F1.out (by omega) (by omega)).below hb1)
        have I2 := Lib.hid ((few_pin H2.out V2.out (hf2 rfl) (by omega) (by omega)).below hb1)
        have D0 := Lib.hid (fun p hp => (F0.out.2 p hp).1); have D1 := Lib.hid (fun p hp => (F1.out.2 p hp).1)
        clear hf2 HF0 HF1 HF2 H0 H1 H2 F0 F1 V0 V1 V2
        have hB := hb1.size
        have g1 : pw 7 < pw 47 := pw_lt (by decide)
        have g2 : pw 7 < pw 500 := pw_lt (by decide)
        have g3 : pw 7 * pw 7 < Big := by rw [pw_mul]; exact pw_lt (by decide)
        have HM := Lib.hid (SMul_any A0 A1 c0 c1 w.heap.size 8 8 9 9 (pw (6 + 1)) (pw (6 + 1)) ps qs w1 hB I0.out I1.out (by omega) (by omega) (by omega) (by omega) (by omega) g1 g2 g3)
        go_wp2_with fail
        refine HM.out.mono ?_
        rintro e w2 ⟨Am, cm, ms, rfl, hgm, hb2⟩
        have HGM := Lib.hid hgm
        have im := hgm.pin (by omega) g3
        have HCA := Lib.hid (Can_any Am cm w2.heap.size ms w2 (Nat.le_refl _) im.pin hgm.can hgm.own.cn (by have := im.len; omega) im.dl)
        have HIM := Lib.hid im
        clear hgm im HM
        go_wp2_with fail
        refine HCA.out.mono ?_
        rintro e w3 ⟨rfl, hb3⟩
        have hbx3 : Below w1.heap.size w1 w3 := hb2.trans (hb3.mono hb2.size)
        have HM2 := Lib.hid (SMul_any A1 A0 c1 c0 w.heap.size 8 8 9 9 (pw (6 + 1)) (pw (6 + 1)) qs ps w3 (Nat.le_trans hB hbx3.size) (I1.out.below (hbx3.mono hB)) (I0.out.below (hbx3.mono hB)) (by omega) (by omega) (by omega) (by omega) (by omega) g1 g2 g3)
        clear HCA
        go_wp2_with fail
        refine HM2.out.mono ?_
        rintro e w4 ⟨An, cn, ns, rfl, hgn, hb4⟩
        have imm := HIM.out.below (hb3.trans (hb4.mono hb3.size))
        have hin := hgn.pin (by omega) g3
        have HS := Lib.hid (SSame_any Am An cm cn w4.heap.size (8 * 8) (8 * 8) (9 + 9) (9 + 9) (pw (6 + 1) * pw (6 + 1)) (pw (6 + 1) * pw (6 + 1)) ms ns w4 (Nat.le_refl _) (imm.more (Nat.le_trans hb3.size hb4.size)) hin (by omega) (by omega) g3 g3 (by omega) (by omega))
        have HSE := Lib.hid (fun m => show cf (ms.map PT.tm) m = cf (ns.map PT.tm) m by rw [HGM.out.cf, hgn.cf, mulC_comm])
        clear hgn imm hin HM2
        go_wp2_with fail
        refine HS.out.mono ?_
        rintro e w5 hsr
        obtain ⟨rfl, hb5⟩ := hsr.yes HSE.out
        clear hsr HS HSE
        have g4 : pw (6 + 1) + pw (6 + 1) < Big := Nat.lt_of_le_of_lt (pw_dbl 7) (pw_lt (by decide))
        have g5 : pw (6 + 1) + pw (6 + 1) < pw 500 := Nat.lt_of_le_of_lt (pw_dbl 7) (pw_lt (by decide))
        have g6 : pw (6 + 1) * (pw (6 + 1) + pw (6 + 1)) < Big := Nat.lt_of_le_of_lt (Nat.mul_le_mul_left _ (pw_dbl 7)) (by rw [pw_mul]; exact pw_lt (by decide))
        have g7 : pw (6 + 1) * pw (6 + 1) + pw (6 + 1) * pw (6 + 1) < Big := by rw [pw_mul]; exact Nat.lt_of_le_of_lt (pw_dbl 14) (pw_lt (by decide))
        have k5 : Below w1.heap.size w1 w5 := (hbx3.trans (hb4.mono hbx3.size)).trans (hb5.mono (Nat.le_trans hbx3.size hb4.size))
        have im5 : Below w2.heap.size w2 w5 := (hb3.trans (hb4.mono hb3.size)).trans (hb5.mono (Nat.le_trans hb3.size hb4.size))
        clear hb3 hb4 hb5 hbx3
        have HA1 := Lib.hid (SAdd_any A1 A2 c1 c2 w.heap.size 8 8 9 (pw (6 + 1)) (pw (6 + 1)) qs rs w5 (Nat.le_trans hB k5.size) (I1.out.below (k5.mono hB)) (I2.out.below (k5.mono hB)) (by omega) g4)
        go_wp2_with fail
        refine HA1.out.mono ?_
        rintro e w6 ⟨Aa, ca, sms, rfl, hga, hb6⟩
        have k6 := k5.trans (hb6.mono k5.size)
        have ia := hga.pin (by omega) g4
        have HM3 := Lib.hid (SMul_any A0 Aa c0 ca w6.heap.size 8 (8 + 8) 9 9 (pw (6 + 1)) (pw (6 + 1) + pw (6 + 1)) ps sms w6 (Nat.le_refl _) ((I0.out.below (k6.mono hB)).more (Nat.le_trans hB k6.size)) ia (by omega) (by omega) (by omega) (by omega) (by omega) g1 g5 g6)
        have HCA := Lib.hid hga.cf
        clear hga ia HA1
        go_wp2_with fail
        refine HM3.out.mono ?_
        rintro e w7 ⟨Ax, cx, xs, rfl, hgx, hb7⟩
        have k7 := k6.trans (hb7.mono k6.size)
        have HGX := Lib.hid hgx
        clear hgx HM3
        have HM4 := Lib.hid (SMul_any A0 A2 c0 c2 w.heap.size 8 8 9 9 (pw (6 + 1)) (pw (6 + 1)) ps rs w7 (Nat.le_trans hB k7.size) (I0.out.below (k7.mono hB)) (I2.out.below (k7.mono hB)) (by omega) (by omega) (by omega) (by omega) (by omega) g1 g2 g3)
        go_wp2_with fail
        refine HM4.out.mono ?_
        rintro e w8 ⟨Ay, cy, ys, rfl, hgy, hb8⟩
        have k8 := k7.trans (hb8.mono k7.size)
        have im8 : Below w2.heap.size w2 w8 := ((im5.trans (hb6.mono im5.size)).trans (hb7.mono (Nat.le_trans im5.size hb6.size))).trans (hb8.mono (Nat.le_trans (Nat.le_trans im5.size hb6.size) hb7.size))
        have iy := hgy.pin (by omega) g3
        have HA2 := Lib.hid (SAdd_any Am Ay cm cy w8.heap.size (8 * 8) (8 * 8) (9 + 9) (pw (6 + 1) * pw (6 + 1)) (pw (6 + 1) * pw (6 + 1)) ms ys w8 (Nat.le_refl _) ((HIM.out.below im8).more im8.size) iy (by omega) g7)
        have HCY := Lib.hid hgy.cf
        have HGX8 := Lib.hid (HGX.out.old hb8)
        clear hgy iy HM4 HGX
        go_wp2_with fail
        refine HA2.out.mono ?_
        rintro e w9 ⟨Az, cz, zs, rfl, hgz, hb9⟩
        have k9 := k8.trans (hb9.mono k8.size)
        have iz := hgz.pin (by omega) g7
        have ix := (HGX8.out.pin (by omega) g6).old hb9
        have HS := Lib.hid (SSame_any Ax Az cx cz w9.heap.size (8 * (8 + 8)) (8 * 8 + 8 * 8) (9 + 9) (9 + 9) (pw (6 + 1) * (pw (6 + 1) + pw (6 + 1))) (pw (6 + 1) * pw (6 + 1) + pw (6 + 1) * pw (6 + 1)) xs zs w9 (Nat.le_refl _) ix iz (by omega) (by omega) g6 g7 (by omega) (by omega))
        have HSE := Lib.hid (fun m => show cf (xs.map PT.tm) m = cf (zs.map PT.tm) m by rw [HGX8.out.cf, hgz.cf, HGM.out.cf, HCY.out, mulC_dist HCA.out])
        clear hgz iz ix HA2 HCY HCA HGX8
        go_wp2_with fail
        refine HS.out.mono ?_
        rintro e w10 hsr
        obtain ⟨rfl, hb10⟩ := hsr.yes HSE.out
        have k10 := k9.trans (hb10.mono k9.size)
        have im10 : Below w2.heap.size w2 w10 := (im8.trans (hb9.mono im8.size)).trans (hb10.mono (Nat.le_trans im8.size hb9.size))
        clear hsr HS HSE hb6 hb7 hb8 hb9 hb10 k5 k6 k7 k8 k9 im5 im8
        go_wp2_with fail
        have I0' := Lib.hid (I0.out.below (k10.mono hB)); have I1' := Lib.hid (I1.out.below (k10.mono hB))
        have hBw : w.heap.size ≤ w10.heap.size := Nat.le_trans hB k10.size
        have hl0 := I0.out.len; have hl1 := I1.out.len
        clear I0 I1 I2 g1 g2 g4 g5 g6 g7
        generalize hn1 : ps.length = n1 at *
        generalize hn2 : qs.length = n2 at *
        have N1 := Lib.hid hn1; have N2 := Lib.hid hn2
        clear hn1 hn2
        go_loopg [8, 64] n1 (fun gn rv ix wr => ∃ (i : Nat) (al : List PT), i ≤ n1 ∧ gn = n1 - i ∧ ix = .int .i64 i ∧ POwn wr w10.heap.size rv al ∧ al.map PT.tm = mulL (vF ((ps.take i).map PT.tm)) (vF (qs.map PT.tm)) ∧ Below w10.heap.size w10 wr)
        case atStart => exact ⟨0, [], Nat.zero_le _, rfl, rfl, POwn.nil _ _, rfl, Below.refl _ _⟩
        case round =>
          obtain ⟨i, al, hi, hgi0, rfl, hal, hat, hbl⟩ := hrel
          have HG := Lib.hid hgi0; have HAT := Lib.hid hat
          clear hgi0 hat
          obtain ⟨Ar, cr, hrv⟩ := own_slice6 hal.row
          subst hrv
          by_cases hlt : i < n1
          · obtain ⟨p, hp⟩ : ∃ p, ps[i]? = some p := ⟨_, List.getElem?_eq_getElem (by have := N1.out; omega)⟩
            have hpm := List.mem_of_getElem? hp
            have hin := I0'.out.below (hbl.mono hBw)
            obtain ⟨b, o, hAe, hbb, d0, d1, d2, d3, d4, d5⟩ := hin.pin.at_ hp
            have i1 : (i : Int) < (n1 : Int) := by omega
            have i2 : (0 : Int) ≤ (i : Int) := by omega
            have hsz := hbl.size
            subst hAe
            have hb10 := (Below.refl wr.heap.size wr).alloc (Nat.le_refl _) (.cells p.cells.toArray 35)
            have q10 := Blk.new wr 35 p.cells.toArray
            have hal10 := hal.old hb10
            have hbl10 := hbl.trans (hb10.mono hsz)
            have hne10 : (Value.slice Ar al.length cr).ownBlock ≠ some wr.heap.size := own_new_ne hal.row 0
            have HMV := Lib.hid (show mulL (vF ((ps.take (i + 1)).map PT.tm)) (vF (qs.map PT.tm)) = mulL (vF ((ps.take i).map PT.tm)) (vF (qs.map PT.tm)) ++ rowV p.tm (qs.map PT.tm) by rw [take_snoc_tm hp, mulV_snoc])
            have HRP := Lib.hid (fun W => RV_any p.m W)
            unfold moV at HRP
            simp only [PT.cells] at q10 hal10 hbl10
            by_cases hvp : vld p.m = true
            · rw [hvp] at HRP
              have hpv := vld_iff.1 hvp
              have hpe := I0'.out.mb p hpm hvp
              unfold MB at hpe
              have hpd := D0.out p hpm
              have HPN := Lib.hid (I0'.out.pin.nt p hpm)
              have HRS := Lib.hid (fun (k : Nat) (t : PT) (ht : qs[k]? = some t) => show (vld t.m = false → rowV p.tm ((qs.take (k + 1)).map PT.tm) = rowV p.tm ((qs.take k).map PT.tm)) ∧ (vld t.m = true → rowV p.tm ((qs.take (k + 1)).map PT.tm) = rowV p.tm ((qs.take k).map PT.tm) ++ [(p.tm.1 * t.tm.1, addM p.tm.2 t.tm.2)]) from
                ⟨fun hf => by rw [take_snoc_tm ht]; exact rowV_skip _ hf, fun hf => by rw [take_snoc_tm ht]; exact rowV_snoc _ hvp hf⟩)
              have HR0 := Lib.hid (rowV_nil p.tm)
              have HRN := Lib.hid (show rowV p.tm ((qs.take n2).map PT.tm) = rowV p.tm (qs.map PT.tm) by rw [← N2.out, List.take_length])
              have HTS := Lib.hid (show p.tm = (ival p.ng p.ds, p.m.1, p.m.2.1, p.m.2.2.1, p.m.2.2.2) from rfl)
              clear hvp hin hp hpm hal hbl hb10
              generalize p.tm = ptm at *
              generalize p.m.1 = s0 at *
              generalize p.m.2.1 = s1 at *
              generalize p.m.2.2.1 = s2 at *
              generalize p.m.2.2.2 = s3 at *
              generalize p.ng = sn at *
              generalize p.A = sA at *
              generalize p.c = sc at *
              generalize p.ds = sd at *
              obtain ⟨hpv0, hpv1, hpv2, hpv3⟩ := hpv
              obtain ⟨hpe0, hpe1, hpe2, hpe3⟩ := hpe
              go_wp2_with fail
              generalize wr.alloc (.cells #[.bool sn, .slice sA sd.length sc, .int .i64 s0, .int .i64 s1, .int .i64 s2, .int .i64 s3] 35) = W7 at *
              generalize wr.heap.size = b10 at *
              clear d0 d1 d2 d3 d4 d5
              go_loopg [8, 12, 13, 14, 70, 90] n2 (fun gn rv _ _ _ ix _ wr' => ∃ (k : Nat) (al' : List PT), k ≤ n2 ∧ gn = n2 - k ∧ ix = .int .i64 k ∧ POwn wr' w10.heap.size rv al' ∧ al'.map PT.tm = mulL (vF ((ps.take i).map PT.tm)) (vF (qs.map PT.tm)) ++ rowV ptm ((qs.take k).map PT.tm) ∧ rv.ownBlock ≠ some b10 ∧ Below w10.heap.size w10 wr' ∧ Blk wr' b10 35 #[.bool sn, .slice sA sd.length sc, .int .i64 s0, .int .i64 s1, .int .i64 s2, .int .i64 s3])
              case atStart => exact ⟨0, al, Nat.zero_le _, rfl, rfl, hal10, by show _ = _ ++ rowV ptm []; rw [HR0.out, List.append_nil]; exact HAT.out, hne10, hbl10, q10⟩
              case round =>
                obtain ⟨k, al', hk, hgk0, rfl, hal', hat', hne', hbl', q10'⟩ := hrel
                have HGK := Lib.hid hgk0; have HAT' := Lib.hid hat'
                clear hgk0 hat'
                obtain ⟨Ar', cr', hrv⟩ := own_slice6 hal'.row
                subst hrv
                by_cases hlt2 : k < n2
                · obtain ⟨t, ht⟩ : ∃ t, qs[k]? = some t := ⟨_, List.getElem?_eq_getElem (by have := N2.out; omega)⟩
                  have htm := List.mem_of_getElem? ht
                  obtain ⟨b', o', hAe, hbb', d0, d1, d2, d3, d4, d5⟩ := (I1'.out.below (hbl'.mono hBw)).pin.at_ ht
                  have j1 : (k : Int) < (n2 : Int) := by omega
                  have j2 : (0 : Int) ≤ (k : Int) := by omega
                  have hsz' := hbl'.size
                  subst hAe
                  have e2 : wr.cell? ⟨b10, 2, none⟩ = some (.int .i64 s0) := q10'.cell 2
                  have e3 : wr.cell? ⟨b10, 3, none⟩ = some (.int .i64 s1) := q10'.cell 3
                  have e4 : wr.cell? ⟨b10, 4, none⟩ = some (.int .i64 s2) := q10'.cell 4
                  have e5 : wr.cell? ⟨b10, 5, none⟩ = some (.int .i64 s3) := q10'.cell 5
                  have l10 := q10'.lt
                  have hba := (Below.refl wr.heap.size wr).alloc (Nat.le_refl _) (.cells #[.bool t.ng, .slice t.A t.ds.length t.c, .int .i64 t.m.1, .int .i64 t.m.2.1, .int .i64 t.m.2.2.1, .int .i64 t.m.2.2.2] 35)
                  have q12 := Blk.new wr 35 #[.bool t.ng, .slice t.A t.ds.length t.c, .int .i64 t.m.1, .int .i64 t.m.2.1, .int .i64 t.m.2.2.1, .int .i64 t.m.2.2.2]
                  have HRT := Lib.hid (fun W => RV_any t.m W)
                  unfold moV at HRT
                  have HSK := Lib.hid (HRS.out k t ht)
                  have HTN := Lib.hid (I1'.out.pin.nt t htm)
                  have HTD := Lib.hid (D1.out t htm)
                  have HTE := Lib.hid (I1'.out.mb t htm)
                  unfold MB at HTE
                  have HTV := Lib.hid (fun h => (vld_iff (m := t.m)).1 h)
                  have HTT := Lib.hid (show t.tm = (ival t.ng t.ds, t.m.1, t.m.2.1, t.m.2.2.1, t.m.2.2.2) from rfl)
                  clear ht htm
                  generalize t.tm = ttm at *
                  generalize vld t.m = vt at *
                  generalize t.m.1 = t0 at *
                  generalize t.m.2.1 = t1 at *
                  generalize t.m.2.2.1 = t2 at *
                  generalize t.m.2.2.2 = t3 at *
                  generalize t.ng = tn at *
                  generalize t.A = tA at *
                  generalize t.c = tc at *
                  generalize t.ds = td at *
                  go_wp2_with fail
                  refine (HRP.out _).mono ?_
                  rintro e w11 ⟨rfl, hl11⟩
                  have hb11 := hba.trans (hl11.below.mono hba.size)
                  have q12' := q12.old hl11.below
                  have q10'' := q10'.old hb11
                  have hal11 := hal'.old hb11
                  have hbl11 := hbl'.trans (hb11.mono hsz')
                  clear e2 e3 e4 e5
                  have e2 : w11.cell? ⟨wr.heap.size, 2, none⟩ = some (.int .i64 t0) := q12'.cell 2
                  have e3 : w11.cell? ⟨wr.heap.size, 3, none⟩ = some (.int .i64 t1) := q12'.cell 3
                  have e4 : w11.cell? ⟨wr.heap.size, 4, none⟩ = some (.int .i64 t2) := q12'.cell 4
                  have e5 : w11.cell? ⟨wr.heap.size, 5, none⟩ = some (.int .i64 t3) := q12'.cell 5
                  clear d0 d1 d2 d3 d4 d5 hba q12 q10' hal' hbl' hl11 hb11
                  go_wp2_with fail
                  refine (HRT.out _).mono ?_
                  rintro e w12 ⟨rfl, hl12⟩
                  have hb12 := hl12.below
                  have r12 := q12'.old hb12
                  have r10 := q10''.old hb12
                  have hal12 := hal11.old hb12
                  have hbl12 := hbl11.trans (hb12.mono hbl11.size)
                  have hne12 : b10 ≠ wr.heap.size := by omega
                  clear e2 e3 e4 e5 q12' q10'' hal11 hbl11 hb12 hl12
                  cases vt with
                  | false =>
                    have HS1 := Lib.hid (HSK.out.1 rfl)
                    go_wp2_with fail
                    go_roundg (n2 - (k + 1))
                    case rel => exact ⟨k + 1, al', by omega, rfl, by go_num, hal12, by rw [HS1.out]; exact HAT'.out, hne', hbl12, r10⟩
                    case measure => have := HGK.out; omega
                  | true =>
                    have HS1 := Lib.hid (HSK.out.2 rfl)
                    obtain ⟨htv0, htv1, htv2, htv3⟩ := HTV.out rfl
                    obtain ⟨hte0, hte1, hte2, hte3⟩ := HTE.out rfl
                    have u0 : w12.cell? ⟨b10, 0, none⟩ = some (.bool sn) := r10.cell 0
                    have u1 : w12.cell? ⟨b10, 1, none⟩ = some (.slice sA sd.length sc) := r10.cell 1
                    have y0 : w12.cell? ⟨wr.heap.size, 0, none⟩ = some (.bool tn) := r12.cell 0
                    have y1 : w12.cell? ⟨wr.heap.size, 1, none⟩ = some (.slice tA td.length tc) := r12.cell 1
                    have htd := HTD.out
                    have HIMU := Lib.hid (IMul_any sn tn sA tA sc tc w.heap.size sd td w12 (Nat.le_trans hBw hbl12.size) (HPN.out.below (hbl12.mono hBw)) (HTN.out.below (hbl12.mono hBw)) (by omega) (by omega))
                    unfold IntRes at HIMU
                    generalize wr.heap.size = b12 at *
                    clear wr
                    go_wp2_with fail
                    refine HIMU.out.mono ?_
                    rintro e w13 ⟨A3, c3, rfl, h3, h4, h5⟩
                    have hbz := h5.alloc h5.size (.cells #[.bool (decide (ival sn sd * ival tn td < 0)), .slice A3 (dig (ival sn sd * ival tn td).natAbs).length c3, .int .i64 0, .int .i64 0, .int .i64 0, .int .i64 0] 35)
                    have HB13 := Lib.hid (Blk.new w13 35 #[.bool (decide (ival sn sd * ival tn td < 0)), .slice A3 (dig (ival sn sd * ival tn td).natAbs).length c3, .int .i64 0, .int .i64 0, .int .i64 0, .int .i64 0])
                    have hba13 := (Below.refl w13.heap.size w13).alloc (Nat.le_refl _) (.cells #[.bool (decide (ival sn sd * ival tn td < 0)), .slice A3 (dig (ival sn sd * ival tn td).natAbs).length c3, .int .i64 0, .int .i64 0, .int .i64 0, .int .i64 0] 35)
                    have HKX := Lib.hid (fun (Wx : World) (hx : Below w13.heap.size (w13.alloc (.cells #[.bool (decide (ival sn sd * ival tn td < 0)), .slice A3 (dig (ival sn sd * ival tn td).natAbs).length c3, .int .i64 0, .int .i64 0, .int .i64 0, .int .i64 0] 35)) Wx) => show POwn Wx w10.heap.size (.slice Ar' al'.length cr') al' ∧ NatB Wx A3 (dig (ival sn sd * ival tn td).natAbs) ∧ Below w10.heap.size w10 Wx from
                      ⟨(hal12.old h5).old (hba13.trans hx), h4.old (hba13.trans hx), (hbl12.trans (h5.mono hbl12.size)).trans ((hba13.trans hx).mono (Nat.le_trans hbl12.size h5.size))⟩)
                    clear hba13
                    have n1013 : b10 ≠ w13.heap.size := by have := r10.lt; have := h5.size; omega
                    have n1213 : b12 ≠ w13.heap.size := by have := r12.lt; have := h5.size; omega
                    have l10 : b10 < w13.heap.size := by have := r10.lt; have := h5.size; omega
                    have l12 : b12 < w13.heap.size := by have := r12.lt; have := h5.size; omega
                    have hv13 : (Value.slice Ar' al'.length cr').ownBlock ≠ some w13.heap.size := by
                      have := own_new_ne (own_old hal12.row h5) 0
                      exact this
                    replace r10 := r10.old hbz
                    replace r12 := r12.old hbz
                    clear u0 u1 y0 y1 hal12 hbl12 hbz h4
                    go_wp2_with fail
                    have h13 := HB13.out
                    have hH13 := Lib.hid h5.size
                    generalize w13.alloc (.cells #[.bool (decide (ival sn sd * ival tn td < 0)), .slice A3 (dig (ival sn sd * ival tn td).natAbs).length c3, .int .i64 0, .int .i64 0, .int .i64 0, .int .i64 0] 35) = X at *
                    generalize w13.heap.size = b13 at *
                    clear HB13
                    go_loopg [14, 90] 4 (fun gn _ ix wj => ∃ (j : Nat) (z : Int), j ≤ 4 ∧ z = j ∧ gn = 4 - j ∧ ix = .int .i64 z ∧ Blk wj b13 35 (mix6 (.bool (decide (ival sn sd * ival tn td < 0))) (.slice A3 (dig (ival sn sd * ival tn td).natAbs).length c3) (s0 + t0) (s1 + t1) (s2 + t2) (s3 + t3) j) ∧ Below b13 X wj)
                    case atStart => exact ⟨0, 0, by omega, rfl, rfl, rfl, h13, Below.refl _ _⟩
                    case round =>
                      obtain ⟨j, z, hj, hz, hgj, rfl, kj, hbj⟩ := hrel
                      have HGJ := Lib.hid hgj; clear hgj
                      by_cases hlt3 : j < 4
                      · rcases (by omega : j = 0 ∨ j = 1 ∨ j = 2 ∨ j = 3) with rfl | rfl | rfl | rfl
                        · obtain rfl : z = 0 := hz
                          have cj : wr.cell? ⟨b13, 2, none⟩ = some (.int .i64 0) := kj.cell 2
                          have fj := kj.frozen 2
                          have pj : wr.cell? ⟨b10, 2, none⟩ = some (.int .i64 s0) := (r10.below hbj l10).cell 2
                          have qj : wr.cell? ⟨b12, 2, none⟩ = some (.int .i64 t0) := (r12.below hbj l12).cell 2
                          have wj : IntKind.i64.wrap (s0 + t0) = s0 + t0 := IntWalk.i64_in _ (by omega)
                          go_wp2_with fail
                          go_region_held3 (fun w' => w'.cell? ⟨b10, 2, none⟩ = some (.int .i64 s0) ∧ w'.cell? ⟨b12, 2, none⟩ = some (.int .i64 t0)) (first | exact ⟨pj, qj⟩ | exact ⟨cell_far1 pj n1013, cell_far1 qj n1213⟩) (fail)
                          clear wj cj fj pj qj
                          go_wp2_with fail
                          go_roundg 3
                          case rel => exact ⟨1, 1, by omega, rfl, rfl, rfl, (Blk.drawn kj (.drew _)).set_ 2 _, (hbj.trans ((Drawn.drew _).below _)).setCell (Nat.le_refl _) _⟩
                          case measure => have := HGJ.out; omega
                        · obtain rfl : z = 1 := hz
                          have cj : wr.cell? ⟨b13, 3, none⟩ = some (.int .i64 0) := kj.cell 3
                          have fj := kj.frozen 3
                          have pj : wr.cell? ⟨b10, 3, none⟩ = some (.int .i64 s1) := (r10.below hbj l10).cell 3
                          have qj : wr.cell? ⟨b12, 3, none⟩ = some (.int .i64 t1) := (r12.below hbj l12).cell 3
                          have wj : IntKind.i64.wrap (s1 + t1) = s1 + t1 := IntWalk.i64_in _ (by omega)
                          go_wp2_with fail
                          go_region_held3 (fun w' => w'.cell? ⟨b10, 3, none⟩ = some (.int .i64 s1) ∧ w'.cell? ⟨b12, 3, none⟩ = some (.int .i64 t1)) (first | exact ⟨pj, qj⟩ | exact ⟨cell_far1 pj n1013, cell_far1 qj n1213⟩) (fail)
                          clear wj cj fj pj qj
                          go_wp2_with fail
                          go_roundg 2
                          case rel => exact ⟨2, 2, by omega, rfl, rfl, rfl, (Blk.drawn kj (.drew _)).set_ 3 _, (hbj.trans ((Drawn.drew _).below _)).setCell (Nat.le_refl _) _⟩
                          case measure => have := HGJ.out; omega
                        · obtain rfl : z = 2 := hz
                          have cj : wr.cell? ⟨b13, 4, none⟩ = some (.int .i64 0) := kj.cell 4
                          have fj := kj.frozen 4
                          have pj : wr.cell? ⟨b10, 4, none⟩ = some (.int .i64 s2) := (r10.below hbj l10).cell 4
                          have qj : wr.cell? ⟨b12, 4, none⟩ = some (.int .i64 t2) := (r12.below hbj l12).cell 4
                          have wj : IntKind.i64.wrap (s2 + t2) = s2 + t2 := IntWalk.i64_in _ (by omega)
                          go_wp2_with fail
                          go_region_held3 (fun w' => w'.cell? ⟨b10, 4, none⟩ = some (.int .i64 s2) ∧ w'.cell? ⟨b12, 4, none⟩ = some (.int .i64 t2)) (first | exact ⟨pj, qj⟩ | exact ⟨cell_far1 pj n1013, cell_far1 qj n1213⟩) (fail)
                          clear wj cj fj pj qj
                          go_wp2_with fail
                          go_roundg 1
                          case rel => exact ⟨3, 3, by omega, rfl, rfl, rfl, (Blk.drawn kj (.drew _)).set_ 4 _, (hbj.trans ((Drawn.drew _).below _)).setCell (Nat.le_refl _) _⟩
                          case measure => have := HGJ.out; omega
                        · obtain rfl : z = 3 := hz
                          have cj : wr.cell? ⟨b13, 5, none⟩ = some (.int .i64 0) := kj.cell 5
                          have fj := kj.frozen 5
                          have pj : wr.cell? ⟨b10, 5, none⟩ = some (.int .i64 s3) := (r10.below hbj l10).cell 5
                          have qj : wr.cell? ⟨b12, 5, none⟩ = some (.int .i64 t3) := (r12.below hbj l12).cell 5
                          have wj : IntKind.i64.wrap (s3 + t3) = s3 + t3 := IntWalk.i64_in _ (by omega)
                          go_wp2_with fail
                          go_region_held3 (fun w' => w'.cell? ⟨b10, 5, none⟩ = some (.int .i64 s3) ∧ w'.cell? ⟨b12, 5, none⟩ = some (.int .i64 t3)) (first | exact ⟨pj, qj⟩ | exact ⟨cell_far1 pj n1013, cell_far1 qj n1213⟩) (fail)
                          clear wj cj fj pj qj
                          go_wp2_with fail
                          go_roundg 0
                          case rel => exact ⟨4, 4, by omega, rfl, rfl, rfl, (Blk.drawn kj (.drew _)).set_ 5 _, (hbj.trans ((Drawn.drew _).below _)).setCell (Nat.le_refl _) _⟩
                          case measure => have := HGJ.out; omega
                      · obtain rfl : j = 4 := by omega
                        obtain rfl : z = 4 := hz
                        obtain ⟨hal14, hnb14, hbl14⟩ := HKX.out wr hbj
                        have z10 := r10.below hbj l10
                        have y0 : wr.cell? ⟨b13, 0, none⟩ = some (.bool (decide (ival sn sd * ival tn td < 0))) := kj.cell 0
                        have y1 : wr.cell? ⟨b13, 1, none⟩ = some (.slice A3 (dig (ival sn sd * ival tn td).natAbs).length c3) := kj.cell 1
                        have y2 : wr.cell? ⟨b13, 2, none⟩ = some (.int .i64 (s0 + t0)) := kj.cell 2
                        have y3 : wr.cell? ⟨b13, 3, none⟩ = some (.int .i64 (s1 + t1)) := kj.cell 3
                        have y4 : wr.cell? ⟨b13, 4, none⟩ = some (.int .i64 (s2 + t2)) := kj.cell 4
                        have y5 : wr.cell? ⟨b13, 5, none⟩ = some (.int .i64 (s3 + t3)) := kj.cell 5
                        have hlen' : al'.length ≤ 100 := by
                          have h1 : (al'.map PT.tm).length ≤ 100 := by rw [HAT'.out]; exact allV_len _ _ _ _ (by rw [List.length_map, List.length_take]; omega) (by rw [List.length_map, N2.out]; omega) (by rw [List.length_map, List.length_take]; omega)
                          rwa [List.length_map] at h1
                        have hx1 := (Below.refl wr.heap.size wr).alloc (Nat.le_refl _) (.cells #[.bool (decide (ival sn sd * ival tn td < 0)), .slice A3 (dig (ival sn sd * ival tn td).natAbs).length c3, .int .i64 (s0 + t0), .int .i64 (s1 + t1), .int .i64 (s2 + t2), .int .i64 (s3 + t3)] 35)
                        have hro := own_old hal14.row hx1
                        have hrd : Reads (wr.alloc (.cells #[.bool (decide (ival sn sd * ival tn td < 0)), .slice A3 (dig (ival sn sd * ival tn td).natAbs).length c3, .int .i64 (s0 + t0), .int .i64 (s1 + t1), .int .i64 (s2 + t2), .int .i64 (s3 + t3)] 35)) (wr.heap.size + 1) 6 (some ⟨wr.heap.size, 0, none⟩) 1 (mkP (ival sn sd * ival tn td) A3 c3 (s0 + t0, s1 + t1, s2 + t2, s3 + t3)).cells := Reads.six_new wr (mkP (ival sn sd * ival tn td) A3 c3 (s0 + t0, s1 + t1, s2 + t2, s3 + t3)).cells rfl 35
                        have HONE := Lib.hid (cells_one1 (mkP (ival sn sd * ival tn td) A3 c3 (s0 + t0, s1 + t1, s2 + t2, s3 + t3)))
                        go_wp2_with (first | (at_builtin; refine wpList_append_any _ rfl (.tmp 106) (.tmp 108) 23 rfl w10.heap.size 35 i0 _ 6 64 Try.underlying23 hi0 hz0 hz1 hz2 rfl (by decide) (.slice Ar' al'.length cr') al'.length _ rfl hro (wr.heap.size + 1) (some ⟨wr.heap.size, 0, none⟩) 1 1 (mkP (ival sn sd * ival tn td) A3 c3 (s0 + t0, s1 + t1, s2 + t2, s3 + t3)).cells rfl hrd HONE.out (by unfold maxLen; omega) (by omega) (Nat.le_trans hbl14.size hx1.size) ?_; intro v' w15 hown4 hg4 hat4))
                        obtain ⟨hal15, hb15⟩ := hal14.snoc hbl14.size (q := mkP (ival sn sd * ival tn td) A3 c3 (s0 + t0, s1 + t1, s2 + t2, s3 + t3)) hnb14 h3 (mkP_cn _ _ _ _) _ hown4 hg4
                        have z15 := (z10.alloc (.cells #[.bool (decide (ival sn sd * ival tn td < 0)), .slice A3 (dig (ival sn sd * ival tn td).natAbs).length c3, .int .i64 (s0 + t0), .int .i64 (s1 + t1), .int .i64 (s2 + t2), .int .i64 (s3 + t3)] 35)).grown hg4 (fun e => hne' e.symm)
                        have hne15 : v'.ownBlock ≠ some b10 := fun e => by
                          rcases hat4 with x | x
                          · exact hne' (x.symm.trans e)
                          · rw [e] at x
                            injection x with x
                            have := z10.lt
                            simp at x
                            omega
                        go_roundg (n2 - (k + 1))
                        case rel => exact ⟨k + 1, al' ++ [mkP (ival sn sd * ival tn td) A3 c3 (s0 + t0, s1 + t1, s2 + t2, s3 + t3)], by omega, rfl, by go_num, hal15, by rw [List.map_append, List.map_cons, List.map_nil, mkP_tm, HAT'.out, HS1.out, HTS.out, HTT.out, List.append_assoc]; rfl, hne15, hbl14.trans hb15, z15⟩
                        case measure => have := HGK.out; omega
                · obtain rfl : k = n2 := by omega
                  go_wp2_with fail
                  go_roundg (n1 - (i + 1))
                  case rel => exact ⟨i + 1, al', by omega, rfl, by go_num, hal', by rw [HMV.out, HAT'.out, HRN.out], hbl'⟩
                  case measure => have := HG.out; omega
            · have hvf : vld p.m = false := by simpa using hvp
              rw [hvf] at HRP
              rw [rowV_bad (p := p.tm) hvf, List.append_nil] at HMV
              clear hvp hvf hin hp hpm hal hbl hb10
              generalize p.m.1 = s0 at *
              generalize p.m.2.1 = s1 at *
              generalize p.m.2.2.1 = s2 at *
              generalize p.m.2.2.2 = s3 at *
              generalize p.ng = sn at *
              generalize p.A = sA at *
              generalize p.c = sc at *
              generalize p.ds = sd at *
              go_wp2_with fail
              generalize wr.alloc (.cells #[.bool sn, .slice sA sd.length sc, .int .i64 s0, .int .i64 s1, .int .i64 s2, .int .i64 s3] 35) = W7 at *
              generalize wr.heap.size = b10 at *
              clear d0 d1 d2 d3 d4 d5
              go_loopg [8, 12, 70] n2 (fun gn rv _ ix wr' => ∃ (k : Nat), k ≤ n2 ∧ gn = n2 - k ∧ ix = .int .i64 k ∧ rv = .slice Ar al.length cr ∧ POwn wr' w10.heap.size (.slice Ar al.length cr) al ∧ Below w10.heap.size w10 wr' ∧ Blk wr' b10 35 #[.bool sn, .slice sA sd.length sc, .int .i64 s0, .int .i64 s1, .int .i64 s2, .int .i64 s3])
              case atStart => exact ⟨0, Nat.zero_le _, rfl, rfl, rfl, hal10, hbl10, q10⟩
              case round =>
                obtain ⟨k, hk, hgk0, rfl, rfl, hal', hbl', q10'⟩ := hrel
                have HGK := Lib.hid hgk0; clear hgk0
                by_cases hlt2 : k < n2
                · obtain ⟨t, ht⟩ : ∃ t, qs[k]? = some t := ⟨_, List.getElem?_eq_getElem (by have := N2.out; omega)⟩
                  obtain ⟨b', o', hAe, hbb', d0, d1, d2, d3, d4, d5⟩ := (I1'.out.below (hbl'.mono hBw)).pin.at_ ht
                  have j1 : (k : Int) < (n2 : Int) := by omega
                  have j2 : (0 : Int) ≤ (k : Int) := by omega
                  have hsz' := hbl'.size
                  subst hAe
                  have e2 : wr.cell? ⟨b10, 2, none⟩ = some (.int .i64 s0) := q10'.cell 2
                  have e3 : wr.cell? ⟨b10, 3, none⟩ = some (.int .i64 s1) := q10'.cell 3
                  have e4 : wr.cell? ⟨b10, 4, none⟩ = some (.int .i64 s2) := q10'.cell 4
                  have e5 : wr.cell? ⟨b10, 5, none⟩ = some (.int .i64 s3) := q10'.cell 5
                  have l10 := q10'.lt
                  have hba := (Below.refl wr.heap.size wr).alloc (Nat.le_refl _) (.cells #[.bool t.ng, .slice t.A t.ds.length t.c, .int .i64 t.m.1, .int .i64 t.m.2.1, .int .i64 t.m.2.2.1, .int .i64 t.m.2.2.2] 35)
                  clear ht
                  go_wp2_with fail
                  refine (HRP.out _).mono ?_
                  rintro e w11 ⟨rfl, hl11⟩
                  have hb11 := hba.trans (hl11.below.mono hba.size)
                  clear d0 d1 d2 d3 d4 d5 e2 e3 e4 e5
                  go_wp2_with fail
                  go_roundg (n2 - (k + 1))
                  case rel => exact ⟨k + 1, by omega, rfl, by go_num, rfl, hal'.old hb11, hbl'.trans (hb11.mono hsz'), q10'.old hb11⟩
                  case measure => have := HGK.out; omega
                · obtain rfl : k = n2 := by omega
                  go_wp2_with fail
                  go_roundg (n1 - (i + 1))
                  case rel => exact ⟨i + 1, al, by omega, rfl, by go_num, hal', by rw [HMV.out]; exact HAT.out, hbl'⟩
                  case measure => have := HG.out; omega
          · obtain rfl : i = n1 := by omega
            have hall : al.map PT.tm = mulL (vF (ps.map PT.tm)) (vF (qs.map PT.tm)) := by rw [HAT.out, ← N1.out, List.take_length]
            have hnrm : nrm (al.map PT.tm) < Big := by
              rw [hall, nrm_mulL]
              exact Nat.lt_of_le_of_lt (Nat.mul_le_mul (Nat.le_trans (nrm_vF _) I0'.out.nm) (Nat.le_trans (nrm_vF _) I1'.out.nm)) g3
            have hall' : al.length ≤ 100 := by
              have h1 := allV_len (ps.map PT.tm) (qs.map PT.tm) [] (0, (0, 0, 0, 0)) (by rw [List.length_map, N1.out]; omega) (by rw [List.length_map, N2.out]; omega) (by simp)
              rw [rowV_nil, List.append_nil, ← hall, List.length_map] at h1
              exact h1
            have hawf : ∀ p ∈ al, WfM p.m := fun p hp => by
              have h1 : p.tm ∈ mulL (vF (ps.map PT.tm)) (vF (qs.map PT.tm)) := by rw [← hall]; exact List.mem_map.2 ⟨p, hp, rfl⟩
              obtain ⟨a, ha, b, hb, e⟩ := mem_mulL h1
              obtain ⟨a1, a2⟩ := List.mem_filter.1 ha
              obtain ⟨b1, b2⟩ := List.mem_filter.1 hb
              obtain ⟨pa, hpa, rfl⟩ := List.mem_map.1 a1
              obtain ⟨pb, hpb, rfl⟩ := List.mem_map.1 b1
              have e1 : p.m = addM pa.m pb.m := congrArg Prod.snd e
              rw [e1]
              exact ((I0'.out.mb pa hpa a2).add (I1'.out.mb pb hpb b2)).wf (vld_add a2 b2) (by omega)
            have hadl : ∀ p ∈ al, p.ds.length ≤ 1000 := fun p hp => by
              rw [(hal.cn p hp).ds]
              exact Nat.le_trans (dig_len_big (Nat.lt_of_le_of_lt (nrm_mem (List.mem_map.2 ⟨p, hp, rfl⟩)) hnrm)) (by omega)
            have HCE := Lib.hid (fun m => show cf (ms.map PT.tm) m = cf (al.map PT.tm) m by rw [HGM.out.cf, hall, cf_all_prod])
            have imm := HIM.out.below (im10.trans (hbl.mono im10.size))
            have hsz := hbl.size
            have hmle : w2.heap.size ≤ wr.heap.size := Nat.le_trans im10.size hsz
            have HMI := Lib.hid (imm.pin.more hmle); have HAI := Lib.hid hal.polyIn
            have HC1 := Lib.hid (fun (W : World) (hW : Below wr.heap.size wr W) (m : Mo) (hm : WfM m) => Coef_any Am cm wr.heap.size ms m W hW.size ((imm.pin.more hmle).below hW) (by have := imm.len; omega) imm.dl imm.wf hm (Nat.lt_of_le_of_lt imm.nm g3))
            have HC2 := Lib.hid (fun (W : World) (hW : Below wr.heap.size wr W) (m : Mo) (hm : WfM m) => Coef_any Ar cr wr.heap.size al m W hW.size (hal.polyIn.below hW) (by omega) hadl hawf hm hnrm)
            have HWM := Lib.hid imm.wf; have HWA := Lib.hid hawf
            have HBG := Lib.hid (fun m => show (cf (al.map PT.tm) m).natAbs < Big from Nat.lt_of_le_of_lt (cf_le_nrm _ _) hnrm)
            have hml := imm.len
            have hbfin : Below w.heap.size w wr := hb1.trans ((k10.trans (hbl.mono k10.size)).mono hB)
            unfold IntRes moV at HC1 HC2
            have hbz := (Below.refl wr.heap.size wr).alloc (Nat.le_refl _) (.cells #[.slice Ar al.length cr, .slice Am ms.length cm] 23)
            have kz := Blk.new wr 23 #[.slice Ar al.length cr, .slice Am ms.length cm]
            have HWB := Lib.hid (fun (Wx : World) (hx : Below (wr.alloc (.cells #[.slice Ar al.length cr, .slice Am ms.length cm] 23)).heap.size (wr.alloc (.cells #[.slice Ar al.length cr, .slice Am ms.length cm] 23)) Wx) => show Below wr.heap.size wr Wx from hbz.trans (hx.mono hbz.size))
            have HFN := Lib.hid (fun (Wx : World) (hx : Below (wr.alloc (.cells #[.slice Ar al.length cr, .slice Am ms.length cm] 23)).heap.size (wr.alloc (.cells #[.slice Ar al.length cr, .slice Am ms.length cm] 23)) Wx) => show Below w.heap.size w Wx from hbfin.trans ((hbz.trans (hx.mono hbz.size)).mono hbfin.size))
            clear hbz hbfin
            clear hall hnrm hawf hadl imm hal HAT HGM HIM I0' I1' N1 N2 D0 D1 hbl k10 im10 hb1 hb2 hsz hmle
            have hmle2 : ms.length ≤ 64 := hml
            clear hml
            go_wp2_with fail
            generalize wr.alloc (.cells #[.slice Ar al.length cr, .slice Am ms.length cm] 23) = Z at *
            generalize wr.heap.size = bz at *
            have HSEL := Lib.hid (fun (x : Nat) (hx : x < 2) => show ∃ Ai ci li, Z.cell? ⟨bz, x, none⟩ = some (.slice Ai li.length ci) ∧ PolyIn wr bz Ai li ∧ (∀ p ∈ li, WfM p.m) ∧ li.length ≤ 100 by
              rcases (by omega : x = 0 ∨ x = 1) with rfl | rfl
              · exact ⟨Ar, cr, al, kz.cell 0, HAI.out, HWA.out, hall'⟩
              · exact ⟨Am, cm, ms, kz.cell 1, HMI.out, HWM.out, by omega⟩)
            have hZl : bz < Z.heap.size := kz.lt
            clear kz
            go_loopg [16, 18, 116, 120, 121, 122] 2 (fun gn _ _ ix _ _ _ wr' => ∃ (x : Nat), x ≤ 2 ∧ gn = 2 - x ∧ ix = .int .i64 x ∧ Below Z.heap.size Z wr')
            case atStart => exact ⟨0, by omega, rfl, rfl, Below.refl _ _⟩
            case round =>
              obtain ⟨x, hx, hgx, rfl, hbl2⟩ := hrel
              have HGXX := Lib.hid hgx; clear hgx
              by_cases hltx : x < 2
              · obtain ⟨Ai, ci, li, hcell, hpin, hwfl, hll⟩ := HSEL.out x hltx
                have cz := (hbl2.cell (p := ⟨bz, x, none⟩) hZl).trans hcell
                have x1 : (x : Int) < 2 := by omega
                have x0 : (0 : Int) ≤ (x : Int) := by omega
                have HPI := Lib.hid hpin; have HWF := Lib.hid hwfl
                generalize hln : li.length = ln at *
                have HLN := Lib.hid hln
                clear hln hcell hpin hwfl
                go_wp2_with fail
                go_loopg [18, 122] ln (fun gn _ ix wr' => ∃ (k : Nat), k ≤ ln ∧ gn = ln - k ∧ ix = .int .i64 k ∧ Below Z.heap.size Z wr')
                case atStart => exact ⟨0, by omega, rfl, rfl, hbl2⟩
                case round =>
                  obtain ⟨k, hk, hgk, rfl, hbl3⟩ := hrel
                  have HGK := Lib.hid hgk; clear hgk cz
                  by_cases hltk : k < ln
                  · obtain ⟨p, hp⟩ : ∃ p, li[k]? = some p := ⟨_, List.getElem?_eq_getElem (by have := HLN.out; omega)⟩
                    have hpm := List.mem_of_getElem? hp
                    have hwb := HWB.out _ hbl3
                    obtain ⟨b, o, hAe, hbb, d0, d1, d2, d3, d4, d5⟩ := (HPI.out.below hwb).at_ hp
                    subst hAe
                    have k1 : (k : Int) < (ln : Int) := by omega
                    have k0 : (0 : Int) ≤ (k : Int) := by omega
                    have hwm : WfM (p.m.1, p.m.2.1, p.m.2.2.1, p.m.2.2.2) := HWF.out p hpm
                    have hbx := (Below.refl wr.heap.size wr).alloc (Nat.le_refl _) (.cells p.cells.toArray 35)
                    have k18 := Blk.new wr 35 p.cells.toArray
                    have hsz3 := hbl3.size
                    have hbxx := hbl3.trans (hbx.mono hsz3)
                    have HD1 := Lib.hid (fun (W : World) (hW : Below Z.heap.size Z W) => HC1.out W (HWB.out _ hW) (p.m.1, p.m.2.1, p.m.2.2.1, p.m.2.2.2) hwm)
                    have HD2 := Lib.hid (fun (W : World) (hW : Below Z.heap.size Z W) => HC2.out W (HWB.out _ hW) (p.m.1, p.m.2.1, p.m.2.2.1, p.m.2.2.2) hwm)
                    have hce := HCE.out (p.m.1, p.m.2.1, p.m.2.2.1, p.m.2.2.2)
                    rw [hce] at HD1
                    have HZB := Lib.hid (HBG.out (p.m.1, p.m.2.1, p.m.2.2.1, p.m.2.2.2))
                    simp only [PT.cells] at k18 hbxx
                    generalize cf (al.map PT.tm) (p.m.1, p.m.2.1, p.m.2.2.1, p.m.2.2.2) = zz at *
                    clear hce hp hpm hwm hbx hwb
                    generalize p.m.1 = m0 at *
                    generalize p.m.2.1 = m1 at *
                    generalize p.m.2.2.1 = m2 at *
                    generalize p.m.2.2.2 = m3 at *
                    generalize p.ng = pn at *
                    generalize p.A = pA at *
                    generalize p.c = pc at *
                    generalize p.ds = pd at *
                    go_wp2_with fail
                    generalize wr.alloc (.cells #[.bool pn, .slice pA pd.length pc, .int .i64 m0, .int .i64 m1, .int .i64 m2, .int .i64 m3] 35) = X at *
                    generalize wr.heap.size = b18 at *
                    have e2 : X.cell? ⟨b18, 2, none⟩ = some (.int .i64 m0) := k18.cell 2
                    have e3 : X.cell? ⟨b18, 3, none⟩ = some (.int .i64 m1) := k18.cell 3
                    have e4 : X.cell? ⟨b18, 4, none⟩ = some (.int .i64 m2) := k18.cell 4
                    have e5 : X.cell? ⟨b18, 5, none⟩ = some (.int .i64 m3) := k18.cell 5
                    have l18 := k18.lt
                    have hxd : Below X.heap.size X X.drew := (Drawn.drew _).below _
                    have hzd : Below Z.heap.size Z X.drew := hbxx.trans (hxd.mono hbxx.size)
                    have HSM := Lib.hid (fun (W : World) (Aa Ab : Option Addr) (ca cb : Nat) (ha : NatB W Aa (dig zz.natAbs)) (hb : NatB W Ab (dig zz.natAbs)) (hca : (dig zz.natAbs).length ≤ ca) (hcb : (dig zz.natAbs).length ≤ cb) => Same_any (decide (zz < 0)) (decide (zz < 0)) Aa Ab ca cb W.heap.size (dig zz.natAbs) (dig zz.natAbs) W (Nat.le_refl _) (natB_nin ha hca) (natB_nin hb hcb) (Nat.le_trans (dig_len_big HZB.out) (by omega)) (Nat.le_trans (dig_len_big HZB.out) (by omega)))
                    rw [show decide (ival (decide (zz < 0)) (dig zz.natAbs) = ival (decide (zz < 0)) (dig zz.natAbs)) = true by simp] at HSM
                    clear d0 d1 d2 d3 d4 d5 HC1 HC2 HSEL
                    go_region_held3 (fun w' => w'.cell? ⟨b18, 2, none⟩ = some (.int .i64 m0) ∧ w'.cell? ⟨b18, 3, none⟩ = some (.int .i64 m1) ∧ w'.cell? ⟨b18, 4, none⟩ = some (.int .i64 m2) ∧ w'.cell? ⟨b18, 5, none⟩ = some (.int .i64 m3))
                      (first | exact ⟨e2, e3, e4, e5⟩ | exact ⟨(g20.cell l18).trans e2, (g20.cell l18).trans e3, (g20.cell l18).trans e4, (g20.cell l18).trans e5⟩ | exact ⟨(g21.cell l18).trans e2, (g21.cell l18).trans e3, (g21.cell l18).trans e4, (g21.cell l18).trans e5⟩ | exact ⟨(g22.cell l18).trans e2, (g22.cell l18).trans e3, (g22.cell l18).trans e4, (g22.cell l18).trans e5⟩)
                      (first | (go_at_call 18; (with_reducible refine (HD1.out _ hzd).mono ?_); rintro e w20 ⟨A20, c20, rfl, x20, y20, z20⟩; have g20 := hxd.trans z20; have f20 := hzd.trans (z20.mono hzd.size)) | (go_at_call 18; (with_reducible refine (HD2.out _ f20).mono ?_); rintro e w21 ⟨A21, c21, rfl, x21, y21, z21⟩; have g21 := g20.trans (z21.mono g20.size); have f21 := f20.trans (z21.mono f20.size); have y20' := y20.old z21) | (go_at_call 17; refine (HSM.out _ _ _ _ _ y20' y21 x20 x21).mono ?_; rintro e w22 ⟨rfl, z22⟩; have g22 := g21.trans (z22.mono g21.size); have f22 := f21.trans (z22.mono f21.size)))
                    clear e2 e3 e4 e5
                    go_wp2_with fail
                    go_roundg (ln - (k + 1))
                    case rel => exact ⟨k + 1, by omega, rfl, by go_num, f22⟩
                    case measure => have := HGK.out; omega
                  · obtain rfl : k = ln := by omega
                    go_wp2_with fail
                    go_roundg (2 - (x + 1))
                    case rel => exact ⟨x + 1, by omega, rfl, by go_num, hbl3⟩
                    case measure => have := HGXX.out; omega
              · obtain rfl : x = 2 := by omega
                go_wp2_with fail
                go_ret
                exact ⟨rfl, HFN.out _ hbl2⟩
end Go.Proofs.Ytpbapoanjkekmaa
