/- Contract of the reference's Coef. -/
import Derived.Test.YtpbapoanjkekmaaR2
import Derived.Test.YtpbapoanjkekmaaT2
namespace Go.Proofs.Ytpbapoanjkekmaa
open Go.RowKit
attribute [local go_sem ↓] Go.wp_at_zero Go.wp_at_succ

theorem cf_take {ps : List PT} {k : Nat} {p : PT} (hp : ps[k]? = some p) {m : Mo} (hv : vld m = true) : cf ((ps.take (k + 1)).map PT.tm) m = cf ((ps.take k).map PT.tm) m + if p.m = m then p.tm.1 else 0 := by
  rw [take_snoc_tm hp, cf_append, cf_cons, cf_nil]
  by_cases e : p.m = m
  · subst e; rw [if_pos ⟨hv, rfl⟩, if_pos rfl]; omega
  · rw [if_neg (fun h => e h.2), if_neg e]; omega
theorem cf_invalid (l : List Tm) {m : Mo} (hv : vld m = false) : cf l m = 0 := by
  induction l with
  | nil => rfl
  | cons t l ih =>
    rw [cf_cons, ih, if_neg]
    · rfl
    · rintro ⟨h1, rfl⟩
      rw [hv] at h1
      cases h1

set_option maxHeartbeats 4000000 in
set_option maxRecDepth 100000 in
theorem Coef_any (A : Option Addr) (c B : Nat) (ps : List PT) (m : Mo) (w : World) (hB : B ≤ w.heap.size) (h : PolyIn w B A ps) (hlen : ps.length ≤ 100000) (hdl : ∀ p ∈ ps, p.ds.length ≤ 1000) (hwf : ∀ p ∈ ps, WfM p.m) (hm : WfM m) (hbig : nrm (ps.map PT.tm) < Big) :
    Calls Try.prog 18 #[.slice A ps.length c, .agg (moV m)] w (IntRes (cf (ps.map PT.tm) m) w) := by
  have ho := fun (W : World) => IOf_any 0 (by omega) (by omega) W
  unfold IntRes at ho
  have hzero : dig (Int.natAbs 0) = [] := dig_zero
  rw [hzero] at ho
  have hz2 : decide ((0 : Int) < 0) = false := by decide
  rw [hz2] at ho
  simp only [List.length_nil] at ho
  have HO := Lib.hid ho
  have HV := Lib.hid (fun W => RV_any m W)
  have HX := Lib.hid (boxes2 w 33 31 (moV m) #[.bool false, .slice none 0 0])
  have H := Lib.hid h; have HD := Lib.hid hdl
  have HEQ := Lib.hid (fun (p : PT) (hp : p ∈ ps) (W : World) => Try.eq_mono p.m m (hwf p hp) hm W)
  have HBG := Lib.hid (fun k => show (cf ((ps.take k).map PT.tm) m).natAbs < Big from Nat.lt_of_le_of_lt (cf_le_nrm _ _) (Nat.lt_of_le_of_lt (nrm_take_tm ps k) hbig))
  clear ho hzero hz2 h hdl hwf hm hbig
  unfold moV at *
  cases hv : vld m with
  | false =>
    have HZ := Lib.hid (cf_invalid (ps.map PT.tm) hv)
    rw [hv] at HV
    clear hv
    generalize cf (ps.map PT.tm) m = z at *
    go_enter Try.func18, Try.ntmps18
    go_wp2_with fail
    obtain ⟨hb0, k0, k1, hs⟩ := HX.out
    clear HX hs
    generalize (w.alloc (.cells #[.int .i64 m.1, .int .i64 m.2.1, .int .i64 m.2.2.1, .int .i64 m.2.2.2] 33)).alloc (.cells #[.bool false, .slice none 0 0] 31) = X at *
    refine (HO.out _).mono ?_
    rintro e w1 ⟨A1, c1, rfl, h1, h2, h3⟩
    have q0 := k0.old h3; have q1 := k1.old h3
    have hb1 := hb0.trans (h3.mono hb0.size)
    have hX5 := (Below.refl w1.heap.size w1).alloc (Nat.le_refl _) (.cells #[.bool false, .slice A1 0 c1] 31)
    have r0 := q0.old hX5; have r1 := q1.old hX5
    have r5 := Blk.new w1 31 #[.bool false, .slice A1 0 c1]
    have hb5 := hb1.trans (hX5.mono hb1.size)
    have hnb := h2.old hX5
    have m0 : (w1.alloc (.cells #[.bool false, .slice A1 0 c1] 31)).cell? ⟨w.heap.size, 0, none⟩ = some (.int .i64 m.1) := r0.cell 0
    have m1 : (w1.alloc (.cells #[.bool false, .slice A1 0 c1] 31)).cell? ⟨w.heap.size, 1, none⟩ = some (.int .i64 m.2.1) := r0.cell 1
    have m2 : (w1.alloc (.cells #[.bool false, .slice A1 0 c1] 31)).cell? ⟨w.heap.size, 2, none⟩ = some (.int .i64 m.2.2.1) := r0.cell 2
    have m3 : (w1.alloc (.cells #[.bool false, .slice A1 0 c1] 31)).cell? ⟨w.heap.size, 3, none⟩ = some (.int .i64 m.2.2.2) := r0.cell 3
    have hwb : w.heap.size ≤ w1.heap.size := hb1.size
    have hne : w1.heap.size ≠ w.heap.size + 1 := by have := q1.lt; omega
    clear q0 q1 k0 k1 hb0 h2 h3 hb1 hX5
    go_wp2_with fail
    generalize w1.alloc (.cells #[.bool false, .slice A1 0 c1] 31) = X5 at *
    generalize w1.heap.size = b5 at *
    refine (HV.out _).mono ?_
    rintro e w2 ⟨rfl, hl2⟩
    have s0 := r0.old hl2.below; have s1 := r1.old hl2.below; have s5 := r5.old hl2.below
    have hb2 := hb5.trans (hl2.below.mono hb5.size)
    have hnb2 := hnb.old hl2.below
    clear m0 m1 m2 m3 r0 r1 r5 hnb hb5 hl2
    have d0 : w2.cell? ⟨b5, 0, none⟩ = some (.bool false) := s5.cell 0
    have d1 : w2.cell? ⟨b5, 1, none⟩ = some (.slice A1 0 c1) := s5.cell 1
    have e0 : w2.cell? ⟨w.heap.size + 1, 0, none⟩ = some (.bool false) := s1.cell 0
    have e1 : w2.cell? ⟨w.heap.size + 1, 1, none⟩ = some (.slice none 0 0) := s1.cell 1
    have f0 := s1.frozen 0; have f1 := s1.frozen 1
    go_wp2_with fail
    have hnb3 : NatB w2 A1 (dig z.natAbs) := by rw [HZ.out]; show NatB w2 A1 (dig 0); rw [dig_zero]; exact hnb2
    exact ret_blk Try.results18 rfl rfl ((s1.set_ 0 _).set_ 1 _) Try.underlying31 rfl Try.sizeInt ⟨A1, c1, by rw [HZ.out]; show _ = Ending.returned (.agg #[.bool false, .slice A1 (dig 0).length c1]); rw [dig_zero]; rfl, by rw [HZ.out]; show (dig 0).length ≤ c1; rw [dig_zero]; exact Nat.zero_le _, hnb3.store2 s1 (by decide) _ _, (hb2.setCell (Nat.le_add_right _ 1) _).setCell (Nat.le_add_right _ 1) _⟩
  | true =>
    have HTK := Lib.hid (fun k p (hp : ps[k]? = some p) => cf_take hp hv)
    rw [hv] at HV
    clear hv
    have HC0 := Lib.hid (show cf ((ps.take 0).map PT.tm) m = 0 from rfl)
    have HCN := Lib.hid (show cf ((ps.take ps.length).map PT.tm) m = cf (ps.map PT.tm) m by rw [List.take_length])
    generalize cf (ps.map PT.tm) m = zf at *
    generalize hpn : ps.length = pn at *
    have HP := Lib.hid hpn
    clear hpn
    go_enter Try.func18, Try.ntmps18
    go_wp2_with fail
    obtain ⟨hb0, k0, k1, hs⟩ := HX.out
    clear HX hs
    generalize (w.alloc (.cells #[.int .i64 m.1, .int .i64 m.2.1, .int .i64 m.2.2.1, .int .i64 m.2.2.2] 33)).alloc (.cells #[.bool false, .slice none 0 0] 31) = X at *
    refine (HO.out _).mono ?_
    rintro e w1 ⟨A1, c1, rfl, h1, h2, h3⟩
    have q0 := k0.old h3; have q1 := k1.old h3
    have hb1 := hb0.trans (h3.mono hb0.size)
    have hX5 := (Below.refl w1.heap.size w1).alloc (Nat.le_refl _) (.cells #[.bool false, .slice A1 0 c1] 31)
    have r0 := q0.old hX5; have r1 := q1.old hX5
    have r5 := Blk.new w1 31 #[.bool false, .slice A1 0 c1]
    have hb5 := hb1.trans (hX5.mono hb1.size)
    have hnb := h2.old hX5
    have m0 : (w1.alloc (.cells #[.bool false, .slice A1 0 c1] 31)).cell? ⟨w.heap.size, 0, none⟩ = some (.int .i64 m.1) := r0.cell 0
    have m1 : (w1.alloc (.cells #[.bool false, .slice A1 0 c1] 31)).cell? ⟨w.heap.size, 1, none⟩ = some (.int .i64 m.2.1) := r0.cell 1
    have m2 : (w1.alloc (.cells #[.bool false, .slice A1 0 c1] 31)).cell? ⟨w.heap.size, 2, none⟩ = some (.int .i64 m.2.2.1) := r0.cell 2
    have m3 : (w1.alloc (.cells #[.bool false, .slice A1 0 c1] 31)).cell? ⟨w.heap.size, 3, none⟩ = some (.int .i64 m.2.2.2) := r0.cell 3
    have hwb : w.heap.size ≤ w1.heap.size := hb1.size
    have hne : w1.heap.size ≠ w.heap.size + 1 := by have := q1.lt; omega
    clear q0 q1 k0 k1 hb0 h2 h3 hb1 hX5
    go_wp2_with fail
    generalize w1.alloc (.cells #[.bool false, .slice A1 0 c1] 31) = X5 at *
    generalize w1.heap.size = b5 at *
    refine (HV.out _).mono ?_
    rintro e w2 ⟨rfl, hl2⟩
    have s0 := r0.old hl2.below; have s1 := r1.old hl2.below; have s5 := r5.old hl2.below
    have hb2 := hb5.trans (hl2.below.mono hb5.size)
    have hnb2 := hnb.old hl2.below
    clear m0 m1 m2 m3 r0 r1 r5 hnb hb5 hl2
    go_wp2_with fail
    go_loopg [6] pn (fun gn ix wr => ∃ (k : Nat) (A3 : Option Addr) (c3 : Nat), k ≤ pn ∧ gn = pn - k ∧ ix = .int .i64 k ∧ Blk wr b5 31 #[.bool (decide (cf ((ps.take k).map PT.tm) m < 0)), .slice A3 (dig (cf ((ps.take k).map PT.tm) m).natAbs).length c3] ∧ NatB wr A3 (dig (cf ((ps.take k).map PT.tm) m).natAbs) ∧ (dig (cf ((ps.take k).map PT.tm) m).natAbs).length ≤ c3 ∧
      Blk wr w.heap.size 33 #[.int .i64 m.1, .int .i64 m.2.1, .int .i64 m.2.2.1, .int .i64 m.2.2.2] ∧ Blk wr (w.heap.size + 1) 31 #[.bool false, .slice none 0 0] ∧ Below w.heap.size w wr)
    case atStart =>
      refine ⟨0, A1, c1, by omega, rfl, rfl, ?_, ?_, ?_, s0, s1, hb2⟩
      · rw [HC0.out]; show Blk w2 b5 _ #[.bool false, .slice A1 (dig 0).length c1]; rw [dig_zero]; exact s5
      · rw [HC0.out]; show NatB w2 A1 (dig 0); rw [dig_zero]; exact hnb2
      · rw [HC0.out]; show (dig 0).length ≤ c1; rw [dig_zero]; exact Nat.zero_le _
    case round =>
      obtain ⟨k, A3, c3, hk, hgk, rfl, t5, tn, tl, t0, t1, hbl⟩ := hrel
      have HG := Lib.hid hgk; clear hgk
      by_cases hlt : k < pn
      · obtain ⟨p, hp⟩ : ∃ p, ps[k]? = some p := ⟨_, List.getElem?_eq_getElem (by have := HP.out; omega)⟩
        have hpm := List.mem_of_getElem? hp
        have hin := H.out.below (hbl.mono hB)
        obtain ⟨b, o, rfl, hbb, d0, d1, d2, d3, d4, d5⟩ := hin.at_ hp
        have i1 : (k : Int) < (pn : Int) := by omega
        have i0 : (0 : Int) ≤ (k : Int) := by omega
        have hsz := hbl.size
        have hb1 : b < wr.heap.size := by omega
        have m0 : wr.cell? ⟨w.heap.size, 0, none⟩ = some (.int .i64 m.1) := t0.cell 0
        have m1 : wr.cell? ⟨w.heap.size, 1, none⟩ = some (.int .i64 m.2.1) := t0.cell 1
        have m2 : wr.cell? ⟨w.heap.size, 2, none⟩ = some (.int .i64 m.2.2.1) := t0.cell 2
        have m3 : wr.cell? ⟨w.heap.size, 3, none⟩ = some (.int .i64 m.2.2.2) := t0.cell 3
        have he := HEQ.out p hpm
        have HT := Lib.hid (HTK.out k p hp)
        have hzl : (dig (cf ((ps.take k).map PT.tm) m).natAbs).length ≤ 600 := dig_len_big (HBG.out k)
        have hnin := hin.nt p hpm
        have hpd := HD.out p hpm
        by_cases hpe : p.m = m
        · rw [if_pos hpe] at HT
          rw [show decide (p.m = m) = true by simpa using hpe] at he
          have hbx := HBG.out (k + 1)
          have HIA := Lib.hid (fun (W : World) (hW : Below wr.heap.size wr W) => IAdd_any (decide (cf ((ps.take k).map PT.tm) m < 0)) p.ng A3 p.A c3 p.c wr.heap.size (dig (cf ((ps.take k).map PT.tm) m).natAbs) p.ds W hW.size ((natB_nin tn tl).below hW) ((hnin.more (Nat.le_trans hB hsz)).below hW) (by omega) (by omega))
          have hvl : ival (decide (cf ((ps.take k).map PT.tm) m < 0)) (dig (cf ((ps.take k).map PT.tm) m).natAbs) + ival p.ng p.ds = cf ((ps.take (k + 1)).map PT.tm) m := by rw [ival_dig, HT.out]; rfl
          rw [hvl] at HIA
          unfold IntRes at HIA
          clear hvl hbx hpe hp hpm hin hnin HT HTK HBG HCN HC0 hpd
          generalize hz1 : cf ((ps.take (k + 1)).map PT.tm) m = z1 at *
          have HZ1 := Lib.hid hz1.symm
          clear hz1
          generalize cf ((ps.take k).map PT.tm) m = z0 at *
          go_wp2_with fail
          go_quiet (fail)
          have hbl' : Below w.heap.size w (wr.drewN nq) := hbl.trans ((Drawn.drewN _ _).below _)
          have t5' := t5.drewN nq; have t0' := t0.drewN nq; have t1' := t1.drewN nq
          have HIA' := Lib.hid (fun (W : World) (hW : Below (wr.drewN nq).heap.size (wr.drewN nq) W) => HIA.out W (((Drawn.drewN wr nq).below _).trans hW))
          have g0 : (wr.drewN nq).cell? ⟨b, o + k * 6, none⟩ = some (.bool p.ng) := d0
          have g1 : (wr.drewN nq).cell? ⟨b, o + k * 6 + 1, none⟩ = some (.slice p.A p.ds.length p.c) := d1
          have hb1' : b < (wr.drewN nq).heap.size := hb1
          clear hbl t5 t0 t1 HIA d0 d1 d2 d3 d4 d5 m0 m1 m2 m3 hb1 tn hsz he
          generalize wr.drewN nq = wq at *
          have u0 : wq.cell? ⟨b5, 0, none⟩ = some (.bool (decide (z0 < 0))) := t5'.cell 0
          have u1 : wq.cell? ⟨b5, 1, none⟩ = some (.slice A3 (dig z0.natAbs).length c3) := t5'.cell 1
          have hbq : Below wq.heap.size wq wq.drew := (Drawn.drew _).below _
          go_wp2_with fail
          go_region_with ((go_at_call 37; refine (HIA'.out _ hbq).mono ?_; rintro e w3 ⟨A4, c4, rfl, h3, h4, h5⟩; have kk := Blk.old (w := wq.drew) t5' h5; have v0 : w3.cell? ⟨b5, 0, none⟩ = some (.bool (decide (z0 < 0))) := kk.cell 0; have v1 : w3.cell? ⟨b5, 1, none⟩ = some (.slice A3 (dig z0.natAbs).length c3) := kk.cell 1; have f0 := kk.frozen 0; have f1 := kk.frozen 1))
          all_goals
            have hb3 : Below wq.heap.size wq w3 := hbq.trans h5
            have hn0 : w.heap.size ≠ b5 := (t0'.ne_t t5' (by decide))
            have hn1 : w.heap.size + 1 ≠ b5 := fun e => hne e.symm
            have hbe := hbl'.trans (hb3.mono hbl'.size)
            have s0' := ((t0'.old hb3).far hn0 (p := ⟨b5, 0, none⟩) (.bool (decide (z1 < 0)))).far hn0 (p := ⟨b5, 1, none⟩) (.slice A4 (dig z1.natAbs).length c4)
            have s1' := ((t1'.old hb3).far hn1 (p := ⟨b5, 0, none⟩) (.bool (decide (z1 < 0)))).far hn1 (p := ⟨b5, 1, none⟩) (.slice A4 (dig z1.natAbs).length c4)
            have s5' := (kk.set_ 0 (.bool (decide (z1 < 0)))).set_ 1 (.slice A4 (dig z1.natAbs).length c4)
            have sn' := h4.store2 kk (by decide) (.bool (decide (z1 < 0))) (.slice A4 (dig z1.natAbs).length c4)
            have sb' := (hbe.setCell (p := ⟨b5, 0, none⟩) hwb (.bool (decide (z1 < 0)))).setCell (p := ⟨b5, 1, none⟩) hwb (.slice A4 (dig z1.natAbs).length c4)
            clear v0 v1 f0 f1
            go_wp2_with fail
            go_roundg (pn - (k + 1))
            case rel => exact ⟨k + 1, A4, c4, by omega, rfl, by go_num, HZ1.out ▸ s5', HZ1.out ▸ sn', HZ1.out ▸ h3, s0', s1', sb'⟩
            case measure => have := HG.out; omega
        · rw [if_neg hpe, Int.add_zero] at HT
          rw [show decide (p.m = m) = false by simpa using hpe] at he
          have HHE := Lib.hid he
          clear hpe hp hpm hin hnin
          have he' := HHE.out
          go_wp2_with fail
          go_quiet (fail)
          go_wp2_with fail
          go_roundg (pn - (k + 1))
          case rel => exact ⟨k + 1, A3, c3, by omega, rfl, by go_num, by rw [HT.out]; exact t5.drewN _, by rw [HT.out]; exact tn.old ((Drawn.drewN _ _).below _), by rw [HT.out]; exact tl, t0.drewN _, t1.drewN _, hbl.trans ((Drawn.drewN _ _).below _)⟩
          case measure => have := HG.out; omega
      · obtain rfl : k = pn := by omega
        rw [HCN.out] at t5 tn tl
        have d0 : wr.cell? ⟨b5, 0, none⟩ = some (.bool (decide (zf < 0))) := t5.cell 0
        have d1 : wr.cell? ⟨b5, 1, none⟩ = some (.slice A3 (dig zf.natAbs).length c3) := t5.cell 1
        have e0 : wr.cell? ⟨w.heap.size + 1, 0, none⟩ = some (.bool false) := t1.cell 0
        have e1 : wr.cell? ⟨w.heap.size + 1, 1, none⟩ = some (.slice none 0 0) := t1.cell 1
        have f0 := t1.frozen 0; have f1 := t1.frozen 1
        go_wp2_with fail
        exact ret_blk Try.results18 rfl rfl ((t1.set_ 0 _).set_ 1 _) Try.underlying31 rfl Try.sizeInt ⟨A3, c3, rfl, tl, tn.store2 t1 (by decide) _ _, (hbl.setCell (Nat.le_add_right _ 1) _).setCell (Nat.le_add_right _ 1) _⟩
end Go.Proofs.Ytpbapoanjkekmaa
