/- Contract of sparse.SignNormal. -/
import Derived.Test.YtpbapoanjkekmaaVO
namespace Go.Proofs.Ytpbapoanjkekmaa
open Go.RowKit
attribute [local go_sem ↓] Go.wp_at_zero Go.wp_at_succ

/-- the first k coefficients divided -/
def dvTo (d : Int) (l : List Tm) (k : Nat) : List Tm := divL d (l.take k) ++ l.drop k
theorem dvTo_zero (d : Int) (l : List Tm) : dvTo d l 0 = l := by simp [dvTo, divL]
theorem dvTo_all (d : Int) (l : List Tm) : dvTo d l l.length = divL d l := by simp [dvTo]
theorem dvTo_len (d : Int) (l : List Tm) (k : Nat) : (dvTo d l k).length = l.length := by
  simp [dvTo, divL]
  omega
theorem dvTo_at (d : Int) (l : List Tm) (k : Nat) : (dvTo d l k)[k]? = l[k]? := by
  by_cases h : k < l.length
  · unfold dvTo divL
    rw [List.getElem?_append_right (by simp; omega)]
    simp [Nat.min_eq_left (Nat.le_of_lt h)]
  · have e : l.length ≤ k := by omega
    rw [List.getElem?_eq_none (by rw [dvTo_len]; omega), List.getElem?_eq_none e]
theorem dvTo_succ {d : Int} {l : List Tm} {k : Nat} {t : Tm} (h : l[k]? = some t) : (dvTo d l k).set k (t.1 / d, t.2) = dvTo d l (k + 1) := by
  have hl : k < l.length := (List.getElem?_eq_some_iff.1 h).1
  have e : l[k] = t := (List.getElem?_eq_some_iff.1 h).2
  unfold dvTo
  rw [List.set_append_right _ _ (by simp [divL]; omega)]
  have e1 : k - (divL d (l.take k)).length = 0 := by simp [divL]; omega
  rw [e1, List.drop_eq_getElem_cons hl, List.set_cons_zero, List.take_succ_eq_append_getElem hl, e]
  unfold divL
  rw [List.map_append]
  simp
theorem PGood.sn {X X' : World} {base N M n : Nat} {E : Int} {v v' : Value} {ps qs : List PT} {F : Mo → Int} (h : PGood X base v ps F N E M) (hn : ps.length = n) (hq : qs.map PT.tm = dvTo (dvs (ps.map PT.tm)) (ps.map PT.tm) n) (ho : POwn X' base v' qs) : PGood X' base v' qs (Go.Proofs.Ytpbapoanjkekmaa.cf (snL (ps.map PT.tm))) N E M := by
  have e : qs.map PT.tm = snL (ps.map PT.tm) := by
    rw [hq, ← hn, ← List.length_map (f := PT.tm)]
    exact dvTo_all _ _
  refine ⟨ho, by rw [e]; exact sn_can h.can, fun m => by rw [e], ?_, fun q hqm => ?_, ?_⟩
  · have := congrArg List.length e
    rw [sn_len, List.length_map, List.length_map] at this
    rw [this]; exact h.len
  · have : q.tm ∈ snL (ps.map PT.tm) := e ▸ List.mem_map.2 ⟨q, hqm, rfl⟩
    obtain ⟨s, hs, hs'⟩ := List.mem_map.1 this
    obtain ⟨p, hp, rfl⟩ := List.mem_map.1 hs
    have e3 : q.m = p.m := (congrArg Prod.snd hs').symm
    rw [e3]; exact h.mb p hp
  · rw [e]; exact Nat.le_trans (sn_nrm h.can) h.nm
def SNRes (l : List Tm) (N : Nat) (E : Int) (M : Nat) (w : World) (e : Ending) (w' : World) : Prop := ∃ P, Canon P ∧ (∀ m, cf P m = cf l m) ∧ PRes (cf (snL P)) N E M w e w'
theorem sgn_head {l : List Tm} {t : Tm} (h : l[0]? = some t) : hdN l = decide (t.1 < 0) := by
  cases l with
  | nil => simp at h
  | cons s l => simp at h; rw [h]; rfl
theorem sgnOf_neg (z : Int) : (sgnOf z < 0) ↔ z < 0 := by unfold sgnOf; split <;> (try split) <;> omega
set_option maxHeartbeats 4000000 in
set_option maxRecDepth 100000 in
theorem SignNormal_any (A : Option Addr) (c B N : Nat) (E : Int) (M : Nat) (ps : List PT) (w : World) (hB : B ≤ w.heap.size) (h : PIn w B A ps N E M) (hN : N ≤ 50000) (hM : M < Big) (hE : E ≤ 9223372036854775807) :
    Calls Try.prog 42 #[.slice A ps.length c] w (SNRes (ps.map PT.tm) N E M w) := by
  have HP := Lib.hid (Normal_poly A c B N E M ps w hB h hN hM)
  clear h
  generalize ps.map PT.tm = L0 at *
  generalize ps.length = n0 at *
  go_enter Try.func42, Try.ntmps42
  go_wp2_with fail
  refine HP.out.mono ?_
  rintro e w1 ⟨A1, c1, qs, rfl, hgd, hb1⟩
  clear HP
  by_cases h0 : qs.length = 0
  · obtain rfl : qs = [] := List.length_eq_zero_iff.1 h0
    have HGD := Lib.hid hgd; have HB1 := Lib.hid hb1
    clear hgd hb1 h0
    go_wp2_with fail
    go_ret
    have hg := HGD.out
    exact ⟨[], Canon.nil, fun m => hg.cf m, A1, c1, [], rfl, ⟨hg.own, hg.can, fun m => rfl, hg.len, hg.mb, hg.nm⟩, HB1.out⟩
  · have HCT := Lib.hid (Content_any A1 c1 w1.heap.size N E M qs w1 (Nat.le_refl _) (hgd.pin hE hM) hN hM)
    unfold NRes at HCT
    have HGD := Lib.hid hgd; have HB1 := Lib.hid hb1
    have hlen := hgd.len
    obtain ⟨q0, hq0⟩ : ∃ q0, qs[0]? = some q0 := ⟨_, List.getElem?_eq_getElem (by omega)⟩
    have hqm := List.mem_of_getElem? hq0
    have hql : q0.ds.length ≤ 600 := hgd.dlen (k := 600) hM hqm
    obtain ⟨rb, rfl⟩ : ∃ rb, A1 = some ⟨rb, 0, none⟩ := by
      obtain ⟨g', cap, hv', _⟩ := hgd.own.row.form (by omega)
      injection hv' with h1
      exact ⟨g', h1⟩
    have HQ0 := Lib.hid hq0
    have HNP := Lib.hid (hgd.own.nin hqm)
    have HQL := Lib.hid hql
    have hne : qs.map PT.tm ≠ [] := fun e => h0 (by have := congrArg List.length e; simpa using this)
    have HNE := Lib.hid hne
    have hpos : 0 < qs.length := by omega
    have hown := hgd.own
    have HOWN := Lib.hid hown
    clear hgd hb1 hq0 hqm hql hne hown
    generalize hqn : qs.length = n at *
    have HQN := Lib.hid hqn
    clear hqn
    have i0 : (0 : Int) < (n : Int) := by omega
    have hz : ((n : Int) == 0) = false := by
      simp
      omega
    go_wp2_with fail
    refine HCT.out.mono ?_
    rintro e w2 ⟨P, hP1, hP2, hP3, Ag, cg, rfl, hcg, hng, hb2⟩
    obtain rfl : P = qs.map PT.tm := hP1.unique HGD.out.can fun m => (hP2 m).trans rfl
    have HSG := Lib.hid (fun (W : World) (hW : Below w1.heap.size w1 W) => Sign_any q0.ng q0.A q0.c w1.heap.size q0.ds W hW.size (HNP.out.below hW) (by have := HQL.out; omega))
    obtain ⟨cur, hkr, hbr, hcap, hcur⟩ := own_blk (HQN.out ▸ (HOWN.out.old hb2).row)
    have r0 : cur[0]? = some (.bool q0.ng) := hcur _ _ (flat_at qs 0 0 q0 HQ0.out (by omega))
    have r1 : cur[1]? = some (.slice q0.A q0.ds.length q0.c) := hcur _ _ (flat_at qs 0 1 q0 HQ0.out (by omega))
    have e0 : (w2.alloc (.cells #[.bool false, .slice Ag (dig (gcL (qs.map PT.tm))).length cg] 31)).cell? ⟨rb, 0, none⟩ = some (.bool q0.ng) := ((hkr.alloc _).cell 0).trans r0
    have e1 : (w2.alloc (.cells #[.bool false, .slice Ag (dig (gcL (qs.map PT.tm))).length cg] 31)).cell? ⟨rb, 1, none⟩ = some (.slice q0.A q0.ds.length q0.c) := ((hkr.alloc _).cell 1).trans r1
    have HX := Lib.hid (boxes2 w2 31 31 #[.bool false, .slice Ag (dig (gcL (qs.map PT.tm))).length cg] #[.bool q0.ng, .slice q0.A q0.ds.length q0.c])
    have HS1 := Lib.hid (HSG.out (w2.alloc (.cells #[.bool false, .slice Ag (dig (gcL (qs.map PT.tm))).length cg] 31)) (hb2.alloc hb2.size _))
    have hgl : (dig (gcL (qs.map PT.tm))).length ≤ 600 := dig_len_big (Nat.lt_of_le_of_lt (gcL_le_nrm hP1) (Nat.lt_of_le_of_lt hP3 hM))
    have hgp := gcL_pos hP1 HNE.out
    have hdn := dvs_ne hP1 HNE.out
    have hda := dvs_abs (qs.map PT.tm)
    have hdd : dvs (qs.map PT.tm) = if hdN (qs.map PT.tm) then -(gcL (qs.map PT.tm) : Int) else (gcL (qs.map PT.tm) : Int) := rfl
    rw [sgn_head (t := q0.tm) (by rw [List.getElem?_map, HQ0.out]; rfl)] at hdd
    have hq0z : q0.tm.1 = ival q0.ng q0.ds := rfl
    rw [hq0z] at hdd
    have HDD := Lib.hid (fun (t : Tm) (ht : t ∈ qs.map PT.tm) => dvs_dvd ht)
    have HSN := Lib.hid (fun (X' : World) (v' : Value) (rs : List PT) (hq : rs.map PT.tm = dvTo (dvs (qs.map PT.tm)) (qs.map PT.tm) n) (ho : POwn X' w.heap.size v' rs) => HGD.out.sn HQN.out hq ho)
    have HP1 := Lib.hid hP1; have HP2 := Lib.hid (fun m => HGD.out.cf m)
    have HNG := Lib.hid (fun (W : World) (hn : NatB W Ag (dig (gcL (qs.map PT.tm)))) => INeg_any false Ag cg W.heap.size (dig (gcL (qs.map PT.tm))) W (Nat.le_refl _) (natB_nin hn hcg) (by omega))
    unfold IntRes at HNG
    rw [show ival false (dig (gcL (qs.map PT.tm))) = (gcL (qs.map PT.tm) : Int) by unfold ival; rw [val_dig]; rfl] at HNG
    have HD0 := Lib.hid hdn; have HHD := Lib.hid hdd; have HGP := Lib.hid hgp; have HGL := Lib.hid (show (dig (dvs (qs.map PT.tm)).natAbs).length ≤ 600 by rw [hda]; exact hgl)
    have HN2 := Lib.hid hng; have HCG := Lib.hid hcg; have HB2 := Lib.hid hb2
    clear HQ0 hdn hdd hda hgp hgl hP1 hP2 hP3 hng hcg hb2 hkr hbr hcap hcur r0 r1 hq0z HCT HSG
    generalize dvs (qs.map PT.tm) = D at *
    generalize gcL (qs.map PT.tm) = g at *
    by_cases hneg : ival q0.ng q0.ds < 0
    · have hsg := (sgnOf_neg _).2 hneg
      have hD : D = -(g : Int) := by rw [HHD.out]; simp [hneg]
      rw [← hD] at HNG
      have HNEG := Lib.hid hneg; have HDG := Lib.hid hD
      clear hneg hD
      generalize sgnOf (ival q0.ng q0.ds) = sg at *
      go_wp2_with fail
      refine HS1.out.mono ?_
      rintro e w3 ⟨rfl, rfl⟩
      obtain ⟨hx0, k0, _, hs⟩ := HX.out
      have HXS := Lib.hid hs
      clear HX hs HS1 e0 e1
      generalize (w2.alloc (.cells #[.bool false, .slice Ag (dig g).length cg] 31)).alloc (.cells #[.bool q0.ng, .slice q0.A q0.ds.length q0.c] 31) = X at *
      have HN3 := Lib.hid (HNG.out X (HN2.out.old hx0))
      have p0 : X.cell? ⟨w2.heap.size, 0, none⟩ = some (.bool false) := k0.cell 0
      have p1 : X.cell? ⟨w2.heap.size, 1, none⟩ = some (.slice Ag (dig g).length cg) := k0.cell 1
      have HBX := Lib.hid (HB2.out.trans (hx0.mono HB2.out.size)); have HKX := Lib.hid k0
      clear k0 hx0
      go_wp2_with fail
      refine HN3.out.mono ?_
      rintro e w4 ⟨dA, dc, rfl, h41, h42, h43⟩
      have kk := HKX.out.old h43
      have d0 : w4.cell? ⟨w2.heap.size, 0, none⟩ = some (.bool false) := kk.cell 0
      have d1 : w4.cell? ⟨w2.heap.size, 1, none⟩ = some (.slice Ag (dig g).length cg) := kk.cell 1
      have f0 := kk.frozen 0; have f1 := kk.frozen 1; have z0 := kk.lt
      have HVB := Lib.hid (((HBX.out.trans (h43.mono HBX.out.size)).setCell (p := ⟨w2.heap.size, 0, none⟩) HB2.out.size (.bool (decide (D < 0)))).setCell (p := ⟨w2.heap.size, 1, none⟩) HB2.out.size (.slice dA (dig D.natAbs).length dc))
      have HVK := Lib.hid ((kk.set_ 0 (.bool (decide (D < 0)))).set_ 1 (.slice dA (dig D.natAbs).length dc))
      have HVN := Lib.hid (h42.store2 kk (by decide) (.bool (decide (D < 0))) (.slice dA (dig D.natAbs).length dc))
      have HDC := Lib.hid h41
      clear kk h41 h42 h43 p0 p1 HN3 HBX HKX
      go_wp2_with fail
      clear d0 d1 f0 f1 z0
      generalize (w4.setCell ⟨w2.heap.size, 0, none⟩ (.bool (decide (D < 0)))).setCell ⟨w2.heap.size, 1, none⟩ (.slice dA (dig D.natAbs).length dc) = V at *
      obtain ⟨uA, uc, HUK, HUN, HUC⟩ : ∃ uA uc, Hid (Blk V w2.heap.size 31 #[.bool (decide (D < 0)), .slice uA (dig D.natAbs).length uc]) ∧ Hid (NatB V uA (dig D.natAbs)) ∧ Hid ((dig D.natAbs).length ≤ uc) := ⟨dA, dc, HVK, HVN, HDC⟩
      clear HVK HVN HDC
      clear HNG HNP
      have hvb := HVB.out
      have hlw : w2.heap.size < V.heap.size := HUK.out.lt
      have HBV := Lib.hid (HB1.out.trans (hvb.mono HB1.out.size))
      have HOV := Lib.hid (HOWN.out.old hvb)
      have HNB := Lib.hid (HGD.out.own.cn)
      have hB2 : w.heap.size ≤ w2.heap.size := Nat.le_trans HB1.out.size HB2.out.size
      have HDL := Lib.hid (fun p hp => HGD.out.dlen (k := 600) hM (p := p) hp)
      clear hvb HOWN HVB
      generalize w2.heap.size = b4 at *
      generalize hdn : decide (D < 0) = dn at *
      have HDN := Lib.hid hdn
      clear hdn
      go_loopg [5, 24] n (fun gn _ ix wr => ∃ (k : Nat) (rs : List PT), k ≤ n ∧ gn = n - k ∧ ix = .int .i64 k ∧ POwn wr w.heap.size (.slice (some ⟨rb, 0, none⟩) n c1) rs ∧ rs.map PT.tm = dvTo D (qs.map PT.tm) k ∧ Below w.heap.size w wr ∧ Blk wr b4 31 #[.bool dn, .slice uA (dig D.natAbs).length uc] ∧ NatB wr uA (dig D.natAbs))
      case atStart => exact ⟨0, qs, Nat.zero_le _, rfl, rfl, HOV.out, (dvTo_zero _ _).symm, HBV.out, HUK.out, HUN.out⟩
      case round =>
        clear HOV HBV HUK HUN hlw
        obtain ⟨k, rs, hk, hgk, rfl, hro, hrt, hbl, hkb, hnb⟩ := hrel
        have HG := Lib.hid hgk; clear hgk
        have hrl : rs.length = n := by
          have := congrArg List.length hrt
          rw [dvTo_len, List.length_map, List.length_map] at this
          have := HQN.out
          omega
        by_cases hlt : k < n
        · obtain ⟨q, hq⟩ : ∃ q, qs[k]? = some q := ⟨_, List.getElem?_eq_getElem (by have := HQN.out; omega)⟩
          obtain ⟨p, hp⟩ : ∃ p, rs[k]? = some p := ⟨_, List.getElem?_eq_getElem (by omega)⟩
          have hpm := List.mem_of_getElem? hp
          have htq : p.tm = q.tm := by
            have e1 : (rs.map PT.tm)[k]? = some p.tm := by simp [hp]
            have e2 : (qs.map PT.tm)[k]? = some q.tm := by simp [hq]
            rw [hrt, dvTo_at, e2] at e1
            injection e1 with e1
            exact e1.symm
          have hpl : p.ds.length ≤ 600 := by
            rw [(hro.cn p hpm).ds, htq, ← (HNB.out q (List.mem_of_getElem? hq)).ds]
            exact HDL.out q (List.mem_of_getElem? hq)
          have hdv : D ∣ p.tm.1 := by
            rw [htq]
            exact HDD.out _ (List.mem_map.2 ⟨q, List.mem_of_getElem? hq, rfl⟩)
          obtain ⟨cur, hkr, hbr, hcap, hcur⟩ := own_blk (hrl ▸ hro.row)
          have r0 : cur[k * 6]? = some (.bool p.ng) := hcur _ _ (flat_at rs k 0 p hp (by omega))
          have r1 : cur[k * 6 + 1]? = some (.slice p.A p.ds.length p.c) := hcur _ _ (flat_at rs k 1 p hp (by omega))
          have HU := Lib.hid (fun (W : World) (hW : Below wr.heap.size wr W) (A3 : Option Addr) (c3 : Nat) => (hro.old hW).upd hrl hp (p.tm.1 / D) A3 c3)
          have HT := Lib.hid (show (rs.map PT.tm).set k (p.tm.1 / D, p.m) = dvTo D (qs.map PT.tm) (k + 1) by
            have e2 : (qs.map PT.tm)[k]? = some p.tm := by simp [hq, htq]
            rw [hrt]
            exact dvTo_succ e2)
          have HMS := Lib.hid (map_set_tm rs k)
          have hnp := hro.nin hpm
          have hid : ival dn (dig D.natAbs) = D := by rw [← HDN.out]; exact ival_dig D
          have hze : ival p.ng p.ds = p.tm.1 := rfl
          have HA := Lib.hid (fun (W : World) (hW : Below wr.heap.size wr W) => Exact_any p.ng dn p.A uA p.c uc W.heap.size p.ds (dig D.natAbs) W (Nat.le_refl _) ((hnp.below hW).more hW.size) (natB_nin (hnb.old hW) HUC.out) (by omega) (by have := HGL.out; omega) (by rw [hid]; exact HD0.out) (by rw [hid, hze]; exact hdv))
          rw [hid, hze] at HA
          unfold ExactRes at HA
          clear hid hze hnp hro hrt hcur htq hq hp hpm hdv
          have c0 : wr.cell? ⟨b4, 0, none⟩ = some (.bool dn) := hkb.cell 0
          have c1' : wr.cell? ⟨b4, 1, none⟩ = some (.slice uA (dig D.natAbs).length uc) := hkb.cell 1
          have e0 : wr.cell? ⟨rb, k * 6, none⟩ = some (.bool p.ng) := (hkr.cell _).trans r0
          have e1 : wr.cell? ⟨rb, k * 6 + 1, none⟩ = some (.slice p.A p.ds.length p.c) := (hkr.cell _).trans r1
          have i0 : (0 : Int) ≤ (k : Int) := by omega
          have i1 : (k : Int) < (n : Int) := by omega
          have i2 : (n : Int) ≤ (c1 : Int) := by omega
          have lr := hkr.lt; have lq := hkb.lt
          have hne : b4 ≠ rb := fun e => by
            subst e
            have := hkr.symm.trans hkb
            injection this with this
            injection this with _ h2
            exact absurd h2 (by decide)
          have HBL := Lib.hid hbl; have HNU := Lib.hid hnb
          have hdr : Below wr.heap.size wr wr.drew := (Drawn.drew _).below _
          have hsz := hbl.size
          generalize hzz : p.tm.1 / D = zz at *
          generalize hpn : p.ng = png at *
          generalize hpd : p.ds = pds at *
          generalize hpA : p.A = pA at *
          generalize hpc : p.c = pc at *
          clear hpn hpd hpA hpc hbl hzz hnb
          go_wp2_with fail
          go_region_with ((go_at_call 64; refine (HA.out _ hdr).mono ?_; rintro e w3 ⟨A3, c3, rfl, h3, h4, h5⟩; have kk := Blk.old (w := wr.drew) hkr h5; have d0 := (kk.cell (k * 6)).trans r0; have d1 := (kk.cell (k * 6 + 1)).trans r1; have f0 := kk.frozen (k * 6); have f1 := kk.frozen (k * 6 + 1); have kc := Blk.old (w := wr.drew) hkb h5))
          all_goals
            go_wp2_with fail
            obtain ⟨u1, u2⟩ := HU.out w3 (hdr.trans h5) A3 c3 h4 h3
            have hn5 := ((HNU.out.old (hdr.trans h5)).far kk (by decide) (k * 6) (.bool (decide (zz < 0)))).far (kk.set_ (k * 6) (.bool (decide (zz < 0)))) (by decide) (k * 6 + 1) (.slice A3 (dig zz.natAbs).length c3)
            go_roundg (n - (k + 1))
            case rel =>
              refine ⟨k + 1, _, by omega, rfl, by go_num, u1, ?_, HBL.out.trans (((hdr.trans h5).mono hsz).trans u2), (kc.far hne _).far hne _, hn5⟩
              rw [HMS.out, mkP_tm]
              exact HT.out
            case measure => have := HG.out; omega
        · obtain rfl : k = n := by omega
          have HFIN := HSN.out _ _ _ hrt hro
          go_wp2_with fail
          go_ret
          subst hrl
          exact ⟨qs.map PT.tm, HP1.out, HP2.out, _, c1, rs, rfl, HFIN, hbl⟩
    · have hsg : ¬ sgnOf (ival q0.ng q0.ds) < 0 := fun h => hneg ((sgnOf_neg _).1 h)
      have hsg : 0 ≤ sgnOf (ival q0.ng q0.ds) := by omega
      have hD : D = (g : Int) := by rw [HHD.out]; simp [hneg]
      have HDG := Lib.hid hD
      clear hneg hD
      generalize sgnOf (ival q0.ng q0.ds) = sg at *
      go_wp2_with fail
      refine HS1.out.mono ?_
      rintro e w3 ⟨rfl, rfl⟩
      obtain ⟨hx0, k0, _, hs⟩ := HX.out
      have HVB := Lib.hid (HB2.out.trans (hx0.mono HB2.out.size))
      clear HX hs HS1 e0 e1
      generalize (w2.alloc (.cells #[.bool false, .slice Ag (dig g).length cg] 31)).alloc (.cells #[.bool q0.ng, .slice q0.A q0.ds.length q0.c] 31) = X at *
      have x0 : decide (D < 0) = false := by rw [HDG.out]; simp
      have x1 : D.natAbs = g := by rw [HDG.out]; simp
      have HVN : Hid (NatB X Ag (dig D.natAbs)) := Lib.hid (by rw [x1]; exact HN2.out.old hx0)
      have HDC : Hid ((dig D.natAbs).length ≤ cg) := Lib.hid (by rw [x1]; exact HCG.out)
      have HVK : Hid (Blk X w2.heap.size 31 #[.bool (decide (D < 0)), .slice Ag (dig D.natAbs).length cg]) := Lib.hid (by rw [x0, x1]; exact k0)
      clear k0 hx0 x0 x1
      go_wp2_with fail
      generalize hXV : X = V at *
      clear hXV
      obtain ⟨uA, uc, HUK, HUN, HUC⟩ : ∃ uA uc, Hid (Blk V w2.heap.size 31 #[.bool (decide (D < 0)), .slice uA (dig D.natAbs).length uc]) ∧ Hid (NatB V uA (dig D.natAbs)) ∧ Hid ((dig D.natAbs).length ≤ uc) := ⟨Ag, cg, HVK, HVN, HDC⟩
      clear HVK HVN HDC
      clear HNG HNP
      have hvb := HVB.out
      have hlw : w2.heap.size < V.heap.size := HUK.out.lt
      have HBV := Lib.hid (HB1.out.trans (hvb.mono HB1.out.size))
      have HOV := Lib.hid (HOWN.out.old hvb)
      have HNB := Lib.hid (HGD.out.own.cn)
      have hB2 : w.heap.size ≤ w2.heap.size := Nat.le_trans HB1.out.size HB2.out.size
      have HDL := Lib.hid (fun p hp => HGD.out.dlen (k := 600) hM (p := p) hp)
      clear hvb HOWN HVB
      generalize w2.heap.size = b4 at *
      generalize hdn : decide (D < 0) = dn at *
      have HDN := Lib.hid hdn
      clear hdn
      go_loopg [5, 24] n (fun gn _ ix wr => ∃ (k : Nat) (rs : List PT), k ≤ n ∧ gn = n - k ∧ ix = .int .i64 k ∧ POwn wr w.heap.size (.slice (some ⟨rb, 0, none⟩) n c1) rs ∧ rs.map PT.tm = dvTo D (qs.map PT.tm) k ∧ Below w.heap.size w wr ∧ Blk wr b4 31 #[.bool dn, .slice uA (dig D.natAbs).length uc] ∧ NatB wr uA (dig D.natAbs))
      case atStart => exact ⟨0, qs, Nat.zero_le _, rfl, rfl, HOV.out, (dvTo_zero _ _).symm, HBV.out, HUK.out, HUN.out⟩
      case round =>
        clear HOV HBV HUK HUN hlw
        obtain ⟨k, rs, hk, hgk, rfl, hro, hrt, hbl, hkb, hnb⟩ := hrel
        have HG := Lib.hid hgk; clear hgk
        have hrl : rs.length = n := by
          have := congrArg List.length hrt
          rw [dvTo_len, List.length_map, List.length_map] at this
          have := HQN.out
          omega
        by_cases hlt : k < n
        · obtain ⟨q, hq⟩ : ∃ q, qs[k]? = some q := ⟨_, List.getElem?_eq_getElem (by have := HQN.out; omega)⟩
          obtain ⟨p, hp⟩ : ∃ p, rs[k]? = some p := ⟨_, List.getElem?_eq_getElem (by omega)⟩
          have hpm := List.mem_of_getElem? hp
          have htq : p.tm = q.tm := by
            have e1 : (rs.map PT.tm)[k]? = some p.tm := by simp [hp]
            have e2 : (qs.map PT.tm)[k]? = some q.tm := by simp [hq]
            rw [hrt, dvTo_at, e2] at e1
            injection e1 with e1
            exact e1.symm
          have hpl : p.ds.length ≤ 600 := by
            rw [(hro.cn p hpm).ds, htq, ← (HNB.out q (List.mem_of_getElem? hq)).ds]
            exact HDL.out q (List.mem_of_getElem? hq)
          have hdv : D ∣ p.tm.1 := by
            rw [htq]
            exact HDD.out _ (List.mem_map.2 ⟨q, List.mem_of_getElem? hq, rfl⟩)
          obtain ⟨cur, hkr, hbr, hcap, hcur⟩ := own_blk (hrl ▸ hro.row)
          have r0 : cur[k * 6]? = some (.bool p.ng) := hcur _ _ (flat_at rs k 0 p hp (by omega))
          have r1 : cur[k * 6 + 1]? = some (.slice p.A p.ds.length p.c) := hcur _ _ (flat_at rs k 1 p hp (by omega))
          have HU := Lib.hid (fun (W : World) (hW : Below wr.heap.size wr W) (A3 : Option Addr) (c3 : Nat) => (hro.old hW).upd hrl hp (p.tm.1 / D) A3 c3)
          have HT := Lib.hid (show (rs.map PT.tm).set k (p.tm.1 / D, p.m) = dvTo D (qs.map PT.tm) (k + 1) by
            have e2 : (qs.map PT.tm)[k]? = some p.tm := by simp [hq, htq]
            rw [hrt]
            exact dvTo_succ e2)
          have HMS := Lib.hid (map_set_tm rs k)
          have hnp := hro.nin hpm
          have hid : ival dn (dig D.natAbs) = D := by rw [← HDN.out]; exact ival_dig D
          have hze : ival p.ng p.ds = p.tm.1 := rfl
          have HA := Lib.hid (fun (W : World) (hW : Below wr.heap.size wr W) => Exact_any p.ng dn p.A uA p.c uc W.heap.size p.ds (dig D.natAbs) W (Nat.le_refl _) ((hnp.below hW).more hW.size) (natB_nin (hnb.old hW) HUC.out) (by omega) (by have := HGL.out; omega) (by rw [hid]; exact HD0.out) (by rw [hid, hze]; exact hdv))
          rw [hid, hze] at HA
          unfold ExactRes at HA
          clear hid hze hnp hro hrt hcur htq hq hp hpm hdv
          have c0 : wr.cell? ⟨b4, 0, none⟩ = some (.bool dn) := hkb.cell 0
          have c1' : wr.cell? ⟨b4, 1, none⟩ = some (.slice uA (dig D.natAbs).length uc) := hkb.cell 1
          have e0 : wr.cell? ⟨rb, k * 6, none⟩ = some (.bool p.ng) := (hkr.cell _).trans r0
          have e1 : wr.cell? ⟨rb, k * 6 + 1, none⟩ = some (.slice p.A p.ds.length p.c) := (hkr.cell _).trans r1
          have i0 : (0 : Int) ≤ (k : Int) := by omega
          have i1 : (k : Int) < (n : Int) := by omega
          have i2 : (n : Int) ≤ (c1 : Int) := by omega
          have lr := hkr.lt; have lq := hkb.lt
          have hne : b4 ≠ rb := fun e => by
            subst e
            have := hkr.symm.trans hkb
            injection this with this
            injection this with _ h2
            exact absurd h2 (by decide)
          have HBL := Lib.hid hbl; have HNU := Lib.hid hnb
          have hdr : Below wr.heap.size wr wr.drew := (Drawn.drew _).below _
          have hsz := hbl.size
          generalize hzz : p.tm.1 / D = zz at *
          generalize hpn : p.ng = png at *
          generalize hpd : p.ds = pds at *
          generalize hpA : p.A = pA at *
          generalize hpc : p.c = pc at *
          clear hpn hpd hpA hpc hbl hzz hnb
          go_wp2_with fail
          go_region_with ((go_at_call 64; refine (HA.out _ hdr).mono ?_; rintro e w3 ⟨A3, c3, rfl, h3, h4, h5⟩; have kk := Blk.old (w := wr.drew) hkr h5; have d0 := (kk.cell (k * 6)).trans r0; have d1 := (kk.cell (k * 6 + 1)).trans r1; have f0 := kk.frozen (k * 6); have f1 := kk.frozen (k * 6 + 1); have kc := Blk.old (w := wr.drew) hkb h5))
          all_goals
            go_wp2_with fail
            obtain ⟨u1, u2⟩ := HU.out w3 (hdr.trans h5) A3 c3 h4 h3
            have hn5 := ((HNU.out.old (hdr.trans h5)).far kk (by decide) (k * 6) (.bool (decide (zz < 0)))).far (kk.set_ (k * 6) (.bool (decide (zz < 0)))) (by decide) (k * 6 + 1) (.slice A3 (dig zz.natAbs).length c3)
            go_roundg (n - (k + 1))
            case rel =>
              refine ⟨k + 1, _, by omega, rfl, by go_num, u1, ?_, HBL.out.trans (((hdr.trans h5).mono hsz).trans u2), (kc.far hne _).far hne _, hn5⟩
              rw [HMS.out, mkP_tm]
              exact HT.out
            case measure => have := HG.out; omega
        · obtain rfl : k = n := by omega
          have HFIN := HSN.out _ _ _ hrt hro
          go_wp2_with fail
          go_ret
          subst hrl
          exact ⟨qs.map PT.tm, HP1.out, HP2.out, _, c1, rs, rfl, HFIN, hbl⟩
end Go.Proofs.Ytpbapoanjkekmaa
