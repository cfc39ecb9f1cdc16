/- Contract of sparse.Scale: the canonical form, each coefficient multiplied where it lies. -/
import Derived.Test.YtpbapoanjkekmaaZK
namespace Go.Proofs.Ytpbapoanjkekmaa
open Go.RowKit
attribute [local go_sem ↓] Go.wp_at_zero Go.wp_at_succ

theorem POwn.upd {w : World} {base rb cap n : Nat} {ps : List PT} (h : POwn w base (.slice (some ⟨rb, 0, none⟩) n cap) ps) (hn0 : ps.length = n) {i : Nat} {p : PT} (hi : ps[i]? = some p) (z : Int) (A : Option Addr) (c : Nat) (hn : NatB w A (dig z.natAbs)) (hc : (dig z.natAbs).length ≤ c) :
    POwn ((w.setCell ⟨rb, i * 6, none⟩ (.bool (decide (z < 0)))).setCell ⟨rb, i * 6 + 1, none⟩ (.slice A (dig z.natAbs).length c)) base (.slice (some ⟨rb, 0, none⟩) n cap) (ps.set i (mkP z A c p.m)) ∧
      Below base w ((w.setCell ⟨rb, i * 6, none⟩ (.bool (decide (z < 0)))).setCell ⟨rb, i * 6 + 1, none⟩ (.slice A (dig z.natAbs).length c)) := by
  subst hn0
  obtain ⟨cur, hk, hbr, _, _⟩ := own_blk h.row
  have hk' := hk.set_ (i * 6) (.bool (decide (z < 0)))
  have ht : GTurn base w ((w.setCell ⟨rb, i * 6, none⟩ (.bool (decide (z < 0)))).setCell ⟨rb, i * 6 + 1, none⟩ (.slice A (dig z.natAbs).length c)) := (GTurn.set_t hbr hk _).trans (GTurn.set_t hbr hk' _)
  refine ⟨⟨?_, ?_, ?_⟩, ht.below⟩
  · rw [flat_set ps i p (mkP z A c p.m) hi rfl, List.length_set]
    exact own_set (own_set h.row _ _) _ _
  · intro q hq
    rcases List.mem_or_eq_of_mem_set hq with k | k
    · exact ⟨ht.natB (h.dg q k).1, (h.dg q k).2⟩
    · subst k
      exact ⟨ht.natB hn, hc⟩
  · intro q hq
    rcases List.mem_or_eq_of_mem_set hq with k | k
    · exact h.cn q k
    · subst k; exact mkP_cn _ _ _ _

/-- the first k coefficients multiplied -/
def sclTo (z : Int) (l : List Tm) (k : Nat) : List Tm := sclL z (l.take k) ++ l.drop k
theorem sclTo_zero (z : Int) (l : List Tm) : sclTo z l 0 = l := by simp [sclTo, sclL]
theorem sclTo_all (z : Int) (l : List Tm) : sclTo z l l.length = sclL z l := by simp [sclTo]
theorem sclTo_at (z : Int) (l : List Tm) (k : Nat) : (sclTo z l k)[k]? = l[k]? := by
  by_cases h : k < l.length
  · unfold sclTo sclL
    rw [List.getElem?_append_right (by simp; omega)]
    simp [Nat.min_eq_left (Nat.le_of_lt h)]
  · have e : l.length ≤ k := by omega
    rw [List.getElem?_eq_none (by simp [sclTo, sclL]; omega), List.getElem?_eq_none e]
theorem sclTo_succ {z : Int} {l : List Tm} {k : Nat} {t : Tm} (h : l[k]? = some t) : (sclTo z l k).set k (t.1 * z, t.2) = sclTo z l (k + 1) := by
  have hl : k < l.length := (List.getElem?_eq_some_iff.1 h).1
  have e : l[k] = t := (List.getElem?_eq_some_iff.1 h).2
  unfold sclTo sclL
  rw [List.set_append_right _ _ (by simp; omega)]
  have e1 : k - (List.map (fun t : Tm => (t.1 * z, t.2)) (l.take k)).length = 0 := by simp; omega
  rw [e1, List.drop_eq_getElem_cons hl, List.set_cons_zero, List.take_succ_eq_append_getElem hl, List.map_append, e]
  simp
theorem Canon.scl {l : List Tm} (h : Canon l) {z : Int} (hz : z ≠ 0) : Canon (sclL z l) where
  ne t ht := by
    obtain ⟨s, hs, rfl⟩ := List.mem_map.1 ht
    exact Int.mul_ne_zero (h.ne s hs) hz
  vl t ht := by
    obtain ⟨s, hs, rfl⟩ := List.mem_map.1 ht
    exact h.vl s hs
  so := by
    unfold sclL
    rw [List.pairwise_map]
    exact h.so
theorem nrm_scl (z : Int) (l : List Tm) : nrm (sclL z l) = z.natAbs * nrm l := by
  induction l with
  | nil => rfl
  | cons t l ih =>
    have e : sclL z (t :: l) = (t.1 * z, t.2) :: sclL z l := rfl
    rw [e]
    simp only [nrm, ih, Int.natAbs_mul]
    rw [Nat.mul_add, Nat.mul_comm]
theorem PGood.scl {X X' : World} {base N M n : Nat} {E : Int} {v v' : Value} {ps qs : List PT} {F : Mo → Int} (h : PGood X base v ps F N E M) (z : Int) (hz : z ≠ 0) (hn : ps.length = n) (hq : qs.map PT.tm = sclTo z (ps.map PT.tm) n) (ho : POwn X' base v' qs) : PGood X' base v' qs (fun m => z * F m) N E (z.natAbs * M) := by
  have e : qs.map PT.tm = sclL z (ps.map PT.tm) := by
    rw [hq, ← hn, ← List.length_map (f := PT.tm)]
    exact sclTo_all _ _
  refine ⟨ho, ?_, fun m => ?_, ?_, fun q hqm => ?_, ?_⟩
  · rw [e]; exact h.can.scl hz
  · rw [e, cf_scl, h.cf]
  · have := congrArg List.length e
    simp [sclL] at this
    rw [this]; exact h.len
  · have : q.tm ∈ sclL z (ps.map PT.tm) := e ▸ List.mem_map.2 ⟨q, hqm, rfl⟩
    obtain ⟨s, hs, hs'⟩ := List.mem_map.1 this
    obtain ⟨p, hp, rfl⟩ := List.mem_map.1 hs
    have e2 := congrArg Prod.snd hs'
    have e3 : q.m = p.m := e2.symm
    rw [e3]; exact h.mb p hp
  · rw [e, nrm_scl]
    exact Nat.mul_le_mul_left _ h.nm

set_option maxHeartbeats 4000000 in
set_option maxRecDepth 100000 in
theorem Scale_any (A : Option Addr) (c B N : Nat) (E : Int) (M : Nat) (ps : List PT) (ng : Bool) (As : Option Addr) (cs : Nat) (ds : List Nat) (w : World) (hB : B ≤ w.heap.size) (h : PIn w B A ps N E M) (hs : NatIn w B As cs ds) (hN : N ≤ 50000) (hM : M < Big) (hd : ds.length < 48) :
    Calls Try.prog 36 #[.slice A ps.length c, .agg #[.bool ng, .slice As ds.length cs]] w (PRes (fun m => ival ng ds * cf (ps.map PT.tm) m) N E ((ival ng ds).natAbs * M) w) := by
  have hbx : Below w.heap.size w (w.alloc (.cells #[.bool ng, .slice As ds.length cs] 31)) := (Below.refl _ _).alloc (Nat.le_refl _) _
  have HS := Lib.hid (fun (W : World) (hW : Below w.heap.size w W) => Sign_any ng As cs B ds W (Nat.le_trans hB hW.size) (hs.below (hW.mono hB)) (by omega))
  have HP := Lib.hid (fun (W : World) (hW : Below w.heap.size w W) => Normal_poly A c B N E M ps W (Nat.le_trans hB hW.size) (h.below (hW.mono hB)) hN hM)
  have HX := Lib.hid (boxes2 w 31 31 #[.bool ng, .slice As ds.length cs] #[.bool ng, .slice As ds.length cs])
  have HBX := Lib.hid hbx
  have HSI := Lib.hid hs
  clear h hbx hs
  generalize hF : cf (ps.map PT.tm) = F at *
  clear hF
  by_cases hz : ival ng ds = 0
  · have HZ := Lib.hid hz
    have hs0 : sgnOf (ival ng ds) = 0 := by rw [hz]; rfl
    rw [hs0] at HS
    clear hz hs0
    generalize ival ng ds = z at *
    go_enter Try.func36, Try.ntmps36
    go_wp2_with fail
    refine (HS.out _ HBX.out).mono ?_
    rintro e w1 ⟨rfl, rfl⟩
    go_wp2_with fail
    go_ret
    exact ⟨none, 0, [], rfl, PGood.none _ _ _ (fun m => by simp [HZ.out]) _ _ _, HX.out.1⟩
  · have HZ := Lib.hid hz
    have hs0 : (sgnOf (ival ng ds) == 0) = false := by unfold sgnOf; split <;> simp
    generalize sgnOf (ival ng ds) = sg at *
    have HMU := Lib.hid (fun (p : PT) (W : World) (h1 : NatIn W W.heap.size p.A p.c p.ds) (h2 : p.ds.length ≤ 600) (h3 : NatIn W W.heap.size As cs ds) => IMul_any p.ng ng p.A As p.c cs W.heap.size p.ds ds W (Nat.le_refl _) h1 h3 (by omega) (.inr hd))
    unfold IntRes at HMU
    clear hz
    generalize hzz : ival ng ds = z at *
    clear hzz
    go_enter Try.func36, Try.ntmps36
    go_wp2_with fail
    refine (HS.out _ HBX.out).mono ?_
    rintro e w1 ⟨rfl, rfl⟩
    obtain ⟨hx0, k0, k1, hs⟩ := HX.out
    clear HX hs HBX k1
    generalize (w.alloc (.cells #[.bool ng, .slice As ds.length cs] 31)).alloc (.cells #[.bool ng, .slice As ds.length cs] 31) = X at *
    go_wp2_with fail
    refine (HP.out _ hx0).mono ?_
    rintro e W2 ⟨A1, c1, qs, rfl, hgd, hb2⟩
    have hb02 := hx0.trans (hb2.mono hx0.size)
    have hlen := hgd.len
    have hown := hgd.own
    have hdl := fun p hp => hgd.dlen (k := 600) hM (p := p) hp
    have HGD := Lib.hid hgd
    have kb2 := k0.old hb2
    have hlw := k0.lt
    clear hgd k0
    generalize hqn : qs.length = n at *
    have HQN := Lib.hid hqn
    clear hqn
    have hxs := hx0.size
    have HX0 := Lib.hid hx0
    clear hx0 hb02
    go_wp2_with fail
    go_loopg [6, 14] n (fun gn _ ix wr => ∃ (k : Nat) (rs : List PT), k ≤ n ∧ gn = n - k ∧ ix = .int .i64 k ∧ POwn wr X.heap.size (.slice A1 n c1) rs ∧ rs.map PT.tm = sclTo z (qs.map PT.tm) k ∧ Below X.heap.size X wr ∧ Blk wr w.heap.size 31 #[.bool ng, .slice As ds.length cs])
    case atStart => exact ⟨0, qs, Nat.zero_le _, rfl, rfl, hown, (sclTo_zero _ _).symm, hb2, kb2⟩
    case round =>
      obtain ⟨k, rs, hk, hgk, rfl, hro, hrt, hbl, hkb⟩ := hrel
      have HG := Lib.hid hgk; clear hgk
      have hrl : rs.length = n := by
        have := congrArg List.length hrt
        simp [sclTo, sclL] at this
        have := HQN.out
        omega
      by_cases hlt : k < n
      · obtain ⟨q, hq⟩ : ∃ q, qs[k]? = some q := ⟨_, List.getElem?_eq_getElem (by have := HQN.out; omega)⟩
        obtain ⟨p, hp⟩ : ∃ p, rs[k]? = some p := ⟨_, List.getElem?_eq_getElem (by omega)⟩
        have hpm := List.mem_of_getElem? hp
        have htq : p.tm = q.tm := by
          have e1 : (rs.map PT.tm)[k]? = some p.tm := by simp [hp]
          have e2 : (qs.map PT.tm)[k]? = some q.tm := by simp [hq]
          rw [hrt, sclTo_at, e2] at e1
          injection e1 with e1
          exact e1.symm
        have hpl : p.ds.length ≤ 600 := by
          rw [(hro.cn p hpm).ds, htq, ← (HGD.out.own.cn q (List.mem_of_getElem? hq)).ds]
          exact hdl q (List.mem_of_getElem? hq)
        obtain ⟨rb, rfl⟩ : ∃ rb, A1 = some ⟨rb, 0, none⟩ := by
          obtain ⟨g', cap, hv', _⟩ := hro.row.form (by omega)
          injection hv' with h1
          exact ⟨g', h1⟩
        obtain ⟨cur, hkr, hbr, hcap, hcur⟩ := own_blk (hrl ▸ hro.row)
        have r0 : cur[k * 6]? = some (.bool p.ng) := hcur _ _ (flat_at rs k 0 p hp (by omega))
        have r1 : cur[k * 6 + 1]? = some (.slice p.A p.ds.length p.c) := hcur _ _ (flat_at rs k 1 p hp (by omega))
        have HU := Lib.hid (fun (W : World) (hW : Below wr.heap.size wr W) (A3 : Option Addr) (c3 : Nat) => (hro.old hW).upd hrl hp (p.tm.1 * z) A3 c3)
        have HT := Lib.hid (show (rs.map PT.tm).set k (p.tm.1 * z, p.m) = sclTo z (qs.map PT.tm) (k + 1) by
          have e2 : (qs.map PT.tm)[k]? = some p.tm := by simp [hq, htq]
          rw [hrt]
          exact sclTo_succ e2)
        have HMS := Lib.hid (map_set_tm rs k)
        have hnp := hro.nin hpm
        have HA := Lib.hid (fun (W : World) (hW : Below wr.heap.size wr W) => HMU.out p W ((hnp.below hW).more hW.size) hpl ((HSI.out.below ((HX0.out.mono hB).trans ((hbl.mono (Nat.le_trans hB hxs)).trans (hW.mono (Nat.le_trans hB (Nat.le_trans hxs hbl.size)))))).more (Nat.le_trans hB (Nat.le_trans hxs (Nat.le_trans hbl.size hW.size)))))
        have hze : ival p.ng p.ds * z = p.tm.1 * z := rfl
        rw [hze] at HA
        clear hze hnp hro hrt hcur htq hq hp hpm
        have c0 : wr.cell? ⟨w.heap.size, 0, none⟩ = some (.bool ng) := hkb.cell 0
        have c1' : wr.cell? ⟨w.heap.size, 1, none⟩ = some (.slice As ds.length cs) := hkb.cell 1
        have e0 : wr.cell? ⟨rb, k * 6, none⟩ = some (.bool p.ng) := (hkr.cell _).trans r0
        have e1 : wr.cell? ⟨rb, k * 6 + 1, none⟩ = some (.slice p.A p.ds.length p.c) := (hkr.cell _).trans r1
        have i0 : (0 : Int) ≤ (k : Int) := by omega
        have i1 : (k : Int) < (n : Int) := by omega
        have i2 : (n : Int) ≤ (c1 : Int) := by omega
        have lr := hkr.lt; have lq := hkb.lt
        have hne : w.heap.size ≠ rb := by omega
        have HBL := Lib.hid hbl
        have hdr : Below wr.heap.size wr wr.drew := (Drawn.drew _).below _
        have hsz := hbl.size
        generalize hzz : p.tm.1 * z = zz at *
        generalize hpn : p.ng = png at *
        generalize hpd : p.ds = pds at *
        generalize hpA : p.A = pA at *
        generalize hpc : p.c = pc at *
        clear hpn hpd hpA hpc hbl hzz
        go_wp2_with fail
        go_region_with ((go_at_call 16; refine (HA.out _ hdr).mono ?_; rintro e w3 ⟨A3, c3, rfl, h3, h4, h5⟩; have kk := Blk.old (w := wr.drew) hkr h5; have d0 := (kk.cell (k * 6)).trans r0; have d1 := (kk.cell (k * 6 + 1)).trans r1; have f0 := kk.frozen (k * 6); have f1 := kk.frozen (k * 6 + 1); have kc := Blk.old (w := wr.drew) hkb h5))
        all_goals
          go_wp2_with fail
          obtain ⟨u1, u2⟩ := HU.out w3 (hdr.trans h5) A3 c3 h4 h3
          go_roundg (n - (k + 1))
          case rel =>
            refine ⟨k + 1, _, by omega, rfl, by go_num, u1, ?_, HBL.out.trans (((hdr.trans h5).mono hsz).trans u2), (kc.far hne _).far hne _⟩
            rw [HMS.out, mkP_tm]
            exact HT.out
          case measure => have := HG.out; omega
      · obtain rfl : k = n := by omega
        have HFIN := HGD.out.scl z HZ.out HQN.out hrt hro
        go_wp2_with fail
        go_ret
        subst hrl
        exact ⟨A1, c1, rs, rfl, { HFIN with own := HFIN.own.mono hxs }, HX0.out.trans (hbl.mono hxs)⟩
end Go.Proofs.Ytpbapoanjkekmaa
