/- The walk of SparseContent. -/
import Derived.IntWalk
import Derived.Test.YtpbapoanjkekmaaVP
import Derived.Test.YtpbapoanjkekmaaL4
namespace Go.Proofs.Ytpbapoanjkekmaa
open Go.RowKit
attribute [local go_sem ↓] Go.wp_at_zero Go.wp_at_succ

theorem Wr.of_belowC {g : Nat} {w w' : World} (h : Below w.heap.size w w') : Wr g w w' := ⟨h.os, h.tape, h.output, h.size, fun i hi _ => h.block i hi⟩
theorem sgL_hd {l : List Tm} : (sgL l < 0) ↔ hdN l = true := by
  cases l with
  | nil => simp [sgL, hdN]
  | cons t l =>
    show sgnOf t.1 < 0 ↔ decide (t.1 < 0) = true
    rw [sgnOf_neg, decide_eq_true_iff]
theorem back_pos {l : List Tm} {F : Mo → Int} (h : hdN l = false) (hF : ∀ m, F m = (gcL l : Int) * cf (snL l) m) (m : Mo) : F m = cf l m := by
  rw [hF, ← sn_cf l m]
  unfold dvs
  rw [h, if_neg (by simp)]
theorem back_neg {l : List Tm} {F : Mo → Int} (h : hdN l = true) (hF : ∀ m, F m = -((gcL l : Int) * cf (snL l) m)) (m : Mo) : F m = cf l m := by
  rw [hF, ← sn_cf l m]
  unfold dvs
  rw [h, if_pos rfl, Int.neg_mul]
def ZeroRes (F : Mo → Int) (w : World) (e : Ending) (w' : World) : Prop := ∃ P, Canon P ∧ (∀ m, cf P m = F m) ∧ e = .returned (.bool (decide (P.length = 0))) ∧ Below w.heap.size w w'
set_option maxHeartbeats 1000000 in
theorem SIsZero_any (A : Option Addr) (c B N : Nat) (E : Int) (M : Nat) (ps : List PT) (w : World) (hB : B ≤ w.heap.size) (h : PIn w B A ps N E M) (hN : N ≤ 50000) (hM : M < Big) :
    Calls Try.prog 44 #[.slice A ps.length c] w (ZeroRes (cf (ps.map PT.tm)) w) := by
  have HP := Lib.hid (Normal_poly A c B N E M ps w hB h hN hM)
  clear h
  generalize cf (ps.map PT.tm) = F at *
  go_enter Try.func44, Try.ntmps44
  go_wp2_with fail
  refine HP.out.mono ?_
  rintro e W ⟨A1, c1, qs, rfl, hgd, hb⟩
  have HGD := Lib.hid hgd; have HB := Lib.hid hb
  have HL := Lib.hid (show (qs.map PT.tm).length = qs.length by simp)
  clear hgd hb
  generalize qs.length = n at *
  by_cases hn : n = 0
  · subst hn
    go_wp2_with fail
    go_ret
    exact ⟨_, HGD.out.can, HGD.out.cf, by rw [HL.out]; rfl, HB.out⟩
  · have hz : ((n : Int) == 0) = false := by
      simp
      omega
    have hd : decide (n = 0) = false := by simp [hn]
    have HD := Lib.hid hd
    clear hd hn
    go_wp2_with fail
    go_ret
    exact ⟨_, HGD.out.can, HGD.out.cf, by simp only [HL.out, HD.out]; rfl, HB.out⟩
set_option maxHeartbeats 8000000 in
set_option maxRecDepth 100000 in
theorem ContentLaw_any (A0 As : Option Addr) (c0 cs : Nat) (ps : List PT) (ng : Bool) (ds : List Nat) (w : World) (h0 : PolyIn w w.heap.size A0 ps) (hs : NatIn w w.heap.size As cs ds) (v0 : ∀ p ∈ ps, WfM p.m) :
    Calls Try.prog 8 #[.slice A0 ps.length c0, .agg #[.bool ng, .slice As ds.length cs]] w (TrueRes w) := by
  have HFT := Lib.hid (fun W => fit_any W)
  have H0 := Lib.hid h0; have HS := Lib.hid hs
  have V0 := Lib.hid v0
  have HX := Lib.hid (Blk.new w 31 #[.bool ng, .slice As ds.length cs])
  have hbx := (Below.refl w.heap.size w).alloc (Nat.le_refl _) (.cells #[.bool ng, .slice As ds.length cs] 31)
  have HBX := Lib.hid hbx
  clear h0 v0 hs hbx
  go_enter Try.func8, Try.ntmps8
  go_wp2_with fail
  refine (HFT.out _).mono ?_
  rintro e w1 ⟨rfl, hb1'⟩
  have hb1 := HBX.out.trans (hb1'.mono HBX.out.size)
  have kx1 := HX.out.old hb1'
  have HF0 := Lib.hid (few_any A0 c0 w.heap.size ps w1 (H0.out.below hb1))
  clear HFT hb1' HX HBX
  have x0 : w1.cell? ⟨w.heap.size, 0, none⟩ = some (.bool ng) := kx1.cell 0
  have x1 : w1.cell? ⟨w.heap.size, 1, none⟩ = some (.slice As ds.length cs) := kx1.cell 1
  go_wp2_with fail
  refine HF0.out.mono ?_
  rintro e w1' ⟨b0, rfl, hf0, rfl⟩
  cases b0 with
  | false =>
    clear hf0
    go_wp2_with fail
    go_ret
    exact ⟨rfl, hb1⟩
  | true =>
    have I0 := Lib.hid ((few_pin H0.out V0.out (hf0 rfl) (by omega) (by omega)).below hb1)
    clear hf0 HF0 H0 V0
    have hB := hb1.size
    by_cases h6 : (6 : Int) < (ds.length : Int)
    · go_wp2_with fail
      go_ret
      exact ⟨rfl, hb1⟩
    · have g1 : pw (6 + 1) < Big := pw_lt (by decide)
      have hSI := HS.out.below hb1
      have HCT := Lib.hid (fun (W : World) (hW : Below w1.heap.size w1 W) => Content_any A0 c0 w.heap.size 8 9 (pw (6 + 1)) ps W (Nat.le_trans hB hW.size) (I0.out.below (hW.mono hB)) (by omega) g1)
      have HSN := Lib.hid (fun (W : World) (hW : Below w1.heap.size w1 W) => SignNormal_any A0 c0 w.heap.size 8 9 (pw (6 + 1)) ps W (Nat.le_trans hB hW.size) (I0.out.below (hW.mono hB)) (by omega) g1 (by omega))
      have HNO := Lib.hid (fun (W : World) (hW : Below w1.heap.size w1 W) => Normal_poly A0 c0 w.heap.size 8 9 (pw (6 + 1)) ps W (Nat.le_trans hB hW.size) (I0.out.below (hW.mono hB)) (by omega) g1)
      have HO := Lib.hid (fun (W : World) => (IOf_any 0 (by omega) (by omega) W).mono (fun e w' h => IntRes.n (g := 0) h))
      unfold NRes at HCT HO
      unfold SNRes PRes at HSN
      unfold PRes at HNO
      have HKX := Lib.hid kx1; have HB1 := Lib.hid hb1; have HSI := Lib.hid hSI; have G1 := Lib.hid g1; have H6 := Lib.hid h6
      clear kx1 hb1 hSI g1 HS
      generalize hM7 : pw (6 + 1) = M7 at *
      have HM7 := Lib.hid hM7
      clear hM7
      go_wp2_with fail
      refine (HCT.out _ (Below.refl _ _)).mono ?_
      rintro e w2 ⟨P, hP1, hP2, hP3, Ag, cg, rfl, hcg, hng, hb2⟩
      have HC1 := Lib.hid (HSN.out w2 hb2)
      have HP1 := Lib.hid hP1; have HP2 := Lib.hid hP2; have HP3 := Lib.hid hP3; have HCG := Lib.hid hcg; have HN2 := Lib.hid hng; have HB2 := Lib.hid hb2
      clear hP1 hP2 hP3 hcg hng hb2 HSN HCT
      go_wp2_with fail
      refine HC1.out.mono ?_
      rintro e w3 ⟨P', hP1, hP2, A6, c6, ss, rfl, hgs, hb3⟩
      obtain rfl : P = P' := HP1.out.unique hP1 fun m => (HP2.out m).trans (hP2 m).symm
      have HGS := Lib.hid hgs; have HB3 := Lib.hid (HB2.out.trans (hb3.mono HB2.out.size)); have HN3 := Lib.hid (HN2.out.old hb3)
      clear hP1 hP2 hgs HC1 HN2 hb3
      have HX4 := Lib.hid (Blk.new w3 31 #[.bool false, .slice Ag (dig (gcL P)).length cg])
      have HO4 := Lib.hid (HO.out (w3.alloc (.cells #[.bool false, .slice Ag (dig (gcL P)).length cg] 31)))
      clear HO
      go_wp2_with fail
      refine HO4.out.mono ?_
      rintro e w5 ⟨A7, c7, rfl, hc7, hn7, hb5⟩
      have hb45 : Below w3.heap.size w3 w5 := ((Below.refl w3.heap.size w3).alloc (Nat.le_refl _) (.cells #[.bool false, .slice Ag (dig (gcL P)).length cg] 31)).trans (hb5.mono (by simp))
      have HB5 := Lib.hid (HB3.out.trans (hb45.mono HB3.out.size)); have HK5 := Lib.hid (HX4.out.old hb5); have HN5 := Lib.hid (HN3.out.old hb45)
      have HGS5 := Lib.hid (HGS.out.old hb45)
      have HC7 := Lib.hid hc7; have HN7 := Lib.hid hn7
      have HNO1 := Lib.hid (HNO.out (w5.alloc (.cells #[.bool false, .slice A7 (dig 0).length c7] 31)) (HB5.out.alloc HB5.out.size _))
      clear HO4 HX4 HN3 HGS hb5 hb45 hc7 hn7 HNO HB3
      go_wp2_with fail
      refine HNO1.out.mono ?_
      rintro e w7 ⟨A8, c8, qs, rfl, hgq, hb7⟩
      have hqp : qs.map PT.tm = P := hgq.can.unique HP1.out fun m => (hgq.cf m).trans (HP2.out m).symm
      have hb57 : Below w5.heap.size w5 w7 := ((Below.refl w5.heap.size w5).alloc (Nat.le_refl _) (.cells #[.bool false, .slice A7 (dig 0).length c7] 31)).trans (hb7.mono (by simp))
      have HK7 := Lib.hid (show Blk w7 w5.heap.size 31 #[.bool false, .slice A7 (dig 0).length c7] from (Blk.new w5 _ _).old hb7)
      have HN77 := Lib.hid (HN7.out.old hb57)
      have HGQ := Lib.hid hgq; have HQP := Lib.hid hqp; have HB57 := Lib.hid hb57
      have HQI := Lib.hid hgq.own.polyIn
      have hql : qs.length ≤ 8 := hgq.len
      have HQD := Lib.hid (fun p hp => hgq.dlen (k := 600) G1.out (p := p) hp)
      clear HNO1 hgq hqp hb57 hb7 HN7
      have HOWQ := Lib.hid HGQ.out.own
      clear HQI HGQ
      generalize hqn : qs.length = n at *
      have HQN := Lib.hid hqn
      clear hqn
      go_wp2_with fail
      have HL35 := Lib.hid HK5.out.lt
      generalize hb7 : w5.heap.size = b7 at *
      have HB7 := Lib.hid hb7
      clear hb7
      go_loopg [9, 30] n (fun gn _ ix wr => ∃ (k : Nat) (A9 : Option Addr) (c9 : Nat), k ≤ n ∧ gn = n - k ∧ ix = .int .i64 k ∧ Below b7 w5 wr ∧ Wr b7 w7 wr ∧ Blk wr b7 31 #[.bool false, .slice A9 (dig (gcL (P.take k))).length c9] ∧ (dig (gcL (P.take k))).length ≤ c9 ∧ NatB wr A9 (dig (gcL (P.take k))))
      case atStart => exact ⟨0, A7, c7, Nat.zero_le _, rfl, rfl, HB57.out, Wr.refl _ _, HK7.out, HC7.out, HN77.out⟩
      case round =>
        obtain ⟨k, A9, c9, hk, hgk, rfl, hbw, hwr, hkb, hc9, hnb⟩ := hrel
        have HG := Lib.hid hgk; clear hgk
        by_cases hlt : k < n
        · obtain ⟨p, hp⟩ : ∃ p, qs[k]? = some p := ⟨_, List.getElem?_eq_getElem (by have := HQN.out; omega)⟩
          have hpm := List.mem_of_getElem? hp
          have hro : POwn wr _ (.slice A8 n c8) qs := HOWQ.out.keep fun g t cs hb ht => hb.wr hwr (hb.ne_t HK7.out (by rcases ht with rfl | rfl <;> decide))
          obtain ⟨b, o, hA, hbb, d0, d1, d2, d3, d4, d5⟩ := hro.polyIn.at_ hp
          subst hA
          have hnp := hro.nin hpm
          have hpl := HQD.out p hpm
          have htk : gcL (P.take (k + 1)) = Nat.gcd (gcL (P.take k)) (val p.ds) := by
            rw [← HQP.out, ← List.map_take, ← List.map_take, take_snoc_tm hp, gcL_snoc]
            show Nat.gcd _ (ival p.ng p.ds).natAbs = _
            rw [ival_abs]
          have hln : (dig (gcL (P.take k))).length ≤ 600 := dig_len_big (Nat.lt_of_le_of_lt (gcL_le_nrm (HP1.out.take _)) (Nat.lt_of_le_of_lt (nrm_take _ _) (Nat.lt_of_le_of_lt HP3.out G1.out)))
          have HGC := Lib.hid (fun (W : World) (hW : Below wr.heap.size wr W) => GcdN_any (gcL (P.take k)) c9 p.c p.ng A9 p.A p.ds W hc9 (hnb.old hW) ((hnp.below hW).more hW.size) (by omega) (by omega))
          rw [← htk] at HGC
          unfold NRes at HGC
          have s0 : wr.cell? ⟨b7, 0, none⟩ = some (.bool false) := hkb.cell 0
          have s1 : wr.cell? ⟨b7, 1, none⟩ = some (.slice A9 (dig (gcL (P.take k))).length c9) := hkb.cell 1
          have lq := hkb.lt
          have i0 : (0 : Int) ≤ (k : Int) := by omega
          have i1 : (k : Int) < (n : Int) := by omega
          have hbx := (Below.refl wr.heap.size wr).alloc (Nat.le_refl _) (.cells p.cells.toArray 35)
          simp only [PT.cells] at hbx
          have HBX := Lib.hid hbx
          have HBW := Lib.hid hbw; have HWR := Lib.hid hwr; have HKB := Lib.hid hkb
          clear hbx hro hp hpm hnp hpl htk hln hbw hwr hkb hc9 hnb
          go_wp2_with fail
          refine (HGC.out _ HBX.out).mono ?_
          rintro e w8 ⟨Aa, ca, rfl, hca, hna, hb8⟩
          have hb := HBX.out.trans (hb8.mono HBX.out.size)
          have kk := HKB.out.old hb
          have t0 : w8.cell? ⟨b7, 0, none⟩ = some (.bool false) := kk.cell 0
          have t1 : w8.cell? ⟨b7, 1, none⟩ = some (.slice A9 (dig (gcL (P.take k))).length c9) := kk.cell 1
          have f0 := kk.frozen 0; have f1 := kk.frozen 1; have z0 := kk.lt
          have HE1 := Lib.hid (((HBW.out.trans (hb.mono (Nat.le_of_lt lq))).setCell (p := ⟨b7, 0, none⟩) (Nat.le_refl _) (.bool false)).setCell (p := ⟨b7, 1, none⟩) (Nat.le_refl _) (.slice Aa (dig (gcL (P.take (k + 1)))).length ca))
          have HE2 := Lib.hid (((HWR.out.trans (Wr.of_belowC hb)).trans (Wr.set_ (g := b7) _ 0 (.bool false))).trans (Wr.set_ (g := b7) _ 1 (.slice Aa (dig (gcL (P.take (k + 1)))).length ca)))
          have HE3 := Lib.hid ((kk.set_ 0 (.bool false)).set_ 1 (.slice Aa (dig (gcL (P.take (k + 1)))).length ca))
          have HE4 := Lib.hid (hna.store2 kk (by decide) (.bool false) (.slice Aa (dig (gcL (P.take (k + 1)))).length ca))
          have HCA := Lib.hid hca
          clear hb kk hb8 hna hca HKB HWR HBW HBX HGC d0 d1 d2 d3 d4 d5 s0 s1 lq
          go_wp2_with fail
          go_roundg (n - (k + 1))
          case rel => exact ⟨k + 1, Aa, ca, by omega, rfl, by go_num, HE1.out, HE2.out, HE3.out, HCA.out, HE4.out⟩
          case measure => have := HG.out; omega
        · obtain rfl : k = n := by omega
          rw [List.take_of_length_le (by have := congrArg List.length HQP.out; rw [List.length_map] at this; have := HQN.out; omega)] at hkb hc9 hnb
          have hv : Below w5.heap.size w5 wr := by rw [HB7.out]; exact hbw
          have hv1 := HB5.out.trans (hv.mono HB5.out.size)
          have kv5 := HK5.out.old hv
          have hgs := HGS5.out.old hv
          have kvx := HKX.out.old hv1
          have IV := Lib.hid ((I0.out.below (hv1.mono hB)).more (Nat.le_trans hB hv1.size))
          have CV := Lib.hid ((HSI.out.below (hv1.mono hB)).more (Nat.le_trans hB hv1.size))
          have SV := Lib.hid (hgs.pin (by omega) G1.out)
          have HGS := Lib.hid hgs
          have HNG := Lib.hid (HN5.out.old hv)
          have HVW := Lib.hid (HB1.out.trans (hv1.mono hB))
          have hss : ss.map PT.tm = snL P := hgs.can.unique (sn_can HP1.out) fun m => hgs.cf m
          have HSS := Lib.hid hss
          have a0 : wr.cell? ⟨w3.heap.size, 0, none⟩ = some (.bool false) := kv5.cell 0
          have a1 : wr.cell? ⟨w3.heap.size, 1, none⟩ = some (.slice Ag (dig (gcL P)).length cg) := kv5.cell 1
          have b0 : wr.cell? ⟨b7, 0, none⟩ = some (.bool false) := hkb.cell 0
          have b1 : wr.cell? ⟨b7, 1, none⟩ = some (.slice A9 (dig (gcL P)).length c9) := hkb.cell 1
          have HK1 := Lib.hid (Same_any false false Ag A9 cg c9 wr.heap.size (dig (gcL P)) (dig (gcL P)) wr (Nat.le_refl _) (natB_nin HNG.out HCG.out) (natB_nin hnb hc9) (by have : (dig (gcL P)).length ≤ 600 := dig_len_big (Nat.lt_of_le_of_lt (gcL_le_nrm HP1.out) (Nat.lt_of_le_of_lt HP3.out G1.out)); omega) (by have : (dig (gcL P)).length ≤ 600 := dig_len_big (Nat.lt_of_le_of_lt (gcL_le_nrm HP1.out) (Nat.lt_of_le_of_lt HP3.out G1.out)); omega))
          rw [decide_eq_true (rfl : ival false (dig (gcL P)) = ival false (dig (gcL P)))] at HK1
          have HK2 := Lib.hid (fun (W : World) (hW : Below wr.heap.size wr W) => Can_any A6 c6 wr.heap.size ss W hW.size (SV.out.pin.below hW) HGS.out.can HGS.out.own.cn (by have := HGS.out.len; omega) SV.out.dl)
          have HK3 := Lib.hid (fun (W : World) (hW : Below wr.heap.size wr W) => SIsZero_any A0 c0 wr.heap.size 8 9 M7 ps W hW.size (IV.out.below hW) (by omega) G1.out)
          unfold ZeroRes at HK3
          have HKV5 := Lib.hid kv5; have HKVX := Lib.hid kvx
          clear hv hv1 kv5 hgs kvx hss hkb hc9 hnb hbw hwr HG HKX HK5 HN5 HGS5 HB5 HK7 HC7 HN77 HB57 HQD HOWQ HQP HB7 HL35 x0 x1
          go_wp2_with fail
          refine HK1.out.mono ?_
          rintro e w9 ⟨rfl, hb9⟩
          have HB9 := Lib.hid hb9
          have HK22 := Lib.hid (HK2.out w9 hb9)
          clear hb9 HK1 HK2 a0 a1 b0 b1
          go_wp2_with fail
          refine HK22.out.mono ?_
          rintro e w10 ⟨rfl, hb10⟩
          have HB10 := Lib.hid (HB9.out.trans (hb10.mono HB9.out.size))
          have HK33 := Lib.hid (HK3.out w10 HB10.out)
          clear hb10 HB9 HK22 HK3
          go_wp2_with fail
          refine HK33.out.mono ?_
          rintro e w11 ⟨P', hq1, hq2, rfl, hb11⟩
          obtain rfl : P = P' := HP1.out.unique hq1 fun m => (HP2.out m).trans (hq2 m).symm
          have HB11 := Lib.hid (HB10.out.trans (hb11.mono HB10.out.size))
          clear hq1 hq2 hb11 HB10 HK33
          by_cases hz : P = []
          · subst hz
            have hs0 : ss = [] := by have := HSS.out; simpa [snL, divL] using this
            subst hs0
            have HFIN := Lib.hid (HVW.out.trans (HB11.out.mono HVW.out.size))
            go_wp2_with fail
            go_ret
            exact ⟨rfl, HFIN.out⟩
          · have hl0 : decide (P.length = 0) = false := by simp [hz]
            rw [hl0]
            have HPN := Lib.hid hz
            clear hl0 hz
            have HK4 := Lib.hid (fun (W : World) (hW : Below wr.heap.size wr W) => sign_any A6 c6 wr.heap.size 8 9 M7 ss W hW.size (SV.out.below hW) (by omega) G1.out)
            have HK5 := Lib.hid (fun (W : World) (hW : Below wr.heap.size wr W) => Content_any A6 c6 wr.heap.size 8 9 M7 ss W hW.size (SV.out.below hW) (by omega) G1.out)
            have HK6 := Lib.hid (fun (W : World) => (IOf_any 1 (by omega) (by omega) W).mono (fun e w' h => IntRes.n (g := 1) h))
            unfold SignRes at HK4
            unfold NRes at HK5 HK6
            have hl1 : (dig 1).length ≤ 600 := dig_len_big (pw_lt (a := 1) (b := 600) (by decide) |> fun h => Nat.lt_of_lt_of_le (show (1 : Nat) < pw 1 by decide) (Nat.le_of_lt h))
            have HK7 := Lib.hid (fun (W : World) (A A' : Option Addr) (c c' : Nat) (h1 : NatB W A (dig 1)) (h2 : NatB W A' (dig 1)) (h3 : (dig 1).length ≤ c) (h4 : (dig 1).length ≤ c') => Same_any false false A A' c c' W.heap.size (dig 1) (dig 1) W (Nat.le_refl _) (natB_nin h1 h3) (natB_nin h2 h4) (by omega) (by omega))
            rw [decide_eq_true (rfl : ival false (dig 1) = ival false (dig 1))] at HK7
            have HK44 := Lib.hid (HK4.out w11 HB11.out)
            clear hl1
            go_wp2_with fail
            refine HK44.out.mono ?_
            rintro e w12 ⟨P', hq1, hq2, rfl, hb12⟩
            have hqs : P' = snL P := hq1.unique (sn_can HP1.out) fun m => (hq2 m).trans (by rw [HSS.out])
            subst hqs
            rw [sn_sg HP1.out HPN.out]
            have HB12 := Lib.hid (HB11.out.trans (hb12.mono HB11.out.size))
            have HK55 := Lib.hid (HK5.out w12 HB12.out)
            clear hq1 hq2 hb12 HB11 HK44 HK4 HK5
            go_wp2_with fail
            refine HK55.out.mono ?_
            rintro e w13 ⟨P', hq1, hq2, hq3, Ac, cc, rfl, hcc, hnc, hb13⟩
            have hqs : P' = snL P := hq1.unique (sn_can HP1.out) fun m => (hq2 m).trans (by rw [HSS.out])
            subst hqs
            rw [sn_gc HP1.out HPN.out] at hcc hnc ⊢
            have HB13 := Lib.hid (HB12.out.trans (hb13.mono HB12.out.size))
            have HNC := Lib.hid hnc; have HCC := Lib.hid hcc
            have HK66 := Lib.hid (HK6.out w13)
            clear hq1 hq2 hq3 hb13 hcc hnc HB12 HK55 HK6
            go_wp2_with fail
            refine HK66.out.mono ?_
            rintro e w14 ⟨Ao, co, rfl, hco, hno, hb14⟩
            have HB14 := Lib.hid (HB13.out.trans (hb14.mono HB13.out.size))
            have HK77 := Lib.hid (HK7.out w14 Ac Ao cc co (HNC.out.old hb14) hno HCC.out hco)
            clear hco hno hb14 HB13 HK66 HK7 HNC HCC
            go_wp2_with fail
            refine HK77.out.mono ?_
            rintro e w15 ⟨rfl, hb15⟩
            have hb := HB14.out.trans (hb15.mono HB14.out.size)
            have HB15 := Lib.hid hb
            have kv := HKV5.out.old hb
            have a0 : w15.cell? ⟨w3.heap.size, 0, none⟩ = some (.bool false) := kv.cell 0
            have a1 : w15.cell? ⟨w3.heap.size, 1, none⟩ = some (.slice Ag (dig (gcL P)).length cg) := kv.cell 1
            have hg7 : gcL P ≤ pw 7 := by have := HP3.out; rw [← HM7.out] at this; exact Nat.le_trans (gcL_le_nrm HP1.out) this
            have hgl : (dig (gcL P)).length ≤ 8 := dig_len_pw (Nat.lt_of_le_of_lt hg7 (pw_lt (by decide)))
            have hiv : ival false (dig (gcL P)) = (gcL P : Int) := by unfold ival; rw [val_dig]; rfl
            have hmz : (ival false (dig (gcL P))).natAbs * M7 < Big := by
              rw [hiv, Int.natAbs_natCast, ← HM7.out]
              exact Nat.lt_of_le_of_lt (Nat.mul_le_mul_right _ hg7) (by rw [pw_mul]; exact pw_lt (by decide))
            have HK8 := Lib.hid (Scale_any A6 c6 wr.heap.size 8 9 M7 ss false Ag cg (dig (gcL P)) w15 hb.size (SV.out.below hb) ((natB_nin HNG.out HCG.out).below hb) (by omega) G1.out (by omega))
            unfold PRes at HK8
            have HK9 := Lib.hid (fun (W : World) (hW : Below wr.heap.size wr W) => sign_any A0 c0 wr.heap.size 8 9 M7 ps W hW.size (IV.out.below hW) (by omega) G1.out)
            unfold SignRes at HK9
            rw [hiv] at HK8 hmz
            have HMZ := Lib.hid hmz
            generalize (gcL P : Int).natAbs * M7 = MZ at *
            clear hg7 hgl hiv hmz
            clear hb hb15 HB14 kv HK77
            by_cases hneg : hdN P = true
            · have hsg := sgL_hd.2 hneg
              have HNG2 := Lib.hid hneg
              clear hneg
              go_wp2_with fail
              refine HK8.out.mono ?_
              rintro e w16 ⟨A10, c10, r10, rfl, hg10, hb16⟩
              have HB16 := Lib.hid (HB15.out.trans (hb16.mono HB15.out.size))
              have HG10 := Lib.hid hg10
              have HK99 := Lib.hid (HK9.out w16 HB16.out)
              clear hg10 hb16 HK8 a0 a1 HB15
              go_wp2_with fail
              refine HK99.out.mono ?_
              rintro e w17 ⟨P', hq1, hq2, rfl, hb17⟩
              obtain rfl : P = P' := HP1.out.unique hq1 fun m => (HP2.out m).trans (hq2 m).symm
              have hg10 := HG10.out.old hb17
              have HB17 := Lib.hid (HB16.out.trans (hb17.mono HB16.out.size))
              have HNEG := Lib.hid (SNeg_any A10 c10 w17.heap.size 8 9 MZ r10 w17 (Nat.le_refl _) (hg10.pin (by omega) HMZ.out) (by omega) HMZ.out)
              unfold PRes at HNEG
              clear hg10 hq1 hq2 hb17 HB16 HK99
              go_wp2_with fail
              refine HNEG.out.mono ?_
              rintro e wx ⟨Ab, cb, bs, rfl, hgb, hbx⟩
              have HBX := Lib.hid (HB17.out.trans (hbx.mono HB17.out.size))
              have HGB := Lib.hid (hgb.pin (by omega) HMZ.out)
              have HCF := Lib.hid (fun m => show cf (bs.map PT.tm) m = cf (ps.map PT.tm) m from (back_neg HNG2.out (fun m => by rw [hgb.cf, HG10.out.cf, HSS.out]) m).trans (HP2.out m))
              clear hgb hbx HB17 HNEG HG10 hsg HK9
              have HSM := Lib.hid ((SSame_any Ab A0 cb c0 wx.heap.size 8 8 9 9 MZ M7 bs ps wx (Nat.le_refl _) HGB.out ((IV.out.below HBX.out).more HBX.out.size) (by omega) (by omega) HMZ.out G1.out (by omega) (by omega)).mono fun e w' h => h.yes HCF.out)
              clear HGB HCF
              go_wp2_with fail
              refine HSM.out.mono ?_
              rintro e wy ⟨rfl, hby⟩
              have hb := HBX.out.trans (hby.mono HBX.out.size)
              have HBY := Lib.hid hb
              have kc := HKVX.out.old hb
              have x0 : wy.cell? ⟨w.heap.size, 0, none⟩ = some (.bool ng) := kc.cell 0
              have x1 : wy.cell? ⟨w.heap.size, 1, none⟩ = some (.slice As ds.length cs) := kc.cell 1
              have HSC := Lib.hid (Sign_any ng As cs wr.heap.size ds wy hb.size (CV.out.below hb) (by omega))
              clear HSM hb hby kc HBX
              by_cases hc0 : ival ng ds = 0
              · have hs0 : (sgnOf (ival ng ds) == 0) = true := by rw [sgnOf_zero]; exact decide_eq_true hc0
                clear hc0
                generalize sgnOf (ival ng ds) = sg at *
                go_wp2_with fail
                refine HSC.out.mono ?_
                rintro e wz ⟨rfl, hz⟩
                have HBZ := Lib.hid (show Below w.heap.size w wz by rw [hz]; exact (HVW.out.trans (HBY.out.mono HVW.out.size)).alloc (Nat.le_trans HVW.out.size HBY.out.size) _)
                clear hz HSC x0 x1
                go_wp2_with fail
                go_ret
                exact ⟨rfl, HBZ.out⟩
              · have hs0 : (sgnOf (ival ng ds) == 0) = false := by rw [sgnOf_zero]; exact decide_eq_false hc0
                have hsc : ∀ (W : World) (hW : Below wr.heap.size wr W), _ := fun W hW => Scale_any A0 c0 wr.heap.size 8 9 M7 ps ng As cs ds W hW.size (IV.out.below hW) (CV.out.below hW) (by omega) G1.out (by omega)
                have HSL := Lib.hid hsc
                unfold PRes at HSL
                have hmc : (ival ng ds).natAbs * M7 < Big := by
                  rw [ival_abs, ← HM7.out]
                  refine Nat.lt_of_le_of_lt (Nat.mul_le_mul_right _ (Nat.le_of_lt (val_pw HSI.out.dg (k := 6) (by omega)))) ?_
                  rw [pw_mul]
                  exact pw_lt (by decide)
                have HMC := Lib.hid hmc
                have HC0 := Lib.hid hc0
                clear hsc hmc hc0
                generalize (ival ng ds).natAbs * M7 = MC at *
                generalize sgnOf (ival ng ds) = sg at *
                go_wp2_with fail
                refine HSC.out.mono ?_
                rintro e wz ⟨rfl, hz⟩
                have HBZ := Lib.hid (show Below wr.heap.size wr wz by rw [hz]; exact HBY.out.alloc HBY.out.size _)
                have HSL1 := Lib.hid (HSL.out wz HBZ.out)
                have kz := HKVX.out.old HBZ.out
                have x2 : wz.cell? ⟨w.heap.size, 0, none⟩ = some (.bool ng) := kz.cell 0
                have x3 : wz.cell? ⟨w.heap.size, 1, none⟩ = some (.slice As ds.length cs) := kz.cell 1
                clear hz HSC x0 x1 HSL kz
                go_wp2_with fail
                refine HSL1.out.mono ?_
                rintro e wu ⟨A12, c12, r12, rfl, hg12, hbu⟩
                have HBU := Lib.hid (HBZ.out.trans (hbu.mono HBZ.out.size))
                have HG12 := Lib.hid hg12.cf
                have HSNN := Lib.hid (SignNormal_any A12 c12 wu.heap.size 8 9 MC r12 wu (Nat.le_refl _) (hg12.pin (by omega) HMC.out) (by omega) HMC.out (by omega))
                unfold SNRes PRes at HSNN
                clear hg12 hbu HSL1 HBZ
                go_wp2_with fail
                refine HSNN.out.mono ?_
                rintro e wv ⟨P2, hp1, hp2, A13, c13, r13, rfl, hg13, hbv⟩
                have hP2 : P2 = sclL (ival ng ds) P := hp1.unique (HP1.out.scl HC0.out) fun m => by rw [hp2, HG12.out, cf_scl, HP2.out]
                have HBV := Lib.hid (HBU.out.trans (hbv.mono HBU.out.size))
                have HSM2 := Lib.hid ((SSame_any A13 A6 c13 c6 wv.heap.size 8 8 9 9 MC M7 r13 ss wv (Nat.le_refl _) (hg13.pin (by omega) HMC.out) ((SV.out.below HBV.out).more HBV.out.size) (by omega) (by omega) HMC.out G1.out (by omega) (by omega)).mono fun e w' h => h.yes fun m => by
                  rw [hg13.cf, hP2, sn_scl HP1.out _ HC0.out, HSS.out])
                clear hP2 hp1 hp2 hg13 hbv HSNN HBU
                go_wp2_with fail
                refine HSM2.out.mono ?_
                rintro e wt ⟨rfl, hbt⟩
                have HBT := Lib.hid ((HVW.out.trans (HBV.out.mono HVW.out.size)).trans (hbt.mono (Nat.le_trans HVW.out.size HBV.out.size)))
                clear hbt HSM2 HBV
                go_wp2_with fail
                go_ret
                exact ⟨rfl, HBT.out⟩
            · have hneg : hdN P = false := by simpa using hneg
              have hsg : ¬ sgL P < 0 := fun h => by rw [sgL_hd.1 h] at hneg; exact absurd hneg (by decide)
              have hsg : 0 ≤ sgL P := by omega
              have HNG2 := Lib.hid hneg
              clear hneg
              go_wp2_with fail
              refine HK8.out.mono ?_
              rintro e w16 ⟨Ab, cb, bs, rfl, hg10, hb16⟩
              have HB16 := Lib.hid (HB15.out.trans (hb16.mono HB15.out.size))
              have HG10 := Lib.hid hg10
              have HK99 := Lib.hid (HK9.out w16 HB16.out)
              clear hg10 hb16 HK8 a0 a1 HB15
              go_wp2_with fail
              refine HK99.out.mono ?_
              rintro e wx ⟨P', hq1, hq2, rfl, hb17⟩
              obtain rfl : P = P' := HP1.out.unique hq1 fun m => (HP2.out m).trans (hq2 m).symm
              have hgb := HG10.out.old hb17
              have HBX := Lib.hid (HB16.out.trans (hb17.mono HB16.out.size))
              have HGB := Lib.hid (hgb.pin (by omega) HMZ.out)
              have HCF := Lib.hid (fun m => show cf (bs.map PT.tm) m = cf (ps.map PT.tm) m from (back_pos HNG2.out (fun m => by rw [hgb.cf, HSS.out]) m).trans (HP2.out m))
              clear hgb hq1 hq2 hb17 HB16 HK99 HG10 HK9
              have HSM := Lib.hid ((SSame_any Ab A0 cb c0 wx.heap.size 8 8 9 9 MZ M7 bs ps wx (Nat.le_refl _) HGB.out ((IV.out.below HBX.out).more HBX.out.size) (by omega) (by omega) HMZ.out G1.out (by omega) (by omega)).mono fun e w' h => h.yes HCF.out)
              clear HGB HCF
              go_wp2_with fail
              refine HSM.out.mono ?_
              rintro e wy ⟨rfl, hby⟩
              have hb := HBX.out.trans (hby.mono HBX.out.size)
              have HBY := Lib.hid hb
              have kc := HKVX.out.old hb
              have x0 : wy.cell? ⟨w.heap.size, 0, none⟩ = some (.bool ng) := kc.cell 0
              have x1 : wy.cell? ⟨w.heap.size, 1, none⟩ = some (.slice As ds.length cs) := kc.cell 1
              have HSC := Lib.hid (Sign_any ng As cs wr.heap.size ds wy hb.size (CV.out.below hb) (by omega))
              clear HSM hb hby kc HBX
              by_cases hc0 : ival ng ds = 0
              · have hs0 : (sgnOf (ival ng ds) == 0) = true := by rw [sgnOf_zero]; exact decide_eq_true hc0
                clear hc0
                generalize sgnOf (ival ng ds) = sg at *
                go_wp2_with fail
                refine HSC.out.mono ?_
                rintro e wz ⟨rfl, hz⟩
                have HBZ := Lib.hid (show Below w.heap.size w wz by rw [hz]; exact (HVW.out.trans (HBY.out.mono HVW.out.size)).alloc (Nat.le_trans HVW.out.size HBY.out.size) _)
                clear hz HSC x0 x1
                go_wp2_with fail
                go_ret
                exact ⟨rfl, HBZ.out⟩
              · have hs0 : (sgnOf (ival ng ds) == 0) = false := by rw [sgnOf_zero]; exact decide_eq_false hc0
                have hsc : ∀ (W : World) (hW : Below wr.heap.size wr W), _ := fun W hW => Scale_any A0 c0 wr.heap.size 8 9 M7 ps ng As cs ds W hW.size (IV.out.below hW) (CV.out.below hW) (by omega) G1.out (by omega)
                have HSL := Lib.hid hsc
                unfold PRes at HSL
                have hmc : (ival ng ds).natAbs * M7 < Big := by
                  rw [ival_abs, ← HM7.out]
                  refine Nat.lt_of_le_of_lt (Nat.mul_le_mul_right _ (Nat.le_of_lt (val_pw HSI.out.dg (k := 6) (by omega)))) ?_
                  rw [pw_mul]
                  exact pw_lt (by decide)
                have HMC := Lib.hid hmc
                have HC0 := Lib.hid hc0
                clear hsc hmc hc0
                generalize (ival ng ds).natAbs * M7 = MC at *
                generalize sgnOf (ival ng ds) = sg at *
                go_wp2_with fail
                refine HSC.out.mono ?_
                rintro e wz ⟨rfl, hz⟩
                have HBZ := Lib.hid (show Below wr.heap.size wr wz by rw [hz]; exact HBY.out.alloc HBY.out.size _)
                have HSL1 := Lib.hid (HSL.out wz HBZ.out)
                have kz := HKVX.out.old HBZ.out
                have x2 : wz.cell? ⟨w.heap.size, 0, none⟩ = some (.bool ng) := kz.cell 0
                have x3 : wz.cell? ⟨w.heap.size, 1, none⟩ = some (.slice As ds.length cs) := kz.cell 1
                clear hz HSC x0 x1 HSL kz
                go_wp2_with fail
                refine HSL1.out.mono ?_
                rintro e wu ⟨A12, c12, r12, rfl, hg12, hbu⟩
                have HBU := Lib.hid (HBZ.out.trans (hbu.mono HBZ.out.size))
                have HG12 := Lib.hid hg12.cf
                have HSNN := Lib.hid (SignNormal_any A12 c12 wu.heap.size 8 9 MC r12 wu (Nat.le_refl _) (hg12.pin (by omega) HMC.out) (by omega) HMC.out (by omega))
                unfold SNRes PRes at HSNN
                clear hg12 hbu HSL1 HBZ
                go_wp2_with fail
                refine HSNN.out.mono ?_
                rintro e wv ⟨P2, hp1, hp2, A13, c13, r13, rfl, hg13, hbv⟩
                have hP2 : P2 = sclL (ival ng ds) P := hp1.unique (HP1.out.scl HC0.out) fun m => by rw [hp2, HG12.out, cf_scl, HP2.out]
                have HBV := Lib.hid (HBU.out.trans (hbv.mono HBU.out.size))
                have HSM2 := Lib.hid ((SSame_any A13 A6 c13 c6 wv.heap.size 8 8 9 9 MC M7 r13 ss wv (Nat.le_refl _) (hg13.pin (by omega) HMC.out) ((SV.out.below HBV.out).more HBV.out.size) (by omega) (by omega) HMC.out G1.out (by omega) (by omega)).mono fun e w' h => h.yes fun m => by
                  rw [hg13.cf, hP2, sn_scl HP1.out _ HC0.out, HSS.out])
                clear hP2 hp1 hp2 hg13 hbv HSNN HBU
                go_wp2_with fail
                refine HSM2.out.mono ?_
                rintro e wt ⟨rfl, hbt⟩
                have HBT := Lib.hid ((HVW.out.trans (HBV.out.mono HVW.out.size)).trans (hbt.mono (Nat.le_trans HVW.out.size HBV.out.size)))
                clear hbt HSM2 HBV
                go_wp2_with fail
                go_ret
                exact ⟨rfl, HBT.out⟩
end Go.Proofs.Ytpbapoanjkekmaa
