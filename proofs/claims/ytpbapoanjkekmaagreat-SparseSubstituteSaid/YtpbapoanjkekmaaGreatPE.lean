/- Contracts of sparse.power, rational.Cmp and same. -/
import Derived.IntWalk
import Derived.RegionTactic
import Derived.StillTailTactics
import Derived.Deep.RegionHeld3
import Derived.Test.YtpbapoanjkekmaaGreatPD
namespace Go.Proofs.YtpbapoanjkekmaaGreat
open Go.RowKit

set_option maxHeartbeats 4000000 in
set_option maxRecDepth 100000 in
theorem power_any (ng : Bool) (A : Option Addr) (c : Nat) (ds : List Nat) (D : Option Addr) (cd : Nat) (es : List Nat) (B n L : Nat) (w : World) (hB : B ≤ w.heap.size)
    (h1 : NatIn w B A c ds) (h2 : NatIn w B D cd es) (l1 : ds.length ≤ L) (l2 : es.length ≤ L) (h0 : 0 < L) (hn : 0 < n) (hm : L * n ≤ 100000) :
    Calls Tryz.prog 32 #[.agg #[.bool ng, .slice A ds.length c, .slice D es.length cd], .int .i64 (n : Int)] w (RatRes (mkRat (ival ng ds) (val es) ^ n) w) := by
  obtain ⟨hb0, k0, k1, hs⟩ := boxes2 w 33 33 #[.bool ng, .slice A ds.length c, .slice D es.length cd] #[.bool false, .slice none 0 0, .slice none 0 0]
  have HP := Lib.hid (RPow_any ng A c ds D cd es B n L _ (Nat.le_trans hB hb0.size) (h1.below (hb0.mono hB)) (h2.below (hb0.mono hB)) l1 l2 h0 hn hm)
  unfold RPowRes at HP
  generalize mkRat (ival ng ds) (val es) ^ n = q at *
  have HB0 := Lib.hid hb0; have HK1 := Lib.hid k1
  clear h1 h2 l1 l2 h0 hm hb0 k0 k1 hs hB
  generalize ds.length = n0 at *
  generalize es.length = m0 at *
  go_enter Tryz.func32, Tryz.ntmps32
  go_wp2_with fail
  generalize (w.alloc (.cells #[.bool ng, .slice A n0 c, .slice D m0 cd] 33)).alloc (.cells #[.bool false, .slice none 0 0, .slice none 0 0] 33) = W0 at *
  refine HP.out.mono ?_
  rintro e w1 ⟨A1, c1, D1, d1, rfl, l1, l2, n1, n2, hb1⟩
  have hal := (Below.refl w1.heap.size w1).alloc (Nat.le_refl _) (.cells #[.bool (decide (q.num < 0)), .slice A1 (dig q.num.natAbs).length c1, .slice D1 (dig q.den).length d1] 33)
  have hb1a := hb1.trans (hal.mono hb1.size)
  have kx := Blk.new w1 33 #[.bool (decide (q.num < 0)), .slice A1 (dig q.num.natAbs).length c1, .slice D1 (dig q.den).length d1]
  have ko := HK1.out.old hb1a
  generalize hW7 : w1.alloc (.cells #[.bool (decide (q.num < 0)), .slice A1 (dig q.num.natAbs).length c1, .slice D1 (dig q.den).length d1] 33) = W7 at *
  have c0' : W7.cell? ⟨w1.heap.size, 0, none⟩ = some (.bool (decide (q.num < 0))) := kx.cell 0
  have c1' : W7.cell? ⟨w1.heap.size, 1, none⟩ = some (.slice A1 (dig q.num.natAbs).length c1) := kx.cell 1
  have c2' : W7.cell? ⟨w1.heap.size, 2, none⟩ = some (.slice D1 (dig q.den).length d1) := kx.cell 2
  have u0 : W7.cell? ⟨w.heap.size + 1, 0, none⟩ = some (.bool false) := ko.cell 0
  have u1 : W7.cell? ⟨w.heap.size + 1, 1, none⟩ = some (.slice none 0 0) := ko.cell 1
  have u2 : W7.cell? ⟨w.heap.size + 1, 2, none⟩ = some (.slice none 0 0) := ko.cell 2
  have f0 := ko.frozen 0; have f1 := ko.frozen 1; have f2 := ko.frozen 2; have z0 := ko.lt
  have HF := Lib.hid (RatFin (q := q) (w := w) (w2 := W7) (g := w.heap.size + 1) (A := A1) (D := D1) (c := c1) (cd := d1) ko (Nat.le_succ _) l1 l2 (n1.old hal) (n2.old hal) (HB0.out.trans (hb1a.mono HB0.out.size)))
  clear hal hb1 hb1a kx ko l1 l2 n1 n2 HK1 HB0 HP
  go_wp2_with fail
  exact ret_blk Tryz.results32 rfl rfl HF.out.1 Tryz.underlying33 rfl Tryz.sizeRat HF.out.2
/-- the sign of the difference of two numbers is that of the difference of the cross products -/
theorem cmp_cross (a b : Int) (d e : Nat) (hd : d ≠ 0) (he : e ≠ 0) : (a * (e : Int) = b * (d : Int)) ↔ mkRat a d = mkRat b e := (Rat.mkRat_eq_iff hd he).symm
/-- what Cmp returns: 0 for equal numbers alone -/
def RCmpRes (x y : Rat) (w : World) (e : Ending) (w' : World) : Prop := ∃ z : Int, e = .returned (.int .i64 z) ∧ (z = 0 ↔ x = y) ∧ Below w.heap.size w w'
theorem cmpZ_iff (x y : Int) : cmpZ x y = 0 ↔ x = y := by unfold cmpZ; split <;> (try split) <;> omega
theorem ICmp_made (x y : Int) (A A' : Option Addr) (c c' : Nat) (w : World) (lx : (dig x.natAbs).length ≤ 900000) (ly : (dig y.natAbs).length ≤ 900000) (h1 : (dig x.natAbs).length ≤ c) (h2 : (dig y.natAbs).length ≤ c') (n1 : NatB w A (dig x.natAbs)) (n2 : NatB w A' (dig y.natAbs)) :
    Calls Tryz.prog 52 #[.agg #[.bool (decide (x < 0)), .slice A (dig x.natAbs).length c], .agg #[.bool (decide (y < 0)), .slice A' (dig y.natAbs).length c']] w fun e w' => ∃ z : Int, e = .returned (.int .i64 z) ∧ (z = 0 ↔ x = y) ∧ Below w.heap.size w w' := by
  have h := ICmp_any (decide (x < 0)) (decide (y < 0)) A A' c c' w.heap.size (dig x.natAbs) (dig y.natAbs) w (Nat.le_refl _) (natB_nin n1 h1) (natB_nin n2 h2) (by omega) (by omega)
  rw [ival_dig, ival_dig] at h
  exact h.mono fun e w' k => ⟨_, k.1, cmpZ_iff x y, k.2⟩
set_option maxHeartbeats 4000000 in
set_option maxRecDepth 100000 in
theorem RCmp_any (ng ng' : Bool) (A : Option Addr) (c : Nat) (ds : List Nat) (D : Option Addr) (cd : Nat) (es : List Nat) (A' : Option Addr) (c' : Nat) (ds' : List Nat) (D' : Option Addr) (cd' : Nat) (es' : List Nat) (B : Nat) (w : World) (hB : B ≤ w.heap.size)
    (h1 : NatIn w B A c ds) (h2 : NatIn w B D cd es) (h3 : NatIn w B A' c' ds') (h4 : NatIn w B D' cd' es') (l1 : ds.length ≤ 400000) (l2 : es.length ≤ 400000) (l3 : ds'.length ≤ 400000) (l4 : es'.length ≤ 400000) :
    Calls Tryz.prog 33 #[.agg #[.bool ng, .slice A ds.length c, .slice D es.length cd], .agg #[.bool ng', .slice A' ds'.length c', .slice D' es'.length cd']] w (RCmpRes (mkRat (ival ng ds) (val es)) (mkRat (ival ng' ds') (val es')) w) := by
  obtain ⟨hb0, k0, k1, hs⟩ := boxes2 w 33 33 #[.bool ng, .slice A ds.length c, .slice D es.length cd] #[.bool ng', .slice A' ds'.length c', .slice D' es'.length cd']
  have HP1 := Lib.hid (parts_any ng A c B ds D cd es _ (Nat.le_trans hB hb0.size) (h1.below (hb0.mono hB)) (h2.below (hb0.mono hB)) (by omega))
  have HP2 := Lib.hid (fun (W : World) (hW : Below w.heap.size w W) => parts_any ng' A' c' B ds' D' cd' es' W (Nat.le_trans hB hW.size) (h3.below (hW.mono hB)) (h4.below (hW.mono hB)) (by omega))
  unfold PartsRes at HP1 HP2
  have HLS := Lib.hid (And.intro l1 (And.intro l2 (And.intro l3 l4)))
  have HB0 := Lib.hid hb0; have HK1 := Lib.hid k1
  clear h1 h2 h3 h4 l1 l2 l3 l4 hb0 k0 k1 hs hB
  generalize hq1 : mkRat (ival ng ds) (val es) = q1 at *
  generalize hq2 : mkRat (ival ng' ds') (val es') = q2 at *
  clear hq1 hq2
  generalize ds.length = n0 at *
  generalize es.length = m0 at *
  generalize ds'.length = n0' at *
  generalize es'.length = m0' at *
  go_enter Tryz.func33, Tryz.ntmps33
  go_wp2_with fail
  generalize (w.alloc (.cells #[.bool ng, .slice A n0 c, .slice D m0 cd] 33)).alloc (.cells #[.bool ng', .slice A' n0' c', .slice D' m0' cd'] 33) = W0 at *
  refine HP1.out.mono ?_
  rintro e w1 ⟨n1, ds1, es1, A1, c1, D1, d1, rfl, i1, i2, v1, r1, l1, l2, hb1⟩
  obtain ⟨hbb, k5, k6, _⟩ := boxes2 w1 31 31 #[.bool n1, .slice A1 ds1.length c1] #[.bool false, .slice D1 es1.length d1]
  have hb1b := hb1.trans (hbb.mono hb1.size)
  have HB1 := Lib.hid (HB0.out.trans (hb1b.mono HB0.out.size))
  have hj1 := HK1.out.old hb1b
  have HK5 := Lib.hid k5; have HK6 := Lib.hid k6
  have HI1 := Lib.hid ((i1.below hbb).more hbb.size); have HI2 := Lib.hid ((i2.below hbb).more hbb.size)
  have HV1 := Lib.hid v1; have HR1 := Lib.hid r1; have HL1 := Lib.hid l1; have HL2 := Lib.hid l2
  clear i1 i2 v1 r1 l1 l2 hb1 hbb k5 k6 hb1b HP1 HK1 HB0
  go_upto_region 2 with (fail)
  generalize (w1.alloc (.cells #[.bool n1, .slice A1 ds1.length c1] 31)).alloc (.cells #[.bool false, .slice D1 es1.length d1] 31) = W1 at *
  generalize w1.heap.size = g5 at *
  have HP2' := Lib.hid (HP2.out W1 HB1.out)
  have a0 := hj1.cell 0; have a1 := hj1.cell 1; have a2 := hj1.cell 2
  clear hj1 HP2
  go_wp2_with fail
  refine HP2'.out.mono ?_
  rintro e w2 ⟨n2, ds2, es2, A2, c2, D2, d2, rfl, i3, i4, v2, r2, l3, l4, hb2⟩
  obtain ⟨hbb, k7, k8, _⟩ := boxes2 w2 31 31 #[.bool n2, .slice A2 ds2.length c2] #[.bool false, .slice D2 es2.length d2]
  have hb2b := hb2.trans (hbb.mono hb2.size)
  have HB2 := Lib.hid (HB1.out.trans (hb2b.mono HB1.out.size))
  have HK5' := Lib.hid (HK5.out.old hb2b); have HK6' := Lib.hid (HK6.out.old hb2b)
  have HK7 := Lib.hid k7; have HK8 := Lib.hid k8
  have HI1' := Lib.hid ((HI1.out.below hb2b).more hb2b.size); have HI2' := Lib.hid ((HI2.out.below hb2b).more hb2b.size)
  have HI3 := Lib.hid ((i3.below hbb).more hbb.size); have HI4 := Lib.hid ((i4.below hbb).more hbb.size)
  have HV2 := Lib.hid v2; have HR2 := Lib.hid r2; have HL3 := Lib.hid l3; have HL4 := Lib.hid l4
  clear i3 i4 v2 r2 l3 l4 hb2 hbb k7 k8 hb2b HP2' HK5 HK6 HI1 HI2 HB1 a0 a1 a2
  go_upto_region 3 with (fail)
  generalize (w2.alloc (.cells #[.bool n2, .slice A2 ds2.length c2] 31)).alloc (.cells #[.bool false, .slice D2 es2.length d2] 31) = W2 at *
  generalize w2.heap.size = g7 at *
  obtain ⟨ls1, ls2, ls3, ls4⟩ := HLS.out
  have HM1 := Lib.hid (fun (V : World) (hV : Below W2.heap.size W2 V) => IMul_den n1 A1 D2 c1 d2 W2.heap.size ds1 es2 V hV.size (HI1'.out.below hV) (HI4.out.below hV) (by have := HL1.out; have := HL4.out; omega))
  have HM3 := Lib.hid (fun (V : World) (hV : Below W2.heap.size W2 V) => IMul_den n2 A2 D1 c2 d1 W2.heap.size ds2 es1 V hV.size (HI3.out.below hV) (HI2'.out.below hV) (by have := HL2.out; have := HL3.out; omega))
  unfold IntRes at HM1 HM3
  have hz3 : (dig (ival n1 ds1 * (val es2 : Int)).natAbs).length ≤ 900000 := by
    rw [Int.natAbs_mul, ival_abs, Int.natAbs_natCast]
    have := mul_len HI1'.out.dg HI4.out.dg
    have := HL1.out; have := HL4.out; omega
  have hz4 : (dig (ival n2 ds2 * (val es1 : Int)).natAbs).length ≤ 900000 := by
    rw [Int.natAbs_mul, ival_abs, Int.natAbs_natCast]
    have := mul_len HI3.out.dg HI2'.out.dg
    have := HL2.out; have := HL3.out; omega
  have HCR := Lib.hid (show (ival n1 ds1 * (val es2 : Int) = ival n2 ds2 * (val es1 : Int)) ↔ q1 = q2 by
    rw [← HR1.out, ← HR2.out]; exact cmp_cross _ _ _ _ HV1.out HV2.out)
  have HAD := Lib.hid (fun (V : World) (A A' : Option Addr) (c c' : Nat) a b c3 d => ICmp_made (ival n1 ds1 * (val es2 : Int)) (ival n2 ds2 * (val es1 : Int)) A A' c c' V hz3 hz4 a b c3 d)
  clear hz3 hz4 ls1 ls2 ls3 ls4
  generalize ival n1 ds1 * (val es2 : Int) = za at *
  generalize ival n2 ds2 * (val es1 : Int) = zb at *
  generalize ds1.length = x1 at *
  generalize es1.length = y1 at *
  generalize ds2.length = x2 at *
  generalize es2.length = y2 at *
  have KF := Lib.hid (fun (V : World) (hV : Below W2.heap.size W2 V) => (⟨(HK5'.out.old hV).cell 0, (HK5'.out.old hV).cell 1, (HK6'.out.old hV).cell 0, (HK6'.out.old hV).cell 1, (HK7.out.old hV).cell 0, (HK7.out.old hV).cell 1, (HK8.out.old hV).cell 0, (HK8.out.old hV).cell 1⟩ :
    V.cell? ⟨g5, 0, none⟩ = some (.bool n1) ∧ V.cell? ⟨g5, 1, none⟩ = some (.slice A1 x1 c1) ∧ V.cell? ⟨g5 + 1, 0, none⟩ = some (.bool false) ∧ V.cell? ⟨g5 + 1, 1, none⟩ = some (.slice D1 y1 d1) ∧ V.cell? ⟨g7, 0, none⟩ = some (.bool n2) ∧ V.cell? ⟨g7, 1, none⟩ = some (.slice A2 x2 c2) ∧ V.cell? ⟨g7 + 1, 0, none⟩ = some (.bool false) ∧ V.cell? ⟨g7 + 1, 1, none⟩ = some (.slice D2 y2 d2)))
  have hb : Below W2.heap.size W2 W2.drew := (Drawn.drew _).below _
  have hb0 : Below W2.heap.size W2 W2 := Below.refl _ _
  go_wp2_with fail
  go_region_held3 (fun w' => w'.cell? ⟨g5, 0, none⟩ = some (.bool n1) ∧ w'.cell? ⟨g5, 1, none⟩ = some (.slice A1 x1 c1) ∧ w'.cell? ⟨g5 + 1, 0, none⟩ = some (.bool false) ∧ w'.cell? ⟨g5 + 1, 1, none⟩ = some (.slice D1 y1 d1) ∧ w'.cell? ⟨g7, 0, none⟩ = some (.bool n2) ∧ w'.cell? ⟨g7, 1, none⟩ = some (.slice A2 x2 c2) ∧ w'.cell? ⟨g7 + 1, 0, none⟩ = some (.bool false) ∧ w'.cell? ⟨g7 + 1, 1, none⟩ = some (.slice D2 y2 d2))
    (first | (with_reducible exact KF.out _ hb) | (with_reducible exact KF.out _ hb0))
    (first
      | (go_at_call 41; (first
          | ((with_reducible refine (HM1.out _ hb).mono ?_); rintro e w4 ⟨A3, c3, rfl, l3, n3, hk⟩; (try replace n7 := NatB.old n7 hk); replace hb := hb.trans (hk.mono hb.size))
          | ((with_reducible refine (HM3.out _ hb).mono ?_); rintro e w7 ⟨A7, c7, rfl, l7, n7, hk⟩; (try replace n3 := NatB.old n3 hk); replace hb := hb.trans (hk.mono hb.size))))
      | (go_at_call 52; (with_reducible refine (HAD.out _ A3 A7 c3 c7 l3 l7 n3 n7).mono ?_); rintro e w8 ⟨zc, rfl, hzc, hk⟩; replace hzc := Lib.hid hzc; replace hb := hb.trans (hk.mono hb.size)))
  all_goals
    have HF := Lib.hid (HB2.out.trans (hb.mono HB2.out.size))
    go_wp2_with fail
    go_ret
    exact ⟨zc, rfl, hzc.out.trans HCR.out, HF.out⟩
/-- same tells equal numbers -/
def RSameRes (x y : Rat) (w : World) (e : Ending) (w' : World) : Prop := ∃ b : Bool, e = .returned (.bool b) ∧ (b = true ↔ x = y) ∧ Below w.heap.size w w'
set_option maxHeartbeats 4000000 in
set_option maxRecDepth 100000 in
theorem same_any (ng ng' : Bool) (A : Option Addr) (c : Nat) (ds : List Nat) (D : Option Addr) (cd : Nat) (es : List Nat) (A' : Option Addr) (c' : Nat) (ds' : List Nat) (D' : Option Addr) (cd' : Nat) (es' : List Nat) (B : Nat) (w : World) (hB : B ≤ w.heap.size)
    (h1 : NatIn w B A c ds) (h2 : NatIn w B D cd es) (h3 : NatIn w B A' c' ds') (h4 : NatIn w B D' cd' es') (l1 : ds.length ≤ 400000) (l2 : es.length ≤ 400000) (l3 : ds'.length ≤ 400000) (l4 : es'.length ≤ 400000) :
    Calls Tryz.prog 10 #[.agg #[.bool ng, .slice A ds.length c, .slice D es.length cd], .agg #[.bool ng', .slice A' ds'.length c', .slice D' es'.length cd']] w (RSameRes (mkRat (ival ng ds) (val es)) (mkRat (ival ng' ds') (val es')) w) := by
  obtain ⟨hb0, k0, k1, hs⟩ := boxes2 w 33 33 #[.bool ng, .slice A ds.length c, .slice D es.length cd] #[.bool ng', .slice A' ds'.length c', .slice D' es'.length cd']
  have HC := Lib.hid (RCmp_any ng ng' A c ds D cd es A' c' ds' D' cd' es' B _ (Nat.le_trans hB hb0.size) (h1.below (hb0.mono hB)) (h2.below (hb0.mono hB)) (h3.below (hb0.mono hB)) (h4.below (hb0.mono hB)) l1 l2 l3 l4)
  unfold RCmpRes at HC
  have HB0 := Lib.hid hb0
  generalize mkRat (ival ng ds) (val es) = q1 at *
  generalize mkRat (ival ng' ds') (val es') = q2 at *
  clear h1 h2 h3 h4 l1 l2 l3 l4 hb0 k0 k1 hs hB
  generalize ds.length = n0 at *
  generalize es.length = m0 at *
  generalize ds'.length = n0' at *
  generalize es'.length = m0' at *
  go_enter Tryz.func10, Tryz.ntmps10
  go_wp2_with fail
  refine HC.out.mono ?_
  rintro e w1 ⟨z, rfl, hz, hb1⟩
  have HZ := Lib.hid hz; have HF := Lib.hid (HB0.out.trans (hb1.mono HB0.out.size))
  clear hz hb1
  go_wp2_with fail
  go_ret
  exact ⟨z == 0, rfl, by rw [beq_iff_eq]; exact HZ.out, HF.out⟩
end Go.Proofs.YtpbapoanjkekmaaGreat
