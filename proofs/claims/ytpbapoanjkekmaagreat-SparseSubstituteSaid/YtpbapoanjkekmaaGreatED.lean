/- Contract of rational.Add. -/
import Derived.IntWalk
import Derived.StillTailTactics
import Derived.Deep.RegionHeld3
import Derived.Test.YtpbapoanjkekmaaGreatEC
namespace Go.Proofs.YtpbapoanjkekmaaGreat
open Go.RowKit

/-- Mul by a denominator -/
theorem IMul_den (ng : Bool) (A D : Option Addr) (c cd B : Nat) (ds es : List Nat) (w : World) (hB : B ≤ w.heap.size) (h : NatIn w B A c ds) (h' : NatIn w B D cd es) (hm : ds.length + es.length ≤ 900000) :
    Calls Tryz.prog 41 #[.agg #[.bool ng, .slice A ds.length c], .agg #[.bool false, .slice D es.length cd]] w (IntRes (ival ng ds * (val es : Int)) w) := by
  have h1 := IMul_big ng false A D c cd B ds es w hB h h' hm
  have e1 : ival false es = (val es : Int) := by unfold ival; simp
  rw [e1] at h1
  exact h1
/-- Add, of what calls have made -/
theorem IAdd_made (z z' : Int) (A A' : Option Addr) (c c' : Nat) (w : World) (lz : (dig z.natAbs).length ≤ 900000) (lz' : (dig z'.natAbs).length ≤ 900000) (h1 : (dig z.natAbs).length ≤ c) (h2 : (dig z'.natAbs).length ≤ c') (n1 : NatB w A (dig z.natAbs)) (n2 : NatB w A' (dig z'.natAbs)) :
    Calls Tryz.prog 40 #[.agg #[.bool (decide (z < 0)), .slice A (dig z.natAbs).length c], .agg #[.bool (decide (z' < 0)), .slice A' (dig z'.natAbs).length c']] w (IntRes (z + z') w) := by
  have h := IAdd_any (decide (z < 0)) (decide (z' < 0)) A A' c c' w.heap.size (dig z.natAbs) (dig z'.natAbs) w (Nat.le_refl _) (natB_nin n1 h1) (natB_nin n2 h2) lz lz'
  rw [ival_dig, ival_dig] at h
  exact h
theorem dig_mono' {a b : Nat} (h : a ≤ b) : (dig a).length ≤ (dig b).length := dig_mono h
theorem add_len {a b n : Nat} (ha : a < 4294967296 ^ n) (hb : b < 4294967296 ^ n) : (dig (a + b)).length ≤ n + 1 := by
  refine dig_len_lt ?_
  rw [Nat.pow_succ]
  have : 0 < 4294967296 ^ n := Nat.pow_pos (by decide)
  omega
set_option maxHeartbeats 4000000 in
set_option maxRecDepth 100000 in
theorem RAdd_big (ng ng' : Bool) (A : Option Addr) (c : Nat) (ds : List Nat) (D : Option Addr) (cd : Nat) (es : List Nat) (A' : Option Addr) (c' : Nat) (ds' : List Nat) (D' : Option Addr) (cd' : Nat) (es' : List Nat) (B : Nat) (w : World) (hB : B ≤ w.heap.size)
    (h1 : NatIn w B A c ds) (h2 : NatIn w B D cd es) (h3 : NatIn w B A' c' ds') (h4 : NatIn w B D' cd' es') (l1 : ds.length ≤ 150000) (l2 : es.length ≤ 150000) (l3 : ds'.length ≤ 150000) (l4 : es'.length ≤ 150000) :
    Calls Tryz.prog 13 #[.agg #[.bool ng, .slice A ds.length c, .slice D es.length cd], .agg #[.bool ng', .slice A' ds'.length c', .slice D' es'.length cd']] w (RatRes (mkRat (ival ng ds) (val es) + mkRat (ival ng' ds') (val es')) w) := by
  obtain ⟨hb0, k0, k1, k2, hs⟩ := boxes3 w 33 33 33 #[.bool ng, .slice A ds.length c, .slice D es.length cd] #[.bool ng', .slice A' ds'.length c', .slice D' es'.length cd'] #[.bool false, .slice none 0 0, .slice none 0 0]
  have HP1 := Lib.hid (parts_any ng A c B ds D cd es _ (Nat.le_trans hB hb0.size) (h1.below (hb0.mono hB)) (h2.below (hb0.mono hB)) (by omega))
  have HP2 := Lib.hid (fun (W : World) (hW : Below w.heap.size w W) => parts_any ng' A' c' B ds' D' cd' es' W (Nat.le_trans hB hW.size) (h3.below (hW.mono hB)) (h4.below (hW.mono hB)) (by omega))
  unfold PartsRes at HP1 HP2
  have HLS := Lib.hid (And.intro l1 (And.intro l2 (And.intro l3 l4)))
  have HB0 := Lib.hid hb0; have HK0 := Lib.hid k0; have HK1 := Lib.hid k1; have HK2 := Lib.hid (show Blk _ (w.heap.size + 1 + 1) _ _ from k2)
  have HFIN := Lib.hid (fun (q : Rat) (hq : q = mkRat (ival ng ds) (val es) + mkRat (ival ng' ds') (val es')) (w2 : World) (A D : Option Addr) (c cd : Nat) (hk : Blk w2 (w.heap.size + 1 + 1) 33 #[.bool false, .slice none 0 0, .slice none 0 0]) l1 l2 n1 n2 hb => RatFin' (q := q) hq (w := w) (w2 := w2) (g := w.heap.size + 1 + 1) (A := A) (D := D) (c := c) (cd := cd) hk (Nat.le_succ_of_le (Nat.le_succ _)) l1 l2 n1 n2 hb)
  generalize RatRes (mkRat (ival ng ds) (val es) + mkRat (ival ng' ds') (val es')) w = Post at *
  clear h1 h2 h3 h4 l1 l2 l3 l4 hb0 k0 k1 k2 hs hB
  generalize hq1 : mkRat (ival ng ds) (val es) = q1 at *
  generalize hq2 : mkRat (ival ng' ds') (val es') = q2 at *
  clear hq1 hq2
  generalize ds.length = n0 at *
  generalize es.length = m0 at *
  generalize ds'.length = n0' at *
  generalize es'.length = m0' at *
  go_enter Tryz.func13, Tryz.ntmps13
  go_wp2_with fail
  generalize ((w.alloc (.cells #[.bool ng, .slice A n0 c, .slice D m0 cd] 33)).alloc (.cells #[.bool ng', .slice A' n0' c', .slice D' m0' cd'] 33)).alloc (.cells #[.bool false, .slice none 0 0, .slice none 0 0] 33) = W0 at *
  refine HP1.out.mono ?_
  rintro e w1 ⟨n1, ds1, es1, A1, c1, D1, d1, rfl, i1, i2, v1, r1, l1, l2, hb1⟩
  obtain ⟨hbb, k5, k6, _⟩ := boxes2 w1 31 31 #[.bool n1, .slice A1 ds1.length c1] #[.bool false, .slice D1 es1.length d1]
  have hb1b := hb1.trans (hbb.mono hb1.size)
  have HB1 := Lib.hid (HB0.out.trans (hb1b.mono HB0.out.size))
  have hj1 := HK1.out.old hb1b
  have HJ2 := Lib.hid (HK2.out.old hb1b)
  have HK5 := Lib.hid k5; have HK6 := Lib.hid k6
  have HI1 := Lib.hid ((i1.below hbb).more hbb.size); have HI2 := Lib.hid ((i2.below hbb).more hbb.size)
  have HV1 := Lib.hid v1; have HR1 := Lib.hid r1; have HL1 := Lib.hid l1; have HL2 := Lib.hid l2
  have HG1 := Lib.hid (show w.heap.size + 1 + 1 < w1.heap.size from (HK2.out.old hb1).lt)
  clear i1 i2 v1 r1 l1 l2 hb1 hbb k5 k6 hb1b HP1 HK0 HK1 HK2 HB0
  go_upto_region 2 with (fail)
  generalize (w1.alloc (.cells #[.bool n1, .slice A1 ds1.length c1] 31)).alloc (.cells #[.bool false, .slice D1 es1.length d1] 31) = W1 at *
  generalize w1.heap.size = g5 at *
  have HP2' := Lib.hid (HP2.out W1 HB1.out)
  have a0 := hj1.cell 0; have a1 := hj1.cell 1; have a2 := hj1.cell 2
  clear hj1 HP2
  go_wp2_with fail
  refine HP2'.out.mono ?_
  rintro e w2 ⟨n2, ds2, es2, A2, c2, D2, d2, rfl, i3, i4, v2, r2, l3, l4, hb2⟩
  obtain ⟨hbb, k7, k8, _⟩ := boxes2 w2 31 31 #[.bool n2, .slice A2 ds2.length c2] #[.bool false, .slice D2 es2.length d2]
  have hb2b := hb2.trans (hbb.mono hb2.size)
  have HB2 := Lib.hid (HB1.out.trans (hb2b.mono HB1.out.size))
  have HJ2' := Lib.hid (HJ2.out.old hb2b)
  have HK5' := Lib.hid (HK5.out.old hb2b); have HK6' := Lib.hid (HK6.out.old hb2b)
  have HK7 := Lib.hid k7; have HK8 := Lib.hid k8
  have HI1' := Lib.hid ((HI1.out.below hb2b).more hb2b.size); have HI2' := Lib.hid ((HI2.out.below hb2b).more hb2b.size)
  have HI3 := Lib.hid ((i3.below hbb).more hbb.size); have HI4 := Lib.hid ((i4.below hbb).more hbb.size)
  have HG2 := Lib.hid (show w.heap.size + 1 + 1 < w2.heap.size from (HJ2.out.old hb2).lt)
  have HV2 := Lib.hid v2; have HR2 := Lib.hid r2; have HL3 := Lib.hid l3; have HL4 := Lib.hid l4
  clear i3 i4 v2 r2 l3 l4 hb2 hbb k7 k8 hb2b HP2' HK5 HK6 HI1 HI2 HB1 HJ2 a0 a1 a2
  go_upto_region 3 with (fail)
  generalize (w2.alloc (.cells #[.bool n2, .slice A2 ds2.length c2] 31)).alloc (.cells #[.bool false, .slice D2 es2.length d2] 31) = W2 at *
  generalize w2.heap.size = g7 at *
  obtain ⟨ls1, ls2, ls3, ls4⟩ := HLS.out
  have HM1 := Lib.hid (fun (V : World) (hV : Below W2.heap.size W2 V) => IMul_den n1 A1 D2 c1 d2 W2.heap.size ds1 es2 V hV.size (HI1'.out.below hV) (HI4.out.below hV) (by have := HL1.out; have := HL4.out; omega))
  have HM3 := Lib.hid (fun (V : World) (hV : Below W2.heap.size W2 V) => IMul_den n2 A2 D1 c2 d1 W2.heap.size ds2 es1 V hV.size (HI3.out.below hV) (HI2'.out.below hV) (by have := HL2.out; have := HL3.out; omega))
  unfold IntRes at HM1 HM3
  have HM2 := Lib.hid (fun (V : World) (hV : Below W2.heap.size W2 V) => IMul_nat D1 D2 d1 d2 W2.heap.size es1 es2 V hV.size (HI2'.out.below hV) (HI4.out.below hV) (by have := HL2.out; have := HL4.out; omega))
  obtain ⟨L, hL⟩ : ∃ L, L = 150001 := ⟨_, rfl⟩
  have hy1 : (ival n1 ds1 * (val es2 : Int)).natAbs < 4294967296 ^ (L + L) := by
    rw [Int.natAbs_mul, ival_abs, Int.natAbs_natCast, Nat.pow_add]
    exact Nat.mul_lt_mul'' (Nat.lt_of_lt_of_le (val_lt HI1'.out.dg) (Nat.pow_le_pow_right (by decide) (by have := HL1.out; omega))) (Nat.lt_of_lt_of_le (val_lt HI4.out.dg) (Nat.pow_le_pow_right (by decide) (by have := HL4.out; omega)))
  have hy2 : (ival n2 ds2 * (val es1 : Int)).natAbs < 4294967296 ^ (L + L) := by
    rw [Int.natAbs_mul, ival_abs, Int.natAbs_natCast, Nat.pow_add]
    exact Nat.mul_lt_mul'' (Nat.lt_of_lt_of_le (val_lt HI3.out.dg) (Nat.pow_le_pow_right (by decide) (by have := HL3.out; omega))) (Nat.lt_of_lt_of_le (val_lt HI2'.out.dg) (Nat.pow_le_pow_right (by decide) (by have := HL2.out; omega)))
  have hz3 : (dig (ival n1 ds1 * (val es2 : Int)).natAbs).length ≤ 900000 := Nat.le_trans (dig_len_lt hy1) (by omega)
  have hz4 : (dig (ival n2 ds2 * (val es1 : Int)).natAbs).length ≤ 900000 := Nat.le_trans (dig_len_lt hy2) (by omega)
  have hz1 : (dig (ival n1 ds1 * (val es2 : Int) + ival n2 ds2 * (val es1 : Int)).natAbs).length ≤ 400000 := Nat.le_trans (dig_mono (Int.natAbs_add_le _ _)) (Nat.le_trans (add_len hy1 hy2) (by omega))
  have hz2 : (dig (val es1 * val es2)).length ≤ 400000 := by
    have := mul_len HI2'.out.dg HI4.out.dg
    have := HL2.out; have := HL4.out; omega
  have HAD := Lib.hid (fun (V : World) (A A' : Option Addr) (c c' : Nat) a b c3 d => IAdd_made (ival n1 ds1 * (val es2 : Int)) (ival n2 ds2 * (val es1 : Int)) A A' c c' V hz3 hz4 a b c3 d)
  unfold IntRes at HAD
  have HRD := Lib.hid (fun (V : World) (A D : Option Addr) (c cd : Nat) a b c3 d => reduce_made (ival n1 ds1 * (val es2 : Int) + ival n2 ds2 * (val es1 : Int)) (val es1 * val es2) A D c cd V (Nat.mul_ne_zero HV1.out HV2.out) hz1 hz2 a b c3 d)
  unfold RatRes at HRD
  have HFQ := Lib.hid (fun (w2 : World) (A D : Option Addr) (c cd : Nat) hk l1 l2 n1' n2' hb => HFIN.out (mkRat (ival n1 ds1 * (val es2 : Int) + ival n2 ds2 * (val es1 : Int)) (val es1 * val es2)) (by rw [← Rat.mkRat_add_mkRat _ _ HV1.out HV2.out, HR1.out, HR2.out]) w2 A D c cd hk l1 l2 n1' n2' hb)
  clear HFIN hz1 hz2 hz3 hz4 hy1 hy2 hL ls1 ls2 ls3 ls4
  generalize mkRat (ival n1 ds1 * (val es2 : Int) + ival n2 ds2 * (val es1 : Int)) (val es1 * val es2) = q at *
  generalize ival n1 ds1 * (val es2 : Int) + ival n2 ds2 * (val es1 : Int) = z at *
  generalize ival n1 ds1 * (val es2 : Int) = za at *
  generalize ival n2 ds2 * (val es1 : Int) = zb at *
  generalize val es1 * val es2 = P at *
  generalize ds1.length = x1 at *
  generalize es1.length = y1 at *
  generalize ds2.length = x2 at *
  generalize es2.length = y2 at *
  have KF := Lib.hid (fun (V : World) (hV : Below W2.heap.size W2 V) => (⟨(HK5'.out.old hV).cell 0, (HK5'.out.old hV).cell 1, (HK6'.out.old hV).cell 0, (HK6'.out.old hV).cell 1, (HK7.out.old hV).cell 0, (HK7.out.old hV).cell 1, (HK8.out.old hV).cell 0, (HK8.out.old hV).cell 1⟩ :
    V.cell? ⟨g5, 0, none⟩ = some (.bool n1) ∧ V.cell? ⟨g5, 1, none⟩ = some (.slice A1 x1 c1) ∧ V.cell? ⟨g5 + 1, 0, none⟩ = some (.bool false) ∧ V.cell? ⟨g5 + 1, 1, none⟩ = some (.slice D1 y1 d1) ∧ V.cell? ⟨g7, 0, none⟩ = some (.bool n2) ∧ V.cell? ⟨g7, 1, none⟩ = some (.slice A2 x2 c2) ∧ V.cell? ⟨g7 + 1, 0, none⟩ = some (.bool false) ∧ V.cell? ⟨g7 + 1, 1, none⟩ = some (.slice D2 y2 d2)))
  have q1 : w.heap.size + 1 + 1 ≠ g5 := by have := HG1.out; omega
  have q2 : w.heap.size + 1 + 1 ≠ g5 + 1 := by have := HG1.out; omega
  have q3 : w.heap.size + 1 + 1 ≠ g7 := by have := HG2.out; omega
  have q4 : w.heap.size + 1 + 1 ≠ g7 + 1 := by have := HG2.out; omega
  have KS := Lib.hid (fun (V : World) (hV : Below W2.heap.size W2 V) (a b c : Value) => (⟨cell_far3 (KF.out V hV).1 q1 a b c, cell_far3 (KF.out V hV).2.1 q1 a b c, cell_far3 (KF.out V hV).2.2.1 q2 a b c, cell_far3 (KF.out V hV).2.2.2.1 q2 a b c, cell_far3 (KF.out V hV).2.2.2.2.1 q3 a b c, cell_far3 (KF.out V hV).2.2.2.2.2.1 q3 a b c, cell_far3 (KF.out V hV).2.2.2.2.2.2.1 q4 a b c, cell_far3 (KF.out V hV).2.2.2.2.2.2.2 q4 a b c⟩ :
    (((V.setCell ⟨w.heap.size + 1 + 1, 0, none⟩ a).setCell ⟨w.heap.size + 1 + 1, 1, none⟩ b).setCell ⟨w.heap.size + 1 + 1, 2, none⟩ c).cell? ⟨g5, 0, none⟩ = some (.bool n1) ∧ (((V.setCell ⟨w.heap.size + 1 + 1, 0, none⟩ a).setCell ⟨w.heap.size + 1 + 1, 1, none⟩ b).setCell ⟨w.heap.size + 1 + 1, 2, none⟩ c).cell? ⟨g5, 1, none⟩ = some (.slice A1 x1 c1) ∧ (((V.setCell ⟨w.heap.size + 1 + 1, 0, none⟩ a).setCell ⟨w.heap.size + 1 + 1, 1, none⟩ b).setCell ⟨w.heap.size + 1 + 1, 2, none⟩ c).cell? ⟨g5 + 1, 0, none⟩ = some (.bool false) ∧ (((V.setCell ⟨w.heap.size + 1 + 1, 0, none⟩ a).setCell ⟨w.heap.size + 1 + 1, 1, none⟩ b).setCell ⟨w.heap.size + 1 + 1, 2, none⟩ c).cell? ⟨g5 + 1, 1, none⟩ = some (.slice D1 y1 d1) ∧ (((V.setCell ⟨w.heap.size + 1 + 1, 0, none⟩ a).setCell ⟨w.heap.size + 1 + 1, 1, none⟩ b).setCell ⟨w.heap.size + 1 + 1, 2, none⟩ c).cell? ⟨g7, 0, none⟩ = some (.bool n2) ∧ (((V.setCell ⟨w.heap.size + 1 + 1, 0, none⟩ a).setCell ⟨w.heap.size + 1 + 1, 1, none⟩ b).setCell ⟨w.heap.size + 1 + 1, 2, none⟩ c).cell? ⟨g7, 1, none⟩ = some (.slice A2 x2 c2) ∧ (((V.setCell ⟨w.heap.size + 1 + 1, 0, none⟩ a).setCell ⟨w.heap.size + 1 + 1, 1, none⟩ b).setCell ⟨w.heap.size + 1 + 1, 2, none⟩ c).cell? ⟨g7 + 1, 0, none⟩ = some (.bool false) ∧ (((V.setCell ⟨w.heap.size + 1 + 1, 0, none⟩ a).setCell ⟨w.heap.size + 1 + 1, 1, none⟩ b).setCell ⟨w.heap.size + 1 + 1, 2, none⟩ c).cell? ⟨g7 + 1, 1, none⟩ = some (.slice D2 y2 d2)))
  clear q1 q2 q3 q4
  have hb : Below W2.heap.size W2 W2.drew := (Drawn.drew _).below _
  have hb0 : Below W2.heap.size W2 W2 := Below.refl _ _
  go_wp2_with fail
  go_region_held3 (fun w' => w'.cell? ⟨g5, 0, none⟩ = some (.bool n1) ∧ w'.cell? ⟨g5, 1, none⟩ = some (.slice A1 x1 c1) ∧ w'.cell? ⟨g5 + 1, 0, none⟩ = some (.bool false) ∧ w'.cell? ⟨g5 + 1, 1, none⟩ = some (.slice D1 y1 d1) ∧ w'.cell? ⟨g7, 0, none⟩ = some (.bool n2) ∧ w'.cell? ⟨g7, 1, none⟩ = some (.slice A2 x2 c2) ∧ w'.cell? ⟨g7 + 1, 0, none⟩ = some (.bool false) ∧ w'.cell? ⟨g7 + 1, 1, none⟩ = some (.slice D2 y2 d2))
    (first | (with_reducible exact KF.out _ hb) | (with_reducible exact KF.out _ hb0) | (with_reducible exact KS.out _ hb _ _ _))
    (first
      | (go_at_call 41; (first
          | ((with_reducible refine (HM1.out _ hb).mono ?_); rintro e w4 ⟨A3, c3, rfl, l3, n3, hk⟩; (try replace n4 := NatB.old n4 hk); (try replace n7 := NatB.old n7 hk); (try replace n8 := NatB.old n8 hk); replace hb := hb.trans (hk.mono hb.size))
          | ((with_reducible refine (HM2.out _ hb).mono ?_); rintro e w5 ⟨A4, c4, rfl, l4, n4, hk⟩; (try replace n3 := NatB.old n3 hk); (try replace n7 := NatB.old n7 hk); (try replace n8 := NatB.old n8 hk); replace hb := hb.trans (hk.mono hb.size))
          | ((with_reducible refine (HM3.out _ hb).mono ?_); rintro e w7 ⟨A7, c7, rfl, l7, n7, hk⟩; (try replace n3 := NatB.old n3 hk); (try replace n4 := NatB.old n4 hk); (try replace n8 := NatB.old n8 hk); replace hb := hb.trans (hk.mono hb.size))))
      | (go_at_call 40; (with_reducible refine (HAD.out _ A3 A7 c3 c7 l3 l7 n3 n7).mono ?_); rintro e w8 ⟨A8, c8, rfl, l8, n8, hk⟩; (try replace n4 := NatB.old n4 hk); replace hb := hb.trans (hk.mono hb.size))
      | (go_at_call 39; (with_reducible refine (HRD.out _ A8 A4 c8 c4 l8 l4 n8 n4).mono ?_); rintro e w6 ⟨A5, c5, D5, d5, rfl, l5, l6, n5, n6, hk⟩; replace hb := hb.trans (hk.mono hb.size);
          have kk := HJ2'.out.old hb; have u0 : w6.cell? ⟨w.heap.size + 1 + 1, 0, none⟩ = some (.bool false) := kk.cell 0; have u1 : w6.cell? ⟨w.heap.size + 1 + 1, 1, none⟩ = some (.slice none 0 0) := kk.cell 1; have u2 : w6.cell? ⟨w.heap.size + 1 + 1, 2, none⟩ = some (.slice none 0 0) := kk.cell 2; have f0 := kk.frozen 0; have f1 := kk.frozen 1; have f2 := kk.frozen 2; have z0 := kk.lt))
  all_goals
    have HF := Lib.hid (HFQ.out w6 A5 D5 c5 d5 kk l5 l6 n5 n6 (HB2.out.trans (hb.mono HB2.out.size)))
    go_wp2_with fail
    exact ret_blk Tryz.results13 rfl rfl HF.out.1 Tryz.underlying33 rfl Tryz.sizeRat HF.out.2
theorem RAdd_any (ng ng' : Bool) (A : Option Addr) (c : Nat) (ds : List Nat) (D : Option Addr) (cd : Nat) (es : List Nat) (A' : Option Addr) (c' : Nat) (ds' : List Nat) (D' : Option Addr) (cd' : Nat) (es' : List Nat) (B : Nat) (w : World) (hB : B ≤ w.heap.size)
    (h1 : NatIn w B A c ds) (h2 : NatIn w B D cd es) (h3 : NatIn w B A' c' ds') (h4 : NatIn w B D' cd' es') (l1 : ds.length < 48) (l2 : es.length < 48) (l3 : ds'.length < 48) (l4 : es'.length < 48) :
    Calls Tryz.prog 13 #[.agg #[.bool ng, .slice A ds.length c, .slice D es.length cd], .agg #[.bool ng', .slice A' ds'.length c', .slice D' es'.length cd']] w (RatRes (mkRat (ival ng ds) (val es) + mkRat (ival ng' ds') (val es')) w) :=
  RAdd_big ng ng' A c ds D cd es A' c' ds' D' cd' es' B w hB h1 h2 h3 h4 (by omega) (by omega) (by omega) (by omega)
end Go.Proofs.YtpbapoanjkekmaaGreat
