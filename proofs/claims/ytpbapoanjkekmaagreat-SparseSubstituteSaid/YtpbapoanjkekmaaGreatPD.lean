/- Contract of rational.Pow for exponents from 1 on. -/
import Derived.IntWalk
import Derived.RegionTactic
import Derived.StillTailTactics
import Derived.Deep.RegionHeld3
import Derived.Test.YtpbapoanjkekmaaGreatPB
import Derived.Test.YtpbapoanjkekmaaGreatPC
namespace Go.Proofs.YtpbapoanjkekmaaGreat
open Go.RowKit

/-- what Pow returns -/
def RPowRes (q : Rat) (w : World) (e : Ending) (w' : World) : Prop :=
  ∃ (A : Option Addr) (c : Nat) (D : Option Addr) (cd : Nat), e = .returned (.tuple #[rvl q A c D cd, .int .i64 0]) ∧ (dig q.num.natAbs).length ≤ c ∧ (dig q.den).length ≤ cd ∧ NatB w' A (dig q.num.natAbs) ∧ NatB w' D (dig q.den) ∧ Below w.heap.size w w'
theorem IPow_int (z : Int) (A : Option Addr) (c n L : Nat) (w : World) (hc : (dig z.natAbs).length ≤ c) (hn : NatB w A (dig z.natAbs)) (hl : (dig z.natAbs).length ≤ L) (h0 : 0 < L) (hp : 0 < n) (hm : L * n ≤ 100000) :
    Calls Tryz.prog 78 #[.agg #[.bool (decide (z < 0)), .slice A (dig z.natAbs).length c], .int .i64 (n : Int)] w (PowRes (z ^ n) w) := by
  have := IPow_any (decide (z < 0)) A c w.heap.size (dig z.natAbs) n L w (Nat.le_refl _) (natB_nin hn hc) hl h0 hp hm
  rw [ival_dig] at this
  exact this
theorem IPow_nat (v : Nat) (A : Option Addr) (c n L : Nat) (w : World) (hc : (dig v).length ≤ c) (hn : NatB w A (dig v)) (hl : (dig v).length ≤ L) (h0 : 0 < L) (hp : 0 < n) (hm : L * n ≤ 100000) :
    Calls Tryz.prog 78 #[.agg #[.bool false, .slice A (dig v).length c], .int .i64 (n : Int)] w fun e w' => ∃ A c, e = .returned (.tuple #[.agg #[.bool false, .slice A (dig (v ^ n)).length c], .int .i64 0]) ∧ (dig (v ^ n)).length ≤ c ∧ NatB w' A (dig (v ^ n)) ∧ Below w.heap.size w w' := by
  have h := IPow_any false A c w.heap.size (dig v) n L w (Nat.le_refl _) (natB_nin hn hc) hl h0 hp hm
  have e1 : ival false (dig v) ^ n = ((v ^ n : Nat) : Int) := by unfold ival; rw [if_neg (by simp), val_dig, Int.natCast_pow]
  rw [e1] at h
  refine h.mono ?_
  rintro e w' ⟨A1, c1, h1, h2, h3, h4⟩
  have e0 : decide (((v ^ n : Nat) : Int) < 0) = false := by
    rw [decide_eq_false_iff_not]; omega
  rw [e0, Int.natAbs_natCast] at h1
  rw [Int.natAbs_natCast] at h2 h3
  exact ⟨A1, c1, h1, h2, h3, h4⟩
set_option maxHeartbeats 8000000 in
set_option maxRecDepth 100000 in
theorem RPow_any (ng : Bool) (A : Option Addr) (c : Nat) (ds : List Nat) (D : Option Addr) (cd : Nat) (es : List Nat) (B n L : Nat) (w : World) (hB : B ≤ w.heap.size)
    (h1 : NatIn w B A c ds) (h2 : NatIn w B D cd es) (l1 : ds.length ≤ L) (l2 : es.length ≤ L) (h0 : 0 < L) (hn : 0 < n) (hm : L * n ≤ 100000) :
    Calls Tryz.prog 54 #[.agg #[.bool ng, .slice A ds.length c, .slice D es.length cd], .int .i64 (n : Int)] w (RPowRes (mkRat (ival ng ds) (val es) ^ n) w) := by
  have hLn : L ≤ L * n := Nat.le_mul_of_pos_right L hn
  have hnL : n ≤ L * n := Nat.le_mul_of_pos_left n h0
  obtain ⟨hb0, k0, k1, hs⟩ := boxes2 w 33 33 #[.bool ng, .slice A ds.length c, .slice D es.length cd] #[.bool false, .slice none 0 0, .slice none 0 0]
  have HNR := Lib.hid (RNormal_any ng A c ds D cd es B _ (Nat.le_trans hB hb0.size) (h1.below (hb0.mono hB)) (h2.below (hb0.mono hB)) (by omega) (by omega))
  unfold RatRes at HNR
  have HRL := Lib.hid (mkRat_RL (ng := ng) h0 h1.dg h2.dg l1 l2)
  generalize mkRat (ival ng ds) (val es) = q at *
  have HB0 := Lib.hid hb0; have HK0 := Lib.hid k0; have HK1 := Lib.hid k1
  have HLM := Lib.hid (And.intro hm h0)
  have hn1 : n ≤ 100000 := by omega
  clear h1 h2 l1 l2 h0 hm hb0 k0 k1 hs hB hLn hnL
  generalize ds.length = n0 at *
  generalize es.length = m0 at *
  go_enter Tryz.func54, Tryz.ntmps54
  go_wp2_with fail
  generalize (w.alloc (.cells #[.bool ng, .slice A n0 c, .slice D m0 cd] 33)).alloc (.cells #[.bool false, .slice none 0 0, .slice none 0 0] 33) = W0 at *
  refine HNR.out.mono ?_
  rintro e w1 ⟨A1, c1, D1, d1, rfl, l1, l2, n1, n2, hb1⟩
  have kk := HK0.out.old hb1
  have u0 : w1.cell? ⟨w.heap.size, 0, none⟩ = some (.bool ng) := kk.cell 0
  have u1 : w1.cell? ⟨w.heap.size, 1, none⟩ = some (.slice A n0 c) := kk.cell 1
  have u2 : w1.cell? ⟨w.heap.size, 2, none⟩ = some (.slice D m0 cd) := kk.cell 2
  have f0 := kk.frozen 0; have f1 := kk.frozen 1; have f2 := kk.frozen 2; have z0 := kk.lt
  have HJ0 := Lib.hid (((kk.set_ 0 (.bool (decide (q.num < 0)))).set_ 1 (.slice A1 (dig q.num.natAbs).length c1)).set_ 2 (.slice D1 (dig q.den).length d1))
  have HJ1 := Lib.hid ((((HK1.out.old hb1).far (p := ⟨w.heap.size, 0, none⟩) (show w.heap.size + 1 ≠ w.heap.size by omega) (.bool (decide (q.num < 0)))).far (p := ⟨w.heap.size, 1, none⟩) (show w.heap.size + 1 ≠ w.heap.size by omega) (.slice A1 (dig q.num.natAbs).length c1)).far (p := ⟨w.heap.size, 2, none⟩) (show w.heap.size + 1 ≠ w.heap.size by omega) (.slice D1 (dig q.den).length d1))
  have HN1 := Lib.hid (NatB.keepTwo kk (by decide) (.bool (decide (q.num < 0))) (.slice A1 (dig q.num.natAbs).length c1) (.slice D1 (dig q.den).length d1) n1)
  have HN2 := Lib.hid (NatB.keepTwo kk (by decide) (.bool (decide (q.num < 0))) (.slice A1 (dig q.num.natAbs).length c1) (.slice D1 (dig q.den).length d1) n2)
  have HB1 := Lib.hid ((((HB0.out.trans (hb1.mono HB0.out.size)).setCell (p := ⟨w.heap.size, 0, none⟩) (Nat.le_refl _) (.bool (decide (q.num < 0)))).setCell (p := ⟨w.heap.size, 1, none⟩) (Nat.le_refl _) (.slice A1 (dig q.num.natAbs).length c1)).setCell (p := ⟨w.heap.size, 2, none⟩) (Nat.le_refl _) (.slice D1 (dig q.den).length d1))
  have HL1 := Lib.hid (And.intro l1 l2)
  have i1 : ¬ ((n : Int) < 0) := by omega
  clear kk n1 n2 l1 l2 hb1 HNR HK0 HK1 HB0
  go_upto_region 7 with (fail)
  generalize ((w1.setCell ⟨w.heap.size, 0, none⟩ (.bool (decide (q.num < 0)))).setCell ⟨w.heap.size, 1, none⟩ (.slice A1 (dig q.num.natAbs).length c1)).setCell ⟨w.heap.size, 2, none⟩ (.slice D1 (dig q.den).length d1) = W1 at *
  have hj0 := HJ0.out
  have KF := Lib.hid (fun (V : World) (hV : Below W1.heap.size W1 V) => (⟨(hj0.old hV).cell 0, (hj0.old hV).cell 1, (hj0.old hV).cell 2⟩ :
    V.cell? ⟨w.heap.size, 0, none⟩ = some (.bool (decide (q.num < 0))) ∧ V.cell? ⟨w.heap.size, 1, none⟩ = some (.slice A1 (dig q.num.natAbs).length c1) ∧ V.cell? ⟨w.heap.size, 2, none⟩ = some (.slice D1 (dig q.den).length d1)))
  have HI := Lib.hid (fun (V : World) (hV : Below W1.heap.size W1 V) => IBit_any (decide (q.num < 0)) A1 c1 V.heap.size (dig q.num.natAbs) V (Nat.le_refl _) (natB_nin (HN1.out.old hV) HL1.out.1) (Nat.le_trans HRL.out.n (by have := HLM.out.1; have := Nat.le_mul_of_pos_right L hn; omega)))
  have HIN := Lib.hid (fun (V : World) (hV : Below W1.heap.size W1 V) => NBit_any D1 d1 V.heap.size (dig q.den) V (natB_nin (HN2.out.old hV) HL1.out.2) (Nat.le_trans HRL.out.d (by have := HLM.out.1; have := Nat.le_mul_of_pos_right L hn; omega)))
  clear u0 u1 u2 f0 f1 f2 z0 hj0
  have hb : Below W1.heap.size W1 W1.drew := (Drawn.drew _).below _
  have hb0 : Below W1.heap.size W1 W1 := Below.refl _ _
  go_wp2_with fail
  go_region_held3 (fun w' => w'.cell? ⟨w.heap.size, 0, none⟩ = some (.bool (decide (q.num < 0))) ∧ w'.cell? ⟨w.heap.size, 1, none⟩ = some (.slice A1 (dig q.num.natAbs).length c1) ∧ w'.cell? ⟨w.heap.size, 2, none⟩ = some (.slice D1 (dig q.den).length d1))
    (first | (with_reducible exact KF.out _ hb) | (with_reducible exact KF.out _ hb0))
    (first
      | (go_at_call 75; (with_reducible refine (HI.out _ hb).mono ?_); rintro e w4 ⟨ka, rfl, hka, hk⟩; replace hb := hb.trans (hk.mono hb.size); replace hka := Lib.hid hka)
      | (go_at_call 76; (with_reducible refine (HIN.out _ hb).mono ?_); rintro e w5 ⟨kb, rfl, hkb, hk⟩; replace hb := hb.trans ((hk.below _).mono hb.size); replace hkb := Lib.hid hkb))
  have hkm : max (ka : Int) (kb : Int) = ((max ka kb : Nat) : Int) := by omega
  rw [hkm]
  have hkl : max ka kb ≤ 32 * L := by
    have h1 := hka.out; have h2 := hkb.out; have h3 := HRL.out.n; have h4 := HRL.out.d
    omega
  have hkn : max ka kb * n ≤ 3200000 := by
    have h1 : max ka kb * n ≤ 32 * L * n := Nat.mul_le_mul_right n hkl
    rw [Nat.mul_assoc] at h1
    have := HLM.out.1
    omega
  have hkb2 : max ka kb ≤ 3200000 := by
    have := HLM.out.1; have := Nat.le_mul_of_pos_right L hn
    omega
  clear hkm hkl hka hkb HI HIN 
  generalize max ka kb = km at *
  have HM := Lib.hid (mul64_any km n (by omega) (by omega) (by omega) w5)
  generalize hP : km * n = P at *
  have i3 : ¬ (16777216 < (P : Int)) := by omega
  clear hP
  have j0 := HJ0.out.old hb; have j1 := HJ1.out.old hb
  have b0 : w5.cell? ⟨w.heap.size, 0, none⟩ = some (.bool (decide (q.num < 0))) := j0.cell 0
  have b1 : w5.cell? ⟨w.heap.size, 1, none⟩ = some (.slice A1 (dig q.num.natAbs).length c1) := j0.cell 1
  have K0 := Lib.hid j0; have K1 := Lib.hid j1
  have KN1 := Lib.hid (HN1.out.old hb); have KN2 := Lib.hid (HN2.out.old hb)
  have KB := Lib.hid (HB1.out.trans (hb.mono HB1.out.size))
  have HPA := Lib.hid (IPow_int q.num A1 c1 n L w5 HL1.out.1 KN1.out HRL.out.n HLM.out.2 hn HLM.out.1)
  unfold PowRes at HPA
  have hqn := Rat.num_pow q n
  have hqd := Rat.den_pow q n
  rw [← hqn] at HPA
  have HPB := Lib.hid (fun (V : World) (hV : Below w5.heap.size w5 V) => IPow_nat q.den D1 d1 n L V HL1.out.2 (KN2.out.old hV) HRL.out.d HLM.out.2 hn HLM.out.1)
  rw [← hqd] at HPB
  clear hqn hqd j0 j1 hb hb0 HJ0 HJ1 HN1 HN2 HB1 KF HRL HLM
  generalize q ^ n = qn at *
  generalize q.num.natAbs = qa at *
  go_wp2_with fail
  refine HM.out.mono ?_
  rintro e w5' ⟨rfl, rfl⟩
  go_wp2_with fail
  refine HPA.out.mono ?_
  rintro e w6 ⟨A6, c6, rfl, l6, n6, hb6⟩
  have hal := (Below.refl w6.heap.size w6).alloc (Nat.le_refl _) (.cells #[.bool (decide (qn.num < 0)), .slice A6 (dig qn.num.natAbs).length c6] 31)
  have hb6a := hb6.trans (hal.mono hb6.size)
  have j0 := K0.out.old hb6a
  have c0 : (w6.alloc (.cells #[.bool (decide (qn.num < 0)), .slice A6 (dig qn.num.natAbs).length c6] 31)).cell? ⟨w.heap.size, 2, none⟩ = some (.slice D1 (dig q.den).length d1) := j0.cell 2
  have K1' := Lib.hid (K1.out.old hb6a)
  have KX := Lib.hid (Blk.new w6 31 #[.bool (decide (qn.num < 0)), .slice A6 (dig qn.num.natAbs).length c6])
  have KN6 := Lib.hid (n6.old hal); have KL6 := Lib.hid l6
  have KB6 := Lib.hid (KB.out.trans (hb6a.mono KB.out.size))
  have HPB' := Lib.hid (HPB.out _ hb6a)
  clear hb6 hal hb6a j0 n6 l6 b0 b1 HPA HPB K0 K1 KN1 KN2 KB
  go_wp2_with fail
  refine HPB'.out.mono ?_
  rintro e w7 ⟨A7, c7, rfl, l7, n7, hb7⟩
  have hal := (Below.refl w7.heap.size w7).alloc (Nat.le_refl _) (.cells #[.bool false, .slice A7 (dig qn.den).length c7] 31)
  have hb7a := hb7.trans (hal.mono hb7.size)
  have kx := KX.out.old hb7a
  have ky := Blk.new w7 31 #[.bool false, .slice A7 (dig qn.den).length c7]
  have ko := K1'.out.old hb7a
  generalize hW7 : w7.alloc (.cells #[.bool false, .slice A7 (dig qn.den).length c7] 31) = W7 at *
  have d0 : W7.cell? ⟨w6.heap.size, 0, none⟩ = some (.bool (decide (qn.num < 0))) := kx.cell 0
  have d1' : W7.cell? ⟨w6.heap.size, 1, none⟩ = some (.slice A6 (dig qn.num.natAbs).length c6) := kx.cell 1
  have d2 : W7.cell? ⟨w7.heap.size, 1, none⟩ = some (.slice A7 (dig qn.den).length c7) := ky.cell 1
  have u0 : W7.cell? ⟨w.heap.size + 1, 0, none⟩ = some (.bool false) := ko.cell 0
  have u1 : W7.cell? ⟨w.heap.size + 1, 1, none⟩ = some (.slice none 0 0) := ko.cell 1
  have u2 : W7.cell? ⟨w.heap.size + 1, 2, none⟩ = some (.slice none 0 0) := ko.cell 2
  have f0 := ko.frozen 0; have f1 := ko.frozen 1; have f2 := ko.frozen 2; have z0 := ko.lt
  have HF := Lib.hid (RatFin (q := qn) (w := w) (w2 := W7) (g := w.heap.size + 1) (A := A6) (D := A7) (c := c6) (cd := c7) ko (Nat.le_succ _) KL6.out l7 (KN6.out.old hb7a) (n7.old hal) (KB6.out.trans (hb7a.mono KB6.out.size)))
  clear hal hb7 hb7a kx ky ko l7 n7 c0 K1' KX KN6 KL6 KB6 HPB'
  go_wp2_with fail
  obtain ⟨A8, c8, D8, d8, e8, l8, m8, n8, p8, b8⟩ := HF.out.2
  injection e8 with e8
  exact ret_blkT Tryz.results54 rfl rfl HF.out.1 Tryz.underlying33 rfl Tryz.sizeRat ⟨A8, c8, D8, d8, by rw [e8]; rfl, l8, m8, n8, p8, b8⟩
end Go.Proofs.YtpbapoanjkekmaaGreat
