/- The walk of SparseSubstitute. -/
import Derived.IntWalk
import Derived.RegionTactic
import Derived.Deep.RegionHeld3
import Derived.Test.YtpbapoanjkekmaaGreatQG
import Derived.Test.YtpbapoanjkekmaaGreatQC
namespace Go.Proofs.YtpbapoanjkekmaaGreat
open Go.RowKit
attribute [local go_sem ↓] Go.wp_at_zero Go.wp_at_succ

theorem Var_u (i : Nat) (hi : i < 4) (w : World) : Calls Tryz.prog 26 #[.int .i64 ((i : Int) + 1)] w (PRes (cf (uL i)) 1 1 1 w) := by
  rcases four hi with rfl | rfl | rfl | rfl
  · exact Var_1 w
  · exact Var_2 w
  · exact Var_3 w
  · exact Var_4 w
theorem Eval_q {B N M E P : Nat} (A : Option Addr) (c : Nat) (r : List PT) (Av : Option Addr) (cv : Nat) (vs : List QT) (V : World) (hB : B ≤ V.heap.size) (h : PIn V B A r N (E : Int) M) (hN : N ≤ 22500) (hE : E ≤ 20) (hM : M ≤ pw 21) (hv : RatsIn V B Av vs) (hP0 : 0 < P) (hP1 : P ≤ 37) (hP : ∀ x ∈ vs, x.ds.length ≤ P ∧ x.es.length ≤ P) :
    Calls Tryz.prog 9 #[.slice A r.length c, .slice Av vs.length cv] V (RatM (evL (ptL vs) (r.map PT.tm)) V) := by
  have hPE : P * 20 ≤ 37 * 20 := Nat.mul_le_mul_right _ hP1
  exact (Eval_any A c B 22500 20 (pw 21) r Av cv vs P 22 V hB (h.bound hN (by omega) hM) hv (by omega) (pw_lt (by decide)) hP0 hP (by omega) (by rw [← pw_eq]; exact pw_lt (by decide)) (by omega) (by omega)).mono fun _ _ h => h.m
/-- a point with coordinate i set to the value of the replacement -/
theorem fill_at {pt : Nat → Rat} {y0 y1 y2 y3 z : QT} (h : Fill pt 4 y0 y1 y2 y3) (i : Nat) {j : Nat} (hj : j < 4) : ptL [put4 y0 y1 y2 y3 z i 0, put4 y0 y1 y2 y3 z i 1, put4 y0 y1 y2 y3 z i 2, put4 y0 y1 y2 y3 z i 3] j = ptAt pt i z.q j := by
  rw [ptL_four _ _ _ _ hj, pick_put _ _ _ _ _ _ hj]
  unfold ptAt
  split
  · rfl
  · exact (h j hj).2 hj
theorem fill_le {pt : Nat → Rat} {y0 y1 y2 y3 z : QT} (h : Fill pt 4 y0 y1 y2 y3) (i : Nat) (h1 : z.ds.length ≤ 37) (h2 : z.es.length ≤ 37) : ∀ x ∈ [put4 y0 y1 y2 y3 z i 0, put4 y0 y1 y2 y3 z i 1, put4 y0 y1 y2 y3 z i 2, put4 y0 y1 y2 y3 z i 3], x.ds.length ≤ 37 ∧ x.es.length ≤ 37 := by
  have k : ∀ j, j < 4 → (put4 y0 y1 y2 y3 z i j).ds.length ≤ 37 ∧ (put4 y0 y1 y2 y3 z i j).es.length ≤ 37 := fun j hj => by
    unfold put4
    split
    · exact ⟨h1, h2⟩
    · have := (h j hj).1
      omega
  intro x hx
  simp only [List.mem_cons, List.not_mem_nil, or_false] at hx
  rcases hx with rfl | rfl | rfl | rfl
  · exact k 0 (by omega)
  · exact k 1 (by omega)
  · exact k 2 (by omega)
  · exact k 3 (by omega)

set_option maxHeartbeats 8000000 in
set_option maxRecDepth 100000 in
theorem Subst_law (A0 A1 Av : Option Addr) (c0 c1 cv : Nat) (ps qs : List PT) (vs : List QT) (lv : Int) (w : World) (h0 : PolyIn w w.heap.size A0 ps) (h1 : PolyIn w w.heap.size A1 qs) (hv : RatsIn w w.heap.size Av vs) (v0 : ∀ p ∈ ps, WfM p.m) (v1 : ∀ p ∈ qs, WfM p.m) :
    Calls Tryz.prog 5 #[.slice A0 ps.length c0, .slice A1 qs.length c1, .agg #[.int .i64 lv, .slice Av vs.length cv]] w (TrueP w) := by
  have HFT := Lib.hid (fun W => fit_any W)
  have H0 := Lib.hid h0; have H1 := Lib.hid h1; have HV := Lib.hid hv
  have V0 := Lib.hid v0; have V1 := Lib.hid v1
  have HMK := fun (W : World) => Tryz.make_rat4 W
  clear h0 h1 v0 v1 hv
  generalize hvl : vs.length = vn at *
  have HVL := Lib.hid hvl
  clear hvl
  have HBX := Lib.hid ((Below.refl w.heap.size w).alloc (Nat.le_refl _) (.cells #[.int .i64 lv, .slice Av vn cv] 50))
  have HKX := Lib.hid (Blk.new w 50 #[.int .i64 lv, .slice Av vn cv])
  go_enter Tryz.func5, Tryz.ntmps5
  go_wp2_with fail
  refine (HFT.out _).mono ?_
  rintro e w1 ⟨rfl, hb1'⟩
  have hb1 := HBX.out.trans (hb1'.mono HBX.out.size)
  have KX := Lib.hid (HKX.out.old hb1')
  have HF0 := Lib.hid (Few_any A0 c0 w.heap.size 6 3 4 ps w1 (H0.out.below hb1) (by omega))
  have HF1 := Lib.hid (Few_any A1 c1 w.heap.size 5 3 4 qs w1 (H1.out.below hb1) (by omega))
  have HFV := Lib.hid (values_any Av cv w.heap.size vs w1 (HV.out.below hb1))
  rw [HVL.out] at HFV
  unfold FVRes at HFV
  clear HFT hb1' HBX HKX
  go_wp2_with fail
  refine HF0.out.mono ?_
  rintro e w1' ⟨b0, rfl, hf0, rfl⟩
  cases b0 with
  | false =>
    clear hf0
    go_wp2_with fail
    go_ret
    exact ⟨rfl, hb1⟩
  | true =>
  have F0 := Lib.hid (hf0 rfl)
  clear hf0
  go_wp2_with fail
  refine HF1.out.mono ?_
  rintro e w1' ⟨b1, rfl, hf1, rfl⟩
  cases b1 with
  | false =>
    clear hf1
    go_wp2_with fail
    go_ret
    exact ⟨rfl, hb1⟩
  | true =>
  have F1 := Lib.hid (hf1 rfl)
  clear hf1
  have kxl := KX.out.lt
  have x0 : w1.cell? ⟨w.heap.size, 0, none⟩ = some (.int .i64 lv) := KX.out.cell 0
  have x1 : w1.cell? ⟨w.heap.size, 1, none⟩ = some (.slice Av vn cv) := KX.out.cell 1
  go_wp2_with fail
  refine HFV.out.mono ?_
  rintro e w1' ⟨b2, rfl, hf2, rfl⟩
  cases b2 with
  | false =>
    clear hf2
    go_wp2_with fail
    go_ret
    exact ⟨rfl, hb1⟩
  | true =>
  have hP := (hf2 rfl).2
  have I0 := Lib.hid ((few_pin H0.out V0.out F0.out (by omega) (by omega)).below hb1)
  have I1 := Lib.hid ((few_pin H1.out V1.out F1.out (by omega) (by omega)).below hb1)
  have HRV := Lib.hid (HV.out.below hb1)
  have hB := hb1.size
  have g4 : pw (3 + 1) < Big := pw_lt (by decide)
  clear hf2 HF0 HF1 HFV H0 H1 V0 V1 F0 F1
  by_cases hlv : 1 ≤ lv ∧ lv ≤ 4
  · obtain ⟨i, rfl⟩ : ∃ i : Nat, lv = (i : Int) + 1 := ⟨(lv - 1).toNat, by omega⟩
    have hi : i < 4 := by omega
    have hpt : ∀ j, RL (ptL vs j) 2 := ptL_RL (by omega) (fun x hx => ⟨(hP x hx).1, (hP x hx).2, (HV.out.nn x hx).dg, (HV.out.nd x hx).dg⟩)
    have HSB := Lib.hid (fun (W : World) (hW : Below w1.heap.size w1 W) (A : Option Addr) (c : Nat) (r : List PT) (hr : PIn W W.heap.size A r 5 4 (pw 4)) => Subst_in A0 A c0 c W.heap.size ps r i hi W (Nat.le_refl _) ((I0.out.below (hW.mono hB)).more (Nat.le_trans hB hW.size)) hr)
    have HSB1 := Lib.hid (HSB.out w1 (Below.refl _ _) A1 c1 qs (I1.out.more hB))
    unfold PRes at HSB HSB1
    clear hlv
    go_upto_region 6 with (go_at_call 25; refine HSB1.out.mono ?_; rintro e w5 ⟨Ar, cr, rs, rfl, hgr, hb5⟩)
    have HGR := Lib.hid hgr
    have HB5 := Lib.hid hb5
    have gM : pw 21 < Big := pw_lt (by decide)
    have HRL := Lib.hid (show RL (evL (ptL vs) (rs.map PT.tm)) 400000 from (pin_RLn (P := 2) (E := 20) (Z := 22) hpt (by omega) (hgr.pin (by omega) gM) (by rw [← pw_eq]; exact pw_lt (by decide))).mono (by omega))
    have HQL := Lib.hid (show RL (evL (ptL vs) (qs.map PT.tm)) 37 from pin_RLn (P := 2) (E := 4) (Z := 5) hpt (by omega) I1.out (by rw [← pw_eq]; exact pw_lt (by decide)))
    have HEV := Lib.hid (show evL (ptL vs) (rs.map PT.tm) = evL (ptAt (ptL vs) i (evL (ptL vs) (qs.map PT.tm))) (ps.map PT.tm) by
      rw [evL_sub hi (vF_vl _) hgr.cf (ptL vs), show evL (ptL vs) (vF (qs.map PT.tm)) = evL (ptL vs) (qs.map PT.tm) from linQ_vF _ _])
    have HCA := Lib.hid (Can_any Ar cr w5.heap.size rs w5 (Nat.le_refl _) (hgr.pin (by omega) gM).pin hgr.can hgr.own.cn (by have := hgr.len; omega) (hgr.pin (by omega) gM).dl)
    have HLV := Lib.hid (fun (V : World) => show Calls Tryz.prog 21 #[.int .i64 ((i : Int) + 1)] V (fun e w' => e = .returned (.bool true) ∧ V = w') by
      have := inner_any ((i : Int) + 1) V
      rw [decide_eq_true (show 1 ≤ (i : Int) + 1 by omega), decide_eq_true (show (i : Int) + 1 ≤ 4 by omega)] at this
      exact this)
    clear hgr hb5 hpt HSB1
    go_upto_region 10 with (first
      | (go_at_call 23; refine HCA.out.mono ?_; rintro e w6 ⟨rfl, hb6⟩; have hbz := HB5.out.trans (hb6.mono HB5.out.size); have z0 : w6.cell? ⟨w.heap.size, 0, none⟩ = some (.int .i64 ((i : Int) + 1)) := (KX.out.old hbz).cell 0; have z1 := (KX.out.old hbz).lt)
      | (go_at_call 21; refine (HLV.out _).mono ?_; rintro e w6' ⟨rfl, rfl⟩))
    have HB6 := Lib.hid hbz
    have HGR6 := Lib.hid (HGR.out.old hb6)
    have HK6 := Lib.hid (fun (V : World) (hV : Below w6.heap.size w6 V) => (KX.out.old hbz).old hV)
    have HNW := Lib.hid (B4.new (w := w6))
    clear x0 x1 z0 z1 kxl hbz hb6 HCA HLV HB5 HGR
    go_upto_region 11 with (fail)
    generalize w6.alloc (.cells (cells4 qz qz qz qz) 33) = W6 at *
    go_wp2_with fail
    go_loopg [9, 44] 4 (fun gn _ ix wr => ∃ (j : Nat) (y0 y1 y2 y3 : QT), j ≤ 4 ∧ gn = 4 - j ∧ ix = .int .i64 (j : Int) ∧ B4 w6 wr w6.heap.size y0 y1 y2 y3 ∧ Fill (ptL vs) j y0 y1 y2 y3)
    case atStart => exact ⟨0, qz, qz, qz, qz, by omega, rfl, rfl, HNW.out, fun j hj => ⟨by rcases four hj with rfl | rfl | rfl | rfl <;> exact ⟨Nat.zero_le _, Nat.zero_le _⟩, fun h => by omega⟩⟩
    case round =>
      clear HNW
      obtain ⟨j, y0, y1, y2, y3, hj, hgj, rfl, hb4, hfl⟩ := hrel
      have HG := Lib.hid hgj
      clear hgj
      by_cases hj4 : j < 4
      · have hj4' : (j : Int) < 4 := by omega
        have hj0 : (0 : Int) ≤ (j : Int) := by omega
        have HB4 := Lib.hid hb4; have HFL := Lib.hid hfl
        clear hb4 hfl
        obtain ⟨q0, hq0⟩ : ∃ q0 : Rat, q0 = 0 := ⟨_, rfl⟩
        have HQ0 := Lib.hid hq0
        have HO := Lib.hid (fun (W : World) => show Calls Tryz.prog 22 #[.int .i64 0] W (RatRes q0 W) by rw [hq0]; exact ROf_any 0 (by omega) (by omega) W)
        clear hq0
        unfold RatRes at HO
        go_upto_region 15 with (go_at_call 22; refine (HO.out _).mono ?_; rintro e w7 ⟨A7, c7, D7, d7, rfl, l7, m7, n7, p7, hb7⟩; have hb4 := HB4.out.old hb7; obtain ⟨u0, u1, u2⟩ := hb4.cells hj4; have f0 := hb4.bx.frozen (j * 3); have f1 := hb4.bx.frozen (j * 3 + 1); have f2 := hb4.bx.frozen (j * 3 + 2); have z0 := hb4.bx.lt)
        have hz : QE w6 w7 (qtOf q0 A7 c7 D7 d7) := ⟨NatE.nin l7 n7, NatE.nin m7 p7⟩
        have hz1 : (qtOf q0 A7 c7 D7 d7).ds.length ≤ 2 := by
          have := (RL.zero (L := 1) (by omega)).n
          rw [← HQ0.out] at this
          exact Nat.le_trans this (by omega)
        have hz2 : (qtOf q0 A7 c7 D7 d7).es.length ≤ 2 := by
          have := (RL.zero (L := 1) (by omega)).d
          rw [← HQ0.out] at this
          exact Nat.le_trans this (by omega)
        have hbz : B4 w6 (((w7.setCell ⟨w6.heap.size, j * 3, none⟩ (.bool (decide (q0.num < 0)))).setCell ⟨w6.heap.size, j * 3 + 1, none⟩ (.slice A7 (dig q0.num.natAbs).length c7)).setCell ⟨w6.heap.size, j * 3 + 2, none⟩ (.slice D7 (dig q0.den).length d7)) w6.heap.size _ _ _ _ := hb4.put (z := qtOf q0 A7 c7 D7 d7) hj4 hz
        have bx1 : (((w7.setCell ⟨w6.heap.size, j * 3, none⟩ (.bool (decide (q0.num < 0)))).setCell ⟨w6.heap.size, j * 3 + 1, none⟩ (.slice A7 (dig q0.num.natAbs).length c7)).setCell ⟨w6.heap.size, j * 3 + 2, none⟩ (.slice D7 (dig q0.den).length d7)).cell? ⟨w.heap.size, 1, none⟩ = some (.slice Av vn cv) := (HK6.out _ hbz.bel).cell 1
        have bxl : w.heap.size < (((w7.setCell ⟨w6.heap.size, j * 3, none⟩ (.bool (decide (q0.num < 0)))).setCell ⟨w6.heap.size, j * 3 + 1, none⟩ (.slice A7 (dig q0.num.natAbs).length c7)).setCell ⟨w6.heap.size, j * 3 + 2, none⟩ (.slice D7 (dig q0.den).length d7)).heap.size := (HK6.out _ hbz.bel).lt
        by_cases hkv : j < vn
        · have hfz := HFL.out.same hz1 hz2
          obtain ⟨x, hx⟩ : ∃ x, vs[j]? = some x := ⟨_, List.getElem?_eq_getElem (by have := HVL.out; omega)⟩
          have hbV := HB6.out.trans (hbz.bel.mono HB6.out.size)
          have hri := HRV.out.below (hbV.mono hB)
          obtain ⟨ba, oa, rfl, hba, a0, a1, a2⟩ := hri.at_ hx
          have hxm := List.mem_of_getElem? hx
          have hqx : QE w6 (((w7.setCell ⟨w6.heap.size, j * 3, none⟩ (.bool (decide (q0.num < 0)))).setCell ⟨w6.heap.size, j * 3 + 1, none⟩ (.slice A7 (dig q0.num.natAbs).length c7)).setCell ⟨w6.heap.size, j * 3 + 2, none⟩ (.slice D7 (dig q0.den).length d7)) x := ⟨.inl ((hri.nn x hxm).more (Nat.le_trans hB HB6.out.size)), .inl ((hri.nd x hxm).more (Nat.le_trans hB HB6.out.size))⟩
          have hbx := hbz.put hj4 hqx
          have hfx := hfz.put (hP x hxm).1 (hP x hxm).2 (show x.q = ptL vs j by rw [ptL_some hx])
          obtain ⟨t0, t1, t2⟩ := hbz.cells hj4
          have s0 := hbz.bx.frozen (j * 3); have s1 := hbz.bx.frozen (j * 3 + 1); have s2 := hbz.bx.frozen (j * 3 + 2); have s3 := hbz.bx.lt
          have HN := Lib.hid (And.intro hbx hfx)
          have hkv' : (j : Int) < (vn : Int) := by omega
          clear hz hz1 hz2 hbz hfz hbV hri hxm hqx hbx hfx u0 u1 u2 f0 f1 f2 z0 hb4 l7 m7 n7 p7 hb7 hba hx
          generalize ((w7.setCell ⟨w6.heap.size, j * 3, none⟩ (.bool (decide (q0.num < 0)))).setCell ⟨w6.heap.size, j * 3 + 1, none⟩ (.slice A7 (dig q0.num.natAbs).length c7)).setCell ⟨w6.heap.size, j * 3 + 2, none⟩ (.slice D7 (dig q0.den).length d7) = V at *
          go_wp2_with fail
          go_roundg (4 - (j + 1))
          case rel => exact ⟨j + 1, _, _, _, _, by omega, rfl, by go_num, HN.out.1, HN.out.2⟩
          case measure => have := HG.out; omega
        · have hkv' : ¬ (j : Int) < (vn : Int) := by omega
          have hfz := HFL.out.put hz1 hz2 (show (qtOf q0 A7 c7 D7 d7).q = ptL vs j by rw [qtOf_q, ptL_none (by have := HVL.out; omega), HQ0.out])
          have HN := Lib.hid (And.intro hbz hfz)
          clear hz hz1 hz2 hbz hfz u0 u1 u2 f0 f1 f2 z0 hb4 l7 m7 n7 p7 hb7
          generalize ((w7.setCell ⟨w6.heap.size, j * 3, none⟩ (.bool (decide (q0.num < 0)))).setCell ⟨w6.heap.size, j * 3 + 1, none⟩ (.slice A7 (dig q0.num.natAbs).length c7)).setCell ⟨w6.heap.size, j * 3 + 2, none⟩ (.slice D7 (dig q0.den).length d7) = V at *
          go_wp2_with fail
          go_roundg (4 - (j + 1))
          case rel => exact ⟨j + 1, _, _, _, _, by omega, rfl, by go_num, HN.out.1, HN.out.2⟩
          case measure => have := HG.out; omega
      · obtain rfl : j = 4 := by omega
        have hj4' : ¬ (((4 : Nat) : Int) < 4) := by omega
        have hwV := HB6.out.trans (hb4.bel.mono HB6.out.size)
        have HIN := Lib.hid (fun (V : World) (hV : Below wr.heap.size wr V) => hwV.trans (hV.mono hwV.size))
        have HB4 := Lib.hid hb4; have HFL := Lib.hid hfl
        have HEQ := Lib.hid (fun (V : World) (hV : Below wr.heap.size wr V) => Eval_q (E := 4) (P := 2) A1 c1 qs Av cv vs V hV.size (((I1.out.below (hwV.mono hB)).more (Nat.le_trans hB hwV.size)).below hV) (by omega) (by omega) (pw_le (by decide)) (((HRV.out.below (hwV.mono hB)).more (Nat.le_trans hB hwV.size)).below hV) (by omega) (by omega) hP)
        rw [HVL.out] at HEQ
        unfold RatM at HEQ
        unfold rvl at HEQ
        have KF := Lib.hid (fun (V : World) (hV : Below wr.heap.size wr V) => (⟨((HK6.out wr hb4.bel).old hV).cell 0, ((HK6.out wr hb4.bel).old hV).cell 1⟩ : V.cell? ⟨w.heap.size, 0, none⟩ = some (.int .i64 ((i : Int) + 1)) ∧ V.cell? ⟨w.heap.size, 1, none⟩ = some (.slice Av vn cv)))
        have hbg : w6.heap.size ≠ w.heap.size := by have := (HK6.out w6 (Below.refl _ _)).lt; omega
        have KS := Lib.hid (fun (V : World) (hV : Below wr.heap.size wr V) (z : QT) => show (put3 V w6.heap.size i z).cell? ⟨w.heap.size, 0, none⟩ = some (.int .i64 ((i : Int) + 1)) ∧ (put3 V w6.heap.size i z).cell? ⟨w.heap.size, 1, none⟩ = some (.slice Av vn cv) by
          have hk := (HK6.out wr hb4.bel).old hV
          have hk2 := ((hk.far (p := ⟨w6.heap.size, i * 3, none⟩) (Ne.symm hbg) (.bool z.ng)).far (p := ⟨w6.heap.size, i * 3 + 1, none⟩) (Ne.symm hbg) (.slice z.A z.ds.length z.c)).far (p := ⟨w6.heap.size, i * 3 + 2, none⟩) (Ne.symm hbg) (.slice z.D z.es.length z.cd)
          exact ⟨hk2.cell 0, hk2.cell 1⟩)
        have e1 : (i : Int) + 1 - 1 = (i : Int) := by omega
        have e2 : IntKind.i64.wrap ((i : Int) + 1 - 1) = (i : Int) := by rw [e1]; exact IntWalk.i64_in _ (by omega)
        have i0 : (0 : Int) ≤ (i : Int) := by omega
        have i4 : (i : Int) < 4 := by omega
        have e3 : IntKind.i64.wrap (i : Int) = (i : Int) := IntWalk.i64_in _ (by omega)
        have e5 : (i : Int).toNat = i := Int.toNat_natCast i
        have hb : Below wr.heap.size wr wr.drew := (Drawn.drew _).below _
        have hb0 : Below wr.heap.size wr wr := Below.refl _ _
        clear hb4 hfl hwV
        generalize evL (ptL vs) (qs.map PT.tm) = ey at *
        go_upto_region 18 with (fail)
        go_cut [43] (fun _ wx => ∃ (A9 : Option Addr) (c9 : Nat) (D9 : Option Addr) (d9 : Nat) (w9 : World), Below wr.heap.size wr w9 ∧ RM w9 ey A9 c9 D9 d9 ∧ wx = put3 w9 w6.heap.size i (qtOf ey A9 c9 D9 d9))
        case first =>
          go_region_held3 (fun V => V.cell? ⟨w.heap.size, 0, none⟩ = some (.int .i64 ((i : Int) + 1)) ∧ V.cell? ⟨w.heap.size, 1, none⟩ = some (.slice Av vn cv))
            (first | (with_reducible exact KF.out _ hb) | (with_reducible exact KF.out _ hb0) | (exact KS.out _ hb (qtOf ey A9 c9 D9 d9)))
            (first | (go_at_call 9; (with_reducible refine (HEQ.out _ hb).mono ?_); rintro e w9 ⟨A9, c9, D9, d9, rfl, r9, hk⟩; replace hb := hb.trans (hk.mono hb.size); obtain ⟨u0, u1, u2⟩ := (HB4.out.old hb).cells hi; have f0 := (HB4.out.old hb).bx.frozen (i * 3); have f1 := (HB4.out.old hb).bx.frozen (i * 3 + 1); have f2 := (HB4.out.old hb).bx.frozen (i * 3 + 2); have l9 := (HB4.out.old hb).bx.lt))
          all_goals
            go_wp2_with fail
            go_meet
            exact ⟨A9, c9, D9, d9, w9, hb, r9, rfl⟩
        case rest =>
          obtain ⟨A9, c9, D9, d9, w9, hb9, r9, rfl⟩ := hcut
          have hz9 : QE w6 w9 (qtOf ey A9 c9 D9 d9) := ⟨NatE.nin r9.l1 r9.n1, NatE.nin r9.l2 r9.n2⟩
          have hbV := (HB4.out.old hb9).put hi hz9
          have hz1 : (qtOf ey A9 c9 D9 d9).ds.length ≤ 37 := HQL.out.n
          have hz2 : (qtOf ey A9 c9 D9 d9).es.length ≤ 37 := HQL.out.d
          have hle := fill_le HFL.out i hz1 hz2
          have hat := fun (j : Nat) (hj : j < 4) => fill_at (z := qtOf ey A9 c9 D9 d9) HFL.out i hj
          rw [qtOf_q] at hat
          clear hb9 r9 hz9 hz1 hz2 HB4 HFL hb hb0 KF KS HIN HEQ e1 e2 e3
          generalize put3 w9 w6.heap.size i (qtOf ey A9 c9 D9 d9) = V0 at *
          generalize put4 y0 y1 y2 y3 (qtOf ey A9 c9 D9 d9) i 0 = t0 at *
          generalize put4 y0 y1 y2 y3 (qtOf ey A9 c9 D9 d9) i 1 = t1 at *
          generalize put4 y0 y1 y2 y3 (qtOf ey A9 c9 D9 d9) i 2 = t2 at *
          generalize put4 y0 y1 y2 y3 (qtOf ey A9 c9 D9 d9) i 3 = t3 at *
          have hw0 := HB6.out.trans (hbV.bel.mono HB6.out.size)
          have HIN := Lib.hid (fun (V : World) (hV : Below V0.heap.size V0 V) => hw0.trans (hV.mono hw0.size))
          have hgr := (HGR6.out.old hbV.bel).pin (by omega) gM
          have hra := hbV.rats
          have HFN := Lib.hid (fun (V : World) (hV : Below V0.heap.size V0 V) => hb1.trans ((HIN.out V hV).mono hB))
          have R1 := Lib.hid (fun (V : World) (hV : Below V0.heap.size V0 V) => Eval_q (E := 20) (P := 2) Ar cr rs Av cv vs V hV.size (hgr.below hV) (by omega) (by omega) (Nat.le_refl _) (((HRV.out.below (hw0.mono hB)).more (Nat.le_trans hB hw0.size)).below hV) (by omega) (by omega) hP)
          have R2 := Lib.hid (fun (V : World) (hV : Below V0.heap.size V0 V) => (Eval_q (E := 4) (P := 37) A0 c0 ps (some ⟨w6.heap.size, 0, none⟩) 4 [t0, t1, t2, t3] V hV.size (((I0.out.below (hw0.mono hB)).more (Nat.le_trans hB hw0.size)).below hV) (by omega) (by omega) (pw_le (by decide)) (hra.below hV) (by omega) (Nat.le_refl _) hle).mono fun e w' h => RatM_eq (show evL (ptL [t0, t1, t2, t3]) (ps.map PT.tm) = evL (ptL vs) (rs.map PT.tm) by
            rw [HEV.out]
            exact evL_pt hat _) h)
          have R3 := Lib.hid (fun (V : World) (A : Option Addr) (c : Nat) (D : Option Addr) (d : Nat) (A' : Option Addr) (c' : Nat) (D' : Option Addr) (d' : Nat) (h : RM V (evL (ptL vs) (rs.map PT.tm)) A c D d) (h' : RM V (evL (ptL vs) (rs.map PT.tm)) A' c' D' d') => same_yes _ V A c D d A' c' D' d' h h' HRL.out)
          have R4 := Lib.hid (fun (V : World) => Var_u i hi V)
          have R5 := Lib.hid (fun (V : World) (A : Option Addr) (c : Nat) (r : List PT) (hV : Below V0.heap.size V0 V) (hg : PGood V V.heap.size (.slice A r.length c) r (cf (uL i)) 1 1 1) => HSB.out V (HIN.out V hV) A c r ((hg.pin (by omega) (pw_one (k := 600) (by decide))).bound (by omega) (by omega) (Nat.le_of_lt (pw_one (by decide)))))
          have R5' := Lib.hid (fun (V : World) (b : Nat) (A : Option Addr) (c : Nat) (r : List PT) (hV : Below V0.heap.size V0 V) (hg : PGood V b (.slice A r.length c) r (cf (uL i)) 1 1 1) => HSB.out V (HIN.out V hV) A c r ((hg.pin (by omega) (pw_one (k := 600) (by decide))).bound (by omega) (by omega) (Nat.le_of_lt (pw_one (by decide)))))
          have R6 := Lib.hid (fun (V : World) (b : Nat) (A : Option Addr) (c : Nat) (r r' : List PT) (hV : Below V0.heap.size V0 V) (hcf : ∀ m, cf (r'.map PT.tm) m = cf (uL i) m) (hg : PGood V b (.slice A r.length c) r (subC i (vF (r'.map PT.tm)) (ps.map PT.tm)) 22500 20 (pw 21)) => show Calls Tryz.prog 17 #[.slice A r.length c, .slice A0 ps.length c0] V (TrueP V) from
            (SSame_any A A0 c c0 V.heap.size 22500 6 20 4 (pw 21) (pw (3 + 1)) r ps V (Nat.le_refl _) (hg.pin (by omega) gM) ((I0.out.below ((HIN.out V hV).mono hB)).more (Nat.le_trans hB (HIN.out V hV).size)) (by omega) (by omega) gM g4 (by omega) (by omega)).mono fun e w' h => h.yes (fun m => by
              rw [hg.cf, subC_Q i (vF_vl _) (uL_vl hi) (fun m => by rw [cf_vF]; exact hcf m), subC_uL hi]))
          have KF := Lib.hid (fun (V : World) (hV : Below V0.heap.size V0 V) => (⟨((HK6.out V0 hbV.bel).old hV).cell 0, ((HK6.out V0 hbV.bel).old hV).cell 1⟩ : V.cell? ⟨w.heap.size, 0, none⟩ = some (.int .i64 ((i : Int) + 1)) ∧ V.cell? ⟨w.heap.size, 1, none⟩ = some (.slice Av vn cv)))
          rw [HVL.out] at R1
          rw [show ([t0, t1, t2, t3] : List QT).length = 4 from rfl] at R2
          unfold RatM at R1 R2
          unfold TrueP at R3 R6
          unfold rvl at R1 R2 R3
          unfold PRes at R4
          have hb : Below V0.heap.size V0 V0.drew := (Drawn.drew _).below _
          have hb0 : Below V0.heap.size V0 V0 := Below.refl _ _
          clear hgr hra hw0 hbV hle hat HEV HRL HSB HGR6 HK6 HQL R5
          generalize evL (ptL vs) (rs.map PT.tm) = q at *
          go_upto_region 19 with (fail)
          go_region_held3 (fun V => V.cell? ⟨w.heap.size, 0, none⟩ = some (.int .i64 ((i : Int) + 1)) ∧ V.cell? ⟨w.heap.size, 1, none⟩ = some (.slice Av vn cv))
            (first | (with_reducible exact KF.out _ hb) | (with_reducible exact KF.out _ hb0))
            (first
              | (go_at_call 9; (with_reducible refine (R1.out _ hb).mono ?_); rintro e w10 ⟨A10, c10, D10, d10, rfl, r10, hk⟩; replace hb := hb.trans (hk.mono hb.size))
              | (go_at_call 9; (with_reducible refine (R2.out _ hb).mono ?_); rintro e w11 ⟨A11, c11, D11, d11, rfl, r11, hk⟩; replace hb := hb.trans (hk.mono hb.size); replace r10 := RM.old r10 hk)
              | (go_at_call 10; (with_reducible refine (R3.out _ _ _ _ _ _ _ _ _ r10 r11).mono ?_); rintro e w12 ⟨rfl, hk⟩; replace hb := hb.trans (hk.mono hb.size); clear r10 r11)
              | (go_at_call 26; (with_reducible refine (R4.out _).mono ?_); rintro e w13 ⟨A13, c13, p13, rfl, g13, hk⟩; replace hb := hb.trans (hk.mono hb.size))
              | (go_at_call 25; (with_reducible refine (R5'.out _ _ _ _ _ hb g13).mono ?_); rintro e w14 ⟨A14, c14, p14, rfl, g14, hk⟩; replace hb := hb.trans (hk.mono hb.size); have hc13 := Lib.hid g13.cf; clear g13)
              | (go_at_call 17; (with_reducible refine (R6.out _ _ _ _ _ _ hb hc13.out g14).mono ?_); rintro e w15 ⟨rfl, hk⟩; replace hb := hb.trans (hk.mono hb.size); clear g14))
          have HF := Lib.hid (HFN.out _ hb)
          go_wp2_with fail
          go_ret
          exact ⟨rfl, HF.out⟩
  · have HSB1 := Lib.hid (Subst_out A0 A1 c0 c1 w1.heap.size 6 4 (pw (3 + 1)) ps qs.length lv hlv w1 (Nat.le_refl _) (I0.out.more hB) (by omega) g4)
    unfold PRes at HSB1
    have HLV := Lib.hid (fun (V : World) => show Calls Tryz.prog 21 #[.int .i64 lv] V (fun e w' => e = .returned (.bool false) ∧ V = w') by
      have := inner_any lv V
      rw [show (decide (1 ≤ lv) && decide (lv ≤ 4)) = false by
        rcases (by omega : ¬ (1 ≤ lv) ∨ ¬ (lv ≤ 4)) with h | h <;> simp [h]] at this
      exact this)
    clear hlv
    go_upto_region 6 with (go_at_call 25; refine HSB1.out.mono ?_; rintro e w5 ⟨Ar, cr, rs, rfl, hgr, hb5⟩)
    have hpi := hgr.pin (by omega) g4
    have HCA := Lib.hid (Can_any Ar cr w5.heap.size rs w5 (Nat.le_refl _) hpi.pin hgr.can hgr.own.cn (by have := hgr.len; omega) hpi.dl)
    have HSS := Lib.hid (fun (V : World) (hV : Below w5.heap.size w5 V) => (SSame_any Ar A0 cr c0 w5.heap.size 6 6 4 4 (pw (3 + 1)) (pw (3 + 1)) rs ps V hV.size (hpi.below hV) (((I0.out.below (hb5.mono hB)).more (Nat.le_trans hB hb5.size)).below hV) (by omega) (by omega) g4 g4 (by omega) (by omega)).mono fun e w' h => h.yes hgr.cf)
    have HKV := Lib.hid (fun (V : World) (hV : Below w5.heap.size w5 V) => (KX.out.old hb5).old hV)
    have HFN := Lib.hid (fun (V : World) (hV : Below w5.heap.size w5 V) => hb1.trans ((hb5.trans (hV.mono hb5.size)).mono hB))
    clear hgr hb5 hpi HSB1 x0 x1 kxl
    go_wp2_with (first
      | (go_at_call 23; refine HCA.out.mono ?_; rintro e w6 ⟨rfl, hb6⟩; have z0 : w6.cell? ⟨w.heap.size, 0, none⟩ = some (.int .i64 lv) := (HKV.out _ hb6).cell 0; have z1 := (HKV.out _ hb6).lt)
      | (go_at_call 21; refine (HLV.out _).mono ?_; rintro e w6' ⟨rfl, rfl⟩)
      | (go_at_call 17; refine (HSS.out _ hb6).mono ?_; rintro e w7 ⟨rfl, hb7⟩))
    have HF := Lib.hid (HFN.out _ (hb6.trans (hb7.mono hb6.size)))
    go_ret
    exact ⟨rfl, HF.out⟩
end Go.Proofs.YtpbapoanjkekmaaGreat
