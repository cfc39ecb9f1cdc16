/- The walk of SparseCompare. -/
import Derived.IntWalk
import Derived.Test.YtpbapoanjkekmaaR6
import Derived.Test.YtpbapoanjkekmaaL4
namespace Go.Proofs.Ytpbapoanjkekmaa
open Go.RowKit
attribute [local go_sem ↓] Go.wp_at_zero Go.wp_at_succ

def twoM (a b : Mo) : Array Value := #[.int .i64 a.1, .int .i64 a.2.1, .int .i64 a.2.2.1, .int .i64 a.2.2.2, .int .i64 b.1, .int .i64 b.2.1, .int .i64 b.2.2.1, .int .i64 b.2.2.2]

set_option maxHeartbeats 8000000 in
set_option maxRecDepth 100000 in
theorem Compare_law (A0 A1 : Option Addr) (c0 c1 : Nat) (ps qs : List PT) (a b : Mo) (w : World) (h0 : PolyIn w w.heap.size A0 ps) (h1 : PolyIn w w.heap.size A1 qs)
    (v0 : ∀ p ∈ ps, WfM p.m) (v1 : ∀ p ∈ qs, WfM p.m) (va : WfM a) (vb : WfM b) :
    Calls Try.prog 5 #[.slice A0 ps.length c0, .slice A1 qs.length c1, .agg (twoM a b)] w (TrueRes w) := by
  have HFT := Lib.hid (fun W => fit_any W)
  have H0 := Lib.hid h0; have H1 := Lib.hid h1
  have V0 := Lib.hid v0; have V1 := Lib.hid v1
  have HE := Lib.hid (fun W => Try.eq_mono a b va vb W)
  have HC1 := Lib.hid (fun W => CMono_any a b W)
  have HC2 := Lib.hid (fun W => CMono_any b a W)
  have HR1 := Lib.hid (fun W => RC_any a b W)
  have hkm := cmpM_bd a b
  have hk0 : decide (a = b) = (cmpM a b == 0) := by rw [Bool.eq_iff_iff, decide_eq_true_eq, beq_iff_eq]; exact cmpM_zero.symm
  rw [hk0] at HE
  rw [cmpM_neg a b] at HC2
  have HX := Lib.hid (Blk.new w 51 (twoM a b))
  have hbx := (Below.refl w.heap.size w).alloc (Nat.le_refl _) (.cells (twoM a b) 51)
  have HBX := Lib.hid hbx
  clear h0 h1 v0 v1 va vb hbx hk0
  generalize cmpM a b = km at *
  unfold moV at HE HC1 HC2 HR1
  unfold twoM at *
  generalize a.1 = p0 at *
  generalize a.2.1 = p1 at *
  generalize a.2.2.1 = p2 at *
  generalize a.2.2.2 = p3 at *
  generalize b.1 = q0 at *
  generalize b.2.1 = q1 at *
  generalize b.2.2.1 = q2 at *
  generalize b.2.2.2 = q3 at *
  go_enter Try.func5, Try.ntmps5
  go_wp2_with fail
  refine (HFT.out _).mono ?_
  rintro e w1 ⟨rfl, hb1'⟩
  have hb1 := HBX.out.trans (hb1'.mono HBX.out.size)
  have kx1 := HX.out.old hb1'
  have HF0 := Lib.hid (few_any A0 c0 w.heap.size ps w1 (H0.out.below hb1))
  have HF1 := Lib.hid (few_any A1 c1 w.heap.size qs w1 (H1.out.below hb1))
  clear HFT hb1' HX HBX
  go_wp2_with fail
  refine HF0.out.mono ?_
  rintro e w1' ⟨b0, rfl, hf0, rfl⟩
  cases b0 with
  | false =>
    clear hf0
    go_wp2_with fail
    go_ret
    exact ⟨rfl, hb1⟩
  | true =>
    have F0 := Lib.hid (hf0 rfl)
    clear hf0
    go_wp2_with fail
    refine HF1.out.mono ?_
    rintro e w1' ⟨b1, rfl, hf1, rfl⟩
    cases b1 with
    | false =>
      clear hf1
      go_wp2_with fail
      go_ret
      exact ⟨rfl, hb1⟩
    | true =>
      have I0 := Lib.hid ((few_pin H0.out V0.out F0.out (by omega) (by omega)).below hb1)
      have I1 := Lib.hid ((few_pin H1.out V1.out (hf1 rfl) (by omega) (by omega)).below hb1)
      clear hf1 HF0 HF1 H0 H1 F0 V0 V1
      have hB := hb1.size
      have g1 : pw (6 + 1) < Big := pw_lt (by decide)
      have HC := Lib.hid (Compare_any A0 A1 c0 c1 w.heap.size 8 8 9 9 (pw (6 + 1)) (pw (6 + 1)) ps qs w1 hB I0.out I1.out (by omega) (by omega) g1 g1 (by omega) (by omega))
      go_wp2_with fail
      refine HC.out.mono ?_
      rintro e w2 ⟨P, Q, hP, hQ, hPF, hQF, rfl, hb2⟩
      have HP := Lib.hid hP; have HQ := Lib.hid hQ; have HPF := Lib.hid hPF; have HQF := Lib.hid hQF
      have hbd := cmpL_bd P Q
      clear hP hQ hPF hQF HC
      have HN1 := Lib.hid (Normal_poly A0 c0 w.heap.size 8 9 (pw (6 + 1)) ps w2 (Nat.le_trans hB hb2.size) (I0.out.below (hb2.mono hB)) (by omega) g1)
      generalize hcc : cmpL P Q = cc at *
      have HCC := Lib.hid hcc
      clear hcc
      go_wp2_with fail
      refine HN1.out.mono ?_
      rintro e w3 ⟨A3, c3, n3, rfl, hg3, hb3⟩
      have k3 := hb2.trans (hb3.mono hb2.size)
      have HN2 := Lib.hid (Normal_poly A1 c1 w.heap.size 8 9 (pw (6 + 1)) qs w3 (Nat.le_trans hB k3.size) (I1.out.below (k3.mono hB)) (by omega) g1)
      have HG3 := Lib.hid hg3
      clear hg3 HN1
      go_wp2_with fail
      refine HN2.out.mono ?_
      rintro e w4 ⟨A4, c4, n4, rfl, hg4, hb4⟩
      have k4 := k3.trans (hb4.mono k3.size)
      have i3 := (HG3.out.pin (by omega) g1).old hb4
      have i4 := hg4.pin (by omega) g1
      have hRC := RCmp_any A3 A4 c3 c4 w4.heap.size n3 n4 w4 (Nat.le_refl _) i3.pin i4.pin i3.dl i4.dl (by have := i3.len; omega)
      have hec : cmpL (n3.map PT.tm) (n4.map PT.tm) = cc := by
        rw [← HCC.out, HP.out.unique HG3.out.can fun m => (HPF.out m).trans (HG3.out.cf m).symm, HQ.out.unique hg4.can fun m => (HQF.out m).trans (hg4.cf m).symm]
      rw [hec] at hRC
      have HRC := Lib.hid hRC
      clear hg4 i3 i4 hRC hec HN2 HG3
      go_wp2_with fail
      refine HRC.out.mono ?_
      rintro e w5 ⟨rfl, hb5⟩
      have k5 := k4.trans (hb5.mono k4.size)
      have HC2' := Lib.hid (Compare_any A1 A0 c1 c0 w.heap.size 8 8 9 9 (pw (6 + 1)) (pw (6 + 1)) qs ps w5 (Nat.le_trans hB k5.size) (I1.out.below (k5.mono hB)) (I0.out.below (k5.mono hB)) (by omega) (by omega) g1 g1 (by omega) (by omega))
      clear HRC hb2 hb3 hb4 hb5 k3 k4
      obtain ⟨hbd1, hbd2⟩ := hbd
      have hwn : IntKind.i64.wrap (-cc) = -cc := IntWalk.i64_in _ (by omega)
      go_wp2_with fail
      refine HC2'.out.mono ?_
      rintro e w6 ⟨Q', P', hQ', hP', hQF', hPF', rfl, hb6⟩
      have hec : cmpL Q' P' = -cc := by
        rw [cmpL_neg P' Q', ← HCC.out, hP'.unique HP.out fun m => (hPF' m).trans (HPF.out m).symm, hQ'.unique HQ.out fun m => (hQF' m).trans (HQF.out m).symm]
      rw [hec]
      have k6 := k5.trans (hb6.mono k5.size)
      clear hec hQ' hP' hQF' hPF' hb6 k5
      have hSS := SSame_any A0 A1 c0 c1 w.heap.size 8 8 9 9 (pw (6 + 1)) (pw (6 + 1)) ps qs w6 (Nat.le_trans hB k6.size) (I0.out.below (k6.mono hB)) (I1.out.below (k6.mono hB)) (by omega) (by omega) g1 g1 (by omega) (by omega)
      have HSS := Lib.hid hSS
      clear hSS
      have hcb : ∀ b : Bool, (b = true ↔ ∀ m, cf (ps.map PT.tm) m = cf (qs.map PT.tm) m) → b = (cc == 0) := fun b hb => by
        rw [Bool.eq_iff_iff, hb, beq_iff_eq, ← HCC.out, cmpL_zero]
        exact ⟨fun hh => HP.out.unique HQ.out fun m => (HPF.out m).trans ((hh m).trans (HQF.out m).symm), fun hh m => by rw [← HPF.out, ← HQF.out, hh]⟩
      have HCB := Lib.hid hcb
      clear hcb
      go_wp2_with fail
      refine HSS.out.mono ?_
      rintro e w7 ⟨bs, hbs, rfl, hb7⟩
      obtain rfl := HCB.out bs hbs
      have k7 := k6.trans (hb7.mono k6.size)
      have kx7 := kx1.old k7
      clear HSS HCB hbs hb7 k6 kx1
      have x0 : w7.cell? ⟨w.heap.size, 0, none⟩ = some (.int .i64 p0) := kx7.cell 0
      have x1 : w7.cell? ⟨w.heap.size, 1, none⟩ = some (.int .i64 p1) := kx7.cell 1
      have x2 : w7.cell? ⟨w.heap.size, 2, none⟩ = some (.int .i64 p2) := kx7.cell 2
      have x3 : w7.cell? ⟨w.heap.size, 3, none⟩ = some (.int .i64 p3) := kx7.cell 3
      have x4 : w7.cell? ⟨w.heap.size, 4, none⟩ = some (.int .i64 q0) := kx7.cell 4
      have x5 : w7.cell? ⟨w.heap.size, 5, none⟩ = some (.int .i64 q1) := kx7.cell 5
      have x6 : w7.cell? ⟨w.heap.size, 6, none⟩ = some (.int .i64 q2) := kx7.cell 6
      have x7 : w7.cell? ⟨w.heap.size, 7, none⟩ = some (.int .i64 q3) := kx7.cell 7
      clear hbd1 hbd2 hwn
      go_wp2_with fail
      refine (HC1.out _).mono ?_
      rintro e w8 ⟨rfl, hl8⟩
      have k8 := k7.trans (hl8.below.mono k7.size)
      have kx8 := kx7.old hl8.below
      clear x0 x1 x2 x3 x4 x5 x6 x7 hl8 k7 kx7 HC1
      have x0 : w8.cell? ⟨w.heap.size, 0, none⟩ = some (.int .i64 p0) := kx8.cell 0
      have x1 : w8.cell? ⟨w.heap.size, 1, none⟩ = some (.int .i64 p1) := kx8.cell 1
      have x2 : w8.cell? ⟨w.heap.size, 2, none⟩ = some (.int .i64 p2) := kx8.cell 2
      have x3 : w8.cell? ⟨w.heap.size, 3, none⟩ = some (.int .i64 p3) := kx8.cell 3
      have x4 : w8.cell? ⟨w.heap.size, 4, none⟩ = some (.int .i64 q0) := kx8.cell 4
      have x5 : w8.cell? ⟨w.heap.size, 5, none⟩ = some (.int .i64 q1) := kx8.cell 5
      have x6 : w8.cell? ⟨w.heap.size, 6, none⟩ = some (.int .i64 q2) := kx8.cell 6
      have x7 : w8.cell? ⟨w.heap.size, 7, none⟩ = some (.int .i64 q3) := kx8.cell 7
      go_wp2_with fail
      refine (HR1.out _).mono ?_
      rintro e w9 ⟨rfl, hl9⟩
      have k9 := k8.trans (hl9.below.mono k8.size)
      have kx9 := kx8.old hl9.below
      clear x0 x1 x2 x3 x4 x5 x6 x7 hl9 k8 kx8 HR1
      have x0 : w9.cell? ⟨w.heap.size, 0, none⟩ = some (.int .i64 p0) := kx9.cell 0
      have x1 : w9.cell? ⟨w.heap.size, 1, none⟩ = some (.int .i64 p1) := kx9.cell 1
      have x2 : w9.cell? ⟨w.heap.size, 2, none⟩ = some (.int .i64 p2) := kx9.cell 2
      have x3 : w9.cell? ⟨w.heap.size, 3, none⟩ = some (.int .i64 p3) := kx9.cell 3
      have x4 : w9.cell? ⟨w.heap.size, 4, none⟩ = some (.int .i64 q0) := kx9.cell 4
      have x5 : w9.cell? ⟨w.heap.size, 5, none⟩ = some (.int .i64 q1) := kx9.cell 5
      have x6 : w9.cell? ⟨w.heap.size, 6, none⟩ = some (.int .i64 q2) := kx9.cell 6
      have x7 : w9.cell? ⟨w.heap.size, 7, none⟩ = some (.int .i64 q3) := kx9.cell 7
      obtain ⟨hm1, hm2⟩ := hkm
      have hwn : IntKind.i64.wrap (-km) = -km := IntWalk.i64_in _ (by omega)
      go_wp2_with fail
      refine (HC2.out _).mono ?_
      rintro e w10 ⟨rfl, hl10⟩
      have k10 := k9.trans (hl10.below.mono k9.size)
      have kx10 := kx9.old hl10.below
      clear x0 x1 x2 x3 x4 x5 x6 x7 hl10 k9 kx9 HC2
      have x0 : w10.cell? ⟨w.heap.size, 0, none⟩ = some (.int .i64 p0) := kx10.cell 0
      have x1 : w10.cell? ⟨w.heap.size, 1, none⟩ = some (.int .i64 p1) := kx10.cell 1
      have x2 : w10.cell? ⟨w.heap.size, 2, none⟩ = some (.int .i64 p2) := kx10.cell 2
      have x3 : w10.cell? ⟨w.heap.size, 3, none⟩ = some (.int .i64 p3) := kx10.cell 3
      have x4 : w10.cell? ⟨w.heap.size, 4, none⟩ = some (.int .i64 q0) := kx10.cell 4
      have x5 : w10.cell? ⟨w.heap.size, 5, none⟩ = some (.int .i64 q1) := kx10.cell 5
      have x6 : w10.cell? ⟨w.heap.size, 6, none⟩ = some (.int .i64 q2) := kx10.cell 6
      have x7 : w10.cell? ⟨w.heap.size, 7, none⟩ = some (.int .i64 q3) := kx10.cell 7
      have he := HE.out
      have HNG := Lib.hid (SNeg_any A0 c0 w.heap.size 8 9 (pw (6 + 1)) ps w10 (Nat.le_trans hB k10.size) (I0.out.below (k10.mono hB)) (by omega) g1)
      go_wp2_with fail
      refine HNG.out.mono ?_
      rintro e w11 ⟨A11, c11, n11, rfl, hg11, hb11⟩
      have k11 := k10.trans (hb11.mono k10.size)
      have HCX := Lib.hid (Compare_any A11 A0 c11 c0 w11.heap.size 8 8 9 9 (pw (6 + 1)) (pw (6 + 1)) n11 ps w11 (Nat.le_refl _) (hg11.pin (by omega) g1) ((I0.out.below (k11.mono hB)).more (Nat.le_trans hB k11.size)) (by omega) (by omega) g1 g1 (by omega) (by omega))
      have HGF := Lib.hid hg11.cf
      clear x0 x1 x2 x3 x4 x5 x6 x7 hg11 kx10 he HE HNG
      go_wp2_with fail
      refine HCX.out.mono ?_
      rintro e w12 ⟨N', P', hN', hP', hNF', hPF', rfl, hb12⟩
      have hop := cmpL_opp hP' hN' fun m => by rw [hNF', HGF.out, hPF']
      rw [hop]
      have HPP := Lib.hid hP'; have HPF2 := Lib.hid hPF'
      have k12 := k11.trans (hb12.mono k11.size)
      have HSG := Lib.hid (sign_any A0 c0 w.heap.size 8 9 (pw (6 + 1)) ps w12 (Nat.le_trans hB k12.size) (I0.out.below (k12.mono hB)) (by omega) g1)
      clear hop hN' hP' hNF' hPF' HCX
      generalize hsg : sgL P' = sg at *
      have HSE := Lib.hid hsg
      clear hsg
      go_wp2_with fail
      refine HSG.out.mono ?_
      rintro e w13 ⟨P2, hP2, hPF2, rfl, hb13⟩
      have hes : sgL P2 = sg := by rw [← HSE.out, hP2.unique HPP.out fun m => (hPF2 m).trans (HPF2.out m).symm]
      have hsb := sgL_bd P2
      rw [hes] at hsb ⊢
      obtain ⟨hs1, hs2⟩ := hsb
      have hws : IntKind.i64.wrap (-sg) = -sg := IntWalk.i64_in _ (by omega)
      have k13 := k12.trans (hb13.mono k12.size)
      clear hes hP2 hPF2
      go_wp2_with fail
      go_ret
      exact ⟨rfl, hb1.trans (k13.mono hB)⟩
end Go.Proofs.Ytpbapoanjkekmaa
