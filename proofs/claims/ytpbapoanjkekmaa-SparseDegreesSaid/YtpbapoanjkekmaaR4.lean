/- Contract of fit: the fixed example holds. -/
import Derived.Test.YtpbapoanjkekmaaR3
import Derived.Test.YtpbapoanjkekmaaT3
namespace Go.Proofs.Ytpbapoanjkekmaa
open Go.RowKit
attribute [local go_sem ↓] Go.wp_at_zero Go.wp_at_succ

def fitL : List Tm := [(1, (0, 2, 0, 0)), (2, (1, 1, 0, 0)), (1, (2, 0, 0, 0))]
def fitX : List Tm := [(1, (1, 0, 0, 0)), (1, (0, 1, 0, 0))]
theorem fit_can : Canon fitL := by
  refine ⟨by decide, by decide, ?_⟩
  unfold fitL
  simp [ltM]
theorem fit_cf (m : Mo) : cf fitL m = mulC fitX fitX m := by
  unfold cf mulC mulW fitL fitX
  simp only [lin, addM]
  by_cases h1 : ((0, 2, 0, 0) : Mo) = m
  · subst h1; decide
  · by_cases h2 : ((1, 1, 0, 0) : Mo) = m
    · subst h2; decide
    · by_cases h3 : ((2, 0, 0, 0) : Mo) = m
      · subst h3; decide
      · simp [h1, h2, h3]
theorem fit_lv : lvL fitL = 2 := by decide
theorem fit_sum (m : Mo) : cf [(1, (1, 0, 0, 0))] m + cf [(1, (0, 1, 0, 0))] m = cf fitX m := by
  rw [show fitX = [(1, (1, 0, 0, 0))] ++ [(1, (0, 1, 0, 0))] from rfl, cf_append]
theorem fit_qs {qs : List PT} (h : qs.map PT.tm = fitL) : ∃ q0 q1 q2, qs = [q0, q1, q2] ∧ q0.m = (0, 2, 0, 0) ∧ q1.m = (1, 1, 0, 0) ∧ q2.m = (2, 0, 0, 0) ∧ q1.tm.1 = 2 := by
  unfold fitL at h
  rcases qs with _ | ⟨q0, _ | ⟨q1, _ | ⟨q2, _ | ⟨q3, l⟩⟩⟩⟩
  · simp at h
  · simp at h
  · simp at h
  · simp [PT.tm] at h
    exact ⟨q0, q1, q2, rfl, h.1.2, h.2.1.2, h.2.2.2, h.2.1.1⟩
  · simp at h

set_option maxHeartbeats 4000000 in
set_option maxRecDepth 100000 in
theorem fit_any (w : World) : Calls Try.prog 9 #[] w fun e w' => e = .returned (.bool true) ∧ Below w.heap.size w w' := by
  have HV1 := Lib.hid (Var_1 w); have HV2 := Lib.hid (fun W => Var_2 W)
  go_enter Try.func9, Try.ntmps9
  go_wp2_with fail
  refine HV1.out.mono ?_
  rintro e w1 ⟨A1, c1, p1, rfl, hg1, hb1⟩
  have HG1 := Lib.hid hg1; clear hg1
  go_wp2_with fail
  refine (HV2.out _).mono ?_
  rintro e w2 ⟨A2, c2, p2, rfl, hg2, hb2⟩
  have i1 := (HG1.out.pin (by omega) (pw_one (k := 600) (by decide))).old hb2
  have i2 := hg2.pin (by omega) (pw_one (k := 600) (by decide))
  have h3 : 1 + 1 < Big := Nat.lt_of_le_of_lt (by decide : 1 + 1 ≤ pw 1) (pw_lt (show 1 < 600 by decide))
  have HA := Lib.hid (SAdd_any A1 A2 c1 c2 w2.heap.size 1 1 1 1 1 p1 p2 w2 (Nat.le_refl _) i1 i2 (by omega) h3)
  have HG2 := Lib.hid hg2
  clear hg2 i1 i2
  go_wp2_with fail
  refine HA.out.mono ?_
  rintro e w3 ⟨A3, c3, p3, rfl, hg3, hb3⟩
  have i3 := hg3.pin (by omega) h3
  have h4 : 1 + 1 < pw 47 := Nat.lt_of_le_of_lt (by decide : 1 + 1 ≤ pw 1) (pw_lt (show 1 < 47 by decide))
  have h5 : (1 + 1) * (1 + 1) < Big := Nat.lt_of_le_of_lt (by decide : (1 + 1) * (1 + 1) ≤ pw 1) (pw_lt (show 1 < 600 by decide))
  have HPW := Lib.hid (Pow_two A3 c3 w3.heap.size (1 + 1) 1 (1 + 1) p3 w3 (Nat.le_refl _) i3 (by omega) (by omega) (by omega) h4 h5)
  have HF3 := Lib.hid (fun m => show cf (p3.map PT.tm) m = cf fitX m by rw [hg3.cf, HG1.out.cf, HG2.out.cf, fit_sum])
  clear hg3 i3 HA HV1 HV2
  go_wp2_with fail
  refine HPW.out.mono ?_
  rintro e w4 ⟨A4, c4, p4, rfl, hg4, hb4⟩
  have hbw : Below w.heap.size w w4 := ((hb1.trans (hb2.mono hb1.size)).trans (hb3.mono (Nat.le_trans hb1.size hb2.size))).trans (hb4.mono (Nat.le_trans (Nat.le_trans hb1.size hb2.size) hb3.size))
  have hq : p4.map PT.tm = fitL := hg4.can.unique fit_can fun m => by rw [hg4.cf, fit_cf]; exact mulC_ext HF3.out HF3.out m
  have i4 := hg4.pin (by omega) h5
  obtain ⟨q0, q1, q2, rfl, e0, e1, e2, e3⟩ := fit_qs hq
  obtain ⟨b, o, hA, hbb, a0, a1, a2, a3, a4, a5⟩ := i4.pin.at_ (k := 0) (p := q0) rfl
  obtain ⟨b', o', hA', _, b0, b1, b2, b3, b4, b5⟩ := i4.pin.at_ (k := 1) (p := q1) rfl
  obtain ⟨b'', o'', hA'', _, f0, f1, f2, f3, f4, f5⟩ := i4.pin.at_ (k := 2) (p := q2) rfl
  subst hA
  injection hA' with hA'
  injection hA' with x1 x2
  subst x1; subst x2
  injection hA'' with hA''
  injection hA'' with x1 x2
  subst x1; subst x2
  rw [e0] at a2 a3 a4 a5
  rw [e1] at b2 b3 b4 b5
  rw [e2] at f2 f3 f4 f5
  have n1 := i4.pin.nt q1 (by simp)
  have l1 := i4.dl q1 (by simp)
  have HLV := Lib.hid (fun (W : World) (hW : Below w4.heap.size w4 W) => Level_any (some ⟨b, o, none⟩) c4 w4.heap.size ((1 + 1) * (1 + 1)) (1 + 1) ((1 + 1) * (1 + 1)) [q0, q1, q2] W hW.size (i4.below hW) (by omega) h5)
  have HSM := Lib.hid (fun (W : World) (A' : Option Addr) (c' : Nat) (hW : Below w4.heap.size w4 W) (hb : NatB W A' (dig (Int.natAbs 2))) (hc : (dig (Int.natAbs 2)).length ≤ c') => Same_any q1.ng (decide ((2 : Int) < 0)) q1.A A' q1.c c' W.heap.size q1.ds (dig (Int.natAbs 2)) W (Nat.le_refl _) ((n1.below hW).more hW.size) (natB_nin hb hc) (by omega) (Nat.le_trans (dig_len_pw (k := 1) (show Int.natAbs 2 < pw 1 by decide)) (by omega)))
  have hval : decide (ival q1.ng q1.ds = ival (decide ((2 : Int) < 0)) (dig (Int.natAbs 2))) = true := by rw [ival_dig]; exact decide_eq_true e3
  rw [hval] at HSM
  have ho := fun (W : World) => IOf_any 2 (by omega) (by omega) W
  unfold IntRes at ho
  have w0 : WfM (0, 2, 0, 0) := by unfold WfM WfI; simp
  have w1' : WfM (1, 1, 0, 0) := by unfold WfM WfI; simp
  have w2' : WfM (2, 0, 0, 0) := by unfold WfM WfI; simp
  have q0' := fun W => Try.eq_mono (0, 2, 0, 0) (0, 2, 0, 0) w0 w0 W
  have q1' := fun W => Try.eq_mono (1, 1, 0, 0) (1, 1, 0, 0) w1' w1' W
  have q2' := fun W => Try.eq_mono (2, 0, 0, 0) (2, 0, 0, 0) w2' w2' W
  simp only [moV, decide_true] at q0' q1' q2'
  generalize dig (Int.natAbs 2) = d2 at *
  generalize decide ((2 : Int) < 0) = n2 at *
  have HO := Lib.hid ho
  have HQ := Lib.hid hq
  clear ho hval hg4 hq HPW e0 e1 e2 e3 n1 l1 i4
  simp only [List.length_cons, List.length_nil] at *
  have ac0 : w4.cell? ⟨b, o + 2, none⟩ = some (.int .i64 0) := a2
  have ac1 : w4.cell? ⟨b, o + 3, none⟩ = some (.int .i64 2) := a3
  have ac2 : w4.cell? ⟨b, o + 4, none⟩ = some (.int .i64 0) := a4
  have ac3 : w4.cell? ⟨b, o + 5, none⟩ = some (.int .i64 0) := a5
  have bc0 : w4.cell? ⟨b, o + 8, none⟩ = some (.int .i64 1) := b2
  have bc1 : w4.cell? ⟨b, o + 9, none⟩ = some (.int .i64 1) := b3
  have bc2 : w4.cell? ⟨b, o + 10, none⟩ = some (.int .i64 0) := b4
  have bc3 : w4.cell? ⟨b, o + 11, none⟩ = some (.int .i64 0) := b5
  have fc0 : w4.cell? ⟨b, o + 14, none⟩ = some (.int .i64 2) := f2
  have fc1 : w4.cell? ⟨b, o + 15, none⟩ = some (.int .i64 0) := f3
  have fc2 : w4.cell? ⟨b, o + 16, none⟩ = some (.int .i64 0) := f4
  have fc3 : w4.cell? ⟨b, o + 17, none⟩ = some (.int .i64 0) := f5
  have bc4 : w4.cell? ⟨b, o + 6, none⟩ = some (.bool q1.ng) := b0
  have bc5 : w4.cell? ⟨b, o + 7, none⟩ = some (.slice q1.A q1.ds.length q1.c) := b1
  clear a0 a1 a2 a3 a4 a5 b0 b1 b2 b3 b4 b5 f0 f1 f2 f3 f4 f5
  go_wp2_with fail
  have hbd : Below w4.heap.size w4 w4.drew := (Drawn.drew _).below _
  go_region_held3 (fun w' => w'.cell? ⟨b, o + 2, none⟩ = some (.int .i64 0) ∧ w'.cell? ⟨b, o + 3, none⟩ = some (.int .i64 2) ∧ w'.cell? ⟨b, o + 4, none⟩ = some (.int .i64 0) ∧ w'.cell? ⟨b, o + 5, none⟩ = some (.int .i64 0) ∧ w'.cell? ⟨b, o + 8, none⟩ = some (.int .i64 1) ∧ w'.cell? ⟨b, o + 9, none⟩ = some (.int .i64 1) ∧ w'.cell? ⟨b, o + 10, none⟩ = some (.int .i64 0) ∧ w'.cell? ⟨b, o + 11, none⟩ = some (.int .i64 0) ∧ w'.cell? ⟨b, o + 14, none⟩ = some (.int .i64 2) ∧ w'.cell? ⟨b, o + 15, none⟩ = some (.int .i64 0) ∧ w'.cell? ⟨b, o + 16, none⟩ = some (.int .i64 0) ∧ w'.cell? ⟨b, o + 17, none⟩ = some (.int .i64 0) ∧ w'.cell? ⟨b, o + 6, none⟩ = some (.bool q1.ng) ∧ w'.cell? ⟨b, o + 7, none⟩ = some (.slice q1.A q1.ds.length q1.c))
    (first | exact ⟨ac0, ac1, ac2, ac3, bc0, bc1, bc2, bc3, fc0, fc1, fc2, fc3, bc4, bc5⟩ | exact ⟨(h6.cell hbb).trans ac0, (h6.cell hbb).trans ac1, (h6.cell hbb).trans ac2, (h6.cell hbb).trans ac3, (h6.cell hbb).trans bc0, (h6.cell hbb).trans bc1, (h6.cell hbb).trans bc2, (h6.cell hbb).trans bc3, (h6.cell hbb).trans fc0, (h6.cell hbb).trans fc1, (h6.cell hbb).trans fc2, (h6.cell hbb).trans fc3, (h6.cell hbb).trans bc4, (h6.cell hbb).trans bc5⟩ | exact ⟨(h8.cell hbb).trans ac0, (h8.cell hbb).trans ac1, (h8.cell hbb).trans ac2, (h8.cell hbb).trans ac3, (h8.cell hbb).trans bc0, (h8.cell hbb).trans bc1, (h8.cell hbb).trans bc2, (h8.cell hbb).trans bc3, (h8.cell hbb).trans fc0, (h8.cell hbb).trans fc1, (h8.cell hbb).trans fc2, (h8.cell hbb).trans fc3, (h8.cell hbb).trans bc4, (h8.cell hbb).trans bc5⟩ | exact ⟨(h10.cell hbb).trans ac0, (h10.cell hbb).trans ac1, (h10.cell hbb).trans ac2, (h10.cell hbb).trans ac3, (h10.cell hbb).trans bc0, (h10.cell hbb).trans bc1, (h10.cell hbb).trans bc2, (h10.cell hbb).trans bc3, (h10.cell hbb).trans fc0, (h10.cell hbb).trans fc1, (h10.cell hbb).trans fc2, (h10.cell hbb).trans fc3, (h10.cell hbb).trans bc4, (h10.cell hbb).trans bc5⟩)
    (first | (go_at_call 34; refine (HO.out _).mono ?_; rintro e w5 ⟨A5, c5, rfl, h6a, h6b, h6c⟩; have h6 := hbd.trans h6c) | (go_at_call 17; refine (HSM.out w5 A5 c5 h6 h6b h6a).mono ?_; rintro e w6 ⟨rfl, h7⟩; have h8 := h6.trans (h7.mono h6.size)) | (go_at_call 21; refine (HLV.out _ h8).mono ?_; rintro e w7 ⟨⟨P, hP1, hP2, rfl⟩, h9⟩; have h10 := h8.trans (h9.mono h8.size)))
  have HPL := Lib.hid (show (lvL P == 2) = true by
    have hP : P = fitL := hP1.unique fit_can fun m => by rw [hP2 m]; exact congrArg (fun l => cf l m) HQ.out
    rw [hP, fit_lv]; rfl)
  clear hP2
  go_wp2_with fail
  go_ret
  exact ⟨by rw [← HPL.out]; rfl, hbw.trans (h10.mono hbw.size)⟩
end Go.Proofs.Ytpbapoanjkekmaa
