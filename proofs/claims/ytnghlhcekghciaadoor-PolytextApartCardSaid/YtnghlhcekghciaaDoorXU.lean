/- PolytextApart: the walk. -/
import Derived.Test.YtnghlhcekghciaaDoorXQ
import Derived.Test.YtnghlhcekghciaaDoorXM
import Derived.Test.YtnghlhcekghciaaDoorZT
namespace Go.Proofs.YtnghlhcekghciaaDoor
open Go.RowKit

theorem vld_nn {m : Mo} (h : vld m = true) : ∀ j, j < 4 → 0 ≤ gt m j := fun j hj => by
  unfold vld at h
  simp only [Bool.and_eq_true, decide_eq_true_eq] at h
  rcases (by omega : j = 0 ∨ j = 1 ∨ j = 2 ∨ j = 3) with rfl | rfl | rfl | rfl <;> simp only [gt] <;> omega
theorem xyzw_letters : Letters xyzw (fun j => if j = 0 then 120 else if j = 1 then 121 else if j = 2 then 122 else 119) where
  nm := fun j hj => by
    rcases (by omega : j = 0 ∨ j = 1 ∨ j = 2 ∨ j = 3) with rfl | rfl | rfl | rfl <;> rfl
  ne := fun i j hi hj hne => by
    rcases (by omega : i = 0 ∨ i = 1 ∨ i = 2 ∨ i = 3) with rfl | rfl | rfl | rfl <;> rcases (by omega : j = 0 ∨ j = 1 ∨ j = 2 ∨ j = 3) with rfl | rfl | rfl | rfl <;> first | exact absurd rfl hne | decide
  big := fun j hj => by
    rcases (by omega : j = 0 ∨ j = 1 ∨ j = 2 ∨ j = 3) with rfl | rfl | rfl | rfl <;> decide
theorem canon_ok {P : List Tm} (h : Canon P) : ∀ t ∈ P, MoOk t ∧ t.1 ≠ 0 := fun t ht => ⟨vld_nn (h.vl t ht), h.ne t ht⟩
theorem apart_text {P Q : List Tm} (hP : Canon P) (hQ : Canon Q) : ((⟨(fmtS xyzw P).toArray⟩ : ByteArray).toList == (⟨(fmtS xyzw Q).toArray⟩ : ByteArray).toList) = decide (P = Q) := by
  rw [ByteArray.toList_eq, ByteArray.toList_eq, Bool.eq_iff_iff, beq_iff_eq, decide_eq_true_eq]
  exact ⟨fun h => fmtS_inj xyzw_letters (canon_ok hP) (canon_ok hQ) (by simpa using h), fun h => by rw [h]⟩

set_option maxHeartbeats 4000000 in
set_option maxRecDepth 100000 in
theorem Apart_any (a0 a1 : Option Addr) (cap0 cap1 : Nat) (ps0 ps1 : List PT) (W : World) (in0 : PolyIn W W.heap.size a0 ps0) (in1 : PolyIn W W.heap.size a1 ps1) (wf0 : ∀ p ∈ ps0, WfM p.m) (wf1 : ∀ p ∈ ps1, WfM p.m) (htab : TabT W) :
    Calls Tryd.prog 5 #[.slice a0 ps0.length cap0, .slice a1 ps1.length cap1] W fun e w' => e = .returned (.bool true) ∧ Below W.heap.size W w' := by
  have H0 := Lib.hid in0; have W0 := Lib.hid wf0; have HT := Lib.hid htab; have H1 := Lib.hid in1; have W1 := Lib.hid wf1
  clear in0 wf0 htab in1 wf1
  have HAW := Lib.hid (fun (w : World) (hW : Below W.heap.size W w) => awake_any w (HT.out.on hW))
  have HFW := Lib.hid (fun (w : World) (hW : Below W.heap.size W w) => Few21_any a0 cap0 W.heap.size 20 ps0 w (H0.out.below hW) (by omega))
  have HFV := Lib.hid (fun (w : World) (hW : Below W.heap.size W w) => Few21_any a1 cap1 W.heap.size 20 ps1 w (H1.out.below hW) (by omega))
  have HPI := Lib.hid (fun (w : World) (hW : Below W.heap.size W w) (hf : Few21 20 ps0) => (pin21 H0.out W0.out hf (by omega)).below hW)
  have HPJ := Lib.hid (fun (w : World) (hW : Below W.heap.size W w) (hf : Few21 20 ps1) => (pin21 H1.out W1.out hf (by omega)).below hW)
  have HFM := Lib.hid (fun (w : World) (hW : Below W.heap.size W w) (hf : Few21 20 ps0) (a : Addr) (ls : List Bs) (hn : NIn w w.heap.size (some a) 4 ls) (h4 : ls.length = 4) (hok : namesB ls = true) =>
    Format_four a0 (some a) cap0 4 w.heap.size 20 1073741824 (pw 21) ps0 ls w (Nat.le_refl _) ((HPI.out w hW hf).more hW.size) (by omega) big21 (by omega) hn (HT.out.on hW) h4 hok)
  have HFN := Lib.hid (fun (w : World) (hW : Below W.heap.size W w) (hf : Few21 20 ps1) (a : Addr) (ls : List Bs) (hn : NIn w w.heap.size (some a) 4 ls) (h4 : ls.length = 4) (hok : namesB ls = true) =>
    Format_four a1 (some a) cap1 4 w.heap.size 20 1073741824 (pw 21) ps1 ls w (Nat.le_refl _) ((HPJ.out w hW hf).more hW.size) (by omega) big21 (by omega) hn (HT.out.on hW) h4 hok)
  have HC0 := Lib.hid (fun (w : World) (hW : Below W.heap.size W w) (hf : Few21 20 ps0) => RCanon_any a0 cap0 W.heap.size 20 1073741824 (pw 21) ps0 w hW.size (HPI.out w hW hf) (by omega) big21)
  have HC1 := Lib.hid (fun (w : World) (hW : Below W.heap.size W w) (hf : Few21 20 ps1) => RCanon_any a1 cap1 W.heap.size 20 1073741824 (pw 21) ps1 w hW.size (HPJ.out w hW hf) (by omega) big21)
  go_enter Tryd.func5, Tryd.ntmps5
  go_wp2_with fail
  refine (HAW.out _ (Below.refl _ _)).mono ?_
  rintro e w1 ⟨rfl, hb1⟩
  go_wp2_with fail
  refine (HFW.out _ hb1).mono ?_
  rintro e w1' ⟨b, rfl, hf, rfl⟩
  have HF := Lib.hid hf
  clear hf
  cases b with
  | false =>
    go_wp2_with fail
    refine (HAW.out _ hb1).mono ?_
    rintro e w2 ⟨rfl, hb2⟩
    go_wp2_with fail
    go_ret
    exact ⟨rfl, hb1.trans (hb2.mono hb1.size)⟩
  | true =>
    go_wp2_with fail
    refine (HFV.out _ hb1).mono ?_
    rintro e w1' ⟨b, rfl, hf, rfl⟩
    have HG := Lib.hid hf
    clear hf
    cases b with
    | false =>
      go_wp2_with fail
      refine (HAW.out _ hb1).mono ?_
      rintro e w2 ⟨rfl, hb2⟩
      go_wp2_with fail
      go_ret
      exact ⟨rfl, hb1.trans (hb2.mono hb1.size)⟩
    | true =>
      have hx := Blk.new w1 9 #[strV [120], strV [121], strV [122], strV [119]]
      have hb1' := hb1.alloc hb1.size (.cells #[strV [120], strV [121], strV [122], strV [119]] 9)
      have HN1 := Lib.hid (show NIn (w1.alloc (.cells #[strV [120], strV [121], strV [122], strV [119]] 9)) (w1.alloc (.cells #[strV [120], strV [121], strV [122], strV [119]] 9)).heap.size (some ⟨w1.heap.size, 0, none⟩) 4 xyzw from NIn.new4 (by decide) (by decide) (by decide) (by decide) hx)
      have HFX := Lib.hid (HFM.out _ hb1' (HF.out (by trivial)) ⟨w1.heap.size, 0, none⟩ xyzw HN1.out rfl xyzw_ok)
      have HB1 := Lib.hid hb1'
      clear hx hb1'
      go_wp2_with fail
      refine HFX.out.mono ?_
      rintro e w2 ⟨⟨P, hP, hc, hl, rfl⟩, hb2⟩
      have HP := Lib.hid hP; have HC := Lib.hid hc
      have hb2' := HB1.out.trans (hb2.mono HB1.out.size)
      have HFY := Lib.hid (HFN.out _ hb2' (HG.out (by trivial)) ⟨w1.heap.size, 0, none⟩ xyzw ((HN1.out.below hb2).more hb2.size) rfl xyzw_ok)
      clear hP hc HFX HN1 hb2 HB1
      go_wp2_with fail
      refine HFY.out.mono ?_
      rintro e w3 ⟨⟨Q, hQ, hc, hl2, rfl⟩, hb3⟩
      have HQ := Lib.hid hQ; have HD := Lib.hid hc
      have hb3' := hb2'.trans (hb3.mono hb2'.size)
      have HTX := Lib.hid (apart_text HP.out HQ.out)
      clear hQ hc HFY hb3 hl hl2 hb2'
      generalize (⟨(fmtS xyzw P).toArray⟩ : ByteArray) = s1 at *
      generalize (⟨(fmtS xyzw Q).toArray⟩ : ByteArray) = s2 at *
      have hss := HTX.out
      go_wp2_with fail
      refine (HC0.out _ hb3' (HF.out (by trivial))).mono ?_
      rintro e w4 ⟨⟨A4, c4, qs, rfl, hrow, hcan, hcf, hcn, hln⟩, hb4⟩
      have hb4' := hb3'.trans (hb4.mono hb3'.size)
      have HE1 := Lib.hid (show qs.map PT.tm = P from hcan.unique HP.out (fun m => (hcf m).trans (HC.out m).symm))
      have HROW := Lib.hid hrow.polyIn
      have HCN := Lib.hid hcn
      have HLN := Lib.hid hln
      clear hrow hcan hcf hcn hb4 hln hb3'
      go_wp2_with fail
      refine (HC1.out _ hb4' (HG.out (by trivial))).mono ?_
      rintro e w5 ⟨⟨A5, c5, rs, rfl, hrow, hcan, hcf, hcn, hln⟩, hb5⟩
      have hb5' := hb4'.trans (hb5.mono hb4'.size)
      have HE2 := Lib.hid (show rs.map PT.tm = Q from hcan.unique HQ.out (fun m => (hcf m).trans (HD.out m).symm))
      have HRS := Lib.hid (RSame_any A4 A5 c4 c5 w5.heap.size qs rs w5 (Nat.le_refl _) ((HROW.out.below hb5).more hb5.size) hrow.polyIn (fun p hp => (HCN.out p hp).1) (fun p hp => (hcn p hp).1) (fun p hp => (HCN.out p hp).2.1) (fun p hp => (hcn p hp).2.1) (fun p hp => by have := (HCN.out p hp).2.2; omega) (fun p hp => by have := (hcn p hp).2.2; omega) (by have := HLN.out; have := (HF.out (by trivial)).1; omega))
      rw [HE1.out, HE2.out] at HRS
      clear hrow hcan hcf hcn hb5 hln hb4'
      go_wp2_with fail
      refine HRS.out.mono ?_
      rintro e w6 ⟨rfl, hb6⟩
      have hb6' := hb5'.trans (hb6.mono hb5'.size)
      generalize decide (P = Q) = b at *
      clear hb6 hb5' HRS
      go_wp2_with fail
      go_ret
      exact ⟨by simp, hb6'⟩
end Go.Proofs.YtnghlhcekghciaaDoor
