/- PolytextBack: the walk. -/
import Derived.Test.YtnghlhcekghciaaGreatDoorYA
import Derived.Test.YtnghlhcekghciaaGreatDoorXQ
namespace Go.Proofs.YtnghlhcekghciaaGreatDoor
open Go.RowKit

theorem mono_out {m : Mo} : ∀ {P : List Tm}, (P.Pairwise fun s t => ltM t.2 s.2) → P.length ≤ (P.filter fun t => !decide (t.2 = m)).length + 1
  | [], _ => by simp
  | t :: r, h => by
    rw [List.pairwise_cons] at h
    by_cases ht : t.2 = m
    · have hr : (r.filter fun t => !decide (t.2 = m)) = r := List.filter_eq_self.2 fun x hx => by
        have := h.1 x hx
        simp only [Bool.not_eq_true', decide_eq_false_iff_not]
        intro e
        rw [e, ← ht] at this
        exact ltM_irrefl _ this
      rw [List.filter_cons_of_neg (by simp [ht]), hr]
      simp
    · rw [List.filter_cons_of_pos (by simp [ht])]
      have := mono_out (m := m) h.2
      simp only [List.length_cons]
      omega
theorem canon_len : ∀ {l P : List Tm}, (P.Pairwise fun s t => ltM t.2 s.2) → (∀ t ∈ P, ∃ s ∈ l, s.2 = t.2) → P.length ≤ l.length
  | [], P, _, h => by
    cases P with
    | nil => simp
    | cons t P => obtain ⟨s, hs, _⟩ := h t (by simp); cases hs
  | s :: l, P, hp, h => by
    have h1 := mono_out (m := s.2) hp
    have h2 := canon_len (l := l) (hp.filter fun t => !decide (t.2 = s.2)) (fun t ht => by
      obtain ⟨h3, h4⟩ := List.mem_filter.1 ht
      obtain ⟨x, hx, e⟩ := h t h3
      rcases List.mem_cons.1 hx with rfl | hx
      · simp [e] at h4
      · exact ⟨x, hx, e⟩)
    simp only [List.length_cons]
    omega
theorem cf_some0 (P : List Tm) (m : Mo) : cf P m = cf (some0 P) m := by
  unfold some0
  split
  · rename_i h
    subst h
    rw [cf_cons]
    simp [cf_nil]
  · rfl
/-- what holds of the canonical form of a small polynomial -/
structure SmallP (ls : List Bs) (P : List Tm) : Prop where
  ok : ∀ t ∈ P, TOk ls t
  cf : ∀ t ∈ P, t.1.natAbs ≤ pw 21
  len : P.length ≤ 40
theorem smallP {w : World} {B : Nat} {A : Option Addr} {ps : List PT} {ls : List Bs} {P : List Tm} (h : PIn w B A ps 40 1073741824 (pw 21)) (hP : Canon P) (hc : ∀ m, cf P m = cf (ps.map PT.tm) m) (hl : lvL P ≤ (ls.length : Int)) : SmallP ls P where
  ok t ht := by
    have hv := hP.vl t ht
    obtain ⟨s, hs, hs1, hs2⟩ := hP.src hc ht
    obtain ⟨p, hp, rfl⟩ := List.mem_map.1 hs
    have hb := h.mb p hp hs1
    have hs2 : p.m = t.2 := hs2
    rw [hs2] at hb
    unfold MB at hb
    refine ⟨lvOk_of hP hl ht, fun j hj => ?_, fun j hj => ?_⟩
    · unfold vld at hv
      simp only [Bool.and_eq_true, decide_eq_true_eq] at hv
      rcases (by omega : j = 0 ∨ j = 1 ∨ j = 2 ∨ j = 3) with rfl | rfl | rfl | rfl <;> simp only [gt] <;> omega
    · rcases (by omega : j = 0 ∨ j = 1 ∨ j = 2 ∨ j = 3) with rfl | rfl | rfl | rfl <;> simp only [gt] <;> omega
  cf t ht := Nat.le_trans (Nat.le_trans (nrm_mem ht) (hP.nrm_le hc)) h.nm
  len := by
    have := canon_len hP.so (fun t ht => by
      obtain ⟨s, hs, _, hs2⟩ := hP.src hc ht
      exact ⟨s, hs, hs2⟩)
    rw [List.length_map] at this
    exact Nat.le_trans this h.len
theorem SmallP.bnd {ls : List Bs} {P : List Tm} (h : SmallP ls P) : Bnd (some0 P) := by
  unfold some0
  split
  · refine ⟨by simp, fun t ht => ?_⟩
    rw [List.mem_singleton] at ht
    subst ht
    exact ⟨Nat.pow_pos (by decide), fun j hj => by rw [mo_zero_gt rfl j]; decide⟩
  · refine ⟨by have := h.len; omega, fun t ht => ⟨Nat.lt_of_le_of_lt (h.cf t ht) (pw_lt (by decide)), fun j hj => ?_⟩⟩
    have h1 := (h.ok t ht).2.1 j hj
    have h2 := (h.ok t ht).2.2 j hj
    omega
theorem SmallP.text {ls : List Bs} {P : List Tm} (h : SmallP ls P) (hn : ∀ n ∈ ls, n.length ≤ 16) : (fmtS ls P).length ≤ 100000 := by
  unfold fmtS
  split
  · simp
  · have h1 := fmtGo_len hn (K := 221) P true (fun t ht => ⟨decD_pwk (k := 22) (Nat.lt_of_le_of_lt (h.cf t ht) (pw_lt (by decide))), fun j hj => by have := (h.ok t ht).2.2 j hj; omega⟩)
    have h2 := Nat.mul_le_mul_right (221 + 127) h.len
    omega

set_option maxHeartbeats 4000000 in
set_option maxRecDepth 100000 in
theorem BackLaw_any (a0 a1 : Option Addr) (cap0 cap1 : Nat) (ps0 : List PT) (ls1 : List Bs) (W : World) (in0 : PolyIn W W.heap.size a0 ps0) (wf0 : ∀ p ∈ ps0, WfM p.m) (in1 : NArg W W.heap.size a1 cap1 ls1) (htab : TabT W) (hm : MaxL W) :
    Calls Tryz.prog 4 #[.slice a0 ps0.length cap0, .slice a1 ls1.length cap1] W fun e w' => e = .returned (.bool true) ∧ Below W.heap.size W w' := by
  have H0 := Lib.hid in0; have W0 := Lib.hid wf0; have HT := Lib.hid htab; have H1 := Lib.hid in1; have HM := Lib.hid hm
  clear in0 wf0 htab in1 hm
  have HAW := Lib.hid (fun (w : World) (hW : Below W.heap.size W w) => awake_any w (HT.out.on hW))
  have HFW := Lib.hid (fun (w : World) (hW : Below W.heap.size W w) => Few21_any a0 cap0 W.heap.size 40 ps0 w (H0.out.below hW) (by omega))
  have HNW := Lib.hid (fun (w : World) (hW : Below W.heap.size W w) => names_any a1 cap1 W.heap.size ls1 w (H1.out.rd.below hW) H1.out.len H1.out.el)
  have HPI := Lib.hid (fun (w : World) (hW : Below W.heap.size W w) (hf : Few21 40 ps0) => (pin21 H0.out W0.out hf (by omega)).below hW)
  have HFM := Lib.hid (fun (w : World) (hW : Below W.heap.size W w) (hf : Few21 40 ps0) (hn : Nms ls1) =>
    Format_any a0 a1 cap0 cap1 W.heap.size 40 1073741824 (pw 21) ps0 ls1 w hW.size (HPI.out w hW hf) (by omega) big21 (by omega) ((H1.out.nin hn).below hW) (HT.out.on hW))
  have HNA := Lib.hid (fun (w : World) (hW : Below W.heap.size W w) (hn : Nms ls1) => Names_any a1 cap1 W.heap.size ls1 w (H1.out.rd.below hW) H1.out.cap (by have := hn.1; omega) (fun l hl => by have := hn.2 l hl; omega))
  have HC0 := Lib.hid (fun (w : World) (hW : Below W.heap.size W w) (hf : Few21 40 ps0) => RCanon_any a0 cap0 W.heap.size 40 1073741824 (pw 21) ps0 w hW.size (HPI.out w hW hf) (by omega) big21)
  go_enter Tryz.func4, Tryz.ntmps4
  go_wp2_with fail
  refine (HAW.out _ (Below.refl _ _)).mono ?_
  rintro e w1 ⟨rfl, hb1⟩
  go_wp2_with fail
  refine (HFW.out _ hb1).mono ?_
  rintro e w1' ⟨b, rfl, hf, rfl⟩
  have HF := Lib.hid hf
  clear hf
  cases b with
  | false =>
    go_wp2_with fail
    refine (HAW.out _ hb1).mono ?_
    rintro e w2 ⟨rfl, hb2⟩
    go_wp2_with fail
    go_ret
    exact ⟨rfl, hb1.trans (hb2.mono hb1.size)⟩
  | true =>
    go_wp2_with fail
    refine (HNW.out _ hb1).mono ?_
    rintro e w1' ⟨b, rfl, hn, rfl⟩
    have HN := Lib.hid hn
    clear hn
    cases b with
    | false =>
      go_wp2_with fail
      refine (HAW.out _ hb1).mono ?_
      rintro e w2 ⟨rfl, hb2⟩
      go_wp2_with fail
      go_ret
      exact ⟨rfl, hb1.trans (hb2.mono hb1.size)⟩
    | true =>
      go_wp2_with fail
      refine (HFM.out _ hb1 (HF.out (by trivial)) (HN.out (by trivial))).mono ?_
      rintro e w2 ⟨hr, hb2⟩
      have hb2' := hb1.trans (hb2.mono hb1.size)
      have HNB := Lib.hid (HNA.out _ hb2' (HN.out (by trivial)))
      rcases hr with ⟨hno, rfl⟩ | ⟨hok, P, hP, hc, hl, rfl⟩
      · have HX := Lib.hid hno
        rw [hno] at HNB
        clear hno hb2
        go_wp2_with fail
        refine HNB.out.mono ?_
        rintro e w3 ⟨rfl, rfl⟩
        go_wp2_with fail
        go_ret
        exact ⟨rfl, hb2'⟩
      · rw [hok] at HNB
        have HX := Lib.hid hok
        by_cases hlv : (ls1.length : Int) < lvL P
        · rw [show fmtV ls1 P = .tuple #[.string ⟨#[]⟩, .int .i64 4] by unfold fmtV; rw [if_pos hlv]]
          clear hok hb2 hlv hl hc hP
          go_wp2_with fail
          refine HNB.out.mono ?_
          rintro e w3 ⟨rfl, rfl⟩
          go_wp2_with fail
          go_ret
          exact ⟨rfl, hb2'⟩
        · rw [show fmtV ls1 P = .tuple #[.string ⟨(fmtS ls1 P).toArray⟩, .int .i64 0] by unfold fmtV; rw [if_neg hlv]]
          have hpi := HPI.out _ (Below.refl _ _) (HF.out (by trivial))
          have hsm := smallP hpi hP hc (by omega : lvL P ≤ (ls1.length : Int))
          have hrd := readR_at hok hsm.ok
          have HP := Lib.hid hP; have HC := Lib.hid hc
          have HLV := Lib.hid (show lvL P ≤ (ls1.length : Int) by omega)
          have HRD := Lib.hid hrd
          have HPA := Lib.hid (Parse_any (fmtS ls1 P) a1 cap1 W.heap.size ls1 w2 (hsm.text (fun n hn => (nameB_len ((namesB_ok hok).2 n hn)).2)) (fun ts hts => by rw [hrd] at hts; injection hts with hts; rw [← hts]; exact hsm.bnd) hb2'.size ((H1.out.nin (HN.out (by trivial))).below hb2') (HT.out.on hb2') (HM.out.old hb2'))
          have HSM := Lib.hid hsm
          clear hok hb2 hlv hl hc hP hpi hsm hrd HNB
          go_wp2_with fail
          refine HPA.out.mono ?_
          rintro e w3 ⟨hr, hb3⟩
          have hb3' := hb2'.trans (hb3.mono hb2'.size)
          rcases hr with ⟨hno, _⟩ | ⟨_, hbad, _⟩ | ⟨_, ts, A3, c3, qs, hts, _, _, rfl, hg⟩
          · rw [HX.out] at hno; cases hno
          · exact absurd rfl (hbad _ HRD.out P HP.out (cf_some0 P) HLV.out)
          · have HQP := Lib.hid (show qs.map PT.tm = P from hg.can.unique HP.out (fun m => by
              rw [HRD.out] at hts
              injection hts with hts
              rw [hg.cf, ← hts, ← cf_some0]))
            have HG := Lib.hid hg
            clear hg hts hb3 hb2'
            go_wp2_with fail
            refine (HC0.out _ hb3' (HF.out (by trivial))).mono ?_
            rintro e w4 ⟨⟨A4, c4, rs, rfl, hrow, hcan, hcf, hcn, hln⟩, hb4⟩
            have hb4' := hb3'.trans (hb4.mono hb3'.size)
            have HRP := Lib.hid (show rs.map PT.tm = P from hcan.unique HP.out (fun m => (hcf m).trans (HC.out m).symm))
            have hgp := HG.out.pin (by omega) big113
            have HRS := Lib.hid (RSame_any A3 A4 c3 c4 w4.heap.size qs rs w4 (Nat.le_refl _) ((hgp.pin.below hb4).more hb4.size) hrow.polyIn HG.out.own.cn (fun p hp => (hcn p hp).1) hgp.wf (fun p hp => (hcn p hp).2.1) hgp.dl (fun p hp => by have := (hcn p hp).2.2; omega) (by have := hgp.len; omega))
            rw [HQP.out, HRP.out] at HRS
            clear hrow hcan hcf hcn hb4 hln hgp hb3'
            go_wp2_with fail
            refine HRS.out.mono ?_
            rintro e w5 ⟨rfl, hb5⟩
            have hb5' := hb4'.trans (hb5.mono hb4'.size)
            clear hb5 hb4' HRS
            go_wp2_with fail
            go_ret
            exact ⟨by simp, hb5'⟩
end Go.Proofs.YtnghlhcekghciaaGreatDoor
