/- PolytextTerms: the walk. -/
import Derived.BigQuiet
import Derived.Test.YtnghlhcekghciaaDoorXW
namespace Go.Proofs.YtnghlhcekghciaaDoor
open Go.RowKit

set_option maxHeartbeats 4000000 in
set_option maxRecDepth 100000 in
theorem TermsLaw_any (a0 a1 : Option Addr) (cap0 cap1 : Nat) (ps0 : List PT) (ls1 : List Bs) (W : World) (in0 : PolyIn W W.heap.size a0 ps0) (wf0 : ∀ p ∈ ps0, WfM p.m) (in1 : NArg W W.heap.size a1 cap1 ls1) (htab : TabT W) :
    Calls Tryd.prog 7 #[.slice a0 ps0.length cap0, .slice a1 ls1.length cap1] W fun e w' => e = .returned (.bool true) ∧ Below W.heap.size W w' := by
  have H0 := Lib.hid in0; have W0 := Lib.hid wf0; have HT := Lib.hid htab; have H1 := Lib.hid in1
  clear in0 wf0 htab in1
  have HAW := Lib.hid (fun (w : World) (hW : Below W.heap.size W w) => awake_any w (HT.out.on hW))
  have HFW := Lib.hid (fun (w : World) (hW : Below W.heap.size W w) => Few21_any a0 cap0 W.heap.size 40 ps0 w (H0.out.below hW) (by omega))
  have HNW := Lib.hid (fun (w : World) (hW : Below W.heap.size W w) => names_any a1 cap1 W.heap.size ls1 w (H1.out.rd.below hW) H1.out.len H1.out.el)
  have HTE := Lib.hid (fun (w : World) (hW : Below W.heap.size W w) (hf : Few21 40 ps0) (hn : Nms ls1) =>
    Terms21_any a0 a1 cap0 cap1 W.heap.size 40 1073741824 (pw 21) ps0 ls1 w hW.size ((pin21 H0.out W0.out hf (by omega)).below hW) (by omega) big21 (by omega) ((H1.out.nin hn).below hW) (HT.out.on hW))
  have HTR := Lib.hid (fun (w : World) (hW : Below W.heap.size W w) (hf : Few21 40 ps0) (hn : Nms ls1) =>
    RTerms_any a0 a1 cap0 cap1 W.heap.size 40 1073741824 (pw 21) ps0 ls1 w hW.size ((pin21 H0.out W0.out hf (by omega)).below hW) (by omega) big21 (by omega) ((H1.out.nin hn).below hW))
  go_enter Tryd.func7, Tryd.ntmps7
  go_wp2_with fail
  refine (HAW.out _ (Below.refl _ _)).mono ?_
  rintro e w1 ⟨rfl, hb1⟩
  go_wp2_with fail
  refine (HFW.out _ hb1).mono ?_
  rintro e w1' ⟨b, rfl, hf, rfl⟩
  have HF := Lib.hid hf
  clear hf
  cases b with
  | false =>
    go_wp2_with fail
    refine (HAW.out _ hb1).mono ?_
    rintro e w2 ⟨rfl, hb2⟩
    go_wp2_with fail
    go_ret
    exact ⟨rfl, hb1.trans (hb2.mono hb1.size)⟩
  | true =>
    go_wp2_with fail
    refine (HNW.out _ hb1).mono ?_
    rintro e w1' ⟨b, rfl, hn, rfl⟩
    have HN := Lib.hid hn
    clear hn
    cases b with
    | false =>
      go_wp2_with fail
      refine (HAW.out _ hb1).mono ?_
      rintro e w2 ⟨rfl, hb2⟩
      go_wp2_with fail
      go_ret
      exact ⟨rfl, hb1.trans (hb2.mono hb1.size)⟩
    | true =>
      go_wp2_with fail
      refine (HTE.out _ hb1 (HF.out (by trivial)) (HN.out (by trivial))).mono ?_
      rintro e w2 ⟨hr, hb2⟩
      have hb2' := hb1.trans (hb2.mono hb1.size)
      have HRT := Lib.hid (HTR.out _ hb2' (HF.out (by trivial)) (HN.out (by trivial)))
      rcases hr with ⟨hno, rfl⟩ | ⟨hok, ⟨P, hP, hc, hlv⟩, rfl⟩ | ⟨hok, P, hP, hc, hlv, hpl, htl, A2, c2, rfl, hown⟩
      · have HX := Lib.hid hno
        clear hno hb2
        go_wp2_with fail
        refine HRT.out.mono ?_
        rintro e w3 ⟨hr, hb3⟩
        have hb3' := hb2'.trans (hb3.mono hb2'.size)
        rcases hr with ⟨hno, rfl⟩ | ⟨hok, _, rfl⟩ | ⟨hok, Q, hQ, hd, hlw, hql, htm, A3, c3, rfl, hown3⟩
        · clear hno hb3 hb2'
          go_wp2_with fail
          go_loopg [9, 47] 0 (fun gn _ ix wr => gn = 0 ∧ ix = .int .i64 0 ∧ w3 = wr)
          case atStart => exact ⟨rfl, rfl, rfl⟩
          case round =>
            obtain ⟨_, rfl, rfl⟩ := hrel
            go_wp2_with fail
            go_ret
            exact ⟨rfl, hb3'⟩
        · rw [HX.out] at hok; cases hok
        · rw [HX.out] at hok; cases hok
      · have HX := Lib.hid hok
        have HP := Lib.hid hP; have HC := Lib.hid hc; have HL := Lib.hid hlv
        clear hok hb2 hP hc hlv
        go_wp2_with fail
        refine HRT.out.mono ?_
        rintro e w3 ⟨hr, hb3⟩
        have hb3' := hb2'.trans (hb3.mono hb2'.size)
        rcases hr with ⟨hno, rfl⟩ | ⟨hok, _, rfl⟩ | ⟨hok, Q, hQ, hd, hlw, hql, htm, A3, c3, rfl, hown3⟩
        · rw [HX.out] at hno; cases hno
        · clear hok hb3 hb2'
          go_wp2_with fail
          go_loopg [9, 47] 0 (fun gn _ ix wr => gn = 0 ∧ ix = .int .i64 0 ∧ w3 = wr)
          case atStart => exact ⟨rfl, rfl, rfl⟩
          case round =>
            obtain ⟨_, rfl, rfl⟩ := hrel
            go_wp2_with fail
            go_ret
            exact ⟨rfl, hb3'⟩
        · obtain rfl : Q = P := hQ.unique HP.out (fun m => (hd m).trans (HC.out m).symm)
          have := HL.out
          omega
      · have HX := Lib.hid hok
        have HP := Lib.hid hP; have HC := Lib.hid hc; have HL := Lib.hid hlv
        have hp1 : P.length ≤ 10000 := by omega
        have HOW := Lib.hid (Reads.of_own hown)
        clear hok hP hc hlv hown
        go_wp2_with fail
        refine HRT.out.mono ?_
        rintro e w3 ⟨hr, hb3⟩
        have hb3' := hb2'.trans (hb3.mono hb2'.size)
        rcases hr with ⟨hno, rfl⟩ | ⟨hok, ⟨Q, hQ, hd, hlw⟩, rfl⟩ | ⟨hok, Q, hQ, hd, hlw, hql, htm, A3, c3, rfl, hown3⟩
        · rw [HX.out] at hno; cases hno
        · obtain rfl : Q = P := hQ.unique HP.out (fun m => (hd m).trans (HC.out m).symm)
          have := HL.out
          omega
        · obtain rfl : Q = P := hQ.unique HP.out (fun m => (hd m).trans (HC.out m).symm)
          have R1 := HOW.out.below hb3
          have R2 := Reads.of_own hown3
          have h2 := hb3.size
          clear hok hb3 hb2' hQ hd hlw hql htm hown3 hpl htl
          have hlen : (termsS ls1 Q).length = Q.length := by simp [termsS]
          generalize termsS ls1 Q = ts at *
          generalize hn : Q.length = n at *
          have HR1 := Lib.hid R1; have HR2 := Lib.hid R2
          clear R1 R2 hn
          go_wp2_with fail
          go_loopg [9, 47] n (fun gn _ ix wr => ∃ k : Nat, k ≤ n ∧ gn = n - k ∧ ix = .int .i64 k ∧ Drawn w3 wr)
          case atStart => exact ⟨0, by omega, rfl, rfl, Drawn.refl _⟩
          case round =>
            obtain ⟨k, hk, hgk, rfl, hdr⟩ := hrel
            have HG := Lib.hid hgk
            clear hgk
            by_cases hlt : k < n
            · obtain ⟨b, o, rfl, hb, d1⟩ := strs_at (HR1.out.drawn hdr) hlt
              obtain ⟨b', o', rfl, hb', d2⟩ := strs_at (HR2.out.drawn hdr) hlt
              have j1 : (k : Int) < (n : Int) := by omega
              have j0 : (0 : Int) ≤ (k : Int) := by omega
              generalize (⟨(ts.getD k []).toArray⟩ : ByteArray) = sv at *
              go_wp2_with fail
              go_quiet (fail)
              have hdr2 := hdr.trans (Drawn.drewN wr nq)
              go_wp2_with fail
              go_roundg (n - (k + 1))
              case rel => exact ⟨k + 1, by omega, rfl, by go_num, hdr2⟩
              case measure => have := HG.out; omega
            · obtain rfl : k = n := by omega
              go_wp2_with fail
              go_ret
              exact ⟨rfl, hb3'.trans (hdr.below _)⟩
end Go.Proofs.YtnghlhcekghciaaDoor
