/- The reference's Format, and PolytextFormats. -/
import Derived.Test.YtnghlhcekghciaaDoorXW
namespace Go.Proofs.YtnghlhcekghciaaDoor
open Go.RowKit

theorem goTxt {P : List Tm} {k : Nat} {t : Tm} (h : P[k]? = some t) : P.take (k + 1) = P.take k ++ [t] := by
  have hi := (List.getElem?_eq_some_iff.1 h)
  rw [List.take_succ_eq_append_getElem hi.1, hi.2]

theorem fmtGo_head (ls : List Bs) (t : Tm) (l : List Tm) : fmtGo ls true (t :: l) = txt1 ls t ++ fmtGo ls false l := by
  rw [fmtGo, txt1, signS, if_pos rfl]
  by_cases h : t.1 < 0 <;> simp [h]
theorem fmtGo_size {ls : List Bs} {P : List Tm} (h : ∀ t ∈ termsS ls P, t.length ≤ 10000) : ∀ k, k ≤ P.length → (fmtGo ls true (P.take k)).length ≤ k * 10003
  | 0, _ => by simp [fmtGo]
  | k + 1, hk => by
    have ih := fmtGo_size h k (by omega)
    obtain ⟨t, ht⟩ : ∃ t, P[k]? = some t := ⟨_, List.getElem?_eq_getElem (by omega)⟩
    have h1 : (txt1 ls t).length ≤ 10000 := h _ (List.mem_map.2 ⟨t, List.mem_of_getElem? ht, rfl⟩)
    have h2 : (termS ls t.1.natAbs t.2).length ≤ (txt1 ls t).length := by unfold txt1; rw [List.length_append]; omega
    have h3 : ∀ a b, (signS a b).length ≤ 3 := fun a b => by unfold signS; (repeat' split) <;> simp
    rw [goTxt ht, fmtGo_snoc, List.length_append, List.length_append]
    have := h3 (true && (P.take k).isEmpty) (decide (t.1 < 0))
    omega

set_option maxHeartbeats 4000000 in
set_option maxRecDepth 100000 in
theorem RFormat_any (A A' : Option Addr) (c c' B N : Nat) (E : Int) (M : Nat) (ps : List PT) (ls : List Bs) (w : World) (hB : B ≤ w.heap.size) (h : PIn w B A ps N E M) (hN : N ≤ 1000) (hM : M < Big) (hE : E ≤ 4294967295) (hn : NIn w B A' c' ls) :
    Calls Tryd.prog 13 #[.slice A ps.length c, .slice A' ls.length c'] w (FmtRes (cf (ps.map PT.tm)) ls w) := by
  have HTE := Lib.hid (RTerms_any A A' c c' B N E M ps ls w hB h (by omega) hM hE hn)
  clear h hn
  generalize hG : cf (ps.map PT.tm) = G at *
  clear hG
  go_enter Tryd.func13, Tryd.ntmps13
  go_wp2_with fail
  refine HTE.out.mono ?_
  rintro e w1 ⟨hr, hb1⟩
  rcases hr with ⟨hno, rfl⟩ | ⟨hok, ⟨P, hP, hc, hlv⟩, rfl⟩ | ⟨hok, P, hP, hc, hlv, hpl, htl, A2, c2, rfl, hown⟩
  · have HX := Lib.hid hno
    clear hno
    go_wp2_with fail
    go_ret2
    exact ⟨.inl ⟨HX.out, rfl⟩, hb1⟩
  · have HX := Lib.hid hok; have HP := Lib.hid hP; have HC := Lib.hid hc; have HL := Lib.hid hlv
    clear hok hP hc hlv
    go_wp2_with fail
    go_ret2
    exact ⟨.inr ⟨HX.out, P, HP.out, HC.out, fun h => by have := HL.out; omega, by unfold fmtV; rw [if_pos HL.out]; rfl⟩, hb1⟩
  · have HX := Lib.hid hok; have HP := Lib.hid hP; have HC := Lib.hid hc; have HL := Lib.hid hlv; have HTL := Lib.hid htl
    have HPN := Lib.hid hpl
    have hp1 : P.length ≤ 1000 := by omega
    have hrd := Reads.of_own hown
    have HB1 := Lib.hid hb1
    have HNO := Lib.hid (show NmOk ls from (namesB_ok hok).2)
    have HLO := Lib.hid (fun t ht => lvOk_of hP hlv (t := t) ht)
    have HFL := Lib.hid (show ∀ k, k ≤ P.length → (fmtGo ls true (P.take k)).length ≤ k * 10003 from fmtGo_size htl)
    clear hok hP hc hlv htl hown hpl hb1
    go_wp2_with fail
    go_loopg [8, 9, 10, 22] P.length (fun gn sv _ _ ix wr => ∃ k : Nat, k ≤ P.length ∧ gn = P.length - k ∧ ix = .int .i64 k ∧ sv = .string ⟨(fmtGo ls true (P.take k)).toArray⟩ ∧ w1 = wr)
    case atStart => exact ⟨0, by omega, rfl, rfl, rfl, rfl⟩
    case round =>
      obtain ⟨k, hk, hgk, rfl, rfl, rfl⟩ := hrel
      have HG := Lib.hid hgk
      clear hgk
      by_cases hlt : k < P.length
      · obtain ⟨t, ht⟩ : ∃ t, P[k]? = some t := ⟨_, List.getElem?_eq_getElem hlt⟩
        have htm := List.mem_of_getElem? ht
        have HTK := Lib.hid (goTxt ht)
        obtain ⟨b1, o1, rfl, q1, hcell⟩ := hrd.2 (by omega)
        have c1 := hcell k (strV (txt1 ls t)) (by
          unfold termsS
          rw [List.getElem?_map, List.getElem?_map, ht]
          rfl)
        have hne := txt1_ne HNO.out (HLO.out t htm)
        have HTXL := Lib.hid (HTL.out (txt1 ls t) (List.mem_map.2 ⟨t, htm, rfl⟩))
        have j1 : (k : Int) < (P.length : Int) := by omega
        have j0 : (0 : Int) ≤ (k : Int) := by omega
        have hix := fun (W : World) => Tryd.str_at0 (txt1 ls t) hne W
        have HFK := Lib.hid (HFL.out k hk)
        by_cases hk0 : k = 0
        · have hk0c : ¬ (0 : Int) < (k : Int) := by omega
          have HNX := Lib.hid (show fmtGo ls true (P.take (k + 1)) = txt1 ls t by rw [HTK.out, hk0]; exact join_first)
          have HZ := Lib.hid (show fmtGo ls true (P.take k) = [] by rw [hk0]; rfl)
          unfold strV at c1
          generalize txt1 ls t = tx at *
          rw [HZ.out]
          have htx : tx.length ≤ 9223372036854775807 := by have := HTXL.out; omega
          have hadd := fun (W : World) => run_adds (P := Tryd.prog) [] tx (by simpa using htx) W
          rw [List.nil_append] at hadd
          clear hk0 hix
          go_wp2_with fail
          go_roundg (P.length - (k + 1))
          case rel => exact ⟨k + 1, by omega, rfl, by go_num, by rw [HNX.out], rfl⟩
          case measure => have := HG.out; omega
        · have hk0c : (0 : Int) < (k : Int) := by omega
          have HNE := Lib.hid (show P.take k ≠ [] from fun e => hk0 (by have := congrArg List.length e; rwa [List.length_take, Nat.min_eq_left hk] at this))
          have HTXL' := HTXL.out
          unfold strV at c1
          by_cases hneg : t.1 < 0
          · have e1 := txt1_neg (ls := ls) hneg
            have HNX := Lib.hid (show fmtGo ls true (P.take (k + 1)) = fmtGo ls true (P.take k) ++ ([32, 45, 32] ++ termS ls t.1.natAbs t.2) by rw [HTK.out]; exact join_neg HNE.out hneg)
            rw [e1] at c1 hix HTXL'
            generalize termS ls t.1.natAbs t.2 = r at *
            generalize fmtGo ls true (P.take k) = tk at *
            have hrl : r.length ≤ 10000 := by simp at HTXL'; omega
            have hsl := fun (W : World) => Tryd.str_tail 45 r W
            have hadd := fun (W : World) => run_adds (P := Tryd.prog) [32, 45, 32] r (by simp; omega) W
            have hadd2 := fun (W : World) => run_adds (P := Tryd.prog) tk ([32, 45, 32] ++ r) (by have := HFK.out; simp; omega) W
            rw [show (45 :: r).getD 0 0 = (45 : UInt8) from rfl] at hix
            rw [show ((45 : UInt8).toNat : Int) = 45 from rfl] at hix
            generalize hz : ([32, 45, 32] ++ r : Bs) = zz at hadd hadd2 HNX
            clear hz hneg e1 hk0 hne HTXL HTXL'
            go_wp2_with fail
            go_roundg (P.length - (k + 1))
            case rel => exact ⟨k + 1, by omega, rfl, by go_num, by rw [HNX.out], rfl⟩
            case measure => have := HG.out; omega
          · obtain ⟨e1, hno⟩ := txt1_pos HNO.out hneg
            have HNX := Lib.hid (show fmtGo ls true (P.take (k + 1)) = fmtGo ls true (P.take k) ++ ([32, 43, 32] ++ txt1 ls t) by rw [HTK.out, e1]; exact join_pos HNE.out hneg)
            have hh : ((txt1 ls t).getD 0 0) ≠ 45 := fun e => hno (e ▸ head_getD hne)
            have hcb : ((((txt1 ls t).getD 0 0).toNat : Int) == 45) = false := by
              simp only [beq_eq_false_iff_ne, ne_eq]
              intro e
              exact hh (UInt8.toNat_inj.1 (by have : (45 : UInt8).toNat = 45 := rfl; omega))
            clear e1 hno hh
            generalize ((txt1 ls t).getD 0 0).toNat = ch at *
            generalize txt1 ls t = tx at *
            generalize fmtGo ls true (P.take k) = tk at *
            have hadd := fun (W : World) => run_adds (P := Tryd.prog) [32, 43, 32] tx (by simp; omega) W
            have hadd2 := fun (W : World) => run_adds (P := Tryd.prog) tk ([32, 43, 32] ++ tx) (by have := HFK.out; simp; omega) W
            generalize hz : ([32, 43, 32] ++ tx : Bs) = zz at hadd hadd2 HNX
            clear hz hneg hk0 hne HTXL HTXL'
            go_wp2_with fail
            go_roundg (P.length - (k + 1))
            case rel => exact ⟨k + 1, by omega, rfl, by go_num, by rw [HNX.out], rfl⟩
            case measure => have := HG.out; omega
      · obtain rfl : k = P.length := by omega
        have HFL2 := Lib.hid (HFL.out P.length (Nat.le_refl _))
        rw [List.take_length] at HFL2
        rw [List.take_length]
        cases P with
        | nil =>
          have e1 : (⟨(fmtGo ls true []).toArray⟩ : ByteArray).toList.isEmpty = true := by rw [ByteArray.toList_eq]; rfl
          generalize (⟨(fmtGo ls true []).toArray⟩ : ByteArray) = s2 at *
          clear HFL
          go_wp2_with fail
          go_ret2
          refine ⟨.inr ⟨HX.out, [], HP.out, HC.out, fun _ => by simp [fmtS], ?_⟩, HB1.out⟩
          unfold fmtV
          rw [if_neg (by have := HL.out; omega)]
          rfl
        | cons t P =>
          have hne := bytes_ne (s := fmtGo ls true (t :: P)) (by
            rw [fmtGo_head]
            intro e
            have h1 := txt1_ne HNO.out (HLO.out t (by simp))
            have h2 := congrArg List.length e
            rw [List.length_append, List.length_nil] at h2
            omega)
          have HGO := Lib.hid (fmtS_go (ls := ls) (P := t :: P) (by simp))
          generalize hs1 : (⟨(fmtGo ls true (t :: P)).toArray⟩ : ByteArray) = s1 at *
          have HS1 := Lib.hid hs1
          clear hs1 HFL
          have hp2 := hp1
          generalize hnp : (t :: P).length = np at *
          have HNP := Lib.hid hnp
          clear hnp
          go_wp2_with fail
          go_ret2
          refine ⟨.inr ⟨HX.out, _, HP.out, HC.out, fun _ => by rw [HGO.out]; have := HFL2.out; omega, ?_⟩, HB1.out⟩
          unfold fmtV
          rw [if_neg (by have := HL.out; omega), HGO.out, HS1.out]
          rfl

set_option maxHeartbeats 4000000 in
set_option maxRecDepth 100000 in
theorem FormatsLaw_any (a0 a1 : Option Addr) (cap0 cap1 : Nat) (ps0 : List PT) (ls1 : List Bs) (W : World) (in0 : PolyIn W W.heap.size a0 ps0) (wf0 : ∀ p ∈ ps0, WfM p.m) (in1 : NArg W W.heap.size a1 cap1 ls1) (htab : TabT W) :
    Calls Tryd.prog 3 #[.slice a0 ps0.length cap0, .slice a1 ls1.length cap1] W fun e w' => e = .returned (.bool true) ∧ Below W.heap.size W w' := by
  have H0 := Lib.hid in0; have W0 := Lib.hid wf0; have HT := Lib.hid htab; have H1 := Lib.hid in1
  clear in0 wf0 htab in1
  have HAW := Lib.hid (fun (w : World) (hW : Below W.heap.size W w) => awake_any w (HT.out.on hW))
  have HFW := Lib.hid (fun (w : World) (hW : Below W.heap.size W w) => Few21_any a0 cap0 W.heap.size 40 ps0 w (H0.out.below hW) (by omega))
  have HNW := Lib.hid (fun (w : World) (hW : Below W.heap.size W w) => names_any a1 cap1 W.heap.size ls1 w (H1.out.rd.below hW) H1.out.len H1.out.el)
  have HFM := Lib.hid (fun (w : World) (hW : Below W.heap.size W w) (hf : Few21 40 ps0) (hn : Nms ls1) =>
    Format_any a0 a1 cap0 cap1 W.heap.size 40 1073741824 (pw 21) ps0 ls1 w hW.size ((pin21 H0.out W0.out hf (by omega)).below hW) (by omega) big21 (by omega) ((H1.out.nin hn).below hW) (HT.out.on hW))
  have HFR := Lib.hid (fun (w : World) (hW : Below W.heap.size W w) (hf : Few21 40 ps0) (hn : Nms ls1) =>
    RFormat_any a0 a1 cap0 cap1 W.heap.size 40 1073741824 (pw 21) ps0 ls1 w hW.size ((pin21 H0.out W0.out hf (by omega)).below hW) (by omega) big21 (by omega) ((H1.out.nin hn).below hW))
  go_enter Tryd.func3, Tryd.ntmps3
  go_wp2_with fail
  refine (HAW.out _ (Below.refl _ _)).mono ?_
  rintro e w1 ⟨rfl, hb1⟩
  go_wp2_with fail
  refine (HFW.out _ hb1).mono ?_
  rintro e w1' ⟨b, rfl, hf, rfl⟩
  have HF := Lib.hid hf
  clear hf
  cases b with
  | false =>
    go_wp2_with fail
    refine (HAW.out _ hb1).mono ?_
    rintro e w2 ⟨rfl, hb2⟩
    go_wp2_with fail
    go_ret
    exact ⟨rfl, hb1.trans (hb2.mono hb1.size)⟩
  | true =>
    go_wp2_with fail
    refine (HNW.out _ hb1).mono ?_
    rintro e w1' ⟨b, rfl, hn, rfl⟩
    have HN := Lib.hid hn
    clear hn
    cases b with
    | false =>
      go_wp2_with fail
      refine (HAW.out _ hb1).mono ?_
      rintro e w2 ⟨rfl, hb2⟩
      go_wp2_with fail
      go_ret
      exact ⟨rfl, hb1.trans (hb2.mono hb1.size)⟩
    | true =>
      go_wp2_with fail
      refine (HFM.out _ hb1 (HF.out (by trivial)) (HN.out (by trivial))).mono ?_
      rintro e w2 ⟨hr, hb2⟩
      have hb2' := hb1.trans (hb2.mono hb1.size)
      have HRT := Lib.hid (HFR.out _ hb2' (HF.out (by trivial)) (HN.out (by trivial)))
      have key : ∃ (sv : ByteArray) (x : Int), e = .returned (.tuple #[.string sv, .int .i64 x]) ∧ ∀ e3 w3, FmtRes (cf (ps0.map PT.tm)) ls1 w2 e3 w3 → e3 = .returned (.tuple #[.string sv, .int .i64 x]) := by
        rcases hr with ⟨hno, rfl⟩ | ⟨hok, P, hP, hc, hl, rfl⟩
        · refine ⟨_, _, rfl, fun e3 w3 h3 => ?_⟩
          rcases h3.1 with ⟨_, he⟩ | ⟨hok, _⟩
          · exact he
          · rw [hno] at hok; cases hok
        · have hv : ∃ (sv : ByteArray) (x : Int), fmtV ls1 P = .tuple #[.string sv, .int .i64 x] := by
            unfold fmtV
            split
            · exact ⟨_, _, rfl⟩
            · exact ⟨_, _, rfl⟩
          obtain ⟨sv, x, hv⟩ := hv
          refine ⟨sv, x, by rw [hv], fun e3 w3 h3 => ?_⟩
          rcases h3.1 with ⟨hno, _⟩ | ⟨_, Q, hQ, hd, _, he⟩
          · rw [hok] at hno; cases hno
          · obtain rfl : Q = P := hQ.unique hP (fun m => (hd m).trans (hc m).symm)
            rw [he, hv]
      obtain ⟨sv, x, rfl, hkey⟩ := key
      have HKEY := Lib.hid hkey
      clear hkey hr hb2
      go_wp2_with fail
      refine HRT.out.mono ?_
      rintro e w3 hr
      have hb3' := hb2'.trans (hr.2.mono hb2'.size)
      obtain rfl := HKEY.out _ _ hr
      clear hr hb2'
      go_wp2_with fail
      go_ret
      exact ⟨by simp, hb3'⟩
end Go.Proofs.YtnghlhcekghciaaDoor
