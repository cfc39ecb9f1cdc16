/- PolytextJoins: the walk. -/
import Derived.Test.YtnghlhcekghciaaDoorXD
import Derived.Test.YtnghlhcekghciaaDoorXE
import Derived.Test.YtnghlhcekghciaaDoorXF
namespace Go.Proofs.YtnghlhcekghciaaDoor
open Go.RowKit

/-- a list of names as an argument -/
structure NArg (w : World) (B : Nat) (A : Option Addr) (c : Nat) (ls : List Bs) : Prop where
  rd : Reads w B 1 A ls.length (ls.map strV)
  cap : ls.length ≤ c
  len : ls.length ≤ maxLen
  el : ∀ l ∈ ls, l.length ≤ maxLen
theorem NArg.nin {w : World} {B c : Nat} {A : Option Addr} {ls : List Bs} (h : NArg w B A c ls) (hn : Nms ls) : NIn w B A c ls :=
  ⟨h.rd, h.cap, by have := hn.1; omega, fun l hl => by have := hn.2 l hl; omega⟩
theorem NArg.below {w w' : World} {B c : Nat} {A : Option Addr} {ls : List Bs} (h : NArg w B A c ls) (hb : Below B w w') : NArg w' B A c ls := { h with rd := h.rd.below hb }
theorem Tryd.str_at0 (l : Bs) (h : 0 < l.length) (W : World) : (Instr.index 9 (.string ⟨l.toArray⟩) (.int .i64 0)).run Tryd.prog W = .ok (.int .u8 ((l.getD 0 0).toNat : Int)) W := Tryd.str_at l 0 h W

theorem run_adds {P : Program} (x y : Bs) (h : x.length + y.length ≤ 9223372036854775807) (W : World) : (Op.stringOp .add ⟨x.toArray⟩ ⟨y.toArray⟩).run P W = .ok (.string ⟨(x ++ y).toArray⟩) W := by
  have := run_string_add_sum (P := P) W ⟨x.toArray⟩ ⟨y.toArray⟩ (by simpa [ByteArray.size] using h)
  rwa [ByteArray.mk_append_mk] at this
theorem Tryd.str_tail (b : UInt8) (r : Bs) (W : World) : (Instr.slice 9 (.string ⟨(b :: r).toArray⟩) (some (.int .i64 1)) none none).run Tryd.prog W = .ok (.string ⟨r.toArray⟩) W := by
  have e : (⟨(b :: r).toArray⟩ : ByteArray).extract 1 (r.length + 1) = ⟨r.toArray⟩ := by
    apply ByteArray.ext
    rw [ByteArray.data_extract]
    apply Array.ext'
    simp
  simp [Instr.slice, run_underlying Tryd.underlying9, go_sem]
  rw [if_pos (by omega), e]
theorem fmtGo_app (ns : List Bs) : ∀ (l l' : List Tm) (first : Bool), fmtGo ns first (l ++ l') = fmtGo ns first l ++ fmtGo ns (first && l.isEmpty) l'
  | [], l', first => by simp [fmtGo]
  | t :: l, l', first => by
    rw [List.cons_append, fmtGo, fmtGo_app ns l l' false, fmtGo]
    simp
theorem fmtGo_pre {ns : List Bs} {P : List Tm} {L : Nat} (h : (fmtS ns P).length ≤ L) (k : Nat) : (fmtGo ns true (P.take k)).length ≤ L := by
  cases P with
  | nil => simp [fmtGo]
  | cons t P =>
    rw [fmtS_go (by simp)] at h
    have e := fmtGo_app ns ((t :: P).take k) ((t :: P).drop k) true
    rw [List.take_append_drop] at e
    rw [e, List.length_append] at h
    omega

set_option maxHeartbeats 4000000 in
set_option maxRecDepth 100000 in
theorem Joins_any (a0 a1 : Option Addr) (cap0 cap1 : Nat) (ps0 : List PT) (ls1 : List Bs) (W : World) (in0 : PolyIn W W.heap.size a0 ps0) (wf0 : ∀ p ∈ ps0, WfM p.m) (in1 : NArg W W.heap.size a1 cap1 ls1) (htab : TabT W) :
    Calls Tryd.prog 8 #[.slice a0 ps0.length cap0, .slice a1 ls1.length cap1] W fun e w' => e = .returned (.bool true) ∧ Below W.heap.size W w' := by
  have H0 := Lib.hid in0; have W0 := Lib.hid wf0; have HT := Lib.hid htab; have H1 := Lib.hid in1
  clear in0 wf0 htab in1
  have HAW := Lib.hid (fun (w : World) (hW : Below W.heap.size W w) => awake_any w (HT.out.on hW))
  have HFW := Lib.hid (fun (w : World) (hW : Below W.heap.size W w) => Few21_any a0 cap0 W.heap.size 40 ps0 w (H0.out.below hW) (by omega))
  have HNW := Lib.hid (fun (w : World) (hW : Below W.heap.size W w) => names_any a1 cap1 W.heap.size ls1 w (H1.out.rd.below hW) H1.out.len H1.out.el)
  have HTE := Lib.hid (fun (w : World) (hW : Below W.heap.size W w) (hf : Few21 40 ps0) (hn : Nms ls1) =>
    Terms21_any a0 a1 cap0 cap1 W.heap.size 40 1073741824 (pw 21) ps0 ls1 w hW.size ((pin21 H0.out W0.out hf (by omega)).below hW) (by omega) big21 (by omega) ((H1.out.nin hn).below hW) (HT.out.on hW))
  have HFM := Lib.hid (fun (w : World) (hW : Below W.heap.size W w) (hf : Few21 40 ps0) (hn : Nms ls1) =>
    Format_any a0 a1 cap0 cap1 W.heap.size 40 1073741824 (pw 21) ps0 ls1 w hW.size ((pin21 H0.out W0.out hf (by omega)).below hW) (by omega) big21 (by omega) ((H1.out.nin hn).below hW) (HT.out.on hW))
  go_enter Tryd.func8, Tryd.ntmps8
  go_wp2_with fail
  refine (HAW.out _ (Below.refl _ _)).mono ?_
  rintro e w1 ⟨rfl, hb1⟩
  go_wp2_with fail
  refine (HFW.out _ hb1).mono ?_
  rintro e w1' ⟨b, rfl, hf, rfl⟩
  have HF := Lib.hid hf
  clear hf
  cases b with
  | false =>
    go_wp2_with fail
    refine (HAW.out _ hb1).mono ?_
    rintro e w2 ⟨rfl, hb2⟩
    go_wp2_with fail
    go_ret
    exact ⟨rfl, hb1.trans (hb2.mono hb1.size)⟩
  | true =>
    go_wp2_with fail
    refine (HNW.out _ hb1).mono ?_
    rintro e w1' ⟨b, rfl, hn, rfl⟩
    have HN := Lib.hid hn
    clear hn
    cases b with
    | false =>
      go_wp2_with fail
      refine (HAW.out _ hb1).mono ?_
      rintro e w2 ⟨rfl, hb2⟩
      go_wp2_with fail
      go_ret
      exact ⟨rfl, hb1.trans (hb2.mono hb1.size)⟩
    | true =>
      go_wp2_with fail
      refine (HTE.out _ hb1 (HF.out (by trivial)) (HN.out (by trivial))).mono ?_
      rintro e w2 ⟨hr, hb2⟩
      have hb2' := hb1.trans (hb2.mono hb1.size)
      rcases hr with ⟨hno, rfl⟩ | ⟨hok, hP, rfl⟩ | ⟨hok, P, hP, hc, hlv, hpl, htl, A2, c2, rfl, hown⟩
      · have HX := Lib.hid hno
        clear hno
        go_wp2_with fail
        refine (HFM.out _ hb2' (HF.out (by trivial)) (HN.out (by trivial))).mono ?_
        rintro e w3 ⟨hr, hb3⟩
        have hr2 : e = .returned (.tuple #[.string ⟨#[]⟩, .int .i64 1]) := by
          rcases hr with ⟨_, he⟩ | ⟨h1, _⟩
          · exact he
          · rw [HX.out] at h1; cases h1
        subst hr2
        clear hr
        have hb3' := hb2'.trans (hb3.mono hb2'.size)
        go_wp2_with fail
        go_ret
        exact ⟨rfl, hb3'⟩
      · have HX := Lib.hid hok; have HP := Lib.hid hP
        clear hok hP
        go_wp2_with fail
        refine (HFM.out _ hb2' (HF.out (by trivial)) (HN.out (by trivial))).mono ?_
        rintro e w3 ⟨hr, hb3⟩
        have hr2 : e = .returned (.tuple #[.string ⟨#[]⟩, .int .i64 4]) := by
          rcases hr with ⟨h1, _⟩ | ⟨_, Q, hQ, hc, _, he⟩
          · rw [HX.out] at h1; cases h1
          · obtain ⟨P, hP, hcp, hlp⟩ := HP.out
            obtain rfl : Q = P := hQ.unique hP (fun m => (hc m).trans (hcp m).symm)
            rw [he]
            unfold fmtV
            rw [if_pos hlp]
        subst hr2
        clear hr
        have hb3' := hb2'.trans (hb3.mono hb2'.size)
        go_wp2_with fail
        go_ret
        exact ⟨rfl, hb3'⟩
      · have HX := Lib.hid hok; have HP := Lib.hid hP; have HC := Lib.hid hc; have HL := Lib.hid hlv; have HTL := Lib.hid htl; have HOW := Lib.hid hown
        clear hok hP hc hlv htl hown
        go_wp2_with fail
        refine (HFM.out _ hb2' (HF.out (by trivial)) (HN.out (by trivial))).mono ?_
        rintro e w3 ⟨hr, hb3⟩
        have hr2 : e = .returned (.tuple #[.string ⟨(fmtS ls1 P).toArray⟩, .int .i64 0]) ∧ (fmtS ls1 P).length ≤ 100000000 := by
          rcases hr with ⟨h1, _⟩ | ⟨_, Q, hQ, hc, hl, he⟩
          · rw [HX.out] at h1; cases h1
          · obtain rfl : Q = P := hQ.unique HP.out (fun m => (hc m).trans (HC.out m).symm)
            rw [he]
            unfold fmtV
            rw [if_neg (by have := HL.out; omega)]
            exact ⟨rfl, hl HL.out⟩
        obtain ⟨rfl, hl⟩ := hr2
        clear hr
        have hb3' := hb2'.trans (hb3.mono hb2'.size)
        have hrd := Reads.of_own (own_after HOW.out hb3)
        clear HOW hb3
        have HNO := Lib.hid (namesB_ok HX.out).2
        have HLO := Lib.hid (fun t ht => lvOk_of HP.out HL.out (t := t) ht)
        have HFL := Lib.hid (show ∀ k, (fmtGo ls1 true (P.take k)).length ≤ 100000000 from fmtGo_pre hl)
        go_wp2_with fail
        go_loopg [9, 10, 11, 49] P.length (fun gn tv _ _ ix wr => ∃ k : Nat, k ≤ P.length ∧ gn = P.length - k ∧ ix = .int .i64 k ∧ tv = .string ⟨(fmtGo ls1 true (P.take k)).toArray⟩ ∧ w3 = wr)
        case atStart => exact ⟨0, by omega, rfl, rfl, rfl, rfl⟩
        case round =>
          obtain ⟨k, hk, hgk, rfl, rfl, rfl⟩ := hrel
          have HG := Lib.hid hgk
          clear hgk
          by_cases hlt : k < P.length
          · obtain ⟨t, ht⟩ : ∃ t, P[k]? = some t := ⟨_, List.getElem?_eq_getElem hlt⟩
            have htm := List.mem_of_getElem? ht
            have HTK := Lib.hid (show P.take (k + 1) = P.take k ++ [t] by
              rw [List.take_succ_eq_append_getElem hlt, (List.getElem?_eq_some_iff.1 ht).2])
            obtain ⟨b1, o1, rfl, q1, hcell⟩ := hrd.2 (by omega)
            have c1 := hcell k (strV (txt1 ls1 t)) (by
              unfold termsS
              rw [List.getElem?_map, List.getElem?_map, ht]
              rfl)
            have hne := txt1_ne HNO.out (HLO.out t htm)
            have HTXL := Lib.hid (HTL.out (txt1 ls1 t) (List.mem_map.2 ⟨t, htm, rfl⟩))
            have j1 : (k : Int) < (P.length : Int) := by omega
            have j0 : (0 : Int) ≤ (k : Int) := by omega
            have hix := fun (W : World) => Tryd.str_at0 (txt1 ls1 t) hne W
            by_cases hk0 : k = 0
            · have hk0c : ¬ (0 : Int) < (k : Int) := by omega
              have HNX := Lib.hid (show fmtGo ls1 true (P.take (k + 1)) = txt1 ls1 t by rw [HTK.out, hk0]; exact join_first)
              have HZ := Lib.hid (show fmtGo ls1 true (P.take k) = [] by rw [hk0]; rfl)
              unfold strV at c1
              generalize txt1 ls1 t = tx at *
              have hneb : ((tx.length : Int) == 0) = false := by simp; intro e; rw [e] at hne; simp at hne
              rw [HZ.out]
              have htx : tx.length ≤ 9223372036854775807 := by have := HTXL.out; omega
              have hadd := fun (W : World) => run_adds (P := Tryd.prog) [] tx (by simpa using htx) W
              rw [List.nil_append] at hadd
              clear hk0 hix
              go_wp2_with fail
              go_roundg (P.length - (k + 1))
              case rel => exact ⟨k + 1, by omega, rfl, by go_num, by rw [HNX.out], rfl⟩
              case measure => have := HG.out; omega
            · have hk0c : (0 : Int) < (k : Int) := by omega
              have HNE := Lib.hid (show P.take k ≠ [] from fun e => hk0 (by have := congrArg List.length e; rwa [List.length_take, Nat.min_eq_left hk] at this))
              have HFK := Lib.hid (HFL.out k)
              have HTXL' := HTXL.out
              unfold strV at c1
              have hneb : (((txt1 ls1 t).length : Int) == 0) = false := by simp; intro e; rw [e] at hne; simp at hne
              by_cases hneg : t.1 < 0
              · have e1 := txt1_neg (ls := ls1) hneg
                have HNX := Lib.hid (show fmtGo ls1 true (P.take (k + 1)) = fmtGo ls1 true (P.take k) ++ ([32, 45, 32] ++ termS ls1 t.1.natAbs t.2) by rw [HTK.out]; exact join_neg HNE.out hneg)
                rw [e1] at c1 hix hneb HTXL'
                generalize termS ls1 t.1.natAbs t.2 = r at *
                generalize fmtGo ls1 true (P.take k) = tk at *
                have hrl : r.length ≤ 10000 := by simp at HTXL'; omega
                have hsl := fun (W : World) => Tryd.str_tail 45 r W
                have hadd := fun (W : World) => run_adds (P := Tryd.prog) [32, 45, 32] r (by simp; omega) W
                have hadd2 := fun (W : World) => run_adds (P := Tryd.prog) tk ([32, 45, 32] ++ r) (by have := HFK.out; simp; omega) W
                rw [show (45 :: r).getD 0 0 = (45 : UInt8) from rfl] at hix
                rw [show ((45 : UInt8).toNat : Int) = 45 from rfl] at hix
                have HZZ := Lib.hid (rfl : [32, 45, 32] ++ r = ([32, 45, 32] ++ r : Bs))
                generalize hz : ([32, 45, 32] ++ r : Bs) = zz at hadd hadd2 HNX
                clear hz HZZ hneg e1 hk0 hne HTXL HTXL'
                go_wp2_with fail
                go_roundg (P.length - (k + 1))
                case rel => exact ⟨k + 1, by omega, rfl, by go_num, by rw [HNX.out], rfl⟩
                case measure => have := HG.out; omega
              · obtain ⟨e1, hno⟩ := txt1_pos HNO.out hneg
                have HNX := Lib.hid (show fmtGo ls1 true (P.take (k + 1)) = fmtGo ls1 true (P.take k) ++ ([32, 43, 32] ++ txt1 ls1 t) by rw [HTK.out, e1]; exact join_pos HNE.out hneg)
                have hh : ((txt1 ls1 t).getD 0 0) ≠ 45 := fun e => hno (e ▸ head_getD hne)
                have hcb : ((((txt1 ls1 t).getD 0 0).toNat : Int) == 45) = false := by
                  simp only [beq_eq_false_iff_ne, ne_eq]
                  intro e
                  exact hh (UInt8.toNat_inj.1 (by have : (45 : UInt8).toNat = 45 := rfl; omega))
                clear e1 hno hh
                generalize ((txt1 ls1 t).getD 0 0).toNat = ch at *
                generalize txt1 ls1 t = tx at *
                generalize fmtGo ls1 true (P.take k) = tk at *
                have hadd := fun (W : World) => run_adds (P := Tryd.prog) [32, 43, 32] tx (by simp; omega) W
                have hadd2 := fun (W : World) => run_adds (P := Tryd.prog) tk ([32, 43, 32] ++ tx) (by have := HFK.out; simp; omega) W
                generalize hz : ([32, 43, 32] ++ tx : Bs) = zz at hadd hadd2 HNX
                clear hz hneg hk0 hne HTXL HTXL'
                go_wp2_with fail
                go_roundg (P.length - (k + 1))
                case rel => exact ⟨k + 1, by omega, rfl, by go_num, by rw [HNX.out], rfl⟩
                case measure => have := HG.out; omega
          · obtain rfl : k = P.length := by omega
            rw [List.take_length]
            cases P with
            | nil =>
              have e0 : (⟨(fmtS ls1 []).toArray⟩ : ByteArray).toList = [48] := by rw [ByteArray.toList_eq]; rfl
              have e1 : (⟨(fmtGo ls1 true []).toArray⟩ : ByteArray).toList = [] := by rw [ByteArray.toList_eq]; rfl
              generalize (⟨(fmtS ls1 []).toArray⟩ : ByteArray) = s1 at *
              generalize (⟨(fmtGo ls1 true []).toArray⟩ : ByteArray) = s2 at *
              go_wp2_with fail
              go_ret
              exact ⟨rfl, hb3'⟩
            | cons t P =>
              rw [fmtS_go (by simp)]
              generalize (⟨(fmtGo ls1 true (t :: P)).toArray⟩ : ByteArray) = s1 at *
              have hpb : (((t :: P).length : Int) == 0) = false := by simp; omega
              have hpc : (0 : Int) < ((t :: P).length : Int) := by simp
              generalize (t :: P).length = np at *
              go_wp2_with fail
              go_ret
              exact ⟨rfl, hb3'⟩
end Go.Proofs.YtnghlhcekghciaaDoor
