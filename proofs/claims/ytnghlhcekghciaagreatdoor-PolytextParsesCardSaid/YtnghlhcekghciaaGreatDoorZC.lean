/- Contract of polytext.Parse. -/
import Derived.Test.YtnghlhcekghciaaGreatDoorZB
import Derived.Test.YtnghlhcekghciaaGreatDoorXD
import Derived.Test.YtnghlhcekghciaaGreatDoorXT
import Derived.Test.YtnghlhcekghciaaGreatDoorXG
import Derived.Test.YtnghlhcekghciaaGreatDoorXH
import Derived.Test.YtnghlhcekghciaaGreatDoorZS
import Derived.Test.YtnghlhcekghciaaGreatDoorXQ
namespace Go.Proofs.YtnghlhcekghciaaGreatDoor
open Go.RowKit

/-- nothing that is read from s is printed as s -/
def PBad (ls : List Bs) (s : Bs) : Prop := ∀ ts, readR ls s = some ts → ∀ P, Canon P → (∀ m, cf P m = cf ts m) → lvL P ≤ (ls.length : Int) → fmtS ls P ≠ s
def PParseRes (ls : List Bs) (s : Bs) (w : World) (e : Ending) (w' : World) : Prop :=
  ((namesB ls = false ∧ e = .returned (.tuple #[.slice none 0 0, .int .i64 1])) ∨
    (namesB ls = true ∧ PBad ls s ∧ e = .returned (.tuple #[.slice none 0 0, .int .i64 6])) ∨
    (namesB ls = true ∧ ∃ ts A c qs, readR ls s = some ts ∧ lvL (qs.map PT.tm) ≤ (ls.length : Int) ∧ fmtS ls (qs.map PT.tm) = s ∧ e = .returned (.tuple #[.slice A qs.length c, .int .i64 0]) ∧ PGood w' w.heap.size (.slice A qs.length c) qs (cf ts) 1001 2147483648000 (pw 113))) ∧ Below w.heap.size w w'
/-- bounds of terms that were read -/
def Bnd (ts : List Tm) : Prop := ts.length ≤ 1001 ∧ ∀ t ∈ ts, t.1.natAbs < pw 112 ∧ ∀ j, j < 4 → 0 ≤ gt t.2 j ∧ gt t.2 j ≤ 2147483648000
theorem qrd_in {w : World} {base c : Nat} {A : Option Addr} {qs : List PT} (h : PRow w base (.slice A qs.length c) qs) (hq : ∀ q ∈ qs, QRd q) (hb : Bnd (qs.map PT.tm)) : PIn w w.heap.size A qs 1001 2147483648000 (pw 113) where
  pin := h.polyIn
  dl q hm := by
    rw [(hq q hm).cn.ds]
    have := dig_len_pw (hb.2 q.tm (List.mem_map.2 ⟨q, hm, rfl⟩)).1
    omega
  wf q hm := by
    have e := (hb.2 q.tm (List.mem_map.2 ⟨q, hm, rfl⟩)).2
    have e0 := e 0 (by omega); have e1 := e 1 (by omega); have e2 := e 2 (by omega); have e3 := e 3 (by omega)
    rw [show q.tm.2 = q.m from rfl] at e0 e1 e2 e3
    simp only [gt] at e0 e1 e2 e3
    unfold WfM WfI
    omega
  mb q hm _ := by
    have e := (hb.2 q.tm (List.mem_map.2 ⟨q, hm, rfl⟩)).2
    have e0 := e 0 (by omega); have e1 := e 1 (by omega); have e2 := e 2 (by omega); have e3 := e 3 (by omega)
    rw [show q.tm.2 = q.m from rfl] at e0 e1 e2 e3
    simp only [gt] at e0 e1 e2 e3
    unfold MB
    omega
  len := by have := hb.1; rwa [List.length_map] at this
  nm := by
    have key : ∀ rs : List PT, (∀ q ∈ rs, q.tm.1.natAbs < pw 112) → nrm (rs.map PT.tm) ≤ rs.length * pw 112 := by
      intro rs
      induction rs with
      | nil => intro _; simp [nrm]
      | cons q rs ih =>
        intro hh
        have h1 := ih fun p hp => hh p (List.mem_cons_of_mem _ hp)
        have h2 := hh q (by simp)
        simp only [List.map_cons, nrm, List.length_cons, Nat.add_mul]
        omega
    have h1 := key qs fun q hm => (hb.2 q.tm (List.mem_map.2 ⟨q, hm, rfl⟩)).1
    have hl := hb.1
    rw [List.length_map] at hl
    have h2 : qs.length * pw 112 ≤ pw 1 * pw 112 := Nat.mul_le_mul_right _ (by unfold pw; omega)
    rw [pw_mul] at h2
    exact Nat.le_trans h1 h2
theorem big113 : pw 113 < Big := pw_lt (by decide)

set_option maxHeartbeats 4000000 in
set_option maxRecDepth 100000 in
theorem Parse_any (s : Bs) (A : Option Addr) (c B : Nat) (ls : List Bs) (w : World) (hs : s.length ≤ 100000) (hbd : ∀ ts, readR ls s = some ts → Bnd ts) (hB : B ≤ w.heap.size) (hn : NIn w B A c ls) (htab : TabT w) (hm : MaxL w) :
    Calls Tryz.prog 8 #[.string ⟨s.toArray⟩, .slice A ls.length c] w (PParseRes ls s w) := by
  have HNA := Lib.hid (Names_any A c B ls w hn.rd hn.cap hn.len hn.el)
  have HNI := Lib.hid hn; have HT := Lib.hid htab; have HM := Lib.hid hm
  have HRR := Lib.hid (fun (h4 : ls.length ≤ 4) => read_any s A c B ls w hs hB hn.rd h4 hm)
  have HBD := Lib.hid hbd
  clear hn htab hm hbd
  unfold PParseRes PBad
  generalize readR ls s = ro at *
  go_enter Tryz.func8, Tryz.ntmps8
  go_wp2_with fail
  refine HNA.out.mono ?_
  rintro e w1 ⟨rfl, rfl⟩
  cases hnb : namesB ls with
  | false =>
    have HF := Lib.hid hnb
    clear hnb
    go_wp2_with fail
    go_ret2
    exact ⟨.inl ⟨HF.out, rfl⟩, Below.refl _ _⟩
  | true =>
    have HF := Lib.hid hnb
    have hok := namesB_ok hnb
    have HRD := Lib.hid (HRR.out hok.1)
    clear hnb hok HRR
    go_wp2_with fail
    refine HRD.out.mono ?_
    rintro e w2 ⟨hr, hb2⟩
    rcases hr with ⟨hro, rfl⟩ | ⟨qs, A2, c2, hro, rfl, hrow, hq, hlen⟩
    · have HRO := Lib.hid hro
      clear hro
      go_wp2_with fail
      go_ret2
      exact ⟨.inr (.inl ⟨HF.out, fun ts hts => (by rw [HRO.out] at hts; cases hts), rfl⟩), hb2⟩
    · have HPI := Lib.hid (qrd_in hrow hq (HBD.out _ hro))
      have HRO := Lib.hid hro
      have HB2 := Lib.hid hb2
      have HFM := Lib.hid (Format_any A2 A c2 c w2.heap.size 1001 2147483648000 (pw 113) qs ls w2 (Nat.le_refl _) HPI.out (by omega) big113 (by omega) ((HNI.out.below (hb2.mono hB)).more (Nat.le_trans hB hb2.size)) (HT.out.on hb2))
      have HNO := Lib.hid (fun (W : World) (hW : Below w2.heap.size w2 W) => Normal_poly A2 c2 w2.heap.size 1001 2147483648000 (pw 113) qs W hW.size (HPI.out.below hW) (by omega) big113)
      clear hrow hq hro hb2 HNA
      go_wp2_with fail
      refine HFM.out.mono ?_
      rintro e w3 ⟨hr, hb3⟩
      rcases hr with ⟨hno, _⟩ | ⟨_, P, hP, hc, hl, rfl⟩
      · rw [HF.out] at hno; cases hno
      · have HP := Lib.hid hP; have HC := Lib.hid hc
        have HBF := Lib.hid (HB2.out.trans (hb3.mono HB2.out.size))
        have HNW := Lib.hid (HNO.out _ hb3)
        have HU := Lib.hid (fun (Q : List Tm) (hQ : Canon Q) (ts : List Tm) (hts : some (qs.map PT.tm) = some ts) (hcf : ∀ m, cf Q m = cf ts m) => show Q = P from by
          injection hts with hts
          exact hQ.unique HP.out (fun m => by rw [hcf, HC.out, hts]))
        rw [← HRO.out] at HU
        clear hP hc hb3 HFM HNO
        by_cases hlv : (ls.length : Int) < lvL P
        · have HV := Lib.hid (show fmtV ls P = .tuple #[.string ⟨#[]⟩, .int .i64 4] by unfold fmtV; rw [if_pos hlv])
          have HLV := Lib.hid hlv
          rw [HV.out]
          clear hlv hl
          go_wp2_with fail
          go_ret2
          refine ⟨.inr (.inl ⟨HF.out, fun ts hts Q hQ hcf hlq => ?_, rfl⟩), HBF.out⟩
          obtain rfl := HU.out Q hQ ts hts hcf
          have := HLV.out
          omega
        · have HV := Lib.hid (show fmtV ls P = .tuple #[.string ⟨(fmtS ls P).toArray⟩, .int .i64 0] by unfold fmtV; rw [if_neg hlv])
          have HLV := Lib.hid (show lvL P ≤ (ls.length : Int) by omega)
          rw [HV.out]
          by_cases hts : fmtS ls P = s
          · have HTS := Lib.hid hts
            rw [hts]
            clear hlv hl hts
            generalize hsv : (⟨s.toArray⟩ : ByteArray) = sv at *
            clear hsv
            go_wp2_with fail
            refine HNW.out.mono ?_
            rintro e w4 ⟨A4, c4, rs, rfl, hg, hb4⟩
            have HB4 := Lib.hid (HBF.out.trans (hb4.mono HBF.out.size))
            have HRP := Lib.hid (show rs.map PT.tm = P from hg.can.unique HP.out (fun m => by rw [hg.cf, HC.out]))
            have HG := Lib.hid (show PGood w4 w.heap.size (.slice A4 rs.length c4) rs (cf (qs.map PT.tm)) 1001 2147483648000 (pw 113) from { hg with own := hg.own.mono HBF.out.size })
            clear hg hb4
            go_wp2_with fail
            go_ret2
            refine ⟨.inr (.inr ⟨HF.out, qs.map PT.tm, A4, c4, rs, HRO.out, by rw [HRP.out]; exact HLV.out, by rw [HRP.out]; exact HTS.out, rfl, HG.out⟩), HB4.out⟩
          · have HTS := Lib.hid hts
            have hss : ((⟨(fmtS ls P).toArray⟩ : ByteArray).toList == (⟨s.toArray⟩ : ByteArray).toList) = false := by
              rw [bs_list, bs_list]
              simpa using hts
            generalize (⟨(fmtS ls P).toArray⟩ : ByteArray) = s1 at *
            generalize (⟨s.toArray⟩ : ByteArray) = sv at *
            clear hlv hl hts
            go_wp2_with fail
            go_ret2
            refine ⟨.inr (.inl ⟨HF.out, fun ts hts Q hQ hcf hlq => ?_, rfl⟩), HBF.out⟩
            obtain rfl := HU.out Q hQ ts hts hcf
            exact HTS.out
end Go.Proofs.YtnghlhcekghciaaGreatDoor

/- Cutting and splitting texts: plain laws; PolytextNames. -/
namespace Go.Proofs.YtnghlhcekghciaaGreatDoor
open Go.RowKit

theorem idx_no {c : UInt8} : ∀ {l : Bs}, c ∉ l → Lib.index l [c] = -1
  | [], _ => rfl
  | b :: l, h => by
    have hb : c ≠ b := fun e => h (by rw [e]; simp)
    have ih := idx_no (l := l) (fun hh => h (List.mem_cons_of_mem _ hh))
    rw [Lib.index, ih]
    simp [List.isPrefixOf, hb]
theorem idx_at {c : UInt8} (b : Bs) : ∀ {a : Bs}, c ∉ a → Lib.index (a ++ c :: b) [c] = (a.length : Int)
  | [], _ => by
    rw [List.nil_append, Lib.index]
    simp [List.isPrefixOf]
  | d :: a, h => by
    have hd : c ≠ d := fun e => h (by rw [e]; simp)
    have ih := idx_at b (a := a) (fun hh => h (List.mem_cons_of_mem _ hh))
    rw [List.cons_append, Lib.index, ih]
    simp [List.isPrefixOf, hd]
theorem cut_no {c : UInt8} {l : Bs} (h : c ∉ l) : Lib.cut l [c] = (l, [], false) := by
  unfold Lib.cut
  rw [idx_no h]
  rfl
theorem cut_at {c : UInt8} {a : Bs} (b : Bs) (h : c ∉ a) : Lib.cut (a ++ c :: b) [c] = (a, b, true) := by
  unfold Lib.cut
  rw [idx_at b h, if_pos (by omega)]
  simp
theorem countB_bs (c : UInt8) (l : Bs) : Lib.countB ⟨l.toArray⟩ ⟨#[c]⟩ = l.count c := by
  unfold Lib.countB
  exact Lib.count_one c l
theorem parts_no {c : UInt8} {l : Bs} (h : c ∉ l) : partsS c l = [l] := by
  unfold partsS
  rw [countB_bs, List.count_eq_zero.2 h, Lib.splitB_zero]
  simp
theorem parts_at {c : UInt8} {a : Bs} (b : Bs) (h : c ∉ a) : partsS c (a ++ c :: b) = a :: partsS c b := by
  unfold partsS
  rw [countB_bs, countB_bs, List.count_append, List.count_eq_zero.2 h, List.count_cons_self, Nat.zero_add]
  have hi : Lib.indexB ⟨(a ++ c :: b).toArray⟩ ⟨#[c]⟩ = (a.length : Int) := by
    unfold Lib.indexB
    exact idx_at b h
  rw [Lib.splitB_hit _ _ _ _ _ hi, List.map_cons]
  congr 1
  · rw [ByteArray.data_extract]
    simp
  · congr 2
    apply ByteArray.ext
    rw [ByteArray.data_extract]
    apply Array.ext'
    simp [ByteArray.size]
    exact List.take_of_length_le (by omega)
theorem zero_term (ls : List Bs) : termR ls [48] = some (0, (0, 0, 0, 0)) := by
  unfold termR
  rw [parts_no (by decide)]
  rfl
theorem zero_read (ls : List Bs) : readR ls [48] = some [(0, (0, 0, 0, 0))] := by
  unfold readR
  rw [show Lib.hasPrefix ([48] : Bs) [45] = false by decide, show Lib.trimPrefix ([48] : Bs) [45] = [48] by decide, readGo, cut_no (by decide), zero_term]
  rfl
theorem zero_bd (ls : List Bs) : ∀ ts, readR ls [48] = some ts → Bnd ts := fun ts h => by
  rw [zero_read] at h
  injection h with h
  subst h
  refine ⟨by simp, fun t ht => ?_⟩
  rw [List.mem_singleton] at ht
  subst ht
  exact ⟨Nat.pow_pos (by decide), fun j hj => by rcases (by omega : j = 0 ∨ j = 1 ∨ j = 2 ∨ j = 3) with rfl | rfl | rfl | rfl <;> simp [gt]⟩
theorem zero_good (ls : List Bs) : ¬ PBad ls [48] := fun h => h _ (zero_read ls) [] Canon.nil (fun m => by rw [cf_cons]; simp [cf_nil]) (by simp [lvL]) rfl
theorem nil_in (w : World) (B : Nat) : PIn w B none [] 1 1 1 where
  pin := ⟨Reads.none_, by simp⟩
  dl := by simp
  wf := by simp
  mb := by simp
  len := by simp
  nm := by simp [nrm]
theorem one_big : 1 < Big := pw_one (k := 600) (by decide)
theorem canon_zero {P : List Tm} (h : Canon P) (hc : ∀ m, cf P m = cf ([] : List Tm) m) : P = [] := h.unique Canon.nil hc

set_option maxHeartbeats 4000000 in
set_option maxRecDepth 100000 in
theorem NamesLaw_any (a0 : Option Addr) (cap0 : Nat) (ls0 : List Bs) (W : World) (in0 : NArg W W.heap.size a0 cap0 ls0) (htab : TabT W) (hm : MaxL W) :
    Calls Tryz.prog 5 #[.slice a0 ls0.length cap0] W fun e w' => e = .returned (.bool true) ∧ Below W.heap.size W w' := by
  have HT := Lib.hid htab; have H1 := Lib.hid in0; have HM := Lib.hid hm
  clear htab in0 hm
  have HAW := Lib.hid (fun (w : World) (hW : Below W.heap.size W w) => awake_any w (HT.out.on hW))
  have HNW := Lib.hid (fun (w : World) (hW : Below W.heap.size W w) => names_any a0 cap0 W.heap.size ls0 w (H1.out.rd.below hW) H1.out.len H1.out.el)
  have HNA := Lib.hid (fun (w : World) (hW : Below W.heap.size W w) (hn : Nms ls0) => Names_any a0 cap0 W.heap.size ls0 w (H1.out.rd.below hW) H1.out.cap (by have := hn.1; omega) (fun l hl => by have := hn.2 l hl; omega))
  have HNR := Lib.hid (fun (w : World) (hW : Below W.heap.size W w) (hn : Nms ls0) => RNames_any a0 cap0 W.heap.size ls0 w (H1.out.rd.below hW) (by have := hn.1; omega) (fun l hl => by have := hn.2 l hl; omega))
  have HFM := Lib.hid (fun (w : World) (hW : Below W.heap.size W w) (hn : Nms ls0) => Format_any none a0 0 cap0 W.heap.size 1 1 1 [] ls0 w hW.size (nil_in _ _) (by omega) one_big (by omega) ((H1.out.nin hn).below hW) (HT.out.on hW))
  have HTE := Lib.hid (fun (w : World) (hW : Below W.heap.size W w) (hn : Nms ls0) => Terms21_any none a0 0 cap0 W.heap.size 1 1 1 [] ls0 w hW.size (nil_in _ _) (by omega) one_big (by omega) ((H1.out.nin hn).below hW) (HT.out.on hW))
  have HPA := Lib.hid (fun (w : World) (hW : Below W.heap.size W w) (hn : Nms ls0) => Parse_any [48] a0 cap0 W.heap.size ls0 w (by simp) (zero_bd ls0) hW.size ((H1.out.nin hn).below hW) (HT.out.on hW) (HM.out.old hW))
  go_enter Tryz.func5, Tryz.ntmps5
  go_wp2_with fail
  refine (HAW.out _ (Below.refl _ _)).mono ?_
  rintro e w1 ⟨rfl, hb1⟩
  go_wp2_with fail
  refine (HNW.out _ hb1).mono ?_
  rintro e w1' ⟨b, rfl, hn, rfl⟩
  have HN := Lib.hid hn
  clear hn
  cases b with
  | false =>
    go_wp2_with fail
    refine (HAW.out _ hb1).mono ?_
    rintro e w2 ⟨rfl, hb2⟩
    go_wp2_with fail
    go_ret
    exact ⟨rfl, hb1.trans (hb2.mono hb1.size)⟩
  | true =>
    go_wp2_with fail
    refine (HNA.out _ hb1 (HN.out (by trivial))).mono ?_
    rintro e w1' ⟨rfl, rfl⟩
    go_wp2_with fail
    refine (HFM.out _ hb1 (HN.out (by trivial))).mono ?_
    rintro e w2 ⟨hr, hb2⟩
    have hb2' := hb1.trans (hb2.mono hb1.size)
    have k1 : ∃ sv : ByteArray, e = .returned (.tuple #[.string sv, .int .i64 (if namesB ls0 then 0 else 1)]) := by
      rcases hr with ⟨hno, rfl⟩ | ⟨hok, P, hP, hc, hl, rfl⟩
      · rw [hno]; exact ⟨_, rfl⟩
      · obtain rfl := canon_zero hP hc
        rw [hok]
        unfold fmtV
        rw [if_neg (by simp [lvL])]
        exact ⟨_, rfl⟩
    obtain ⟨sv, rfl⟩ := k1
    have HP2 := Lib.hid (HPA.out _ hb2' (HN.out (by trivial)))
    clear hr hb2
    have HZG := Lib.hid (zero_good ls0)
    have HZR := Lib.hid (zero_read ls0)
    generalize hnb : namesB ls0 = nb at *
    have HNB := Lib.hid hnb
    clear hnb
    cases nb with
    | false =>
      go_wp2_with fail
      refine HP2.out.mono ?_
      rintro e w3 ⟨hr, hb3⟩
      have hb3' := hb2'.trans (hb3.mono hb2'.size)
      have k2 : e = .returned (.tuple #[.slice none 0 0, .int .i64 1]) := by
        rcases hr with ⟨_, he⟩ | ⟨hok, _⟩ | ⟨hok, _⟩
        · exact he
        · rw [HNB.out] at hok; cases hok
        · rw [HNB.out] at hok; cases hok
      subst k2
      clear hr hb3
      go_wp2_with fail
      refine (HTE.out _ hb3' (HN.out (by trivial))).mono ?_
      rintro e w4 ⟨hr, hb4⟩
      have hb4' := hb3'.trans (hb4.mono hb3'.size)
      have k3 : e = .returned (.tuple #[.slice none 0 0, .int .i64 1]) := by
        rcases hr with ⟨_, he⟩ | ⟨hok, _⟩ | ⟨hok, _⟩
        · exact he
        · rw [HNB.out] at hok; cases hok
        · rw [HNB.out] at hok; cases hok
      subst k3
      clear hr hb4
      go_wp2_with fail
      refine (HNR.out _ hb4' (HN.out (by trivial))).mono ?_
      rintro e w5 ⟨rfl, hdr⟩
      have hb5 := hb4'.trans (hdr.below _)
      go_wp2_with fail
      go_ret
      exact ⟨rfl, hb5⟩
    | true =>
      go_wp2_with fail
      refine HP2.out.mono ?_
      rintro e w3 ⟨hr, hb3⟩
      have hb3' := hb2'.trans (hb3.mono hb2'.size)
      have k2 : ∃ v : Value, e = .returned (.tuple #[v, .int .i64 0]) := by
        rcases hr with ⟨hno, _⟩ | ⟨_, hbad, _⟩ | ⟨_, ts, A', c', qs, _, _, _, he, _⟩
        · rw [HNB.out] at hno; cases hno
        · exact absurd hbad HZG.out
        · exact ⟨_, he⟩
      obtain ⟨v2, rfl⟩ := k2
      clear hr hb3
      go_wp2_with fail
      refine (HTE.out _ hb3' (HN.out (by trivial))).mono ?_
      rintro e w4 ⟨hr, hb4⟩
      have hb4' := hb3'.trans (hb4.mono hb3'.size)
      have k3 : ∃ v : Value, e = .returned (.tuple #[v, .int .i64 0]) := by
        rcases hr with ⟨hno, _⟩ | ⟨_, ⟨P, hP, hc, hl⟩, _⟩ | ⟨_, P, hP, hc, hl, _, _, A', c', he, _⟩
        · rw [HNB.out] at hno; cases hno
        · obtain rfl := canon_zero hP hc
          simp [lvL] at hl
          omega
        · exact ⟨_, he⟩
      obtain ⟨v3, rfl⟩ := k3
      clear hr hb4
      go_wp2_with fail
      refine (HNR.out _ hb4' (HN.out (by trivial))).mono ?_
      rintro e w5 ⟨rfl, hdr⟩
      have hb5 := hb4'.trans (hdr.below _)
      go_wp2_with fail
      go_ret
      exact ⟨rfl, hb5⟩
end Go.Proofs.YtnghlhcekghciaaGreatDoor

/- What is printed is read: plain laws. -/
namespace Go.Proofs.YtnghlhcekghciaaGreatDoor
open Go.RowKit

/-! ### decimal texts -/
theorem dec_head {n : Nat} (h : 0 < n) : ∃ c r, Lib.decDigits n = c :: r ∧ isDig c ∧ c ≠ 48 := by
  induction n using Nat.strongRecOn with
  | _ n ih =>
    by_cases hs : n < 10
    · refine ⟨UInt8.ofNat (48 + n), [], decD_small hs, ?_, fun e => ?_⟩
      · unfold isDig; rw [digit_nat hs]; omega
      · have := congrArg UInt8.toNat e
        rw [digit_nat hs] at this
        have h48 : (48 : UInt8).toNat = 48 := rfl
        omega
    · obtain ⟨c, r, e, h1, h2⟩ := ih (n / 10) (by omega) (by omega)
      exact ⟨c, r ++ [UInt8.ofNat (48 + n % 10)], by rw [decD_big hs, e]; rfl, h1, h2⟩
theorem dec_zero : Lib.decDigits 0 = [48] := by rw [decD_small (by omega)]; rfl
theorem dig_not45 {c : UInt8} (h : isDig c) : c ≠ 45 := fun e => by subst e; unfold isDig at h; have : (45 : UInt8).toNat = 45 := rfl; omega
theorem decP_dec (n : Nat) : decP (Lib.decDigits n) = some (n : Int) := by
  have hs : sgnB (Lib.decDigits n) = false := by
    rcases Nat.eq_zero_or_pos n with h | h
    · subst h; rw [dec_zero]; rfl
    · obtain ⟨c, r, e, h1, _⟩ := dec_head h
      rw [e]
      simp [sgnB, dig_not45 h1]
  have hr : sgnR (Lib.decDigits n) = Lib.decDigits n := by unfold sgnR; rw [hs]; rfl
  have hall : (Lib.decDigits n).all (fun c => decide (48 ≤ c.toNat ∧ c.toNat ≤ 57)) = true := List.all_eq_true.2 fun c hc => by
    have := decD_dig n c hc
    unfold isDig at this
    simpa using this
  have hok : decOk false (Lib.decDigits n) = true := by
    unfold decOk
    rw [hall, Bool.and_true]
    rcases Nat.eq_zero_or_pos n with h | h
    · subst h; rw [dec_zero]; rfl
    · obtain ⟨c, r, e, _, h2⟩ := dec_head h
      rw [e]
      simp [h2]
  unfold decP
  rw [hs, hr, hok]
  simp [decV_decD]
theorem decP_letter {c : UInt8} {r : Bs} (h : 58 ≤ c.toNat) : decP (c :: r) = none := by
  have hs : sgnB (c :: r) = false := by
    have : c ≠ 45 := fun e => by subst e; have : (45 : UInt8).toNat = 45 := rfl; omega
    simp [sgnB, this]
  unfold decP
  rw [hs]
  have hr : sgnR (c :: r) = c :: r := by unfold sgnR; rw [hs]; rfl
  rw [hr]
  have : decOk false (c :: r) = false := by
    unfold decOk
    rw [List.all_cons, show decide (48 ≤ c.toNat ∧ c.toNat ≤ 57) = false by simp; omega]
    simp
  rw [this]
  rfl

/-! ### names -/
theorem nmCh_big {x : Nat} (h : nmCh 0 x = true) : 58 ≤ x := by
  simp [nmCh] at h
  omega
theorem nm_head {ls : List Bs} (h : NmOk ls) {j : Nat} (hj : j < ls.length) : ∃ c r, nmAt ls j = c :: r ∧ 58 ≤ c.toNat := by
  have hn := h _ (nmAt_in hj)
  cases hl : nmAt ls j with
  | nil => rw [hl] at hn; simp [nameB] at hn
  | cons c r =>
    refine ⟨c, r, rfl, ?_⟩
    rw [hl] at hn
    cases hc : nmCh 0 c.toNat with
    | false => rw [nameB_bad (k := 0) (by simp) (by simpa using hc)] at hn; cases hn
    | true => exact nmCh_big hc
theorem nm_apart {ls : List Bs} (h : namesB ls = true) {i j : Nat} (hij : i < j) (hj : j < ls.length) : ls.getD i [] ≠ ls.getD j [] := fun e => by
  have hb : (nameB (ls.getD j []) && !(ls.take j).contains (ls.getD j [])) = false := by
    have : (ls.take j).contains (ls.getD j []) = true := by
      rw [List.contains_iff_mem, ← e, List.getD_eq_getElem?_getD, List.getElem?_eq_getElem (by omega)]
      have h1 : (ls.take j)[i]? = some ls[i] := by rw [List.getElem?_take, if_pos hij, List.getElem?_eq_getElem (by omega)]
      exact List.mem_of_getElem? h1
    rw [this]
    simp
  rw [namesB_bad hj hb] at h
  cases h
theorem toB_inj {a b : Bs} (h : toB a = toB b) : a = b := by
  have := congrArg (fun x : ByteArray => x.data.toList) h
  simpa [toB] using this
theorem toB_getD {ls : List Bs} {i : Nat} (h : i < ls.length) : (ls.map toB).getD i ByteArray.empty = toB (ls.getD i []) := by
  rw [List.getD_eq_getElem?_getD, List.getElem?_map, List.getElem?_eq_getElem h, List.getD_eq_getElem?_getD, List.getElem?_eq_getElem h]
  rfl
theorem idxN_at {ls : List Bs} (h : namesB ls = true) {j : Nat} (hj : j < ls.length) : idxN ls (nmAt ls j) = (j : Int) := by
  unfold idxN Lib.idxOfS nmAt
  have := Lib.idxFromS_hit (toB (ls.getD j [])) (ls.map toB) j 0 (by simpa using hj) (toB_getD hj) (fun i hi => by
    rw [toB_getD (by omega)]
    exact fun e => nm_apart h hi hj (toB_inj e))
  rw [this]
  simp

/-! ### a term's parts -/
def fpart (ls : List Bs) (m : Mo) (j : Nat) : Bs := nmAt ls j ++ powS (gt m j)
def facs (ls : List Bs) (m : Mo) : Nat → List Bs
  | 0 => []
  | j + 1 => if gt m j = 0 then facs ls m j else facs ls m j ++ [fpart ls m j]
def joinS : List Bs → Bs
  | [] => []
  | [a] => a
  | a :: b :: r => a ++ 42 :: joinS (b :: r)
theorem joinS_snoc (x : Bs) : ∀ (l : List Bs), l ≠ [] → joinS (l ++ [x]) = joinS l ++ 42 :: x
  | [], h => absurd rfl h
  | [a], _ => rfl
  | a :: b :: r, _ => by
    have ih := joinS_snoc x (b :: r) (by simp)
    rw [List.cons_append, List.cons_append, joinS, ← List.cons_append, ih, joinS, List.append_assoc]
    rfl
theorem parts_join : ∀ (l : List Bs), l ≠ [] → (∀ p ∈ l, (42 : UInt8) ∉ p) → partsS 42 (joinS l) = l
  | [], h, _ => absurd rfl h
  | [a], _, h => parts_no (h a (by simp))
  | a :: b :: r, _, h => by
    rw [joinS, parts_at _ (h a (by simp)), parts_join (b :: r) (by simp) (fun p hp => h p (List.mem_cons_of_mem _ hp))]
def headP (c : Nat) (m : Mo) : List Bs := if c = 1 ∧ m ≠ (0, 0, 0, 0) then [] else [Lib.decDigits c]
theorem wrTo_parts (ls : List Bs) (c : Nat) (m : Mo) : ∀ j, (wrTo ls c m j).2 = joinS (headP c m ++ facs ls m j) ∧ ((wrTo ls c m j).1 = false ↔ headP c m ++ facs ls m j = [])
  | 0 => by
    unfold headP
    rw [wrTo, facs]
    split
    · exact ⟨rfl, by simp⟩
    · exact ⟨rfl, by simp⟩
  | j + 1 => by
    have ih := wrTo_parts ls c m j
    by_cases hg : gt m j = 0
    · rw [wrTo_skip hg, facs, if_pos hg]; exact ih
    · rw [wrTo_take hg, facs, if_neg hg, ← List.append_assoc]
      refine ⟨?_, by simp⟩
      generalize headP c m ++ facs ls m j = L at *
      cases hf : (wrTo ls c m j).1 with
      | false =>
        have hL := ih.2.1 hf
        rw [hL] at ih ⊢
        rw [ih.1]
        simp [joinS, fpart]
      | true =>
        have hL : L ≠ [] := fun e => by rw [ih.2.2 e] at hf; cases hf
        rw [joinS_snoc _ _ hL, ih.1]
        simp [fpart]
theorem termS_parts (ls : List Bs) (c : Nat) (m : Mo) : termS ls c m = joinS (headP c m ++ facs ls m 4) := (wrTo_parts ls c m 4).1
theorem facs_no {ls : List Bs} (h : NmOk ls) (m : Mo) : ∀ j, ∀ p ∈ facs ls m j, (42 : UInt8) ∉ p
  | 0 => by simp [facs]
  | j + 1 => by
    intro p hp
    rw [facs] at hp
    split at hp
    · exact facs_no h m j p hp
    · rcases List.mem_append.1 hp with hp | hp
      · exact facs_no h m j p hp
      · rw [List.mem_singleton] at hp
        subst hp
        intro hm
        rcases List.mem_append.1 hm with hm | hm
        · rcases h.ch j 42 hm with h1 | h1
          · unfold isDig at h1; have : (42 : UInt8).toNat = 42 := rfl; omega
          · have : (42 : UInt8).toNat = 42 := rfl; omega
        · unfold powS at hm
          split at hm
          · rcases List.mem_cons.1 hm with hm | hm
            · cases hm
            · have := decD_dig _ _ hm; unfold isDig at this; have : (42 : UInt8).toNat = 42 := rfl; omega
          · cases hm
/-- the exponents below j -/
def mTo (m : Mo) (j : Nat) : Mo := (if 0 < j then m.1 else 0, if 1 < j then m.2.1 else 0, if 2 < j then m.2.2.1 else 0, if 3 < j then m.2.2.2 else 0)
theorem mTo_four (m : Mo) : mTo m 4 = m := rfl
theorem mTo_add (m : Mo) {j : Nat} (hj : j < 4) : addAt (mTo m j) j (gt m j) = mTo m (j + 1) := by
  rcases (by omega : j = 0 ∨ j = 1 ∨ j = 2 ∨ j = 3) with rfl | rfl | rfl | rfl <;> simp [addAt, mTo, gt]
theorem mTo_skip (m : Mo) {j : Nat} (hj : j < 4) (h : gt m j = 0) : mTo m (j + 1) = mTo m j := by
  rcases (by omega : j = 0 ∨ j = 1 ∨ j = 2 ∨ j = 3) with rfl | rfl | rfl | rfl <;> simp [gt] at h <;> simp [mTo, h]
theorem factsR_app (ls : List Bs) : ∀ (a b : List Bs) (m : Mo), factsR ls (a ++ b) m = (factsR ls a m).bind (factsR ls b)
  | [], b, m => rfl
  | p :: a, b, m => by
    rw [List.cons_append, factsR, factsR]
    cases factR ls p with
    | none => rfl
    | some x => exact factsR_app ls a b _
theorem factR_at {ls : List Bs} (h : namesB ls = true) (ho : NmOk ls) {m : Mo} {j : Nat} (hj : j < ls.length) (h0 : 0 ≤ gt m j) (h1 : gt m j ≠ 0) : factR ls (fpart ls m j) = if gt m j ≤ 1073741824 then some (j, gt m j) else none := by
  have h94 : (94 : UInt8) ∉ nmAt ls j := fun hm => by
    rcases ho.ch j 94 hm with hh | hh
    · unfold isDig at hh; have : (94 : UInt8).toNat = 94 := rfl; omega
    · exact hh.2 rfl
  have hi := idxN_at h hj
  unfold fpart powS
  by_cases he : 1 < gt m j
  · rw [if_pos he]
    unfold factR
    rw [cut_at _ h94]
    simp only [hi]
    rw [if_neg (by omega), if_neg (by decide), decP_dec]
    simp only [Int.toNat_natCast]
    rw [Int.toNat_of_nonneg h0]
    by_cases hb : gt m j ≤ 1073741824
    · rw [if_pos hb, if_pos ⟨by omega, hb⟩]
    · rw [if_neg hb, if_neg (fun e => hb e.2)]
  · rw [if_neg he, List.append_nil]
    unfold factR
    rw [cut_no h94]
    simp only [hi]
    rw [if_neg (by omega), if_pos trivial, if_pos (by omega), show gt m j = 1 by omega]
    simp
/-- the exponents that Parse accepts -/
def ExOk (m : Mo) (j : Nat) : Prop := ∀ i, i < j → gt m i ≤ 1073741824
theorem factsR_facs {ls : List Bs} (h : namesB ls = true) (ho : NmOk ls) {m : Mo} (hl : LvOk ls m) (h0 : ∀ j, j < 4 → 0 ≤ gt m j) (he : ExOk m 4) : ∀ j, j ≤ 4 → factsR ls (facs ls m j) (0, 0, 0, 0) = some (mTo m j)
  | 0, _ => rfl
  | j + 1, hj => by
    have ih := factsR_facs h ho hl h0 he j (by omega)
    by_cases hg : gt m j = 0
    · rw [facs, if_pos hg, mTo_skip m (by omega) hg]; exact ih
    · rw [facs, if_neg hg, factsR_app, ih]
      show factsR ls [fpart ls m j] (mTo m j) = _
      rw [factsR, factR_at h ho (hl j (by omega) hg) (h0 j (by omega)) hg, if_pos (he j (by omega))]
      show some _ = _
      rw [mTo_add m (by omega)]
theorem facs_head {ls : List Bs} (ho : NmOk ls) {m : Mo} (hl : LvOk ls m) : ∀ j, j ≤ 4 → ∀ p r, facs ls m j = p :: r → decP p = none
  | 0, _, p, r, h => by cases h
  | j + 1, hj, p, r, h => by
    have ih := facs_head ho hl j (by omega)
    rw [facs] at h
    by_cases hg : gt m j = 0
    · rw [if_pos hg] at h
      exact ih p r h
    · rw [if_neg hg] at h
      cases hf : facs ls m j with
      | nil =>
        rw [hf] at h
        injection h with h _
        subst h
        obtain ⟨c, t, e, hc⟩ := nm_head ho (hl j (by omega) hg)
        unfold fpart
        rw [e]
        exact decP_letter hc
      | cons q t =>
        rw [hf] at h
        injection h with h _
        subst h
        exact ih q t hf
theorem headP_no {c : Nat} {m : Mo} : ∀ p ∈ headP c m, (42 : UInt8) ∉ p := fun p hp => by
  unfold headP at hp
  split at hp
  · cases hp
  · rw [List.mem_singleton] at hp
    subst hp
    intro hm
    have := decD_dig _ _ hm
    unfold isDig at this
    have : (42 : UInt8).toNat = 42 := rfl
    omega
theorem parts_ne {ls : List Bs} {c : Nat} {m : Mo} : headP c m ++ facs ls m 4 ≠ [] := fun e => by
  have hf := (wrTo_parts ls c m 4).2.2 e
  have h2 := List.append_eq_nil_iff.1 e
  unfold headP at h2
  by_cases hc : c = 1 ∧ m ≠ (0, 0, 0, 0)
  · apply hc.2
    apply mo_zero
    intro i hi
    have key : ∀ j, j ≤ 4 → facs ls m j = [] → ∀ i, i < j → gt m i = 0 := by
      intro j
      induction j with
      | zero => intro _ _ i hi; omega
      | succ j ih =>
        intro hj he i hi
        rw [facs] at he
        by_cases hg : gt m j = 0
        · rw [if_pos hg] at he
          by_cases hij : i = j
          · rw [hij]; exact hg
          · exact ih (by omega) he i (by omega)
        · rw [if_neg hg] at he
          exact absurd he (by simp)
    exact key 4 (Nat.le_refl _) h2.2 i hi
  · rw [if_neg hc] at h2
    cases h2.1
theorem term_parts {ls : List Bs} (ho : NmOk ls) {c : Nat} {m : Mo} : partsS 42 (termS ls c m) = headP c m ++ facs ls m 4 := by
  rw [termS_parts]
  exact parts_join _ parts_ne (fun p hp => (List.mem_append.1 hp).elim (headP_no p) (facs_no ho m 4 p))
theorem termR_at {ls : List Bs} (h : namesB ls = true) {c : Nat} {m : Mo} (hl : LvOk ls m) (h0 : ∀ j, j < 4 → 0 ≤ gt m j) (he : ExOk m 4) : termR ls (termS ls c m) = some ((c : Int), m) := by
  have ho : NmOk ls := (namesB_ok h).2
  have hfa := factsR_facs h ho hl h0 he 4 (Nat.le_refl _)
  rw [mTo_four] at hfa
  have hne := parts_ne (ls := ls) (c := c) (m := m)
  unfold termR
  rw [term_parts ho]
  unfold headP at *
  by_cases hc : c = 1 ∧ m ≠ (0, 0, 0, 0)
  · rw [if_pos hc, List.nil_append] at *
    cases hf : facs ls m 4 with
    | nil => exact absurd hf hne
    | cons p r =>
      rw [hf] at hfa
      simp only [facs_head ho hl 4 (Nat.le_refl _) p r hf, hfa, hc.1]
      rfl
  · rw [if_neg hc]
    simp only [List.singleton_append, decP_dec, hfa]
    rfl

/-! ### the whole text -/
theorem termS_first {ls : List Bs} (ho : NmOk ls) {c : Nat} {m : Mo} (hl : LvOk ls m) : ∃ b r, termS ls c m = b :: r ∧ b ≠ 45 := by
  have hn := termS_ne ho (c := c) hl
  have h45 := termS_no ho c m (k := 45) (.inr rfl)
  cases ht : termS ls c m with
  | nil => exact absurd ht hn
  | cons b r =>
    refine ⟨b, r, rfl, fun e => h45 ?_⟩
    rw [ht, e]
    simp
def TOk (ls : List Bs) (t : Tm) : Prop := LvOk ls t.2 ∧ (∀ j, j < 4 → 0 ≤ gt t.2 j) ∧ ExOk t.2 4
theorem readGo_at {ls : List Bs} (h : namesB ls = true) : ∀ (l : List Tm) (t : Tm) (n : Nat) (acc : List Tm), (∀ x ∈ t :: l, TOk ls x) → l.length < n → readGo ls n (decide (t.1 < 0)) (termS ls t.1.natAbs t.2 ++ fmtGo ls false l) acc = some (acc ++ t :: l)
  | l, t, 0, acc, _, hn => by omega
  | [], t, n + 1, acc, hx, _ => by
    have ho : NmOk ls := (namesB_ok h).2
    have h1 := hx t (by simp)
    have h32 := termS_no ho t.1.natAbs t.2 (k := 32) (.inl (by decide))
    rw [show fmtGo ls false [] = [] from rfl, List.append_nil, readGo, cut_no h32, termR_at h h1.1 h1.2.1 h1.2.2]
    simp only [if_true]
    congr 3
    by_cases hs : t.1 < 0
    · simp [hs]
      ext <;> simp
      omega
    · simp [hs]
      ext <;> simp
      omega
  | u :: l, t, n + 1, acc, hx, hn => by
    have ho : NmOk ls := (namesB_ok h).2
    have h1 := hx t (by simp)
    have h32 := termS_no ho t.1.natAbs t.2 (k := 32) (.inl (by decide))
    have ih := readGo_at h l u n (acc ++ [t]) (fun x hx' => hx x (List.mem_cons_of_mem _ hx')) (by simpa using hn)
    have hval : (if decide (t.1 < 0) then -((t.1.natAbs : Nat) : Int) else ((t.1.natAbs : Nat) : Int)) = t.1 := by
      by_cases hs : t.1 < 0
      · simp [hs]; omega
      · simp [hs]; omega
    by_cases hu : u.1 < 0
    · have e : fmtGo ls false (u :: l) = 32 :: ([45, 32] ++ (termS ls u.1.natAbs u.2 ++ fmtGo ls false l)) := by
        rw [fmtGo, signS, if_neg (by decide), if_pos (by simpa using hu)]
        simp
      rw [e, readGo, cut_at _ h32, termR_at h h1.1 h1.2.1 h1.2.2]
      simp only [hval]
      rw [if_neg (by decide), if_neg (by simp [Lib.hasPrefix, List.isPrefixOf]), if_pos (by simp [Lib.hasPrefix, List.isPrefixOf])]
      rw [show decide (u.1 < 0) = true by simpa using hu] at ih
      simp only [List.cons_append, List.nil_append, List.drop_succ_cons, List.drop_zero]
      rw [ih]
      simp
    · have e : fmtGo ls false (u :: l) = 32 :: ([43, 32] ++ (termS ls u.1.natAbs u.2 ++ fmtGo ls false l)) := by
        rw [fmtGo, signS, if_neg (by decide), if_neg (by simpa using hu)]
        simp
      rw [e, readGo, cut_at _ h32, termR_at h h1.1 h1.2.1 h1.2.2]
      simp only [hval]
      rw [if_neg (by decide), if_pos (by simp [Lib.hasPrefix, List.isPrefixOf])]
      rw [show decide (u.1 < 0) = false by simpa using hu] at ih
      simp only [List.cons_append, List.nil_append, List.drop_succ_cons, List.drop_zero]
      rw [ih]
      simp
theorem fmtGo_many {ls : List Bs} (ho : NmOk ls) : ∀ (l : List Tm), (∀ x ∈ l, LvOk ls x.2) → l.length ≤ (fmtGo ls false l).length
  | [], _ => by simp
  | u :: l, hx => by
    have ih := fmtGo_many ho l (fun x hx' => hx x (List.mem_cons_of_mem _ hx'))
    have h1 := termS_ne ho (c := u.1.natAbs) (hx u (by simp))
    have h2 : 0 < (termS ls u.1.natAbs u.2).length := List.length_pos_iff.2 h1
    rw [fmtGo, List.length_append, List.length_append, List.length_cons]
    omega
theorem readR_at {ls : List Bs} (h : namesB ls = true) {P : List Tm} (hx : ∀ x ∈ P, TOk ls x) : readR ls (fmtS ls P) = some (some0 P) := by
  have ho : NmOk ls := (namesB_ok h).2
  have key : ∀ (t : Tm) (l : List Tm), (∀ x ∈ t :: l, TOk ls x) → readR ls (fmtGo ls true (t :: l)) = some (t :: l) := fun t l hx => by
    obtain ⟨b, r, e, hb⟩ := termS_first ho (c := t.1.natAbs) (hx t (by simp)).1
    have hm := fmtGo_many ho l (fun x hx' => (hx x (List.mem_cons_of_mem _ hx')).1)
    have hlen : l.length < (fmtGo ls true (t :: l)).length + 1 := by
      rw [fmtGo, List.length_append]
      omega
    have hgo := readGo_at h l t _ [] hx hlen
    rw [List.nil_append] at hgo
    by_cases ht : t.1 < 0
    · rw [show decide (t.1 < 0) = true by simpa using ht] at hgo
      have e2 : fmtGo ls true (t :: l) = 45 :: (termS ls t.1.natAbs t.2 ++ fmtGo ls false l) := by
        rw [fmtGo, signS, if_pos rfl, if_pos (by simpa using ht)]
        simp
      unfold readR
      rw [show Lib.hasPrefix (fmtGo ls true (t :: l)) [45] = true by rw [e2]; simp [Lib.hasPrefix, List.isPrefixOf]]
      rw [show Lib.trimPrefix (fmtGo ls true (t :: l)) [45] = termS ls t.1.natAbs t.2 ++ fmtGo ls false l by rw [e2]; simp [Lib.trimPrefix, Lib.hasPrefix, List.isPrefixOf]]
      exact hgo
    · rw [show decide (t.1 < 0) = false by simpa using ht] at hgo
      have e2 : fmtGo ls true (t :: l) = termS ls t.1.natAbs t.2 ++ fmtGo ls false l := by
        rw [fmtGo, signS, if_pos rfl, if_neg (by simpa using ht)]
        simp
      have hp : Lib.hasPrefix (fmtGo ls true (t :: l)) [45] = false := by
        rw [e2, e]
        simp [Lib.hasPrefix, List.isPrefixOf, Ne.symm hb]
      unfold readR
      rw [hp, show Lib.trimPrefix (fmtGo ls true (t :: l)) [45] = termS ls t.1.natAbs t.2 ++ fmtGo ls false l by unfold Lib.trimPrefix; rw [hp]; exact e2]
      exact hgo
  rw [fmtS_some0]
  unfold some0
  by_cases hP : P = []
  · rw [if_pos hP]
    refine key _ _ fun x hx' => ?_
    rw [List.mem_singleton] at hx'
    subst hx'
    refine ⟨fun j hj hne => absurd (mo_zero_gt rfl j) hne, fun j hj => by rw [mo_zero_gt rfl j]; exact Int.le_refl _, fun j hj => by rw [mo_zero_gt rfl j]; decide⟩
  · rw [if_neg hP]
    cases P with
    | nil => exact absurd rfl hP
    | cons t l => exact key t l hx
end Go.Proofs.YtnghlhcekghciaaGreatDoor

/- Bounds of what is read from a short text: plain laws. -/
namespace Go.Proofs.YtnghlhcekghciaaGreatDoor
open Go.RowKit

theorem factR_bd {ls : List Bs} {t : Bs} {j : Nat} {x : Int} (h : factR ls t = some (j, x)) : j < ls.length ∧ 0 ≤ x ∧ x ≤ 1073741824 := by
  unfold factR at h
  rcases idxN_range ls (Lib.cut t [94]).1 with hi | ⟨k, hk, hi⟩
  · rw [hi, if_pos (by decide)] at h; cases h
  · rw [hi, if_neg (by omega), Int.toNat_natCast] at h
    split at h
    · injection h with h
      injection h with h1 h2
      omega
    · split at h
      · cases h
      · split at h
        · injection h with h
          injection h with h1 h2
          omega
        · cases h
theorem factsR_bd {ls : List Bs} (h4 : ls.length ≤ 4) : ∀ (ps : List Bs) (m m' : Mo) (k : Int), (∀ i, i < 4 → 0 ≤ gt m i ∧ gt m i ≤ k) → factsR ls ps m = some m' → ∀ i, i < 4 → 0 ≤ gt m' i ∧ gt m' i ≤ k + ps.length * 1073741824
  | [], m, m', k, hm, h, i, hi => by
    injection h with h
    subst h
    have := hm i hi
    simp
    omega
  | p :: ps, m, m', k, hm, h, i, hi => by
    rw [factsR] at h
    cases hf : factR ls p with
    | none => rw [hf] at h; cases h
    | some x =>
      obtain ⟨j, x⟩ := x
      rw [hf] at h
      obtain ⟨b1, b2, b3⟩ := factR_bd hf
      have := factsR_bd h4 ps (addAt m j x) m' (k + 1073741824) (gt_add (by omega) hm b2 b3) h i hi
      rw [List.length_cons]
      omega
theorem termR_bd {ls : List Bs} (h4 : ls.length ≤ 4) {t : Bs} (ht : t.length ≤ 1000) {z : Int} {m : Mo} (h : termR ls t = some (z, m)) : z.natAbs < pw 112 ∧ ∀ j, j < 4 → 0 ≤ gt m j ∧ gt m j ≤ 2147483648000 := by
  have h0 : ∀ i, i < 4 → 0 ≤ gt ((0, 0, 0, 0) : Mo) i ∧ gt ((0, 0, 0, 0) : Mo) i ≤ 0 := fun i _ => by rw [mo_zero_gt rfl i]; exact ⟨Int.le_refl _, Int.le_refl _⟩
  have hfew := partsS_few 42 t
  have hel := partsS_el 42 t
  have h1 : 1 < pw 112 := pw_one (by decide)
  unfold termR at h
  cases hp : partsS 42 t with
  | nil =>
    rw [hp] at h
    injection h with h
    injection h with e1 e2
    subst e1
    subst e2
    exact ⟨h1, fun j hj => by have := h0 j hj; omega⟩
  | cons p ps =>
    rw [hp] at h hfew hel
    simp only at h
    simp only [List.length_cons] at hfew
    cases hd : decP p with
    | some z' =>
      rw [hd] at h
      simp only at h
      cases hf : factsR ls ps (0, 0, 0, 0) with
      | none => rw [hf] at h; cases h
      | some m' =>
        rw [hf] at h
        injection h with h
        injection h with e1 e2
        subst e1
        subst e2
        refine ⟨decP_pw (k := 112) hd (by have := hel p (by simp); omega), fun j hj => ?_⟩
        have := factsR_bd h4 _ _ _ 0 h0 hf j hj
        omega
    | none =>
      rw [hd] at h
      simp only at h
      cases hf : factsR ls (p :: ps) (0, 0, 0, 0) with
      | none => rw [hf] at h; cases h
      | some m' =>
        rw [hf] at h
        injection h with h
        injection h with e1 e2
        subst e1
        subst e2
        refine ⟨h1, fun j hj => ?_⟩
        have := factsR_bd h4 _ _ _ 0 h0 hf j hj
        simp only [List.length_cons] at this
        omega
/-- bounds of a term -/
def TBnd (t : Tm) : Prop := t.1.natAbs < pw 112 ∧ ∀ j, j < 4 → 0 ≤ gt t.2 j ∧ gt t.2 j ≤ 2147483648000
theorem readGo_bd {ls : List Bs} (h4 : ls.length ≤ 4) : ∀ (n : Nat) (mi : Bool) (rest : Bs) (acc ts : List Tm), acc.length + rest.length ≤ 1000 → (∀ t ∈ acc, TBnd t) → readGo ls n mi rest acc = some ts → ts.length ≤ 1001 ∧ ∀ t ∈ ts, TBnd t
  | 0, _, _, _, _, _, _, h => by cases h
  | n + 1, mi, rest, acc, ts, hl, ha, h => by
    rw [readGo] at h
    have hcl := cut_len rest [32]
    have hcm := @cut_more rest 32
    generalize (Lib.cut rest [32]).1 = tx at *
    generalize (Lib.cut rest [32]).2.1 = af at *
    generalize (Lib.cut rest [32]).2.2 = mo at *
    cases ht : termR ls tx with
    | none => rw [ht] at h; cases h
    | some x =>
      obtain ⟨z, m⟩ := x
      rw [ht] at h
      simp only at h
      obtain ⟨b1, b2⟩ := termR_bd h4 (by omega) ht
      have hb : ∀ t ∈ acc ++ [(if mi then -z else z, m)], TBnd t := fun t ht => by
        rcases List.mem_append.1 ht with ht | ht
        · exact ha t ht
        · rw [List.mem_singleton] at ht
          subst ht
          refine ⟨?_, b2⟩
          show (if mi then -z else z).natAbs < pw 112
          split
          · rw [Int.natAbs_neg]; exact b1
          · exact b1
      have hlen : (acc ++ [(if mi then -z else z, m)]).length = acc.length + 1 := by simp
      generalize acc ++ [(if mi then -z else z, m)] = acc' at *
      cases mo with
      | false =>
        rw [if_pos rfl] at h
        injection h with h
        subst h
        exact ⟨by omega, hb⟩
      | true =>
        have hm := hcm rfl
        rw [if_neg (by decide)] at h
        split at h
        · exact readGo_bd h4 n _ _ acc' ts (by rw [List.length_drop]; omega) hb h
        · split at h
          · exact readGo_bd h4 n _ _ acc' ts (by rw [List.length_drop]; omega) hb h
          · cases h
theorem readR_bd {ls : List Bs} (h4 : ls.length ≤ 4) {s : Bs} (hs : s.length ≤ 1000) : ∀ ts, readR ls s = some ts → Bnd ts := fun ts h => by
  unfold readR at h
  have := trimP_len s [45]
  exact readGo_bd h4 _ _ _ [] ts (by simp; omega) (by simp) h

/-! ### the accepted exponents -/
theorem factsR_none {ls : List Bs} (h : namesB ls = true) (ho : NmOk ls) {m : Mo} (hl : LvOk ls m) (h0 : ∀ j, j < 4 → 0 ≤ gt m j) : ∀ j, j ≤ 4 → (∃ i, i < j ∧ 1073741824 < gt m i) → factsR ls (facs ls m j) (0, 0, 0, 0) = none
  | 0, _, ⟨i, hi, _⟩ => by omega
  | j + 1, hj, ⟨i, hi, hb⟩ => by
    by_cases hg : gt m j = 0
    · rw [facs, if_pos hg]
      refine factsR_none h ho hl h0 j (by omega) ⟨i, ?_, hb⟩
      rcases Nat.lt_or_ge i j with h1 | h1
      · exact h1
      · rw [show i = j by omega] at hb; omega
    · rw [facs, if_neg hg, factsR_app]
      by_cases he : ∃ i, i < j ∧ 1073741824 < gt m i
      · rw [factsR_none h ho hl h0 j (by omega) he]
        rfl
      · have hij : i = j := by
          rcases Nat.lt_or_ge i j with h1 | h1
          · exact absurd ⟨i, h1, hb⟩ he
          · omega
        subst hij
        cases factsR ls (facs ls m i) (0, 0, 0, 0) with
        | none => rfl
        | some m' =>
          show factsR ls [fpart ls m i] m' = none
          rw [factsR, factR_at h ho (hl i (by omega) hg) (h0 i (by omega)) hg, if_neg (by omega)]
theorem termR_none {ls : List Bs} (h : namesB ls = true) {c : Nat} {m : Mo} (hl : LvOk ls m) (h0 : ∀ j, j < 4 → 0 ≤ gt m j) (he : ¬ ExOk m 4) : termR ls (termS ls c m) = none := by
  have ho : NmOk ls := (namesB_ok h).2
  have hex : ∃ i, i < 4 ∧ 1073741824 < gt m i := by
    by_cases hh : ∃ i, i < 4 ∧ 1073741824 < gt m i
    · exact hh
    · exact absurd (fun i hi => by
        by_cases h1 : 1073741824 < gt m i
        · exact absurd ⟨i, hi, h1⟩ hh
        · omega) he
  have hfa := factsR_none h ho hl h0 4 (Nat.le_refl _) hex
  have hne := parts_ne (ls := ls) (c := c) (m := m)
  unfold termR
  rw [term_parts ho]
  unfold headP at *
  by_cases hc : c = 1 ∧ m ≠ (0, 0, 0, 0)
  · rw [if_pos hc, List.nil_append] at *
    cases hf : facs ls m 4 with
    | nil => exact absurd hf hne
    | cons p r =>
      rw [hf] at hfa
      simp only [facs_head ho hl 4 (Nat.le_refl _) p r hf, hfa]
      rfl
  · rw [if_neg hc]
    simp only [List.singleton_append, decP_dec, hfa]
    rfl
end Go.Proofs.YtnghlhcekghciaaGreatDoor

/- PolytextBack: the walk. -/
namespace Go.Proofs.YtnghlhcekghciaaGreatDoor
open Go.RowKit

theorem mono_out {m : Mo} : ∀ {P : List Tm}, (P.Pairwise fun s t => ltM t.2 s.2) → P.length ≤ (P.filter fun t => !decide (t.2 = m)).length + 1
  | [], _ => by simp
  | t :: r, h => by
    rw [List.pairwise_cons] at h
    by_cases ht : t.2 = m
    · have hr : (r.filter fun t => !decide (t.2 = m)) = r := List.filter_eq_self.2 fun x hx => by
        have := h.1 x hx
        simp only [Bool.not_eq_true', decide_eq_false_iff_not]
        intro e
        rw [e, ← ht] at this
        exact ltM_irrefl _ this
      rw [List.filter_cons_of_neg (by simp [ht]), hr]
      simp
    · rw [List.filter_cons_of_pos (by simp [ht])]
      have := mono_out (m := m) h.2
      simp only [List.length_cons]
      omega
theorem canon_len : ∀ {l P : List Tm}, (P.Pairwise fun s t => ltM t.2 s.2) → (∀ t ∈ P, ∃ s ∈ l, s.2 = t.2) → P.length ≤ l.length
  | [], P, _, h => by
    cases P with
    | nil => simp
    | cons t P => obtain ⟨s, hs, _⟩ := h t (by simp); cases hs
  | s :: l, P, hp, h => by
    have h1 := mono_out (m := s.2) hp
    have h2 := canon_len (l := l) (hp.filter fun t => !decide (t.2 = s.2)) (fun t ht => by
      obtain ⟨h3, h4⟩ := List.mem_filter.1 ht
      obtain ⟨x, hx, e⟩ := h t h3
      rcases List.mem_cons.1 hx with rfl | hx
      · simp [e] at h4
      · exact ⟨x, hx, e⟩)
    simp only [List.length_cons]
    omega
theorem cf_some0 (P : List Tm) (m : Mo) : cf P m = cf (some0 P) m := by
  unfold some0
  split
  · rename_i h
    subst h
    rw [cf_cons]
    simp [cf_nil]
  · rfl
/-- what holds of the canonical form of a small polynomial -/
structure SmallP (ls : List Bs) (P : List Tm) : Prop where
  ok : ∀ t ∈ P, TOk ls t
  cf : ∀ t ∈ P, t.1.natAbs ≤ pw 21
  len : P.length ≤ 40
theorem smallP {w : World} {B : Nat} {A : Option Addr} {ps : List PT} {ls : List Bs} {P : List Tm} (h : PIn w B A ps 40 1073741824 (pw 21)) (hP : Canon P) (hc : ∀ m, cf P m = cf (ps.map PT.tm) m) (hl : lvL P ≤ (ls.length : Int)) : SmallP ls P where
  ok t ht := by
    have hv := hP.vl t ht
    obtain ⟨s, hs, hs1, hs2⟩ := hP.src hc ht
    obtain ⟨p, hp, rfl⟩ := List.mem_map.1 hs
    have hb := h.mb p hp hs1
    have hs2 : p.m = t.2 := hs2
    rw [hs2] at hb
    unfold MB at hb
    refine ⟨lvOk_of hP hl ht, fun j hj => ?_, fun j hj => ?_⟩
    · unfold vld at hv
      simp only [Bool.and_eq_true, decide_eq_true_eq] at hv
      rcases (by omega : j = 0 ∨ j = 1 ∨ j = 2 ∨ j = 3) with rfl | rfl | rfl | rfl <;> simp only [gt] <;> omega
    · rcases (by omega : j = 0 ∨ j = 1 ∨ j = 2 ∨ j = 3) with rfl | rfl | rfl | rfl <;> simp only [gt] <;> omega
  cf t ht := Nat.le_trans (Nat.le_trans (nrm_mem ht) (hP.nrm_le hc)) h.nm
  len := by
    have := canon_len hP.so (fun t ht => by
      obtain ⟨s, hs, _, hs2⟩ := hP.src hc ht
      exact ⟨s, hs, hs2⟩)
    rw [List.length_map] at this
    exact Nat.le_trans this h.len
theorem SmallP.bnd {ls : List Bs} {P : List Tm} (h : SmallP ls P) : Bnd (some0 P) := by
  unfold some0
  split
  · refine ⟨by simp, fun t ht => ?_⟩
    rw [List.mem_singleton] at ht
    subst ht
    exact ⟨Nat.pow_pos (by decide), fun j hj => by rw [mo_zero_gt rfl j]; decide⟩
  · refine ⟨by have := h.len; omega, fun t ht => ⟨Nat.lt_of_le_of_lt (h.cf t ht) (pw_lt (by decide)), fun j hj => ?_⟩⟩
    have h1 := (h.ok t ht).2.1 j hj
    have h2 := (h.ok t ht).2.2 j hj
    omega
theorem SmallP.text {ls : List Bs} {P : List Tm} (h : SmallP ls P) (hn : ∀ n ∈ ls, n.length ≤ 16) : (fmtS ls P).length ≤ 100000 := by
  unfold fmtS
  split
  · simp
  · have h1 := fmtGo_len hn (K := 221) P true (fun t ht => ⟨decD_pwk (k := 22) (Nat.lt_of_le_of_lt (h.cf t ht) (pw_lt (by decide))), fun j hj => by have := (h.ok t ht).2.2 j hj; omega⟩)
    have h2 := Nat.mul_le_mul_right (221 + 127) h.len
    omega

set_option maxHeartbeats 4000000 in
set_option maxRecDepth 100000 in
theorem BackLaw_any (a0 a1 : Option Addr) (cap0 cap1 : Nat) (ps0 : List PT) (ls1 : List Bs) (W : World) (in0 : PolyIn W W.heap.size a0 ps0) (wf0 : ∀ p ∈ ps0, WfM p.m) (in1 : NArg W W.heap.size a1 cap1 ls1) (htab : TabT W) (hm : MaxL W) :
    Calls Tryz.prog 4 #[.slice a0 ps0.length cap0, .slice a1 ls1.length cap1] W fun e w' => e = .returned (.bool true) ∧ Below W.heap.size W w' := by
  have H0 := Lib.hid in0; have W0 := Lib.hid wf0; have HT := Lib.hid htab; have H1 := Lib.hid in1; have HM := Lib.hid hm
  clear in0 wf0 htab in1 hm
  have HAW := Lib.hid (fun (w : World) (hW : Below W.heap.size W w) => awake_any w (HT.out.on hW))
  have HFW := Lib.hid (fun (w : World) (hW : Below W.heap.size W w) => Few21_any a0 cap0 W.heap.size 40 ps0 w (H0.out.below hW) (by omega))
  have HNW := Lib.hid (fun (w : World) (hW : Below W.heap.size W w) => names_any a1 cap1 W.heap.size ls1 w (H1.out.rd.below hW) H1.out.len H1.out.el)
  have HPI := Lib.hid (fun (w : World) (hW : Below W.heap.size W w) (hf : Few21 40 ps0) => (pin21 H0.out W0.out hf (by omega)).below hW)
  have HFM := Lib.hid (fun (w : World) (hW : Below W.heap.size W w) (hf : Few21 40 ps0) (hn : Nms ls1) =>
    Format_any a0 a1 cap0 cap1 W.heap.size 40 1073741824 (pw 21) ps0 ls1 w hW.size (HPI.out w hW hf) (by omega) big21 (by omega) ((H1.out.nin hn).below hW) (HT.out.on hW))
  have HNA := Lib.hid (fun (w : World) (hW : Below W.heap.size W w) (hn : Nms ls1) => Names_any a1 cap1 W.heap.size ls1 w (H1.out.rd.below hW) H1.out.cap (by have := hn.1; omega) (fun l hl => by have := hn.2 l hl; omega))
  have HC0 := Lib.hid (fun (w : World) (hW : Below W.heap.size W w) (hf : Few21 40 ps0) => RCanon_any a0 cap0 W.heap.size 40 1073741824 (pw 21) ps0 w hW.size (HPI.out w hW hf) (by omega) big21)
  go_enter Tryz.func4, Tryz.ntmps4
  go_wp2_with fail
  refine (HAW.out _ (Below.refl _ _)).mono ?_
  rintro e w1 ⟨rfl, hb1⟩
  go_wp2_with fail
  refine (HFW.out _ hb1).mono ?_
  rintro e w1' ⟨b, rfl, hf, rfl⟩
  have HF := Lib.hid hf
  clear hf
  cases b with
  | false =>
    go_wp2_with fail
    refine (HAW.out _ hb1).mono ?_
    rintro e w2 ⟨rfl, hb2⟩
    go_wp2_with fail
    go_ret
    exact ⟨rfl, hb1.trans (hb2.mono hb1.size)⟩
  | true =>
    go_wp2_with fail
    refine (HNW.out _ hb1).mono ?_
    rintro e w1' ⟨b, rfl, hn, rfl⟩
    have HN := Lib.hid hn
    clear hn
    cases b with
    | false =>
      go_wp2_with fail
      refine (HAW.out _ hb1).mono ?_
      rintro e w2 ⟨rfl, hb2⟩
      go_wp2_with fail
      go_ret
      exact ⟨rfl, hb1.trans (hb2.mono hb1.size)⟩
    | true =>
      go_wp2_with fail
      refine (HFM.out _ hb1 (HF.out (by trivial)) (HN.out (by trivial))).mono ?_
      rintro e w2 ⟨hr, hb2⟩
      have hb2' := hb1.trans (hb2.mono hb1.size)
      have HNB := Lib.hid (HNA.out _ hb2' (HN.out (by trivial)))
      rcases hr with ⟨hno, rfl⟩ | ⟨hok, P, hP, hc, hl, rfl⟩
      · have HX := Lib.hid hno
        rw [hno] at HNB
        clear hno hb2
        go_wp2_with fail
        refine HNB.out.mono ?_
        rintro e w3 ⟨rfl, rfl⟩
        go_wp2_with fail
        go_ret
        exact ⟨rfl, hb2'⟩
      · rw [hok] at HNB
        have HX := Lib.hid hok
        by_cases hlv : (ls1.length : Int) < lvL P
        · rw [show fmtV ls1 P = .tuple #[.string ⟨#[]⟩, .int .i64 4] by unfold fmtV; rw [if_pos hlv]]
          clear hok hb2 hlv hl hc hP
          go_wp2_with fail
          refine HNB.out.mono ?_
          rintro e w3 ⟨rfl, rfl⟩
          go_wp2_with fail
          go_ret
          exact ⟨rfl, hb2'⟩
        · rw [show fmtV ls1 P = .tuple #[.string ⟨(fmtS ls1 P).toArray⟩, .int .i64 0] by unfold fmtV; rw [if_neg hlv]]
          have hpi := HPI.out _ (Below.refl _ _) (HF.out (by trivial))
          have hsm := smallP hpi hP hc (by omega : lvL P ≤ (ls1.length : Int))
          have hrd := readR_at hok hsm.ok
          have HP := Lib.hid hP; have HC := Lib.hid hc
          have HLV := Lib.hid (show lvL P ≤ (ls1.length : Int) by omega)
          have HRD := Lib.hid hrd
          have HPA := Lib.hid (Parse_any (fmtS ls1 P) a1 cap1 W.heap.size ls1 w2 (hsm.text (fun n hn => (nameB_len ((namesB_ok hok).2 n hn)).2)) (fun ts hts => by rw [hrd] at hts; injection hts with hts; rw [← hts]; exact hsm.bnd) hb2'.size ((H1.out.nin (HN.out (by trivial))).below hb2') (HT.out.on hb2') (HM.out.old hb2'))
          have HSM := Lib.hid hsm
          clear hok hb2 hlv hl hc hP hpi hsm hrd HNB
          go_wp2_with fail
          refine HPA.out.mono ?_
          rintro e w3 ⟨hr, hb3⟩
          have hb3' := hb2'.trans (hb3.mono hb2'.size)
          rcases hr with ⟨hno, _⟩ | ⟨_, hbad, _⟩ | ⟨_, ts, A3, c3, qs, hts, _, _, rfl, hg⟩
          · rw [HX.out] at hno; cases hno
          · exact absurd rfl (hbad _ HRD.out P HP.out (cf_some0 P) HLV.out)
          · have HQP := Lib.hid (show qs.map PT.tm = P from hg.can.unique HP.out (fun m => by
              rw [HRD.out] at hts
              injection hts with hts
              rw [hg.cf, ← hts, ← cf_some0]))
            have HG := Lib.hid hg
            clear hg hts hb3 hb2'
            go_wp2_with fail
            refine (HC0.out _ hb3' (HF.out (by trivial))).mono ?_
            rintro e w4 ⟨⟨A4, c4, rs, rfl, hrow, hcan, hcf, hcn, hln⟩, hb4⟩
            have hb4' := hb3'.trans (hb4.mono hb3'.size)
            have HRP := Lib.hid (show rs.map PT.tm = P from hcan.unique HP.out (fun m => (hcf m).trans (HC.out m).symm))
            have hgp := HG.out.pin (by omega) big113
            have HRS := Lib.hid (RSame_any A3 A4 c3 c4 w4.heap.size qs rs w4 (Nat.le_refl _) ((hgp.pin.below hb4).more hb4.size) hrow.polyIn HG.out.own.cn (fun p hp => (hcn p hp).1) hgp.wf (fun p hp => (hcn p hp).2.1) hgp.dl (fun p hp => by have := (hcn p hp).2.2; omega) (by have := hgp.len; omega))
            rw [HQP.out, HRP.out] at HRS
            clear hrow hcan hcf hcn hb4 hln hgp hb3'
            go_wp2_with fail
            refine HRS.out.mono ?_
            rintro e w5 ⟨rfl, hb5⟩
            have hb5' := hb4'.trans (hb5.mono hb4'.size)
            clear hb5 hb4' HRS
            go_wp2_with fail
            go_ret
            exact ⟨by simp, hb5'⟩
end Go.Proofs.YtnghlhcekghciaaGreatDoor
