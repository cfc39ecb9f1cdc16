/- Contract of polytext.Parse. -/
import Derived.Test.YtnghlhcekghciaaGreatDoorY7
import Derived.Test.YtnghlhcekghciaaGreatDoorXD
import Derived.Test.YtnghlhcekghciaaGreatDoorXT
namespace Go.Proofs.YtnghlhcekghciaaGreatDoor
open Go.RowKit

/-- nothing that is read from s is printed as s -/
def PBad (ls : List Bs) (s : Bs) : Prop := ∀ ts, readR ls s = some ts → ∀ P, Canon P → (∀ m, cf P m = cf ts m) → lvL P ≤ (ls.length : Int) → fmtS ls P ≠ s
def PParseRes (ls : List Bs) (s : Bs) (w : World) (e : Ending) (w' : World) : Prop :=
  ((namesB ls = false ∧ e = .returned (.tuple #[.slice none 0 0, .int .i64 1])) ∨
    (namesB ls = true ∧ PBad ls s ∧ e = .returned (.tuple #[.slice none 0 0, .int .i64 6])) ∨
    (namesB ls = true ∧ ∃ ts A c qs, readR ls s = some ts ∧ lvL (qs.map PT.tm) ≤ (ls.length : Int) ∧ fmtS ls (qs.map PT.tm) = s ∧ e = .returned (.tuple #[.slice A qs.length c, .int .i64 0]) ∧ PGood w' w.heap.size (.slice A qs.length c) qs (cf ts) 1001 2147483648000 (pw 113))) ∧ Below w.heap.size w w'
/-- bounds of terms that were read -/
def Bnd (ts : List Tm) : Prop := ts.length ≤ 1001 ∧ ∀ t ∈ ts, t.1.natAbs < pw 112 ∧ ∀ j, j < 4 → 0 ≤ gt t.2 j ∧ gt t.2 j ≤ 2147483648000
theorem qrd_in {w : World} {base c : Nat} {A : Option Addr} {qs : List PT} (h : PRow w base (.slice A qs.length c) qs) (hq : ∀ q ∈ qs, QRd q) (hb : Bnd (qs.map PT.tm)) : PIn w w.heap.size A qs 1001 2147483648000 (pw 113) where
  pin := h.polyIn
  dl q hm := by
    rw [(hq q hm).cn.ds]
    have := dig_len_pw (hb.2 q.tm (List.mem_map.2 ⟨q, hm, rfl⟩)).1
    omega
  wf q hm := by
    have e := (hb.2 q.tm (List.mem_map.2 ⟨q, hm, rfl⟩)).2
    have e0 := e 0 (by omega); have e1 := e 1 (by omega); have e2 := e 2 (by omega); have e3 := e 3 (by omega)
    rw [show q.tm.2 = q.m from rfl] at e0 e1 e2 e3
    simp only [gt] at e0 e1 e2 e3
    unfold WfM WfI
    omega
  mb q hm _ := by
    have e := (hb.2 q.tm (List.mem_map.2 ⟨q, hm, rfl⟩)).2
    have e0 := e 0 (by omega); have e1 := e 1 (by omega); have e2 := e 2 (by omega); have e3 := e 3 (by omega)
    rw [show q.tm.2 = q.m from rfl] at e0 e1 e2 e3
    simp only [gt] at e0 e1 e2 e3
    unfold MB
    omega
  len := by have := hb.1; rwa [List.length_map] at this
  nm := by
    have key : ∀ rs : List PT, (∀ q ∈ rs, q.tm.1.natAbs < pw 112) → nrm (rs.map PT.tm) ≤ rs.length * pw 112 := by
      intro rs
      induction rs with
      | nil => intro _; simp [nrm]
      | cons q rs ih =>
        intro hh
        have h1 := ih fun p hp => hh p (List.mem_cons_of_mem _ hp)
        have h2 := hh q (by simp)
        simp only [List.map_cons, nrm, List.length_cons, Nat.add_mul]
        omega
    have h1 := key qs fun q hm => (hb.2 q.tm (List.mem_map.2 ⟨q, hm, rfl⟩)).1
    have hl := hb.1
    rw [List.length_map] at hl
    have h2 : qs.length * pw 112 ≤ pw 1 * pw 112 := Nat.mul_le_mul_right _ (by unfold pw; omega)
    rw [pw_mul] at h2
    exact Nat.le_trans h1 h2
theorem big113 : pw 113 < Big := pw_lt (by decide)

set_option maxHeartbeats 4000000 in
set_option maxRecDepth 100000 in
theorem Parse_any (s : Bs) (A : Option Addr) (c B : Nat) (ls : List Bs) (w : World) (hs : s.length ≤ 100000) (hbd : ∀ ts, readR ls s = some ts → Bnd ts) (hB : B ≤ w.heap.size) (hn : NIn w B A c ls) (htab : TabT w) (hm : MaxL w) :
    Calls Tryz.prog 8 #[.string ⟨s.toArray⟩, .slice A ls.length c] w (PParseRes ls s w) := by
  have HNA := Lib.hid (Names_any A c B ls w hn.rd hn.cap hn.len hn.el)
  have HNI := Lib.hid hn; have HT := Lib.hid htab; have HM := Lib.hid hm
  have HRR := Lib.hid (fun (h4 : ls.length ≤ 4) => read_any s A c B ls w hs hB hn.rd h4 hm)
  have HBD := Lib.hid hbd
  clear hn htab hm hbd
  unfold PParseRes PBad
  generalize readR ls s = ro at *
  go_enter Tryz.func8, Tryz.ntmps8
  go_wp2_with fail
  refine HNA.out.mono ?_
  rintro e w1 ⟨rfl, rfl⟩
  cases hnb : namesB ls with
  | false =>
    have HF := Lib.hid hnb
    clear hnb
    go_wp2_with fail
    go_ret2
    exact ⟨.inl ⟨HF.out, rfl⟩, Below.refl _ _⟩
  | true =>
    have HF := Lib.hid hnb
    have hok := namesB_ok hnb
    have HRD := Lib.hid (HRR.out hok.1)
    clear hnb hok HRR
    go_wp2_with fail
    refine HRD.out.mono ?_
    rintro e w2 ⟨hr, hb2⟩
    rcases hr with ⟨hro, rfl⟩ | ⟨qs, A2, c2, hro, rfl, hrow, hq, hlen⟩
    · have HRO := Lib.hid hro
      clear hro
      go_wp2_with fail
      go_ret2
      exact ⟨.inr (.inl ⟨HF.out, fun ts hts => (by rw [HRO.out] at hts; cases hts), rfl⟩), hb2⟩
    · have HPI := Lib.hid (qrd_in hrow hq (HBD.out _ hro))
      have HRO := Lib.hid hro
      have HB2 := Lib.hid hb2
      have HFM := Lib.hid (Format_any A2 A c2 c w2.heap.size 1001 2147483648000 (pw 113) qs ls w2 (Nat.le_refl _) HPI.out (by omega) big113 (by omega) ((HNI.out.below (hb2.mono hB)).more (Nat.le_trans hB hb2.size)) (HT.out.on hb2))
      have HNO := Lib.hid (fun (W : World) (hW : Below w2.heap.size w2 W) => Normal_poly A2 c2 w2.heap.size 1001 2147483648000 (pw 113) qs W hW.size (HPI.out.below hW) (by omega) big113)
      clear hrow hq hro hb2 HNA
      go_wp2_with fail
      refine HFM.out.mono ?_
      rintro e w3 ⟨hr, hb3⟩
      rcases hr with ⟨hno, _⟩ | ⟨_, P, hP, hc, hl, rfl⟩
      · rw [HF.out] at hno; cases hno
      · have HP := Lib.hid hP; have HC := Lib.hid hc
        have HBF := Lib.hid (HB2.out.trans (hb3.mono HB2.out.size))
        have HNW := Lib.hid (HNO.out _ hb3)
        have HU := Lib.hid (fun (Q : List Tm) (hQ : Canon Q) (ts : List Tm) (hts : some (qs.map PT.tm) = some ts) (hcf : ∀ m, cf Q m = cf ts m) => show Q = P from by
          injection hts with hts
          exact hQ.unique HP.out (fun m => by rw [hcf, HC.out, hts]))
        rw [← HRO.out] at HU
        clear hP hc hb3 HFM HNO
        by_cases hlv : (ls.length : Int) < lvL P
        · have HV := Lib.hid (show fmtV ls P = .tuple #[.string ⟨#[]⟩, .int .i64 4] by unfold fmtV; rw [if_pos hlv])
          have HLV := Lib.hid hlv
          rw [HV.out]
          clear hlv hl
          go_wp2_with fail
          go_ret2
          refine ⟨.inr (.inl ⟨HF.out, fun ts hts Q hQ hcf hlq => ?_, rfl⟩), HBF.out⟩
          obtain rfl := HU.out Q hQ ts hts hcf
          have := HLV.out
          omega
        · have HV := Lib.hid (show fmtV ls P = .tuple #[.string ⟨(fmtS ls P).toArray⟩, .int .i64 0] by unfold fmtV; rw [if_neg hlv])
          have HLV := Lib.hid (show lvL P ≤ (ls.length : Int) by omega)
          rw [HV.out]
          by_cases hts : fmtS ls P = s
          · have HTS := Lib.hid hts
            rw [hts]
            clear hlv hl hts
            generalize hsv : (⟨s.toArray⟩ : ByteArray) = sv at *
            clear hsv
            go_wp2_with fail
            refine HNW.out.mono ?_
            rintro e w4 ⟨A4, c4, rs, rfl, hg, hb4⟩
            have HB4 := Lib.hid (HBF.out.trans (hb4.mono HBF.out.size))
            have HRP := Lib.hid (show rs.map PT.tm = P from hg.can.unique HP.out (fun m => by rw [hg.cf, HC.out]))
            have HG := Lib.hid (show PGood w4 w.heap.size (.slice A4 rs.length c4) rs (cf (qs.map PT.tm)) 1001 2147483648000 (pw 113) from { hg with own := hg.own.mono HBF.out.size })
            clear hg hb4
            go_wp2_with fail
            go_ret2
            refine ⟨.inr (.inr ⟨HF.out, qs.map PT.tm, A4, c4, rs, HRO.out, by rw [HRP.out]; exact HLV.out, by rw [HRP.out]; exact HTS.out, rfl, HG.out⟩), HB4.out⟩
          · have HTS := Lib.hid hts
            have hss : ((⟨(fmtS ls P).toArray⟩ : ByteArray).toList == (⟨s.toArray⟩ : ByteArray).toList) = false := by
              rw [bs_list, bs_list]
              simpa using hts
            generalize (⟨(fmtS ls P).toArray⟩ : ByteArray) = s1 at *
            generalize (⟨s.toArray⟩ : ByteArray) = sv at *
            clear hlv hl hts
            go_wp2_with fail
            go_ret2
            refine ⟨.inr (.inl ⟨HF.out, fun ts hts Q hQ hcf hlq => ?_, rfl⟩), HBF.out⟩
            obtain rfl := HU.out Q hQ ts hts hcf
            exact HTS.out
end Go.Proofs.YtnghlhcekghciaaGreatDoor
