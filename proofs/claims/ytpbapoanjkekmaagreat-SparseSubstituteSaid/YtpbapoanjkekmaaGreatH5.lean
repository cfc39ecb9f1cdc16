/- Contracts of the closure of sparse.Compare, slices.CompareFunc at terms. -/
import Derived.Test.YtpbapoanjkekmaaGreatH4
namespace Go.Proofs.YtpbapoanjkekmaaGreat
open Go.RowKit

def cmpT (s t : Tm) : Int := if s.2 = t.2 then cmpZ s.1 t.1 else cmpM s.2 t.2
def cmpL : List Tm → List Tm → Int
  | [], [] => 0
  | [], _ :: _ => -1
  | _ :: _, [] => 1
  | s :: p, t :: q => if cmpT s t = 0 then cmpL p q else cmpT s t
theorem cmpZ_zero' {a b : Int} : cmpZ a b = 0 ↔ a = b := by
  unfold cmpZ
  constructor
  · intro h
    split at h
    · omega
    · split at h <;> omega
  · rintro rfl; simp
theorem cmpT_zero {s t : Tm} : cmpT s t = 0 ↔ s = t := by
  unfold cmpT
  by_cases h : s.2 = t.2
  · rw [if_pos h, cmpZ_zero']
    exact ⟨fun k => Prod.ext k h, fun k => congrArg Prod.fst k⟩
  · rw [if_neg h, cmpM_zero]
    exact ⟨fun k => absurd k h, fun k => absurd (congrArg Prod.snd k) h⟩
theorem cmpL_zero {p q : List Tm} : cmpL p q = 0 ↔ p = q := by
  induction p generalizing q with
  | nil => cases q <;> simp [cmpL]
  | cons s p ih =>
    cases q with
    | nil => simp [cmpL]
    | cons t q =>
      simp only [cmpL]
      by_cases h : cmpT s t = 0
      · rw [if_pos h, ih]
        have := cmpT_zero.1 h
        subst this
        simp
      · rw [if_neg h]
        have : s ≠ t := fun e => h (cmpT_zero.2 e)
        simp [this, h]

set_option maxRecDepth 100000 in
theorem Tryz.eq_mono (a b : Mo) (ha : WfM a) (hb : WfM b) (w : World) : (Op.equalIn 10000 44 (.agg (moV a)) (.agg (moV b))).run Tryz.prog w = .ok (decide (a = b)) w := by
  obtain ⟨r, hr, hi⟩ := run_equal_deep w (m := 2) (by decide) Tryz.keyAt2 Tryz.wideMono (key_lit ha) (key_lit hb)
  have : r = decide (a = b) := by
    rw [Bool.eq_iff_iff, hi, decide_eq_true_eq]
    exact ⟨fun e => klit_inj ha hb e, fun e => by rw [e]⟩
  rw [← this]
  exact hr
set_option maxHeartbeats 1000000 in
set_option maxRecDepth 100000 in
theorem cclo_any (p q : PT) (B : Nat) (w : World) (hp : WfM p.m) (hq : WfM q.m) (hB : B ≤ w.heap.size) (h : NatIn w B p.A p.c p.ds) (h' : NatIn w B q.A q.c q.ds) (hm : p.ds.length ≤ 1000000) (hm' : q.ds.length ≤ 1000000) :
    Calls Tryz.prog 68 #[.agg p.cells.toArray, .agg q.cells.toArray] w fun e w' => e = .returned (.int .i64 (cmpT p.tm q.tm)) ∧ Below w.heap.size w w' := by
  have HX := Lib.hid (boxes2 w 56 56 p.cells.toArray q.cells.toArray)
  have HE := Lib.hid (fun W => Tryz.eq_mono p.m q.m hp hq W)
  have HC := Lib.hid (fun W' => CMono_any p.m q.m W')
  have HI := Lib.hid (fun (W : World) (hW : Below w.heap.size w W) => ICmp_any p.ng q.ng p.A q.A p.c q.c B p.ds q.ds W (Nat.le_trans hB hW.size) (h.below (hW.mono hB)) (h'.below (hW.mono hB)) hm hm')
  have e1 : p.m = q.m → cmpT p.tm q.tm = cmpZ (ival p.ng p.ds) (ival q.ng q.ds) := fun e => by simp [cmpT, PT.tm, e]
  have e2 : p.m ≠ q.m → cmpT p.tm q.tm = cmpM p.m q.m := fun e => by simp [cmpT, PT.tm, e]
  clear h h' hp hq
  unfold moV at HE HC
  generalize cmpT p.tm q.tm = r at *
  simp only [PT.cells] at *
  by_cases hm : p.m = q.m
  · obtain rfl := e1 hm
    rw [show decide (p.m = q.m) = true by simpa using hm] at HE
    clear e1 e2 hm
    generalize p.m.1 = p0 at *
    generalize p.m.2.1 = p1 at *
    generalize p.m.2.2.1 = p2 at *
    generalize p.m.2.2.2 = p3 at *
    generalize q.m.1 = q0 at *
    generalize q.m.2.1 = q1 at *
    generalize q.m.2.2.1 = q2 at *
    generalize q.m.2.2.2 = q3 at *
    have he := HE.out
    generalize cmpZ (ival p.ng p.ds) (ival q.ng q.ds) = r at *
    go_enter Tryz.func68, Tryz.ntmps68
    go_wp2_with fail
    refine (HI.out _ HX.out.1).mono ?_
    rintro e w1 ⟨rfl, hb1⟩
    go_wp2_with fail
    go_ret
    exact ⟨rfl, HX.out.1.trans (hb1.mono HX.out.1.size)⟩
  · obtain rfl := e2 hm
    rw [show decide (p.m = q.m) = false by simpa using hm] at HE
    clear e1 e2 hm
    generalize cmpM p.m q.m = r at *
    generalize p.m.1 = p0 at *
    generalize p.m.2.1 = p1 at *
    generalize p.m.2.2.1 = p2 at *
    generalize p.m.2.2.2 = p3 at *
    generalize q.m.1 = q0 at *
    generalize q.m.2.1 = q1 at *
    generalize q.m.2.2.1 = q2 at *
    generalize q.m.2.2.2 = q3 at *
    have he := HE.out
    go_enter Tryz.func68, Tryz.ntmps68
    go_wp2_with fail
    refine (HC.out _).mono ?_
    rintro e w1 ⟨rfl, hl1⟩
    go_wp2_with fail
    go_ret
    exact ⟨rfl, HX.out.1.trans (hl1.below.mono HX.out.1.size)⟩

theorem cmpL_step {ps qs : List PT} {k : Nat} {p q : PT} (hp : ps[k]? = some p) (hq : qs[k]? = some q) : cmpL ((ps.drop k).map PT.tm) ((qs.drop k).map PT.tm) = if cmpT p.tm q.tm = 0 then cmpL ((ps.drop (k + 1)).map PT.tm) ((qs.drop (k + 1)).map PT.tm) else cmpT p.tm q.tm := by
  have h1 : k < ps.length := (List.getElem?_eq_some_iff.1 hp).1
  have h2 : k < qs.length := (List.getElem?_eq_some_iff.1 hq).1
  have e1 : ps[k] = p := (List.getElem?_eq_some_iff.1 hp).2
  have e2 : qs[k] = q := (List.getElem?_eq_some_iff.1 hq).2
  rw [List.drop_eq_getElem_cons h1, List.drop_eq_getElem_cons h2, e1, e2]
  rfl
theorem cmpL_long {ps qs : List PT} {k : Nat} (hp : k < ps.length) (hq : qs.length ≤ k) : cmpL ((ps.drop k).map PT.tm) ((qs.drop k).map PT.tm) = 1 := by
  rw [List.drop_eq_getElem_cons hp, List.drop_eq_nil_of_le hq]
  rfl
theorem cmpL_end1 {ps qs : List PT} {k : Nat} (hp : ps.length ≤ k) (hq : k < qs.length) : cmpL ((ps.drop k).map PT.tm) ((qs.drop k).map PT.tm) = -1 := by
  rw [List.drop_eq_getElem_cons hq, List.drop_eq_nil_of_le hp]
  rfl
theorem cmpL_end0 {ps qs : List PT} {k : Nat} (hp : ps.length ≤ k) (hq : qs.length ≤ k) : cmpL ((ps.drop k).map PT.tm) ((qs.drop k).map PT.tm) = 0 := by
  rw [List.drop_eq_nil_of_le hq, List.drop_eq_nil_of_le hp]
  rfl

set_option maxHeartbeats 4000000 in
set_option maxRecDepth 100000 in
theorem CF_any (A A' : Option Addr) (c c' B : Nat) (ps qs : List PT) (w : World) (hB : B ≤ w.heap.size) (h : PolyIn w B A ps) (h' : PolyIn w B A' qs) (hd : ∀ p ∈ ps, p.ds.length ≤ 1000) (hd' : ∀ p ∈ qs, p.ds.length ≤ 1000)
    (hw : ∀ p ∈ ps, WfM p.m) (hw' : ∀ p ∈ qs, WfM p.m) (hn : ps.length ≤ 100000) :
    Calls Tryz.prog 67 #[.slice A ps.length c, .slice A' qs.length c', .func (.func 68) #[] #[]] w fun e w' => e = .returned (.int .i64 (cmpL (ps.map PT.tm) (qs.map PT.tm))) ∧ Below w.heap.size w w' := by
  have HD := Lib.hid hd; have HD' := Lib.hid hd'; have HW := Lib.hid hw; have HW' := Lib.hid hw'
  have H := Lib.hid h; have H' := Lib.hid h'
  have HST := Lib.hid (fun k p q => @cmpL_step ps qs k p q)
  have HLO := Lib.hid (fun k => @cmpL_long ps qs k)
  have HE1 := Lib.hid (fun k => @cmpL_end1 ps qs k)
  have HE0 := Lib.hid (fun k => @cmpL_end0 ps qs k)
  have eg : ∀ args w, (callFunc 68 args).run Tryz.prog w = .ok (.enter 68 args) w := enters_of Tryz.func68 (by kernel_rfl) rfl
  clear hd hd' hw hw' h h'
  generalize hr : cmpL (ps.map PT.tm) (qs.map PT.tm) = r at *
  have HR := Lib.hid hr
  generalize hpn : ps.length = pn at *
  generalize hqn : qs.length = qn at *
  have HP := Lib.hid hpn; have HQ := Lib.hid hqn
  clear hpn hqn hr
  go_enter Tryz.func67, Tryz.ntmps67
  go_wp2_with fail
  go_loopg [7, 8, 9, 10, 13] pn (fun gn _ _ _ _ ix wr => ∃ (k : Nat), k ≤ pn ∧ gn = pn - k ∧ ix = .int .i64 k ∧ (k = 0 ∨ k ≤ qn) ∧ cmpL ((ps.drop k).map PT.tm) ((qs.drop k).map PT.tm) = r ∧ Below w.heap.size w wr)
  case atStart => exact ⟨0, by omega, rfl, rfl, .inl rfl, HR.out, Below.refl _ _⟩
  case round =>
    obtain ⟨k, hk, hgk, rfl, hkq, hc, hbl⟩ := hrel
    have HG := Lib.hid hgk; have HC := Lib.hid hc
    clear hgk hc
    by_cases hlt : k < pn
    · obtain ⟨p, hp⟩ : ∃ p, ps[k]? = some p := ⟨_, List.getElem?_eq_getElem (by have := HP.out; omega)⟩
      have hpm := List.mem_of_getElem? hp
      obtain ⟨b, o, rfl, hbb, d0, d1, d2, d3, d4, d5⟩ := (H.out.below (hbl.mono hB)).at_ hp
      have i1 : (k : Int) < (pn : Int) := by omega
      have i0 : (0 : Int) ≤ (k : Int) := by omega
      by_cases hlt2 : k < qn
      · obtain ⟨q, hq⟩ : ∃ q, qs[k]? = some q := ⟨_, List.getElem?_eq_getElem (by have := HQ.out; omega)⟩
        have hqm := List.mem_of_getElem? hq
        obtain ⟨b', o', rfl, hbb', f0, f1, f2, f3, f4, f5⟩ := (H'.out.below (hbl.mono hB)).at_ hq
        have j1 : ¬ (qn : Int) ≤ (k : Int) := by omega
        have j2 : (k : Int) < (qn : Int) := by omega
        have hsz := hbl.size
        have HCC := Lib.hid (fun (W : World) (hW : Below wr.heap.size wr W) => cclo_any p q B W (HW.out p hpm) (HW'.out q hqm) (Nat.le_trans hB (Nat.le_trans hsz hW.size)) ((H.out.nt p hpm).below ((hbl.trans (hW.mono hsz)).mono hB)) ((H'.out.nt q hqm).below ((hbl.trans (hW.mono hsz)).mono hB)) (by have := HD.out p hpm; omega) (by have := HD'.out q hqm; omega))
        have HS := Lib.hid (HST.out k p q hp hq)
        have l1 : b < wr.heap.size := by omega
        have l2 : b' < wr.heap.size := by omega
        have HX := Lib.hid (boxes2 wr 56 56 p.cells.toArray q.cells.toArray)
        simp only [PT.cells] at HCC HX
        clear hp hpm hq hqm
        by_cases hz : cmpT p.tm q.tm = 0
        · rw [hz] at HCC
          have HN := Lib.hid ((HS.out.trans (if_pos hz)).symm.trans HC.out)
          clear hz HS
          go_wp2_with fail
          refine (HCC.out _ HX.out.1).mono ?_
          rintro e w1 ⟨rfl, hb1⟩
          have hbn := hbl.trans ((HX.out.1.trans (hb1.mono HX.out.1.size)).mono hsz)
          go_wp2_with fail
          go_roundg (pn - (k + 1))
          case rel => exact ⟨k + 1, by omega, rfl, by go_num, .inr (by omega), HN.out, hbn⟩
          case measure => have := HG.out; omega
        · have HN := Lib.hid ((HS.out.trans (if_neg hz)).symm.trans HC.out)
          have hzb : (cmpT p.tm q.tm != 0) = true := by simpa using hz
          generalize cmpT p.tm q.tm = z at *
          clear hz HS
          go_wp2_with fail
          refine (HCC.out _ HX.out.1).mono ?_
          rintro e w1 ⟨rfl, hb1⟩
          have hbn := hbl.trans ((HX.out.1.trans (hb1.mono HX.out.1.size)).mono hsz)
          go_wp2_with fail
          go_ret
          exact ⟨by rw [← HN.out]; rfl, hbn⟩
      · have HN := Lib.hid ((HLO.out k (by have := HP.out; omega) (by have := HQ.out; omega)).symm.trans HC.out)
        have j1 : (qn : Int) ≤ (k : Int) := by omega
        clear hp hpm
        go_wp2_with fail
        go_ret
        exact ⟨by rw [← HN.out]; rfl, hbl.alloc hbl.size _⟩
    · obtain rfl : k = pn := by omega
      by_cases hlt2 : k < qn
      · have HN := Lib.hid ((HE1.out k (by have := HP.out; omega) (by have := HQ.out; omega)).symm.trans HC.out)
        go_wp2_with fail
        go_ret
        exact ⟨by rw [← HN.out]; rfl, hbl⟩
      · have HN := Lib.hid ((HE0.out k (by have := HP.out; omega) (by have := HQ.out; omega)).symm.trans HC.out)
        go_wp2_with fail
        go_ret
        exact ⟨by rw [← HN.out]; rfl, hbl⟩

theorem cf_all {ps qs : List PT} {W W' : World} {b b' N N' M M' : Nat} {E E' : Int} {v v' : Value} {F G : Mo → Int} (h : PGood W b v ps F N E M) (h' : PGood W' b' v' qs G N' E' M') (hFG : ∀ m, F m = G m) : ps.map PT.tm = qs.map PT.tm :=
  h.can.unique h'.can fun m => (h.cf m).trans ((hFG m).trans (h'.cf m).symm)
theorem cf_not {ps qs : List PT} {W W' : World} {b b' N N' M M' : Nat} {E E' : Int} {v v' : Value} {F G : Mo → Int} (h : PGood W b v ps F N E M) (h' : PGood W' b' v' qs G N' E' M') (he : ps.map PT.tm = qs.map PT.tm) (m : Mo) : F m = G m := by
  rw [← h.cf, ← h'.cf, he]

/-- what Compare hands back: the order of the canonical forms -/
def CmpRes (F G : Mo → Int) (w : World) (e : Ending) (w' : World) : Prop := ∃ P Q, Canon P ∧ Canon Q ∧ (∀ m, cf P m = F m) ∧ (∀ m, cf Q m = G m) ∧ e = .returned (.int .i64 (cmpL P Q)) ∧ Below w.heap.size w w'

set_option maxHeartbeats 1000000 in
theorem Compare_any (A A' : Option Addr) (c c' B N1 N2 : Nat) (E1 E2 : Int) (M1 M2 : Nat) (ps qs : List PT) (w : World) (hB : B ≤ w.heap.size) (h : PIn w B A ps N1 E1 M1) (h' : PIn w B A' qs N2 E2 M2)
    (hN1 : N1 ≤ 50000) (hN2 : N2 ≤ 50000) (hM1 : M1 < Big) (hM2 : M2 < Big) (hE1 : E1 ≤ 9223372036854775807) (hE2 : E2 ≤ 9223372036854775807) :
    Calls Tryz.prog 43 #[.slice A ps.length c, .slice A' qs.length c'] w (CmpRes (cf (ps.map PT.tm)) (cf (qs.map PT.tm)) w) := by
  have HN1 := Lib.hid (Normal_poly A c B N1 E1 M1 ps w hB h hN1 hM1)
  have HN2 := Lib.hid (fun (W : World) (hW : Below w.heap.size w W) => Normal_poly A' c' B N2 E2 M2 qs W (Nat.le_trans hB hW.size) (h'.below (hW.mono hB)) hN2 hM2)
  clear h h'
  go_enter Tryz.func43, Tryz.ntmps43
  go_wp2_with fail
  refine HN1.out.mono ?_
  rintro e w1 ⟨A1, c1, p1, rfl, hg1, hb1⟩
  have HG1 := Lib.hid hg1
  clear hg1 HN1
  go_wp2_with fail
  refine (HN2.out _ hb1).mono ?_
  rintro e w2 ⟨A2, c2, p2, rfl, hg2, hb2⟩
  have hi1 := (HG1.out.pin hE1 hM1).old hb2
  have hi2 := hg2.pin hE2 hM2
  have HG2 := Lib.hid hg2
  have HCF := Lib.hid (CF_any A1 A2 c1 c2 w2.heap.size p1 p2 w2 (Nat.le_refl _) hi1.pin hi2.pin hi1.dl hi2.dl hi1.wf hi2.wf (by have := hi1.len; omega))
  clear hi1 hi2 hg2 HN2
  go_wp2_with fail
  refine HCF.out.mono ?_
  rintro e w3 ⟨rfl, hb3⟩
  go_wp2_with fail
  go_ret
  exact ⟨_, _, HG1.out.can, HG2.out.can, HG1.out.cf, HG2.out.cf, rfl, (hb1.trans (hb2.mono hb1.size)).trans (hb3.mono (Nat.le_trans hb1.size hb2.size))⟩

/-- what Same hands back -/
def SameRes (F G : Mo → Int) (w : World) (e : Ending) (w' : World) : Prop := ∃ b : Bool, (b = true ↔ ∀ m, F m = G m) ∧ e = .returned (.bool b) ∧ Below w.heap.size w w'
theorem SameRes.yes {F G : Mo → Int} {w : World} {e : Ending} {w' : World} (h : SameRes F G w e w') (hFG : ∀ m, F m = G m) : e = .returned (.bool true) ∧ Below w.heap.size w w' := by
  obtain ⟨b, hb, he, hw⟩ := h
  rw [hb.2 hFG] at he
  exact ⟨he, hw⟩
theorem SameRes.no {F G : Mo → Int} {w : World} {e : Ending} {w' : World} (h : SameRes F G w e w') {m : Mo} (hFG : F m ≠ G m) : e = .returned (.bool false) ∧ Below w.heap.size w w' := by
  obtain ⟨b, hb, he, hw⟩ := h
  cases b with
  | true => exact absurd (hb.1 rfl m) hFG
  | false => exact ⟨he, hw⟩
set_option maxHeartbeats 1000000 in
theorem SSame_any (A A' : Option Addr) (c c' B N1 N2 : Nat) (E1 E2 : Int) (M1 M2 : Nat) (ps qs : List PT) (w : World) (hB : B ≤ w.heap.size) (h : PIn w B A ps N1 E1 M1) (h' : PIn w B A' qs N2 E2 M2)
    (hN1 : N1 ≤ 50000) (hN2 : N2 ≤ 50000) (hM1 : M1 < Big) (hM2 : M2 < Big) (hE1 : E1 ≤ 9223372036854775807) (hE2 : E2 ≤ 9223372036854775807) :
    Calls Tryz.prog 17 #[.slice A ps.length c, .slice A' qs.length c'] w (SameRes (cf (ps.map PT.tm)) (cf (qs.map PT.tm)) w) := by
  have HC := Lib.hid (Compare_any A A' c c' B N1 N2 E1 E2 M1 M2 ps qs w hB h h' hN1 hN2 hM1 hM2 hE1 hE2)
  clear h h'
  go_enter Tryz.func17, Tryz.ntmps17
  go_wp2_with fail
  refine HC.out.mono ?_
  rintro e w1 ⟨P, Q, h1, h2, h3, h4, rfl, h5⟩
  have hb : ((cmpL P Q == 0) = true ↔ ∀ m, cf (ps.map PT.tm) m = cf (qs.map PT.tm) m) := by
    rw [beq_iff_eq, cmpL_zero]
    constructor
    · rintro rfl m; rw [← h3, ← h4]
    · intro hh; exact h1.unique h2 fun m => (h3 m).trans ((hh m).trans (h4 m).symm)
  have HB := Lib.hid hb
  clear hb
  go_wp2_with fail
  go_ret
  exact ⟨_, HB.out, rfl, h5⟩
end Go.Proofs.YtpbapoanjkekmaaGreat
