/- Contract of the reference's Compare. -/
import Derived.IntWalk
import Derived.Test.YtpbapoanjkekmaaH5
import Derived.Test.YtpbapoanjkekmaaZR
namespace Go.Proofs.Ytpbapoanjkekmaa
open Go.RowKit
attribute [local go_sem ↓] Go.wp_at_zero Go.wp_at_succ

theorem cmpT_ne {s t : Tm} (h : cmpM s.2 t.2 ≠ 0) : cmpT s t = cmpM s.2 t.2 := by
  unfold cmpT
  rw [if_neg fun e => h (cmpM_zero.2 e)]
theorem cmpT_eq {s t : Tm} (h : cmpM s.2 t.2 = 0) : cmpT s t = cmpZ s.1 t.1 := by
  unfold cmpT
  rw [if_pos (cmpM_zero.1 h)]

set_option maxHeartbeats 4000000 in
set_option maxRecDepth 100000 in
theorem RCmp_any (A A' : Option Addr) (c c' B : Nat) (ps qs : List PT) (w : World) (hB : B ≤ w.heap.size) (h : PolyIn w B A ps) (h' : PolyIn w B A' qs) (hd : ∀ p ∈ ps, p.ds.length ≤ 1000) (hd' : ∀ p ∈ qs, p.ds.length ≤ 1000) (hn : ps.length ≤ 100000) :
    Calls Try.prog 27 #[.slice A ps.length c, .slice A' qs.length c'] w fun e w' => e = .returned (.int .i64 (cmpL (ps.map PT.tm) (qs.map PT.tm))) ∧ Below w.heap.size w w' := by
  have HD := Lib.hid hd; have HD' := Lib.hid hd'
  have H := Lib.hid h; have H' := Lib.hid h'
  have HST := Lib.hid (fun k p q => @cmpL_step ps qs k p q)
  have HLO := Lib.hid (fun k => @cmpL_long ps qs k)
  have HE1 := Lib.hid (fun k => @cmpL_end1 ps qs k)
  have HE0 := Lib.hid (fun k => @cmpL_end0 ps qs k)
  clear hd hd' h h'
  generalize hr : cmpL (ps.map PT.tm) (qs.map PT.tm) = r at *
  have HR := Lib.hid hr
  generalize hpn : ps.length = pn at *
  generalize hqn : qs.length = qn at *
  have HP := Lib.hid hpn; have HQ := Lib.hid hqn
  clear hpn hqn hr
  go_enter Try.func27, Try.ntmps27
  go_wp2_with fail
  go_loopg [5, 6] pn (fun gn ix _ wr => ∃ (k : Nat), k ≤ pn ∧ gn = pn - k ∧ ix = .int .i64 k ∧ (k = 0 ∨ k ≤ qn) ∧ cmpL ((ps.drop k).map PT.tm) ((qs.drop k).map PT.tm) = r ∧ Below w.heap.size w wr)
  case atStart => exact ⟨0, by omega, rfl, rfl, .inl rfl, HR.out, Below.refl _ _⟩
  case round =>
    obtain ⟨k, hk, hgk, rfl, hkq, hc, hbl⟩ := hrel
    have HG := Lib.hid hgk; have HC := Lib.hid hc
    clear hgk hc
    by_cases hlt : k < pn
    · obtain ⟨p, hp⟩ : ∃ p, ps[k]? = some p := ⟨_, List.getElem?_eq_getElem (by have := HP.out; omega)⟩
      have hpm := List.mem_of_getElem? hp
      have i1 : (k : Int) < (pn : Int) := by omega
      have i0 : (0 : Int) ≤ (k : Int) := by omega
      by_cases hlt2 : k < qn
      · obtain ⟨q, hq⟩ : ∃ q, qs[k]? = some q := ⟨_, List.getElem?_eq_getElem (by have := HQ.out; omega)⟩
        have hqm := List.mem_of_getElem? hq
        obtain ⟨b, o, hA, hbb, d0, d1, d2, d3, d4, d5⟩ := (H.out.below (hbl.mono hB)).at_ hp
        obtain ⟨b', o', hA', hbb', f0, f1, f2, f3, f4, f5⟩ := (H'.out.below (hbl.mono hB)).at_ hq
        subst hA; subst hA'
        have j2 : (k : Int) < (qn : Int) := by omega
        have hsz := hbl.size
        have HCC := Lib.hid (fun (W : World) (hW : Below wr.heap.size wr W) => ICmp_any p.ng q.ng p.A q.A p.c q.c B p.ds q.ds W (Nat.le_trans hB (Nat.le_trans hsz hW.size)) ((H.out.nt p hpm).below ((hbl.trans (hW.mono hsz)).mono hB)) ((H'.out.nt q hqm).below ((hbl.trans (hW.mono hsz)).mono hB)) (by have := HD.out p hpm; omega) (by have := HD'.out q hqm; omega))
        have HRC := Lib.hid (fun W => RC_any p.m q.m W)
        have HS := Lib.hid (HST.out k p q hp hq)
        have HNE := Lib.hid (@cmpT_ne p.tm q.tm)
        have HEQ := Lib.hid (@cmpT_eq p.tm q.tm)
        have l1 : b < wr.heap.size := by omega
        have l2 : b' < wr.heap.size := by omega
        have hze : cmpZ (ival p.ng p.ds) (ival q.ng q.ds) = cmpZ p.tm.1 q.tm.1 := rfl
        rw [hze] at HCC
        have hce : cmpM p.tm.2 q.tm.2 = cmpM p.m q.m := rfl
        rw [hce] at HNE HEQ
        unfold moV at HRC
        clear hp hpm hq hqm hze hce
        generalize cmpM p.m q.m = cm at *
        generalize cmpZ p.tm.1 q.tm.1 = cz at *
        generalize cmpT p.tm q.tm = ct at *
        generalize p.m.1 = p0 at *
        generalize p.m.2.1 = p1 at *
        generalize p.m.2.2.1 = p2 at *
        generalize p.m.2.2.2 = p3 at *
        generalize q.m.1 = q0 at *
        generalize q.m.2.1 = q1 at *
        generalize q.m.2.2.1 = q2 at *
        generalize q.m.2.2.2 = q3 at *
        have hkb : (k : Int) ≤ 100000 := by omega
        go_wp2_with fail
        go_region_held3 (fun w' => w'.cell? ⟨b, o + k * 6 + 2, none⟩ = some (.int .i64 p0) ∧ w'.cell? ⟨b, o + k * 6 + 3, none⟩ = some (.int .i64 p1) ∧ w'.cell? ⟨b, o + k * 6 + 4, none⟩ = some (.int .i64 p2) ∧ w'.cell? ⟨b, o + k * 6 + 5, none⟩ = some (.int .i64 p3) ∧ w'.cell? ⟨b', o' + k * 6 + 2, none⟩ = some (.int .i64 q0) ∧ w'.cell? ⟨b', o' + k * 6 + 3, none⟩ = some (.int .i64 q1) ∧ w'.cell? ⟨b', o' + k * 6 + 4, none⟩ = some (.int .i64 q2) ∧ w'.cell? ⟨b', o' + k * 6 + 5, none⟩ = some (.int .i64 q3))
          (first | exact ⟨d2, d3, d4, d5, f2, f3, f4, f5⟩ | exact ⟨(hb4.cell l1).trans d2, (hb4.cell l1).trans d3, (hb4.cell l1).trans d4, (hb4.cell l1).trans d5, (hb4.cell l2).trans f2, (hb4.cell l2).trans f3, (hb4.cell l2).trans f4, (hb4.cell l2).trans f5⟩)
          (first | (go_at_call 29; refine (HRC.out _).mono ?_; rintro e w2 ⟨rfl, hl2⟩; have hb4 := hl2.below))
        have hb5 : Below wr.heap.size wr w2 := ((Drawn.drew wr).below _).trans hb4
        have y0 := (hb5.cell (p := ⟨b, o + k * 6, none⟩) l1).trans d0
        have y1 := (hb5.cell (p := ⟨b, o + k * 6 + 1, none⟩) l1).trans d1
        have z0 := (hb5.cell (p := ⟨b', o' + k * 6, none⟩) l2).trans f0
        have z1 := (hb5.cell (p := ⟨b', o' + k * 6 + 1, none⟩) l2).trans f1
        have m1 : b < w2.heap.size := Nat.lt_of_lt_of_le l1 hb5.size
        have m2 : b' < w2.heap.size := Nat.lt_of_lt_of_le l2 hb5.size
        have hbw := hbl.trans (hb5.mono hsz)
        clear d0 d1 d2 d3 d4 d5 f0 f1 f2 f3 f4 f5 hb4 hl2
        by_cases hm : cm = 0
        · subst hm
          have HT := Lib.hid (HEQ.out rfl)
          go_wp2_with fail
          have hb6 : Below wr.heap.size wr w2.drew := hb5.trans ((Drawn.drew w2).below _)
          go_region_held3 (fun w' => w'.cell? ⟨b, o + k * 6, none⟩ = some (.bool p.ng) ∧ w'.cell? ⟨b, o + k * 6 + 1, none⟩ = some (.slice p.A p.ds.length p.c) ∧ w'.cell? ⟨b', o' + k * 6, none⟩ = some (.bool q.ng) ∧ w'.cell? ⟨b', o' + k * 6 + 1, none⟩ = some (.slice q.A q.ds.length q.c))
            (first | exact ⟨y0, y1, z0, z1⟩ | exact ⟨(hb7.cell m1).trans y0, (hb7.cell m1).trans y1, (hb7.cell m2).trans z0, (hb7.cell m2).trans z1⟩)
            (first | (go_at_call 52; refine (HCC.out _ hb6).mono ?_; rintro e w3 ⟨rfl, hb7⟩))
          have hbe := hbw.trans ((((Drawn.drew w2).below _).trans hb7).mono hbw.size)
          clear y0 y1 z0 z1
          by_cases hz : cz = 0
          · subst hz
            have HN := Lib.hid ((HS.out.trans (if_pos HT.out)).symm.trans HC.out)
            go_wp2_with fail
            go_roundg (pn - (k + 1))
            case rel => exact ⟨k + 1, by omega, rfl, by go_num, .inr (by omega), HN.out, hbe⟩
            case measure => have := HG.out; omega
          · have HN := Lib.hid ((HS.out.trans (if_neg (by rw [HT.out]; exact hz))).symm.trans HC.out)
            have hzb : (cz != 0) = true := by simpa using hz
            go_wp2_with fail
            go_ret
            exact ⟨by rw [← HN.out, HT.out]; rfl, hbe⟩
        · have HT := Lib.hid (HNE.out hm)
          have HN := Lib.hid ((HS.out.trans (if_neg (by rw [HT.out]; exact hm))).symm.trans HC.out)
          have hzb : (cm != 0) = true := by simpa using hm
          go_wp2_with fail
          go_ret
          exact ⟨by rw [← HN.out, HT.out]; rfl, hbw⟩
      · have HN := Lib.hid ((HLO.out k (by have := HP.out; omega) (by have := HQ.out; omega)).symm.trans HC.out)
        have j1 : ¬ (k : Int) < (qn : Int) := by omega
        have j3 : (qn : Int) < (pn : Int) := by omega
        clear hp hpm
        go_wp2_with fail
        go_ret
        exact ⟨by rw [← HN.out]; rfl, hbl⟩
    · obtain rfl : k = pn := by omega
      by_cases hlt2 : k < qn
      · have HN := Lib.hid ((HE1.out k (by have := HP.out; omega) (by have := HQ.out; omega)).symm.trans HC.out)
        have j1 : ¬ (qn : Int) < (k : Int) := by omega
        have j3 : (k : Int) < (qn : Int) := by omega
        go_wp2_with fail
        go_ret
        exact ⟨by rw [← HN.out]; rfl, hbl⟩
      · have HN := Lib.hid ((HE0.out k (by have := HP.out; omega) (by have := HQ.out; omega)).symm.trans HC.out)
        have j1 : ¬ (k : Int) < (qn : Int) := by omega
        have j3 : ¬ (qn : Int) < (k : Int) := by omega
        go_wp2_with fail
        go_ret
        exact ⟨by rw [← HN.out]; rfl, hbl⟩
end Go.Proofs.Ytpbapoanjkekmaa
