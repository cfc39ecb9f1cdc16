/- Contract of the reference's Canonical at canonical polynomials. -/
import Derived.IntWalk
import Derived.Test.YtpbapoanjkekmaaR1
namespace Go.Proofs.Ytpbapoanjkekmaa
open Go.RowKit
attribute [local go_sem ↓] Go.wp_at_zero Go.wp_at_succ

theorem dig_last (v : Nat) (hv : v ≠ 0) : (dig v).getD ((dig v).length - 1) 0 ≠ 0 := by
  induction v using Nat.strongRecOn with
  | _ v ih =>
    rw [dig_pos hv]
    by_cases h : v / 4294967296 = 0
    · rw [h, dig_zero]
      simp
      omega
    · have hl : 0 < (dig (v / 4294967296)).length := dig_len_pos.2 (by omega)
      have e : (v % 4294967296 :: dig (v / 4294967296)).length - 1 = ((dig (v / 4294967296)).length - 1) + 1 := by simp; omega
      rw [e, List.getD_cons_succ]
      exact ih _ (by omega) h
theorem Canon.lt_at {ps : List PT} (h : Canon (ps.map PT.tm)) {i j : Nat} {p q : PT} (hp : ps[i]? = some p) (hq : ps[j]? = some q) (hij : i < j) : ltM q.m p.m := by
  have h1 := List.pairwise_iff_getElem.1 h.so i j (by simp; exact (List.getElem?_eq_some_iff.1 hp).1) (by simp; exact (List.getElem?_eq_some_iff.1 hq).1) hij
  simp only [List.getElem_map] at h1
  rw [(List.getElem?_eq_some_iff.1 hp).2, (List.getElem?_eq_some_iff.1 hq).2] at h1
  exact h1

set_option maxHeartbeats 4000000 in
set_option maxRecDepth 100000 in
theorem Can_any (A : Option Addr) (c B : Nat) (ps : List PT) (w : World) (hB : B ≤ w.heap.size) (h : PolyIn w B A ps) (hc : Canon (ps.map PT.tm)) (hn : ∀ p ∈ ps, Cn p) (hlen : ps.length ≤ 100000) (hdl : ∀ p ∈ ps, p.ds.length ≤ 1000) :
    Calls Try.prog 12 #[.slice A ps.length c] w fun e w' => e = .returned (.bool true) ∧ Below w.heap.size w w' := by
  have H := Lib.hid h; have HC := Lib.hid hc; have HN := Lib.hid hn; have HD := Lib.hid hdl
  clear h hc hn hdl
  generalize hpn : ps.length = pn at *
  have HP := Lib.hid hpn
  clear hpn
  go_enter Try.func12, Try.ntmps12
  go_wp2_with fail
  go_loopg [3, 4, 5] pn (fun gn ix _ _ wr => ∃ (k : Nat), k ≤ pn ∧ gn = pn - k ∧ ix = .int .i64 k ∧ Below w.heap.size w wr)
  case atStart => exact ⟨0, by omega, rfl, rfl, Below.refl _ _⟩
  case round =>
    obtain ⟨k, hk, hgk, rfl, hbl⟩ := hrel
    have HG := Lib.hid hgk; clear hgk
    by_cases hlt : k < pn
    · obtain ⟨p, hp⟩ : ∃ p, ps[k]? = some p := ⟨_, List.getElem?_eq_getElem (by have := HP.out; omega)⟩
      have hpm := List.mem_of_getElem? hp
      have hin := H.out.below (hbl.mono hB)
      obtain ⟨b, o, hA, hbb, d0, d1, d2, d3, d4, d5⟩ := hin.at_ hp
      subst hA
      have i1 : (k : Int) < (pn : Int) := by omega
      have i0 : (0 : Int) ≤ (k : Int) := by omega
      have hsz := hbl.size
      have hb1 : b < wr.heap.size := by omega
      have hz : p.tm.1 ≠ 0 := HC.out.ne p.tm (List.mem_map.2 ⟨p, hpm, rfl⟩)
      have hv : vld p.m = true := HC.out.vl p.tm (List.mem_map.2 ⟨p, hpm, rfl⟩)
      have hds := (HN.out p hpm).ds
      have hlast := dig_last p.tm.1.natAbs (by omega)
      rw [← hds] at hlast
      have hpos : 0 < p.ds.length := by rw [hds]; exact dig_len_pos.2 (by omega)
      have hle := HD.out p hpm
      obtain ⟨n, hn⟩ : ∃ n, p.ds.length = n + 1 := ⟨p.ds.length - 1, by omega⟩
      have hnin := hin.nt p hpm
      obtain ⟨b2, o2, hA2, hbb2, c2⟩ := nat_at hnin.rd (k := n) (by omega)
      have hlast' : p.ds.getD n 0 ≠ 0 := by rw [hn] at hlast; exact hlast
      have hb2 : b2 < wr.heap.size := by omega
      have HV := Lib.hid (fun W => RV_any p.m W)
      rw [hv] at HV
      unfold moV at HV
      have HX := Lib.hid (Blk.new wr 31 #[.bool p.ng, .slice p.A p.ds.length p.c])
      have hbx := (Below.refl wr.heap.size wr).alloc (Nat.le_refl _) (.cells #[.bool p.ng, .slice p.A p.ds.length p.c] 31)
      have HBX := Lib.hid hbx
      rw [hn, hA2] at d1 HX HBX
      have HPK := Lib.hid hp
      have HH := Lib.hid hin
      generalize p.ds.getD n 0 = dg at *
      have hdg : (((dg : Nat) : Int) == 0) = false := by simpa using hlast'
      have n0 : (n : Int) + 1 - 1 = (n : Int) := by omega
      have hn1 : ((n : Int) + 1 == 0) = false := by simp; omega
      have hnb : (n : Int) ≤ 1000 := by omega
      clear hz hv hds hlast hpos hle hnin hlast' hin hp hpm hbx
      go_wp2_with fail
      refine (HV.out _).mono ?_
      rintro e w1 ⟨rfl, hl1⟩
      have hbx := HBX.out
      have hb3 : Below wr.heap.size wr w1 := hbx.trans (hl1.below.mono hbx.size)
      have kx := HX.out.old hl1.below
      have x1 : w1.cell? ⟨wr.heap.size, 1, none⟩ = some (.slice (some ⟨b2, o2, none⟩) (n + 1) p.c) := kx.cell 1
      have x2 := (hb3.cell (p := ⟨b2, o2 + n, none⟩) hb2).trans c2
      have hbw1 := hbl.trans (hb3.mono hsz)
      have y2 := (hb3.cell (p := ⟨b, o + k * 6 + 2, none⟩) hb1).trans d2
      have y3 := (hb3.cell (p := ⟨b, o + k * 6 + 3, none⟩) hb1).trans d3
      have y4 := (hb3.cell (p := ⟨b, o + k * 6 + 4, none⟩) hb1).trans d4
      have y5 := (hb3.cell (p := ⟨b, o + k * 6 + 5, none⟩) hb1).trans d5
      clear d0 d1 d2 d3 d4 d5 c2 HX HBX hbx kx hl1 HV
      have j0 : (0 : Int) ≤ (n : Int) := by omega
      have j1 : (n : Int) < (n : Int) + 1 := by omega
      by_cases hk0 : k = 0
      · subst hk0
        go_wp2_with fail
        go_quiet (fail)
        go_wp2_with fail
        go_roundg (pn - 1)
        case rel => exact ⟨1, by omega, rfl, rfl, hbw1.trans ((Drawn.drewN _ _).below _)⟩
        case measure => have := HG.out; omega
      · obtain ⟨j, rfl⟩ : ∃ j, k = j + 1 := ⟨k - 1, by omega⟩
        obtain ⟨q, hq⟩ : ∃ q, ps[j]? = some q := ⟨_, List.getElem?_eq_getElem (by have := HP.out; omega)⟩
        obtain ⟨b', o', hA', _, _, _, f2, f3, f4, f5⟩ := HH.out.at_ hq
        injection hA' with hA'
        injection hA' with e1 e2
        subst e1; subst e2
        have hlt' := HC.out.lt_at hq HPK.out (Nat.lt_succ_self j)
        have hcm : ¬ cmpM q.m p.m ≤ 0 := by
          rw [cmpM_neg p.m q.m]
          have := cmpM_lt.2 hlt'
          omega
        have HRC := Lib.hid (fun W => RC_any q.m p.m W)
        unfold moV at HRC
        generalize cmpM q.m p.m = cm at *
        have z2 := (hb3.cell (p := ⟨b, o + j * 6 + 2, none⟩) hb1).trans f2
        have z3 := (hb3.cell (p := ⟨b, o + j * 6 + 3, none⟩) hb1).trans f3
        have z4 := (hb3.cell (p := ⟨b, o + j * 6 + 4, none⟩) hb1).trans f4
        have z5 := (hb3.cell (p := ⟨b, o + j * 6 + 5, none⟩) hb1).trans f5
        clear f2 f3 f4 f5 hq hlt' HPK HH
        generalize p.m.1 = p0 at *
        generalize p.m.2.1 = p1 at *
        generalize p.m.2.2.1 = p2 at *
        generalize p.m.2.2.2 = p3 at *
        generalize q.m.1 = q0 at *
        generalize q.m.2.1 = q1 at *
        generalize q.m.2.2.1 = q2 at *
        generalize q.m.2.2.2 = q3 at *
        have lb1 : b < w1.heap.size := Nat.lt_of_lt_of_le hb1 hb3.size
        have m1 : ((j + 1 : Nat) : Int) - 1 = (j : Int) := by omega
        have m2 : (0 : Int) < ((j + 1 : Nat) : Int) := by omega
        have m3 : (j : Int) < (pn : Int) := by omega
        have m4 : (0 : Int) ≤ (j : Int) := by omega
        go_wp2_with fail
        have hw2 : decide ((0 : Int) < (j : Int) + 1) = true := by simp
        have hw3 : (0 : Int) ≤ (j : Int) + 1 := by omega
        have hw4 : (j : Int) + 1 < (pn : Int) := by omega
        have hw5 : ((j : Int) + 1).toNat = j + 1 := by omega
        have hw1 : IntKind.i64.wrap (j : Int) = (j : Int) := IntWalk.i64_in _ (by omega)
        go_region_held3 (fun w' => w'.cell? ⟨b, o + j * 6 + 2, none⟩ = some (.int .i64 q0) ∧ w'.cell? ⟨b, o + j * 6 + 3, none⟩ = some (.int .i64 q1) ∧ w'.cell? ⟨b, o + j * 6 + 4, none⟩ = some (.int .i64 q2) ∧ w'.cell? ⟨b, o + j * 6 + 5, none⟩ = some (.int .i64 q3) ∧ w'.cell? ⟨b, o + (j + 1) * 6 + 2, none⟩ = some (.int .i64 p0) ∧ w'.cell? ⟨b, o + (j + 1) * 6 + 3, none⟩ = some (.int .i64 p1) ∧ w'.cell? ⟨b, o + (j + 1) * 6 + 4, none⟩ = some (.int .i64 p2) ∧ w'.cell? ⟨b, o + (j + 1) * 6 + 5, none⟩ = some (.int .i64 p3))
          (first | exact ⟨z2, z3, z4, z5, y2, y3, y4, y5⟩ | exact ⟨(hb4.cell lb1).trans z2, (hb4.cell lb1).trans z3, (hb4.cell lb1).trans z4, (hb4.cell lb1).trans z5, (hb4.cell lb1).trans y2, (hb4.cell lb1).trans y3, (hb4.cell lb1).trans y4, (hb4.cell lb1).trans y5⟩)
          (first | (go_at_call 29; refine (HRC.out _).mono ?_; rintro e w2 ⟨rfl, hl2⟩; have hb4 := hl2.below))
        clear hw1 hw2 hw3 hw4 hw5 z2 z3 z4 z5 y2 y3 y4 y5 x1 x2
        have hbe := hbw1.trans ((((Drawn.drew w1).below _).trans hb4).mono hbw1.size)
        go_wp2_with fail
        go_roundg (pn - (j + 1 + 1))
        case rel => exact ⟨j + 1 + 1, by omega, rfl, by go_num, hbe⟩
        case measure => have := HG.out; omega
    · obtain rfl : k = pn := by omega
      go_wp2_with fail
      go_ret
      exact ⟨rfl, hbl⟩
end Go.Proofs.Ytpbapoanjkekmaa
