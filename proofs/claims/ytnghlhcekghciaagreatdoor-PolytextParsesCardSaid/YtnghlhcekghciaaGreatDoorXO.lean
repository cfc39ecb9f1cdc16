/- The reference's canonical form of a polynomial. -/
import Derived.Lib.QuietBelow
import Derived.Test.YtnghlhcekghciaaGreatDoorZV
namespace Go.Proofs.YtnghlhcekghciaaGreatDoor
open Go.RowKit Go.Sort

theorem cf_nz (l : List Tm) (x : Mo) : cf (l.filter fun t => !decide (t.1 = 0)) x = cf l x := by
  induction l with
  | nil => rfl
  | cons t l ih =>
    rw [cf_cons]
    by_cases h : t.1 = 0
    · rw [List.filter_cons_of_neg (by simpa using h), ih, h]
      simp
    · rw [List.filter_cons_of_pos (by simpa using h), cf_cons, ih]
def nzP (q : PT) : Bool := decide (0 < q.ds.length)
theorem crow_nz {w : World} {base : Nat} {v : Value} {qs : List PT} {ts : List Tm} (h : CRow w base v qs ts) : (qs.filter nzP).map PT.tm = (qs.map PT.tm).filter fun t => !decide (t.1 = 0) := by
  rw [List.filter_map]
  congr 1
  apply List.filter_congr
  intro q hq
  have := (h.cn q hq).ds
  have h2 := @dig_len0 q.tm.1.natAbs
  unfold nzP
  rw [this, Function.comp, Bool.eq_iff_iff]
  simp only [decide_eq_true_eq, Bool.not_eq_true', decide_eq_false_iff_not]
  omega
theorem crow_fin {w : World} {base : Nat} {v : Value} {qs : List PT} {ts : List Tm} (h : CRow w base v qs ts) (hb : nrm ts < Big) : Canon ((qs.filter nzP).map PT.tm) ∧ (∀ m, cf ((qs.filter nzP).map PT.tm) m = cf ts m) ∧ (∀ q ∈ qs.filter nzP, Cn q ∧ WfM q.m ∧ q.ds.length ≤ 600) ∧ (qs.filter nzP).length ≤ ts.length := by
  rw [crow_nz h]
  exact ⟨h.so.canon, fun m => by rw [cf_nz, h.cf], fun q hq => ⟨h.cn q (List.mem_filter.1 hq).1, h.wf q (List.mem_filter.1 hq).1, h.dl hb (List.mem_filter.1 hq).1⟩, Nat.le_trans (List.length_filter_le _ _) h.len⟩
theorem nz_take {qs : List PT} {i : Nat} {q : PT} (hq : qs[i]? = some q) : (qs.take (i + 1)).filter nzP = (qs.take i).filter nzP ++ (if 0 < q.ds.length then [q] else []) := by
  have hi := (List.getElem?_eq_some_iff.1 hq).1
  rw [List.take_succ_eq_append_getElem hi, List.filter_append, (List.getElem?_eq_some_iff.1 hq).2]
  congr 1
  by_cases h : 0 < q.ds.length
  · rw [if_pos h, List.filter_cons_of_pos (by unfold nzP; simpa using h)]; rfl
  · rw [if_neg h, List.filter_cons_of_neg (by unfold nzP; simpa using h)]; rfl
theorem mixedP : Tryz.prog.follows .mixedOrders = true := by kernel_rfl
set_option maxHeartbeats 8000000 in
set_option maxRecDepth 100000 in
theorem RCanon_any (A : Option Addr) (c B N : Nat) (E : Int) (M : Nat) (ps : List PT) (w : World) (hB : B ≤ w.heap.size) (h : PIn w B A ps N E M) (hN : N ≤ 10000) (hM : M < Big) :
    Calls Tryz.prog 14 #[.slice A ps.length c] w fun e w' => (∃ A' c' qs, e = .returned (.slice A' qs.length c') ∧ PRow w' w.heap.size (.slice A' qs.length c') qs ∧ Canon (qs.map PT.tm) ∧ (∀ m, cf (qs.map PT.tm) m = cf (ps.map PT.tm) m) ∧ (∀ q ∈ qs, Cn q ∧ WfM q.m ∧ q.ds.length ≤ 600) ∧ qs.length ≤ ps.length) ∧ Below w.heap.size w w' := by
  obtain ⟨i0, hi0, hz0, hz1, hz2⟩ := info_parts Tryz.infoTerm
  have H := Lib.hid h
  have hlen := h.len
  have HNT := Lib.hid (fun k => Nat.lt_of_le_of_lt (Nat.le_trans (nrm_take_tm ps k) h.nm) hM)
  clear h
  generalize hpn : ps.length = n at *
  have HN := Lib.hid hpn
  clear hpn
  go_enter Tryz.func14, Tryz.ntmps14
  go_wp2_with fail
  go_loopg [3, 4, 5, 6, 7, 8, 13, 16] n (fun gn ov _ _ _ _ _ ix _ wr => ∃ (k : Nat) (qs : List PT), k ≤ n ∧ gn = n - k ∧ ix = .int .i64 k ∧ CRow wr w.heap.size ov qs ((ps.take k).map PT.tm) ∧ Below w.heap.size w wr)
  case atStart => exact ⟨0, [], by omega, rfl, rfl, CRow.nil _ _, Below.refl _ _⟩
  case round =>
    obtain ⟨k, qs, hk, hgk, rfl, hcr, hbl⟩ := hrel
    have HG := Lib.hid hgk; have HCR := Lib.hid hcr
    clear hgk hcr
    have hz := hbl.size
    by_cases hlt : k < n
    · obtain ⟨p, hp⟩ : ∃ p, ps[k]? = some p := ⟨_, List.getElem?_eq_getElem (by have := HN.out; omega)⟩
      have hpm := List.mem_of_getElem? hp
      have hin := H.out.below (hbl.mono hB)
      obtain ⟨b, o, rfl, hbb, d0, d1, d2, d3, d4, d5⟩ := hin.pin.at_ hp
      have hnt := (hin.pin.nt p hpm).more (Nat.le_trans hB hz)
      have HNTP := Lib.hid hnt
      have hdl := hin.dl p hpm
      have hwf := hin.wf p hpm
      have HWF := Lib.hid hwf
      have HTK := Lib.hid (take_snoc_tm hp)
      have i1 : (k : Int) < (n : Int) := by omega
      have i0' : (0 : Int) ≤ (k : Int) := by omega
      have l1 : b < wr.heap.size := by omega
      obtain ⟨Aq, cq, rfl⟩ := own_slice6 HCR.out.row.row
      have dj : ∀ j, j < 4 → wr.cell? ⟨b, o + k * 6 + 2 + j, none⟩ = some (.int .i64 (gt p.m j)) := fun j hj => by
        rcases (by omega : j = 0 ∨ j = 1 ∨ j = 2 ∨ j = 3) with rfl | rfl | rfl | rfl
        · exact d2
        · exact d3
        · exact d4
        · exact d5
      have DJ := Lib.hid dj
      have HVF := Lib.hid (vldTo_four p.m)
      have D0 := Lib.hid d0; have D1 := Lib.hid d1; have D2 := Lib.hid d2; have D3 := Lib.hid d3; have D4 := Lib.hid d4; have D5 := Lib.hid d5
      clear hp hpm hin hnt hwf dj d0 d1 d2 d3 d4 d5
      go_wp2_with fail
      go_loopg [5, 6, 16] 4 (fun gn sv _ jx wx => ∃ j : Nat, j ≤ 4 ∧ gn = 4 - j ∧ jx = .int .i64 j ∧ sv = .bool (!vldTo p.m j) ∧ wr = wx)
      case atStart => exact ⟨0, by omega, rfl, rfl, rfl, rfl⟩
      case round =>
        obtain ⟨j, hj, hgj, rfl, rfl, rfl⟩ := hrel
        have HGJ := Lib.hid hgj
        clear hgj
        by_cases hj4 : j < 4
        · have cj := DJ.out j hj4
          have j1 : (j : Int) < 4 := by omega
          have j0 : (0 : Int) ≤ (j : Int) := by omega
          have HVS := Lib.hid (show vldTo p.m (j + 1) = (vldTo p.m j && decide (0 ≤ gt p.m j)) from rfl)
          generalize gt p.m j = x at *
          cases hvj : vldTo p.m j with
          | false =>
            have HN2 := Lib.hid (show vldTo p.m (j + 1) = false by rw [HVS.out, hvj]; rfl)
            clear HVS hvj
            go_wp2_with fail
            go_roundg (3 - j)
            case rel => exact ⟨j + 1, by omega, by omega, by go_num, by rw [HN2.out]; rfl, rfl⟩
            case measure => have := HGJ.out; omega
          | true =>
            by_cases hx : x < 0
            · have HN2 := Lib.hid (show vldTo p.m (j + 1) = false by rw [HVS.out, hvj]; simp; omega)
              clear HVS hvj
              go_wp2_with fail
              go_roundg (3 - j)
              case rel => exact ⟨j + 1, by omega, by omega, by go_num, by rw [HN2.out]; rfl, rfl⟩
              case measure => have := HGJ.out; omega
            · have HN2 := Lib.hid (show vldTo p.m (j + 1) = true by rw [HVS.out, hvj]; simp; omega)
              clear HVS hvj
              go_wp2_with fail
              go_roundg (3 - j)
              case rel => exact ⟨j + 1, by omega, by omega, by go_num, by rw [HN2.out]; rfl, rfl⟩
              case measure => have := HGJ.out; omega
        · obtain rfl : j = 4 := by omega
          rw [HVF.out]
          cases hv : vld p.m with
          | false =>
            have HSK := Lib.hid (HCR.out.skip (t := p.tm) hv)
            rw [← HTK.out] at HSK
            clear hv
            go_wp2_with fail
            go_roundg (n - (k + 1))
            case rel => exact ⟨k + 1, qs, by omega, rfl, by go_num, HSK.out, hbl⟩
            case measure => have := HG.out; omega
          | true =>
            have HV := Lib.hid hv
            clear hv
            go_wp2_with fail
            generalize hql : qs.length = m at *
            have HQL := Lib.hid hql
            clear hql
            have hm1 : m ≤ 10000 := by
              have h1 := HCR.out.len
              rw [HQL.out, List.length_map, List.length_take] at h1
              omega
            go_loopg [7] m (fun gn av wx => ∃ a : Nat, At (qs.map PT.tm) p.m a ∧ gn = m - a ∧ av = .int .i64 a ∧ Below wr.heap.size wr wx)
            case atStart => exact ⟨0, At.zero _ _, rfl, rfl, Below.refl _ _⟩
            case round =>
              obtain ⟨a, hat, hga, rfl, hbx⟩ := hrel
              have HGA := Lib.hid hga; have HAT := Lib.hid hat
              have ham : a ≤ m := by have := hat.le; rw [List.length_map, HQL.out] at this; exact this
              clear hga hat
              by_cases hlta : a < m
              · obtain ⟨q, hq⟩ : ∃ q, qs[a]? = some q := ⟨_, List.getElem?_eq_getElem (by have := HQL.out; omega)⟩
                have hpi := (HCR.out.old hbx).row.polyIn
                obtain ⟨g, cap, hv, _⟩ := HCR.out.row.row.form (by rw [HQL.out]; omega)
                injection hv with hv1 hv2 hv3
                subst hv1
                clear hv3 hv2
                obtain ⟨b2, o2, hA2, hbb2, e0, e1, e2, e3, e4, e5⟩ := hpi.at_ hq
                injection hA2 with hA2
                injection hA2 with x1 x2
                subst x1
                subst x2
                simp only [Nat.zero_add] at e0 e1 e2 e3 e4 e5
                have EE := Lib.hid (And.intro e0 (And.intro e1 (And.intro e2 (And.intro e3 (And.intro e4 e5)))))
                have HQW := Lib.hid (HCR.out.wf q (List.mem_of_getElem? hq))
                have HQA := Lib.hid hq
                have HCQ := Lib.hid (fun (d : Nat) (os : Array Obj) => Calls.regrown_of (d := d) (os := os) ((RBefore_any q.m p.m (grow (redrawn wr d) os)).mono fun e w' ⟨he, hl⟩ => ⟨he, hl.below⟩))
                have HCM := Lib.hid (show 0 < cmpM q.m p.m ↔ ltM p.m q.m by rw [← cmpM_lt, cmpM_neg p.m q.m]; omega)
                have f2 : wr.cell? ⟨b, o + k * 6 + 2, none⟩ = some (.int .i64 p.m.1) := (hbx.cell l1).trans D2.out
                have f3 : wr.cell? ⟨b, o + k * 6 + 3, none⟩ = some (.int .i64 p.m.2.1) := (hbx.cell l1).trans D3.out
                have f4 : wr.cell? ⟨b, o + k * 6 + 4, none⟩ = some (.int .i64 p.m.2.2.1) := (hbx.cell l1).trans D4.out
                have f5 : wr.cell? ⟨b, o + k * 6 + 5, none⟩ = some (.int .i64 p.m.2.2.2) := (hbx.cell l1).trans D5.out
                unfold moV at HCQ
                have j1 : (a : Int) < (m : Int) := by omega
                have j2 : decide (a < m) = true := by simpa using hlta
                have j0 : (0 : Int) ≤ (a : Int) := by omega
                have l3 : b < wr.heap.size := Nat.lt_of_lt_of_le l1 hbx.size
                clear hq hpi e0 e1
                generalize hcm : cmpM q.m p.m = cm at *
                have HCMV := Lib.hid hcm
                clear hcm
                replace e2 := cell_regrown e2; replace e3 := cell_regrown e3; replace e4 := cell_regrown e4; replace e5 := cell_regrown e5
                replace f2 := cell_regrown f2; replace f3 := cell_regrown f3; replace f4 := cell_regrown f4; replace f5 := cell_regrown f5
                by_cases hgt : 0 < cm
                · have HNA := Lib.hid (HAT.out.step (t := q.tm) (by rw [List.getElem?_map, HQA.out]; rfl) (HCM.out.1 hgt))
                  go_wp2_with fail
                  refine wp_region_quiet_below mixedP (by kernel_rfl) ?_
                  repeat (go_big_quiet_step (fail))
                  refine wpQuiet_step (fun K hK => ?_)
                  go_simp
                  apply Exists.intro
                  refine ⟨fun _ => HCQ.out _ _, hK _ ?_⟩
                  clear hK K
                  repeat (go_big_quiet_step (fail))
                  refine wpQuiet_nil ?_
                  rintro _ ⟨⟨dq, osq⟩, rfl⟩
                  have hbz0 := below_regrown wr dq osq
                  have hbz := hbx.trans (hbz0.mono hbx.size)
                  generalize grow (redrawn wr dq) osq = wz at *
                  clear e2 e3 e4 e5 f2 f3 f4 f5
                  go_wp2_with fail
                  go_roundg (m - (a + 1))
                  case rel => exact ⟨a + 1, HNA.out, rfl, by go_num, hbz⟩
                  case measure => have := HGA.out; omega
                · have HLE := Lib.hid (show ltM q.m p.m ∨ q.m = p.m by
                    rcases ltM_tri q.m p.m with x | x | x
                    · exact .inl x
                    · exact .inr x
                    · exact absurd (HCM.out.2 x) hgt)
                  go_wp2_with fail
                  refine wp_region_quiet_below mixedP (by kernel_rfl) ?_
                  repeat (go_big_quiet_step (fail))
                  refine wpQuiet_step (fun K hK => ?_)
                  go_simp
                  apply Exists.intro
                  refine ⟨fun _ => HCQ.out _ _, hK _ ?_⟩
                  clear hK K
                  repeat (go_big_quiet_step (fail))
                  refine wpQuiet_nil ?_
                  rintro _ ⟨⟨dq, osq⟩, rfl⟩
                  have hbz0 := below_regrown wr dq osq
                  have hbz := hbx.trans (hbz0.mono hbx.size)
                  generalize grow (redrawn wr dq) osq = wz at *
                  clear e2 e3 e4 e5 f2 f3 f4 f5
                  obtain ⟨c0, c1, c2, c3, c4, c5⟩ := EE.out
                  have y2 : wz.cell? ⟨g, a * 6 + 2, none⟩ = some (.int .i64 q.m.1) := (hbz0.cell hbb2).trans c2
                  have y3 : wz.cell? ⟨g, a * 6 + 3, none⟩ = some (.int .i64 q.m.2.1) := (hbz0.cell hbb2).trans c3
                  have y4 : wz.cell? ⟨g, a * 6 + 4, none⟩ = some (.int .i64 q.m.2.2.1) := (hbz0.cell hbb2).trans c4
                  have y5 : wz.cell? ⟨g, a * 6 + 5, none⟩ = some (.int .i64 q.m.2.2.2) := (hbz0.cell hbb2).trans c5
                  have x2 : wz.cell? ⟨b, o + k * 6 + 2, none⟩ = some (.int .i64 p.m.1) := (hbz.cell l1).trans D2.out
                  have x3 : wz.cell? ⟨b, o + k * 6 + 3, none⟩ = some (.int .i64 p.m.2.1) := (hbz.cell l1).trans D3.out
                  have x4 : wz.cell? ⟨b, o + k * 6 + 4, none⟩ = some (.int .i64 p.m.2.2.1) := (hbz.cell l1).trans D4.out
                  have x5 : wz.cell? ⟨b, o + k * 6 + 5, none⟩ = some (.int .i64 p.m.2.2.2) := (hbz.cell l1).trans D5.out
                  have lg : g < wz.heap.size := Nat.lt_of_lt_of_le hbb2 hbz0.size
                  have lb : b < wz.heap.size := Nat.lt_of_lt_of_le l1 hbz.size
                  clear c0 c1 c2 c3 c4 c5 HCQ
                  rcases HLE.out with hlm | heqm
                  · have heq := fun W => Tryz.eq_mono q.m p.m HQW.out HWF.out W
                    rw [show decide (q.m = p.m) = false by simp; intro e; rw [e] at hlm; exact ltM_irrefl _ hlm] at heq
                    unfold moV at heq
                    have HLM := Lib.hid (show ∀ t, (qs.map PT.tm)[a]? = some t → ltM t.2 p.m from fun t ht => by
                      rw [List.getElem?_map, HQA.out] at ht
                      simp at ht
                      rw [← ht]
                      exact hlm)
                    clear hlm HLE
                    go_wp2_with fail
                    go_quiet (fail)
                    have hbz2 := hbz.trans ((Drawn.drewN wz nq).below _)
                    clear x2 x3 x4 x5 y2 y3 y4 y5 heq lg lb hbz0
                    generalize wz.drewN nq = V at *
                    generalize (some ⟨g, 0, none⟩ : Option Addr) = Aq at *
                    have HCV := Lib.hid (HCR.out.old hbz2)
                    have HNP := Lib.hid (HNTP.out.below hbz2)
                    have hzV := hbz2.size
                    have x0 : V.cell? ⟨b, o + k * 6, none⟩ = some (.bool p.ng) := (hbz2.cell l1).trans D0.out
                    have x1 : V.cell? ⟨b, o + k * 6 + 1, none⟩ = some (.slice p.A p.ds.length p.c) := (hbz2.cell l1).trans D1.out
                    have x2 : V.cell? ⟨b, o + k * 6 + 2, none⟩ = some (.int .i64 p.m.1) := (hbz2.cell l1).trans D2.out
                    have x3 : V.cell? ⟨b, o + k * 6 + 3, none⟩ = some (.int .i64 p.m.2.1) := (hbz2.cell l1).trans D3.out
                    have x4 : V.cell? ⟨b, o + k * 6 + 4, none⟩ = some (.int .i64 p.m.2.2.1) := (hbz2.cell l1).trans D4.out
                    have x5 : V.cell? ⟨b, o + k * 6 + 5, none⟩ = some (.int .i64 p.m.2.2.2) := (hbz2.cell l1).trans D5.out
                    have lbV : b < V.heap.size := Nat.lt_of_lt_of_le l1 hzV
                    have HBW := Lib.hid (hbl.trans (hbz2.mono hz))
                    have hrw := HCR.out.row.row
                    rw [HQL.out] at hrw
                    have hcq := own_cap hrw
                    have hcn : Aq = none → cq = 0 := fun h => by
                      rcases hrw.2 with ⟨hv, _⟩ | ⟨g9, c9, cur9, hv, _⟩
                      · injection hv
                      · injection hv with hv9
                        rw [h] at hv9
                        cases hv9
                    clear hrw
                    have hs1 := fun (W : World) => Tryz.slice_pre Aq m cq a (by omega) hcn W
                    have hs2 := fun (W : World) => Tryz.slice_suf Aq m cq a (by omega) hcq hcn W
                    have hpre := HCV.out.row.polyIn.pre (a := a) (by rw [HQL.out]; omega)
                    have HSUF := Lib.hid (fun (W : World) (hW : Below V.heap.size V W) => (HCV.out.row.polyIn.below hW).suf (a := a) (by rw [HQL.out]; omega) (sufOf Aq cq a) (fun hh => by
                      rw [HQL.out] at hh
                      obtain ⟨g9, c9, hv9, _⟩ := HCV.out.row.row.form (by rw [HQL.out]; omega)
                      injection hv9 with hv9
                      rw [hv9]
                      unfold sufOf
                      rw [if_pos (by omega)]
                      exact ⟨g9, 0, rfl, by simp [Addr.add] <;> omega⟩))
                    rw [HQL.out] at HSUF
                    generalize (sufOf Aq cq a) = A2 at *
                    have hown0 : V.ownsRow V.heap.size 47 6 (.slice none 0 0) 0 [] := ⟨rfl, .inl ⟨rfl, rfl⟩⟩
                    have h63 : 0 + a ≤ maxLen := by unfold maxLen; omega
                    have hby : (0 + a) * 64 ≤ 140737488355328 := by omega
                    have HRA := Lib.hid (fun (W : World) (hW : Below V.heap.size V W) => RAdd_any p.ng false p.A none p.c 0 V.heap.size p.ds [] W hW.size ((HNP.out.more hzV).below hW) ⟨Reads.none_, by simp [Dig], Nat.le_refl _⟩ (by omega) (by simp))
                    unfold IntResK at HRA
                    rw [show ival p.ng p.ds + ival false [] = ival p.ng p.ds by simp [ival, val], show ([] : List Nat).length = 0 from rfl] at HRA
                    have HZV := Lib.hid hzV
                    have HBZ := Lib.hid hbz2
                    have HHCQ := Lib.hid hcq
                    clear hcn hcq
                    go_wp2_with (at_builtin; refine wpList_append_any _ rfl (.tmp 84) (.tmp 87) 26 rfl V.heap.size 47 i0 _ 6 64 Tryz.underlying26 hi0 hz0 hz1 hz2 rfl (by decide) (.slice none 0 0) 0 [] rfl hown0 V.heap.size Aq a cq ((qs.take a).flatMap PT.cells) rfl hpre (cells_one _) h63 hby (Nat.le_refl _) ?_; intro v1 y1 hown1 hg1 hat1; refine Hid.out ?_)
                    refine Lib.hid ?_
                    have hla : (qs.take a).length = a := by rw [List.length_take, HQL.out, Nat.min_eq_left ham]
                    have hr1 : PRow y1 V.heap.size v1 (qs.take a) := by
                      have := (PRow.nil V V.heap.size).app (qs := qs.take a) (fun q hq => HCV.out.row.dg q (List.mem_of_mem_take hq)) (by rw [hla]; exact hown1) hg1
                      rwa [List.nil_append] at this
                    have hbA : Below V.heap.size V y1 := (Below.refl V.heap.size V).grown hg1 (Nat.le_refl _) (fun k hk => (hown0.lt k hk).1)
                    rw [Nat.zero_add, List.nil_append] at hown1
                    obtain ⟨A1, c1, rfl⟩ := own_slice6 hown1
                    have HLA := Lib.hid hla
                    have HR1 := Lib.hid hr1
                    have HOWN := Lib.hid hown1
                    have HBA := Lib.hid hbA
                    have hvd : Below V.heap.size V y1.drew := hbA.trans ((Drawn.drew y1).below _)
                    have e0 : y1.cell? ⟨b, o + k * 6, none⟩ = some (.bool p.ng) := (hbA.cell lbV).trans x0
                    have e1 : y1.cell? ⟨b, o + k * 6 + 1, none⟩ = some (.slice p.A p.ds.length p.c) := (hbA.cell lbV).trans x1
                    have e2 : y1.cell? ⟨b, o + k * 6 + 2, none⟩ = some (.int .i64 p.m.1) := (hbA.cell lbV).trans x2
                    have e3 : y1.cell? ⟨b, o + k * 6 + 3, none⟩ = some (.int .i64 p.m.2.1) := (hbA.cell lbV).trans x3
                    have e4 : y1.cell? ⟨b, o + k * 6 + 4, none⟩ = some (.int .i64 p.m.2.2.1) := (hbA.cell lbV).trans x4
                    have e5 : y1.cell? ⟨b, o + k * 6 + 5, none⟩ = some (.int .i64 p.m.2.2.2) := (hbA.cell lbV).trans x5
                    have ly : b < y1.heap.size := Nat.lt_of_lt_of_le lbV hbA.size
                    have hzy : V.heap.size ≤ y1.heap.size := hbA.size
                    clear hla hr1 hbA hown1 hg1 hat1 hown0 hpre hs1 x0 x1 x2 x3 x4 x5 hbz2 h63 hby hzV
                    have h63 : a + 1 ≤ maxLen := by unfold maxLen; omega
                    have hby : (a + 1) * 64 ≤ 140737488355328 := by omega
                    generalize hzz : ival p.ng p.ds = zz at *
                    have HZZ := Lib.hid hzz
                    clear hzz
                    go_wp2_with fail
                    go_region_law (first
                      | (refine step_append_any _ rfl (.tmp 89) (.tmp 103) 26 (by rfl) V.heap.size 47 i0 _ 6 64 Tryz.underlying26 hi0 hz0 hz1 hz2 rfl (by decide) (.slice A1 a c1) a ((qs.take a).flatMap PT.cells) (by rfl) roX (w3.heap.size + 1) (some ⟨w3.heap.size, 0, none⟩) 1 1 (mkP zz A3 c3 p.m).cells (by rfl) hrd hone h63 hby hbX ?_
                         intro v5 w5 hown5 hg5 hat5)
                      | (go_simp
                         go_at_call 31
                         refine (HRA.out _ hvd).mono ?_
                         rintro e w3 ⟨A3, c3, rfl, h3, h4, h5⟩
                         have z2 := (h5.cell ly).trans e2
                         have z3 := (h5.cell ly).trans e3
                         have z4 := (h5.cell ly).trans e4
                         have z5 := (h5.cell ly).trans e5
                         have hrd : Reads (w3.alloc (.cells #[.bool (decide (zz < 0)), .slice A3 (dig zz.natAbs).length c3, .int .i64 p.m.1, .int .i64 p.m.2.1, .int .i64 p.m.2.2.1, .int .i64 p.m.2.2.2] 47)) (w3.heap.size + 1) 6 (some ⟨w3.heap.size, 0, none⟩) 1 (mkP zz A3 c3 p.m).cells := Reads.six_new w3 (mkP zz A3 c3 p.m).cells rfl 47
                         have hone := cells_one [mkP zz A3 c3 p.m]
                         have roX : (w3.alloc (.cells #[.bool (decide (zz < 0)), .slice A3 (dig zz.natAbs).length c3, .int .i64 p.m.1, .int .i64 p.m.2.1, .int .i64 p.m.2.2.1, .int .i64 p.m.2.2.2] 47)).ownsRow V.heap.size 47 6 (.slice A1 a c1) a ((qs.take a).flatMap PT.cells) := own_old (w := y1.drew) HOWN.out (h5.alloc h5.size _)
                         have hbX : V.heap.size ≤ (w3.alloc (.cells #[.bool (decide (zz < 0)), .slice A3 (dig zz.natAbs).length c3, .int .i64 p.m.1, .int .i64 p.m.2.1, .int .i64 p.m.2.2.1, .int .i64 p.m.2.2.2] 47)).heap.size := Nat.le_trans hzy (h5.alloc h5.size _).size))
                    all_goals
                      have hvw : Below y1.drew.heap.size y1.drew (w3.alloc (.cells #[.bool (decide (zz < 0)), .slice A3 (dig zz.natAbs).length c3, .int .i64 p.m.1, .int .i64 p.m.2.1, .int .i64 p.m.2.2.1, .int .i64 p.m.2.2.2] 47)) := h5.alloc h5.size _
                      have hr2 := ((show PRow y1.drew V.heap.size (.slice A1 a c1) (qs.take a) from ⟨HR1.out.row, HR1.out.dg⟩).old hvw).snoc (p := mkP zz A3 c3 p.m) ⟨h4.keep fun _ _ kk => kk.alloc _, dig_dig _, h3⟩ (by rw [HLA.out]; exact hown5) hg5
                      have hbV5 := (hvd.trans (hvw.mono hzy)).grown hg5 hbX (fun k hk => (roX.lt k hk).1)
                      have hsu := HSUF.out _ hbV5
                      obtain ⟨A5, c5, rfl⟩ := own_slice6 hown5
                      have HR2 := Lib.hid hr2
                      have HBV5 := Lib.hid hbV5
                      have HOWN5 := Lib.hid hown5
                      have hsz5 : V.heap.size ≤ w5.heap.size := hbV5.size
                      clear hr2 hbV5 hvw hown5 hg5 hat5 roX hrd hone hbX h5 h3 h4 z2 z3 z4 z5 e0 e1 e2 e3 e4 e5 h63 hby hvd
                      have h63 : a + 1 + (m - a) ≤ maxLen := by unfold maxLen; omega
                      have hby : (a + 1 + (m - a)) * 64 ≤ 140737488355328 := by omega
                      go_wp2_with (at_builtin; refine wpList_append_any _ rfl (.tmp 105) (.tmp 108) 26 rfl V.heap.size 47 i0 _ 6 64 Tryz.underlying26 hi0 hz0 hz1 hz2 rfl (by decide) (.slice A5 (a + 1) c5) (a + 1) _ rfl HOWN5.out V.heap.size A2 (m - a) (cq - a) ((qs.drop a).flatMap PT.cells) rfl hsu (cells_one _) h63 hby hsz5 ?_; intro v6 y6 hown6 hg6 hat6; refine Hid.out ?_)
                      refine Lib.hid ?_
                      have hb6 := (HBV5.out).grown hg6 hsz5 (fun k hk => (HOWN5.out.lt k hk).1)
                      have hr3 : PRow y6 V.heap.size v6 (qs.take a ++ [mkP zz A3 c3 p.m] ++ qs.drop a) := HR2.out.app (qs := qs.drop a) (fun q hq => by
                        have := HCV.out.row.dg q (List.mem_of_mem_drop hq)
                        exact ⟨this.1.old (HBV5.out), this.2⟩) (by
                          rw [List.length_append, HLA.out, List.length_drop, HQL.out, List.flatMap_append]
                          simpa [PT.cells] using hown6) hg6
                      have HC := Lib.hid (HCR.out.ins HV.out HWF.out HAT.out HLM.out (hr3.mono HBW.out.size))
                      have HBF := Lib.hid (HBW.out.trans (hb6.mono HBW.out.size))
                      clear hr3 hb6 hown6 hg6 hat6
                      go_wp2_with fail
                      go_roundg (n - (k + 1))
                      case rel =>
                        refine ⟨k + 1, qs.take a ++ [mkP zz A3 c3 p.m] ++ qs.drop a, by omega, rfl, by go_num, ?_, HBF.out⟩
                        rw [HTK.out, show p.tm = (zz, p.m) by rw [← HZZ.out]; rfl]
                        exact HC.out
                      case measure => have := HG.out; omega
                  · have heq := fun W => Tryz.eq_mono q.m p.m HQW.out HWF.out W
                    rw [show decide (q.m = p.m) = true by simpa using heqm] at heq
                    unfold moV at heq
                    have HEQM := Lib.hid heqm
                    clear heqm HLE
                    go_wp2_with fail
                    go_quiet (fail)
                    have hbz2 := hbz.trans ((Drawn.drewN wz nq).below _)
                    have hbV0 := hbz0.trans (((Drawn.drewN wz nq).below _))
                    clear x2 x3 x4 x5 y2 y3 y4 y5 heq lg lb
                    generalize wz.drewN nq = V at *
                    have HCV := Lib.hid (HCR.out.old hbz2)
                    have HNP := Lib.hid (HNTP.out.below hbz2)
                    have hzV := hbz2.size
                    have x0 : V.cell? ⟨b, o + k * 6, none⟩ = some (.bool p.ng) := (hbz2.cell l1).trans D0.out
                    have x1 : V.cell? ⟨b, o + k * 6 + 1, none⟩ = some (.slice p.A p.ds.length p.c) := (hbz2.cell l1).trans D1.out
                    have lbV : b < V.heap.size := Nat.lt_of_lt_of_le l1 hzV
                    have lgV : g < V.heap.size := Nat.lt_of_lt_of_le hbb2 hbV0.size
                    have HBW := Lib.hid (hbl.trans (hbz2.mono hz))
                    obtain ⟨c0, c1, _⟩ := EE.out
                    have y0 : V.cell? ⟨g, a * 6, none⟩ = some (.bool q.ng) := (hbV0.cell hbb2).trans c0
                    have y1 : V.cell? ⟨g, a * 6 + 1, none⟩ = some (.slice q.A q.ds.length q.c) := (hbV0.cell hbb2).trans c1
                    have hrw := HCV.out.row.row
                    rw [HQL.out] at hrw
                    obtain ⟨cur, kr, hbg, hcap, _⟩ := own_blk hrw
                    have R0 := Lib.hid ((kr.cell (a * 6)).symm.trans y0)
                    have R1 := Lib.hid ((kr.cell (a * 6 + 1)).symm.trans y1)
                    have i2 : (m : Int) ≤ (cq : Int) := by omega
                    have HRA := Lib.hid (fun (W : World) (hW : Below V.heap.size V W) => RAdd_any q.ng p.ng q.A p.A q.c p.c V.heap.size q.ds p.ds W hW.size ((HCV.out.row.polyIn.nt q (List.mem_of_getElem? HQA.out)).below hW) ((HNP.out.more hzV).below hW) (by have := HCR.out.dl (HNT.out k) (List.mem_of_getElem? HQA.out); omega) (by omega))
                    unfold IntResK at HRA
                    have HUP := Lib.hid (fun (W : World) (A3 : Option Addr) (c3 : Nat) (v' : Value) (hr : PRow W w.heap.size v' (qs.set a (mkP (ival q.ng q.ds + ival p.ng p.ds) A3 c3 q.m))) => show CRow W w.heap.size v' (qs.set a (mkP (ival q.ng q.ds + ival p.ng p.ds) A3 c3 q.m)) ((ps.take (k + 1)).map PT.tm) from by
                      rw [HTK.out, show p.tm = (ival p.ng p.ds, q.m) by rw [HEQM.out]; rfl]
                      exact HCR.out.upd HQA.out hr)
                    generalize ival q.ng q.ds + ival p.ng p.ds = zz at *
                    have HCAP := Lib.hid hcap
                    clear hrw c0 c1 hcap hbz0 hbV0
                    have hvd : Below V.heap.size V V.drew := (Drawn.drew V).below _
                    go_wp2_with fail
                    go_region_with ((go_at_call 31; refine (HRA.out _ hvd).mono ?_; rintro e w3 ⟨A3, c3, rfl, h3, h4, h5⟩; have kk := Blk.old (w := V.drew) kr h5; have d0 := (kk.cell (a * 6)).trans R0.out; have d1 := (kk.cell (a * 6 + 1)).trans R1.out; have f0 := kk.frozen (a * 6); have f1 := kk.frozen (a * 6 + 1)))
                    all_goals
                      have hpr := (HCV.out.row.old (hvd.trans h5)).upd HQA.out zz A3 c3 h4 h3
                      have HUC := Lib.hid (HUP.out _ A3 c3 _ hpr)
                      have hbe : Below w.heap.size w w3 := HBW.out.trans ((hvd.trans h5).mono HBW.out.size)
                      have HBF := Lib.hid ((hbe.setCell (p := ⟨g, a * 6, none⟩) hbg (.bool (decide (zz < 0)))).setCell (p := ⟨g, a * 6 + 1, none⟩) hbg (.slice A3 (dig zz.natAbs).length c3))
                      clear hpr hbe
                      go_wp2_with fail
                      go_roundg (n - (k + 1))
                      case rel => exact ⟨k + 1, qs.set a (mkP zz A3 c3 q.m), by omega, rfl, by go_num, HUC.out, HBF.out⟩
                      case measure => have := HG.out; omega
              · have hle : a = m := by omega
                have j1 : ¬ (a : Int) < (m : Int) := by omega
                have j2 : decide (a < m) = false := by simp; omega
                have HLM := Lib.hid (show ∀ t, (qs.map PT.tm)[a]? = some t → ltM t.2 p.m from fun t ht => by
                  rw [List.getElem?_eq_none (by rw [List.length_map, HQL.out]; omega)] at ht
                  cases ht)
                clear hle
                go_wp2_with fail
                go_quiet (fail)
                have hbz := hbx.trans ((Drawn.drewN wr nq).below _)
                generalize wr.drewN nq = wz at *
                go_wp2_with fail
                go_quiet (fail)
                have hbz2 := hbz.trans ((Drawn.drewN wz nq).below _)
                generalize wz.drewN nq = V at *
                clear hbz hbx
                have HCV := Lib.hid (HCR.out.old hbz2)
                have HNP := Lib.hid (HNTP.out.below hbz2)
                have hzV := hbz2.size
                have x0 : V.cell? ⟨b, o + k * 6, none⟩ = some (.bool p.ng) := (hbz2.cell l1).trans D0.out
                have x1 : V.cell? ⟨b, o + k * 6 + 1, none⟩ = some (.slice p.A p.ds.length p.c) := (hbz2.cell l1).trans D1.out
                have x2 : V.cell? ⟨b, o + k * 6 + 2, none⟩ = some (.int .i64 p.m.1) := (hbz2.cell l1).trans D2.out
                have x3 : V.cell? ⟨b, o + k * 6 + 3, none⟩ = some (.int .i64 p.m.2.1) := (hbz2.cell l1).trans D3.out
                have x4 : V.cell? ⟨b, o + k * 6 + 4, none⟩ = some (.int .i64 p.m.2.2.1) := (hbz2.cell l1).trans D4.out
                have x5 : V.cell? ⟨b, o + k * 6 + 5, none⟩ = some (.int .i64 p.m.2.2.2) := (hbz2.cell l1).trans D5.out
                have lbV : b < V.heap.size := Nat.lt_of_lt_of_le l1 hzV
                have HBW := Lib.hid (hbl.trans (hbz2.mono hz))
                have hrw := HCR.out.row.row
                rw [HQL.out] at hrw
                have hcq := own_cap hrw
                have hcn : Aq = none → cq = 0 := fun h => by
                  rcases hrw.2 with ⟨hv, _⟩ | ⟨g9, c9, cur9, hv, _⟩
                  · injection hv
                  · injection hv with hv9
                    rw [h] at hv9
                    cases hv9
                clear hrw
                have hs1 := fun (W : World) => Tryz.slice_pre Aq m cq a (by omega) hcn W
                have hs2 := fun (W : World) => Tryz.slice_suf Aq m cq a (by omega) hcq hcn W
                have hpre := HCV.out.row.polyIn.pre (a := a) (by rw [HQL.out]; omega)
                have HSUF := Lib.hid (fun (W : World) (hW : Below V.heap.size V W) => (HCV.out.row.polyIn.below hW).suf (a := a) (by rw [HQL.out]; omega) (sufOf Aq cq a) (fun hh => by
                  rw [HQL.out] at hh
                  obtain ⟨g9, c9, hv9, _⟩ := HCV.out.row.row.form (by rw [HQL.out]; omega)
                  injection hv9 with hv9
                  rw [hv9]
                  unfold sufOf
                  rw [if_pos (by omega)]
                  exact ⟨g9, 0, rfl, by simp [Addr.add] <;> omega⟩))
                rw [HQL.out] at HSUF
                generalize (sufOf Aq cq a) = A2 at *
                have hown0 : V.ownsRow V.heap.size 47 6 (.slice none 0 0) 0 [] := ⟨rfl, .inl ⟨rfl, rfl⟩⟩
                have h63 : 0 + a ≤ maxLen := by unfold maxLen; omega
                have hby : (0 + a) * 64 ≤ 140737488355328 := by omega
                have HRA := Lib.hid (fun (W : World) (hW : Below V.heap.size V W) => RAdd_any p.ng false p.A none p.c 0 V.heap.size p.ds [] W hW.size ((HNP.out.more hzV).below hW) ⟨Reads.none_, by simp [Dig], Nat.le_refl _⟩ (by omega) (by simp))
                unfold IntResK at HRA
                rw [show ival p.ng p.ds + ival false [] = ival p.ng p.ds by simp [ival, val], show ([] : List Nat).length = 0 from rfl] at HRA
                have HZV := Lib.hid hzV
                have HBZ := Lib.hid hbz2
                have HHCQ := Lib.hid hcq
                clear hcn hcq
                go_wp2_with (at_builtin; refine wpList_append_any _ rfl (.tmp 84) (.tmp 87) 26 rfl V.heap.size 47 i0 _ 6 64 Tryz.underlying26 hi0 hz0 hz1 hz2 rfl (by decide) (.slice none 0 0) 0 [] rfl hown0 V.heap.size Aq a cq ((qs.take a).flatMap PT.cells) rfl hpre (cells_one _) h63 hby (Nat.le_refl _) ?_; intro v1 y1 hown1 hg1 hat1; refine Hid.out ?_)
                refine Lib.hid ?_
                have hla : (qs.take a).length = a := by rw [List.length_take, HQL.out, Nat.min_eq_left ham]
                have hr1 : PRow y1 V.heap.size v1 (qs.take a) := by
                  have := (PRow.nil V V.heap.size).app (qs := qs.take a) (fun q hq => HCV.out.row.dg q (List.mem_of_mem_take hq)) (by rw [hla]; exact hown1) hg1
                  rwa [List.nil_append] at this
                have hbA : Below V.heap.size V y1 := (Below.refl V.heap.size V).grown hg1 (Nat.le_refl _) (fun k hk => (hown0.lt k hk).1)
                rw [Nat.zero_add, List.nil_append] at hown1
                obtain ⟨A1, c1, rfl⟩ := own_slice6 hown1
                have HLA := Lib.hid hla
                have HR1 := Lib.hid hr1
                have HOWN := Lib.hid hown1
                have HBA := Lib.hid hbA
                have hvd : Below V.heap.size V y1.drew := hbA.trans ((Drawn.drew y1).below _)
                have e0 : y1.cell? ⟨b, o + k * 6, none⟩ = some (.bool p.ng) := (hbA.cell lbV).trans x0
                have e1 : y1.cell? ⟨b, o + k * 6 + 1, none⟩ = some (.slice p.A p.ds.length p.c) := (hbA.cell lbV).trans x1
                have e2 : y1.cell? ⟨b, o + k * 6 + 2, none⟩ = some (.int .i64 p.m.1) := (hbA.cell lbV).trans x2
                have e3 : y1.cell? ⟨b, o + k * 6 + 3, none⟩ = some (.int .i64 p.m.2.1) := (hbA.cell lbV).trans x3
                have e4 : y1.cell? ⟨b, o + k * 6 + 4, none⟩ = some (.int .i64 p.m.2.2.1) := (hbA.cell lbV).trans x4
                have e5 : y1.cell? ⟨b, o + k * 6 + 5, none⟩ = some (.int .i64 p.m.2.2.2) := (hbA.cell lbV).trans x5
                have ly : b < y1.heap.size := Nat.lt_of_lt_of_le lbV hbA.size
                have hzy : V.heap.size ≤ y1.heap.size := hbA.size
                clear hla hr1 hbA hown1 hg1 hat1 hown0 hpre hs1 x0 x1 x2 x3 x4 x5 hbz2 h63 hby hzV
                have h63 : a + 1 ≤ maxLen := by unfold maxLen; omega
                have hby : (a + 1) * 64 ≤ 140737488355328 := by omega
                generalize hzz : ival p.ng p.ds = zz at *
                have HZZ := Lib.hid hzz
                clear hzz
                go_wp2_with fail
                go_region_law (first
                  | (refine step_append_any _ rfl (.tmp 89) (.tmp 103) 26 (by rfl) V.heap.size 47 i0 _ 6 64 Tryz.underlying26 hi0 hz0 hz1 hz2 rfl (by decide) (.slice A1 a c1) a ((qs.take a).flatMap PT.cells) (by rfl) roX (w3.heap.size + 1) (some ⟨w3.heap.size, 0, none⟩) 1 1 (mkP zz A3 c3 p.m).cells (by rfl) hrd hone h63 hby hbX ?_
                     intro v5 w5 hown5 hg5 hat5)
                  | (go_simp
                     go_at_call 31
                     refine (HRA.out _ hvd).mono ?_
                     rintro e w3 ⟨A3, c3, rfl, h3, h4, h5⟩
                     have z2 := (h5.cell ly).trans e2
                     have z3 := (h5.cell ly).trans e3
                     have z4 := (h5.cell ly).trans e4
                     have z5 := (h5.cell ly).trans e5
                     have hrd : Reads (w3.alloc (.cells #[.bool (decide (zz < 0)), .slice A3 (dig zz.natAbs).length c3, .int .i64 p.m.1, .int .i64 p.m.2.1, .int .i64 p.m.2.2.1, .int .i64 p.m.2.2.2] 47)) (w3.heap.size + 1) 6 (some ⟨w3.heap.size, 0, none⟩) 1 (mkP zz A3 c3 p.m).cells := Reads.six_new w3 (mkP zz A3 c3 p.m).cells rfl 47
                     have hone := cells_one [mkP zz A3 c3 p.m]
                     have roX : (w3.alloc (.cells #[.bool (decide (zz < 0)), .slice A3 (dig zz.natAbs).length c3, .int .i64 p.m.1, .int .i64 p.m.2.1, .int .i64 p.m.2.2.1, .int .i64 p.m.2.2.2] 47)).ownsRow V.heap.size 47 6 (.slice A1 a c1) a ((qs.take a).flatMap PT.cells) := own_old (w := y1.drew) HOWN.out (h5.alloc h5.size _)
                     have hbX : V.heap.size ≤ (w3.alloc (.cells #[.bool (decide (zz < 0)), .slice A3 (dig zz.natAbs).length c3, .int .i64 p.m.1, .int .i64 p.m.2.1, .int .i64 p.m.2.2.1, .int .i64 p.m.2.2.2] 47)).heap.size := Nat.le_trans hzy (h5.alloc h5.size _).size))
                all_goals
                  have hvw : Below y1.drew.heap.size y1.drew (w3.alloc (.cells #[.bool (decide (zz < 0)), .slice A3 (dig zz.natAbs).length c3, .int .i64 p.m.1, .int .i64 p.m.2.1, .int .i64 p.m.2.2.1, .int .i64 p.m.2.2.2] 47)) := h5.alloc h5.size _
                  have hr2 := ((show PRow y1.drew V.heap.size (.slice A1 a c1) (qs.take a) from ⟨HR1.out.row, HR1.out.dg⟩).old hvw).snoc (p := mkP zz A3 c3 p.m) ⟨h4.keep fun _ _ kk => kk.alloc _, dig_dig _, h3⟩ (by rw [HLA.out]; exact hown5) hg5
                  have hbV5 := (hvd.trans (hvw.mono hzy)).grown hg5 hbX (fun k hk => (roX.lt k hk).1)
                  have hsu := HSUF.out _ hbV5
                  obtain ⟨A5, c5, rfl⟩ := own_slice6 hown5
                  have HR2 := Lib.hid hr2
                  have HBV5 := Lib.hid hbV5
                  have HOWN5 := Lib.hid hown5
                  have hsz5 : V.heap.size ≤ w5.heap.size := hbV5.size
                  clear hr2 hbV5 hvw hown5 hg5 hat5 roX hrd hone hbX h5 h3 h4 z2 z3 z4 z5 e0 e1 e2 e3 e4 e5 h63 hby hvd
                  have h63 : a + 1 + (m - a) ≤ maxLen := by unfold maxLen; omega
                  have hby : (a + 1 + (m - a)) * 64 ≤ 140737488355328 := by omega
                  go_wp2_with (at_builtin; refine wpList_append_any _ rfl (.tmp 105) (.tmp 108) 26 rfl V.heap.size 47 i0 _ 6 64 Tryz.underlying26 hi0 hz0 hz1 hz2 rfl (by decide) (.slice A5 (a + 1) c5) (a + 1) _ rfl HOWN5.out V.heap.size A2 (m - a) (cq - a) ((qs.drop a).flatMap PT.cells) rfl hsu (cells_one _) h63 hby hsz5 ?_; intro v6 y6 hown6 hg6 hat6; refine Hid.out ?_)
                  refine Lib.hid ?_
                  have hb6 := (HBV5.out).grown hg6 hsz5 (fun k hk => (HOWN5.out.lt k hk).1)
                  have hr3 : PRow y6 V.heap.size v6 (qs.take a ++ [mkP zz A3 c3 p.m] ++ qs.drop a) := HR2.out.app (qs := qs.drop a) (fun q hq => by
                    have := HCV.out.row.dg q (List.mem_of_mem_drop hq)
                    exact ⟨this.1.old (HBV5.out), this.2⟩) (by
                      rw [List.length_append, HLA.out, List.length_drop, HQL.out, List.flatMap_append]
                      simpa [PT.cells] using hown6) hg6
                  have HC := Lib.hid (HCR.out.ins HV.out HWF.out HAT.out HLM.out (hr3.mono HBW.out.size))
                  have HBF := Lib.hid (HBW.out.trans (hb6.mono HBW.out.size))
                  clear hr3 hb6 hown6 hg6 hat6
                  go_wp2_with fail
                  go_roundg (n - (k + 1))
                  case rel =>
                    refine ⟨k + 1, qs.take a ++ [mkP zz A3 c3 p.m] ++ qs.drop a, by omega, rfl, by go_num, ?_, HBF.out⟩
                    rw [HTK.out, show p.tm = (zz, p.m) by rw [← HZZ.out]; rfl]
                    exact HC.out
                  case measure => have := HG.out; omega
    · obtain rfl : k = n := by omega
      have HTA := Lib.hid (show ps.take k = ps from List.take_of_length_le (by rw [HN.out]; exact Nat.le_refl _))
      rw [HTA.out] at HCR
      have HFI := Lib.hid (crow_fin HCR.out (by have := HNT.out k; rwa [HTA.out] at this))
      rw [List.length_map, HN.out] at HFI
      obtain ⟨Aq, cq, rfl⟩ := own_slice6 HCR.out.row.row
      have hm1 : qs.length ≤ 10000 := by
        have h1 := HCR.out.len
        rw [List.length_map, HN.out] at h1
        omega
      generalize hql : qs.length = m at *
      have HQL := Lib.hid hql
      clear hql
      go_wp2_with fail
      go_loopg [9, 10, 113] m (fun gn rv _ ix wx => ∃ (i : Nat) (rs : List PT), i ≤ m ∧ gn = m - i ∧ ix = .int .i64 i ∧ PRow wx wr.heap.size rv rs ∧ rs = (qs.take i).filter nzP ∧ Below wr.heap.size wr wx)
      case atStart => exact ⟨0, [], by omega, rfl, rfl, PRow.nil _ _, rfl, Below.refl _ _⟩
      case round =>
        obtain ⟨i, rs, hi, hgi, rfl, hrow, hrs, hbx⟩ := hrel
        have HGI := Lib.hid hgi; have HRS := Lib.hid hrs
        have hrl : rs.length ≤ 10000 := by
          rw [hrs]
          refine Nat.le_trans (List.length_filter_le _ _) ?_
          rw [List.length_take]
          omega
        clear hgi hrs
        have hzx := hbx.size
        by_cases hlti : i < m
        · obtain ⟨q, hq⟩ : ∃ q, qs[i]? = some q := ⟨_, List.getElem?_eq_getElem (by have := HQL.out; omega)⟩
          have hqm := List.mem_of_getElem? hq
          have hpi := (HCR.out.row.old hbx).polyIn
          obtain ⟨g, o2, rfl, hbb2, e0, e1, e2, e3, e4, e5⟩ := hpi.at_ hq
          have HDG := Lib.hid (HCR.out.row.dg q hqm)
          have HNZ := Lib.hid (nz_take hq)
          have j1 : (i : Int) < (m : Int) := by omega
          have j0 : (0 : Int) ≤ (i : Int) := by omega
          clear hq hqm hpi
          obtain ⟨Ar, cr, rfl⟩ := own_slice6 hrow.row
          by_cases hdp : 0 < q.ds.length
          · have HNZ2 := Lib.hid (show (qs.take (i + 1)).filter nzP = rs ++ [q] by rw [HNZ.out, if_pos hdp, HRS.out])
            have hrow2 := hrow.old ((Below.refl _ _).alloc (Nat.le_refl _) (.cells #[.bool q.ng, .slice q.A q.ds.length q.c, .int .i64 q.m.1, .int .i64 q.m.2.1, .int .i64 q.m.2.2.1, .int .i64 q.m.2.2.2] 47))
            have hrd := Reads.six_new wr [.bool q.ng, .slice q.A q.ds.length q.c, .int .i64 q.m.1, .int .i64 q.m.2.1, .int .i64 q.m.2.2.1, .int .i64 q.m.2.2.2] rfl 47
            have hone := cells_one [q]
            have h63 : rs.length + 1 ≤ maxLen := by unfold maxLen; omega
            have hby : (rs.length + 1) * 64 ≤ 140737488355328 := by omega
            have hbX := (hbx.alloc hzx (.cells #[.bool q.ng, .slice q.A q.ds.length q.c, .int .i64 q.m.1, .int .i64 q.m.2.1, .int .i64 q.m.2.2.1, .int .i64 q.m.2.2.2] 47)).size
            go_wp2_with (at_builtin; refine wpList_append_any _ rfl (.tmp 124) (.tmp 129) 26 rfl _ 47 i0 _ 6 64 Tryz.underlying26 hi0 hz0 hz1 hz2 rfl (by decide) (.slice Ar rs.length cr) rs.length _ rfl hrow2.row (wr.heap.size + 1) (some ⟨wr.heap.size, 0, none⟩) 1 1 ([.bool q.ng, .slice q.A q.ds.length q.c, .int .i64 q.m.1, .int .i64 q.m.2.1, .int .i64 q.m.2.2.1, .int .i64 q.m.2.2.2] : List Value) (by first | rfl | simp | (simp; rfl)) hrd (by simpa [PT.cells] using hone) h63 hby hbX ?_; intro v5 w5 hown5 hg5 hat5; refine Hid.out ?_)
            refine Lib.hid ?_
            have hpr := hrow2.snoc (p := q) ⟨(HDG.out.1.old hbx).keep fun _ _ kk => kk.alloc _, HDG.out.2⟩ (by simpa [PT.cells] using hown5) hg5
            have HPR := Lib.hid hpr
            have HBL := Lib.hid ((hbx.alloc hzx _).grown hg5 hbX (fun k hk => (hrow2.row.lt k hk).1))
            clear hpr hown5 hg5 hat5 hrow2 hrd hone hbX hrow hbx
            go_wp2_with fail
            go_roundg (m - (i + 1))
            case rel => exact ⟨i + 1, rs ++ [q], by omega, rfl, by go_num, HPR.out, HNZ2.out.symm, HBL.out⟩
            case measure => have := HGI.out; omega
          · have HNZ2 := Lib.hid (show (qs.take (i + 1)).filter nzP = rs by rw [HNZ.out, if_neg hdp, List.append_nil, HRS.out])
            have HROW := Lib.hid hrow
            have hd0 : q.ds.length = 0 := by omega
            go_wp2_with fail
            go_roundg (m - (i + 1))
            case rel => exact ⟨i + 1, rs, by omega, rfl, by go_num, HROW.out, HNZ2.out.symm, hbx⟩
            case measure => have := HGI.out; omega
        · obtain rfl : i = m := by omega
          have HRE := Lib.hid (show rs = qs.filter nzP by rw [HRS.out, List.take_of_length_le (by rw [HQL.out]; exact Nat.le_refl _)])
          obtain ⟨Ar, cr, rfl⟩ := own_slice6 hrow.row
          have HROW := Lib.hid (hrow.mono hbl.size)
          have HBF := Lib.hid (hbl.trans (hbx.mono hbl.size))
          clear hrow hbx
          go_wp2_with fail
          go_ret
          refine ⟨⟨Ar, cr, rs, rfl, HROW.out, ?_, ?_, ?_, ?_⟩, HBF.out⟩
          · rw [HRE.out]; exact HFI.out.1
          · rw [HRE.out]; exact HFI.out.2.1
          · rw [HRE.out]; exact HFI.out.2.2.1
          · rw [HRE.out]; exact HFI.out.2.2.2
end Go.Proofs.YtnghlhcekghciaaGreatDoor
