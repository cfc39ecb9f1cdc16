/- The reference's Same: two canonical polynomials are compared. -/
import Derived.Lib.QuietBelow
import Derived.Test.YtnghlhcekghciaaGreatDoorXO
namespace Go.Proofs.YtnghlhcekghciaaGreatDoor
open Go.RowKit Go.Sort

/-- canonical terms are equal exactly if their cells are -/
theorem cn_eq {p q : PT} (hp : Cn p) (hq : Cn q) : p.tm = q.tm ↔ p.m = q.m ∧ p.ng = q.ng ∧ p.tm.1.natAbs = q.tm.1.natAbs := by
  obtain ⟨z, hz⟩ := hp
  obtain ⟨y, hy⟩ := hq
  have e1 : p.tm = (z, p.m) := by rw [hz]; exact mkP_tm _ _ _ _
  have e2 : q.tm = (y, q.m) := by rw [hy]; exact mkP_tm _ _ _ _
  have n1 : p.ng = decide (z < 0) := by rw [hz]; rfl
  have n2 : q.ng = decide (y < 0) := by rw [hy]; rfl
  rw [e1, e2, n1, n2, Prod.mk.injEq]
  constructor
  · rintro ⟨rfl, e⟩
    exact ⟨e, rfl, rfl⟩
  · rintro ⟨e, h1, h2⟩
    refine ⟨?_, e⟩
    have h3 : z < 0 ↔ y < 0 := by
      rw [Bool.eq_iff_iff] at h1
      simpa using h1
    simp only at h2
    omega
theorem take_eq_step {l l' : List Tm} {i : Nat} {t s : Tm} (h : l[i]? = some t) (h' : l'[i]? = some s) (he : l.take i = l'.take i) : l.take (i + 1) = l'.take (i + 1) ↔ t = s := by
  have hi := (List.getElem?_eq_some_iff.1 h)
  have hi' := (List.getElem?_eq_some_iff.1 h')
  obtain ⟨h1, h2⟩ := hi
  obtain ⟨h3, h4⟩ := hi'
  rw [List.take_succ_eq_append_getElem h1, List.take_succ_eq_append_getElem h3, h2, h4, he]
  simp
theorem take_ne {l l' : List Tm} {k : Nat} (h : l.take k ≠ l'.take k) : l ≠ l' := fun e => h (by rw [e])

theorem below_drew {B : Nat} {w w' : World} (h : Below B w w') : Below B w w'.drew := h.trans ((Drawn.drew _).below _)
theorem below_new {w w' : World} (h : Below w.heap.size w w') (o : Obj) : Below w.heap.size w (w'.alloc o) := h.alloc h.size o
/-- the two numbers lie in boxes of their own -/
def TwoB (W : World) (x y : List Value) (u v : Value) (wc : World) : Prop :=
  ∃ g1 g2, u = .pointer (some ⟨g1, 0, none⟩) ∧ v = .pointer (some ⟨g2, 0, none⟩) ∧ Blk wc g1 43 x.toArray ∧ Blk wc g2 43 y.toArray ∧ Below W.heap.size W wc

theorem TwoB.a (W : World) (x y : List Value) : TwoB W x y (.pointer (some ⟨W.heap.size, 0, none⟩)) (.pointer (some ⟨W.heap.size + 1, 0, none⟩)) ((W.alloc (.cells x.toArray 43)).alloc (.cells y.toArray 43)).drew :=
  ⟨_, _, rfl, rfl, ((Blk.new W _ _).alloc _).drawn (Drawn.drew _), by have := Blk.new (W.alloc (.cells x.toArray 43)) 43 y.toArray; simpa using this.drawn (Drawn.drew _), below_drew (below_new (below_new (Below.refl _ _) _) _)⟩
theorem TwoB.b (W : World) (x y : List Value) : TwoB W x y (.pointer (some ⟨W.heap.size + 1, 0, none⟩)) (.pointer (some ⟨W.heap.size, 0, none⟩)) ((W.alloc (.cells y.toArray 43)).alloc (.cells x.toArray 43)).drew :=
  ⟨_, _, rfl, rfl, by have := Blk.new (W.alloc (.cells y.toArray 43)) 43 x.toArray; simpa using this.drawn (Drawn.drew _), ((Blk.new W _ _).alloc _).drawn (Drawn.drew _), below_drew (below_new (below_new (Below.refl _ _) _) _)⟩

set_option maxHeartbeats 4000000 in
set_option maxRecDepth 100000 in
theorem RSame_any (A A' : Option Addr) (c c' B : Nat) (ps qs : List PT) (w : World) (hB : B ≤ w.heap.size) (h : PolyIn w B A ps) (h' : PolyIn w B A' qs) (cp : ∀ p ∈ ps, Cn p) (cq : ∀ q ∈ qs, Cn q) (wp : ∀ p ∈ ps, WfM p.m) (wq : ∀ q ∈ qs, WfM q.m) (dl : ∀ p ∈ ps, p.ds.length ≤ 1000) (dl' : ∀ q ∈ qs, q.ds.length ≤ 1000) (hm : ps.length ≤ 1000000) :
    Calls Tryz.prog 10 #[.slice A ps.length c, .slice A' qs.length c'] w fun e w' => e = .returned (.bool (decide (ps.map PT.tm = qs.map PT.tm))) ∧ Below w.heap.size w w' := by
  have H := Lib.hid h; have H' := Lib.hid h'; have CP := Lib.hid cp; have CQ := Lib.hid cq; have WP := Lib.hid wp; have WQ := Lib.hid wq; have DL := Lib.hid dl; have DL' := Lib.hid dl'
  clear h h' cp cq wp wq dl dl'
  by_cases hne : ps.length = qs.length
  · have HD := Lib.hid (show ∀ k, ps.length ≤ k → ((ps.map PT.tm).take k = (qs.map PT.tm).take k → ps.map PT.tm = qs.map PT.tm) from fun k hk e => by
      rwa [List.take_of_length_le (by rw [List.length_map]; exact hk), List.take_of_length_le (by rw [List.length_map, ← hne]; exact hk)] at e)
    generalize hnp : ps.length = n at *
    have HN := Lib.hid hnp
    have HN' := Lib.hid hne
    rw [← hne]
    clear hnp hne
    go_enter Tryz.func10, Tryz.ntmps10
    go_wp2_with fail
    go_loopg [5, 6, 7, 15] n (fun gn _ _ _ ix wr => ∃ k : Nat, k ≤ n ∧ gn = n - k ∧ ix = .int .i64 k ∧ (ps.map PT.tm).take k = (qs.map PT.tm).take k ∧ Below w.heap.size w wr)
    case atStart => exact ⟨0, by omega, rfl, rfl, rfl, Below.refl _ _⟩
    case round =>
      obtain ⟨k, hk, hgk, rfl, htk, hbl⟩ := hrel
      have HG := Lib.hid hgk; have HTK := Lib.hid htk
      clear hgk htk
      have hz := hbl.size
      by_cases hlt : k < n
      · obtain ⟨p, hp⟩ : ∃ p, ps[k]? = some p := ⟨_, List.getElem?_eq_getElem (by have := HN.out; omega)⟩
        obtain ⟨q, hq⟩ : ∃ q, qs[k]? = some q := ⟨_, List.getElem?_eq_getElem (by have := HN'.out; omega)⟩
        have hpm := List.mem_of_getElem? hp
        have hqm := List.mem_of_getElem? hq
        have hin := H.out.below (hbl.mono hB)
        have hin' := H'.out.below (hbl.mono hB)
        obtain ⟨b, o, rfl, hbb, d0, d1, d2, d3, d4, d5⟩ := hin.at_ hp
        obtain ⟨b', o', rfl, hbb', f0, f1, f2, f3, f4, f5⟩ := hin'.at_ hq
        have hnt := hin.nt p hpm
        have hnt' := hin'.nt q hqm
        have hpd := (CP.out p hpm).ds
        have hqd := (CQ.out q hqm).ds
        have hdl := DL.out p hpm
        have hdl' := DL'.out q hqm
        have HST := Lib.hid (take_eq_step (show (ps.map PT.tm)[k]? = some p.tm by rw [List.getElem?_map, hp]; rfl) (show (qs.map PT.tm)[k]? = some q.tm by rw [List.getElem?_map, hq]; rfl) HTK.out)
        have HCE := Lib.hid (cn_eq (CP.out p hpm) (CQ.out q hqm))
        have HWP := Lib.hid (WP.out p hpm); have HWQ := Lib.hid (WQ.out q hqm)
        generalize p.tm.1.natAbs = x at *
        generalize q.tm.1.natAbs = y at *
        rw [hpd] at d1 hnt hdl
        rw [hqd] at f1 hnt' hdl'
        have HNT := Lib.hid hnt; have HNT' := Lib.hid hnt'
        have i1 : (k : Int) < (n : Int) := by omega
        have i0 : (0 : Int) ≤ (k : Int) := by omega
        have l1 : b < wr.heap.size := by omega
        have l1' : b' < wr.heap.size := by omega
        clear hp hq hpm hqm hin hin' hnt hnt' hpd hqd
        go_wp2_with fail
        have e0 := d0; have e1 := d1
        have hWd : Below wr.heap.size wr wr.drew := (Drawn.drew _).below _
        have KF := Lib.hid (fun (V : World) (hV : Below wr.heap.size wr V) => show Below wr.heap.size wr V ∧ V.cell? ⟨b, o + k * 6, none⟩ = some (.bool p.ng) ∧ V.cell? ⟨b, o + k * 6 + 1, none⟩ = some (.slice p.A (dig x).length p.c) ∧ V.cell? ⟨b', o' + k * 6, none⟩ = some (.bool q.ng) ∧ V.cell? ⟨b', o' + k * 6 + 1, none⟩ = some (.slice q.A (dig y).length q.c) from ⟨hV, (hV.cell l1).trans d0, (hV.cell l1).trans d1, (hV.cell l1').trans f0, (hV.cell l1').trans f1⟩)
        clear e0 e1
        go_cut [6, 7] (fun u v wc => TwoB wr [.bool p.ng, .slice p.A (dig x).length p.c] [.bool q.ng, .slice q.A (dig y).length q.c] u v wc)
        case first =>
          go_region_held3 (fun w' => Below wr.heap.size wr w' ∧ w'.cell? ⟨b, o + k * 6, none⟩ = some (.bool p.ng) ∧ w'.cell? ⟨b, o + k * 6 + 1, none⟩ = some (.slice p.A (dig x).length p.c) ∧ w'.cell? ⟨b', o' + k * 6, none⟩ = some (.bool q.ng) ∧ w'.cell? ⟨b', o' + k * 6 + 1, none⟩ = some (.slice q.A (dig y).length q.c))
            ((refine KF.out _ ?_; repeat (first | (with_reducible exact hWd) | (with_reducible exact Below.refl _ _) | (with_reducible refine below_drew ?_) | (with_reducible refine below_new ?_ _) | ((with_reducible refine Below.setCell ?_ ?_ _); rotate_left; (first | exact Nat.le_refl _ | (solve | simp | (simp; omega)))))))
            (fail)
          all_goals go_wp2_with fail
          all_goals go_meet
          all_goals first | exact TwoB.a _ _ _ | exact TwoB.b _ _ _
        case rest =>
          obtain ⟨g1, g2, rfl, rfl, kb1, kb2, hbc⟩ := hcut
          clear KF hWd d0 d1 f0 f1
          replace d2 := (hbc.cell l1).trans d2; replace d3 := (hbc.cell l1).trans d3; replace d4 := (hbc.cell l1).trans d4; replace d5 := (hbc.cell l1).trans d5
          replace f2 := (hbc.cell l1').trans f2; replace f3 := (hbc.cell l1').trans f3; replace f4 := (hbc.cell l1').trans f4; replace f5 := (hbc.cell l1').trans f5
          have hnt := HNT.out.below (hbc.mono (Nat.le_trans hB hz))
          have hnt' := HNT'.out.below (hbc.mono (Nat.le_trans hB hz))
          have a0 : wc.cell? ⟨g1, 0, none⟩ = some (.bool p.ng) := kb1.cell 0
          have a1 : wc.cell? ⟨g1, 1, none⟩ = some (.slice p.A (dig x).length p.c) := kb1.cell 1
          have b0 : wc.cell? ⟨g2, 0, none⟩ = some (.bool q.ng) := kb2.cell 0
          have b1 : wc.cell? ⟨g2, 1, none⟩ = some (.slice q.A (dig y).length q.c) := kb2.cell 1
          have l3 : b < wc.heap.size := Nat.lt_of_lt_of_le l1 hbc.size
          have l3' : b' < wc.heap.size := Nat.lt_of_lt_of_le l1' hbc.size
          have l4 := kb1.lt; have l4' := kb2.lt
          have HBW := Lib.hid (hbl.trans (hbc.mono hz))
          have HSZ := Lib.hid hbc.size
          have HRES := Lib.hid (fun (hne : ¬ p.tm = q.tm) => show decide (ps.map PT.tm = qs.map PT.tm) = false by
            simp only [decide_eq_false_iff_not]
            intro e
            exact hne (HST.out.1 (by rw [e])))
          have HC1 := Lib.hid (fun (d : Nat) (os : Array Obj) => Calls.regrown_of (d := d) (os := os) ((RLess_any p.A q.A p.c q.c B x y (grow (redrawn wc d) os) (hnt.below ((below_regrown wc d os).mono (Nat.le_trans hB (Nat.le_trans hz hbc.size)))) (hnt'.below ((below_regrown wc d os).mono (Nat.le_trans hB (Nat.le_trans hz hbc.size)))) (by omega)).mono fun e w' ⟨he, hl⟩ => ⟨he, hl.below _⟩))
          have HC2 := Lib.hid (fun (d : Nat) (os : Array Obj) => Calls.regrown_of (d := d) (os := os) ((RLess_any q.A p.A q.c p.c B y x (grow (redrawn wc d) os) (hnt'.below ((below_regrown wc d os).mono (Nat.le_trans hB (Nat.le_trans hz hbc.size)))) (hnt.below ((below_regrown wc d os).mono (Nat.le_trans hB (Nat.le_trans hz hbc.size)))) (by omega)).mono fun e w' ⟨he, hl⟩ => ⟨he, hl.below _⟩))
          clear hnt hnt' kb1 kb2 hbl hbc
          replace d2 := cell_regrown d2; replace d3 := cell_regrown d3; replace d4 := cell_regrown d4; replace d5 := cell_regrown d5
          replace f2 := cell_regrown f2; replace f3 := cell_regrown f3; replace f4 := cell_regrown f4; replace f5 := cell_regrown f5
          replace a0 := cell_regrown a0; replace a1 := cell_regrown a1; replace b0 := cell_regrown b0; replace b1 := cell_regrown b1
          have heq := fun W => Tryz.eq_mono p.m q.m HWP.out HWQ.out W
          unfold moV at heq
          by_cases hmm : p.m = q.m
          · rw [show decide (p.m = q.m) = true by simpa using hmm] at heq
            have HMM := Lib.hid hmm
            clear hmm
            by_cases hng : p.ng = q.ng
            · have HNG := Lib.hid hng
              have f6 : (p.ng == q.ng) = true := by simpa using hng
              clear hng
              by_cases hll : (dig x).length = (dig y).length
              · have f7 : (((dig x).length : Int) != ((dig y).length : Int)) = false := by simp; omega
                clear hll
                by_cases hxy : x < y
                · have HNE := Lib.hid (HRES.out (fun e => by have := (HCE.out.1 e).2.2; omega))
                  rw [show decide (x < y) = true by simpa using hxy] at HC1
                  clear hxy
                  go_wp2_with fail
                  refine wp_region_quiet_below mixedP (by kernel_rfl) ?_
                  repeat (go_big_quiet_step (fail))
                  refine wpQuiet_step (fun K hK => ?_)
                  go_simp
                  apply Exists.intro
                  refine ⟨fun _ => HC1.out _ _, hK _ ?_⟩
                  clear hK K
                  repeat (go_big_quiet_step (fail))
                  refine wpQuiet_nil ?_
                  rintro _ ⟨⟨dq, osq⟩, rfl⟩
                  have hbz := HBW.out.trans ((below_regrown wc dq osq).mono (Nat.le_trans hz HSZ.out))
                  clear d2 d3 d4 d5 f2 f3 f4 f5 a0 a1 b0 b1 heq
                  generalize grow (redrawn wc dq) osq = wz at *
                  go_wp2_with fail
                  go_ret
                  exact ⟨by rw [HNE.out]; rfl, hbz⟩
                · rw [show decide (x < y) = false by simpa using hxy] at HC1
                  by_cases hyx : y < x
                  · have HNE := Lib.hid (HRES.out (fun e => by have := (HCE.out.1 e).2.2; omega))
                    rw [show decide (y < x) = true by simpa using hyx] at HC2
                    clear hxy hyx
                    go_wp2_with fail
                    refine wp_region_quiet_below mixedP (by kernel_rfl) ?_
                    repeat (go_big_quiet_step (fail))
                    refine wpQuiet_step (fun K hK => ?_)
                    go_simp
                    apply Exists.intro
                    refine ⟨fun _ => HC1.out _ _, hK _ ?_⟩
                    clear hK K
                    repeat (go_big_quiet_step (fail))
                    refine wpQuiet_step (fun K hK => ?_)
                    go_simp
                    apply Exists.intro
                    refine ⟨fun _ => HC2.out _ _, hK _ ?_⟩
                    clear hK K
                    repeat (go_big_quiet_step (fail))
                    refine wpQuiet_nil ?_
                    rintro _ ⟨⟨dq, osq⟩, rfl⟩
                    have hbz := HBW.out.trans ((below_regrown wc dq osq).mono (Nat.le_trans hz HSZ.out))
                    clear d2 d3 d4 d5 f2 f3 f4 f5 a0 a1 b0 b1 heq
                    generalize grow (redrawn wc dq) osq = wz at *
                    go_wp2_with fail
                    go_ret
                    exact ⟨by rw [HNE.out]; rfl, hbz⟩
                  · rw [show decide (y < x) = false by simpa using hyx] at HC2
                    have HEQ := Lib.hid (HST.out.2 (HCE.out.2 ⟨HMM.out, HNG.out, by omega⟩))
                    clear hxy hyx
                    go_wp2_with fail
                    refine wp_region_quiet_below mixedP (by kernel_rfl) ?_
                    repeat (go_big_quiet_step (fail))
                    refine wpQuiet_step (fun K hK => ?_)
                    go_simp
                    apply Exists.intro
                    refine ⟨fun _ => HC1.out _ _, hK _ ?_⟩
                    clear hK K
                    repeat (go_big_quiet_step (fail))
                    refine wpQuiet_step (fun K hK => ?_)
                    go_simp
                    apply Exists.intro
                    refine ⟨fun _ => HC2.out _ _, hK _ ?_⟩
                    clear hK K
                    repeat (go_big_quiet_step (fail))
                    refine wpQuiet_nil ?_
                    rintro _ ⟨⟨dq, osq⟩, rfl⟩
                    have hbz := HBW.out.trans ((below_regrown wc dq osq).mono (Nat.le_trans hz HSZ.out))
                    clear d2 d3 d4 d5 f2 f3 f4 f5 a0 a1 b0 b1 heq
                    generalize grow (redrawn wc dq) osq = wz at *
                    go_wp2_with fail
                    go_roundg (n - (k + 1))
                    case rel => exact ⟨k + 1, by omega, rfl, by go_num, HEQ.out, hbz⟩
                    case measure => have := HG.out; omega
              · have HNE := Lib.hid (HRES.out (fun e => hll (by rw [(HCE.out.1 e).2.2])))
                have f7 : (((dig x).length : Int) != ((dig y).length : Int)) = true := by simp; omega
                clear hll
                go_wp2_with fail
                refine wp_region_quiet_below mixedP (by kernel_rfl) ?_
                repeat (go_big_quiet_step (fail))
                refine wpQuiet_nil ?_
                rintro _ ⟨⟨dq, osq⟩, rfl⟩
                have hbz := HBW.out.trans ((below_regrown wc dq osq).mono (Nat.le_trans hz HSZ.out))
                clear d2 d3 d4 d5 f2 f3 f4 f5 a0 a1 b0 b1 heq
                generalize grow (redrawn wc dq) osq = wz at *
                go_wp2_with fail
                go_ret
                exact ⟨by rw [HNE.out]; rfl, hbz⟩
            · have HNE := Lib.hid (HRES.out (fun e => hng (HCE.out.1 e).2.1))
              have f6 : (p.ng == q.ng) = false := by simpa using hng
              clear hng
              go_wp2_with fail
              refine wp_region_quiet_below mixedP (by kernel_rfl) ?_
              repeat (go_big_quiet_step (fail))
              refine wpQuiet_nil ?_
              rintro _ ⟨⟨dq, osq⟩, rfl⟩
              have hbz := HBW.out.trans ((below_regrown wc dq osq).mono (Nat.le_trans hz HSZ.out))
              clear d2 d3 d4 d5 f2 f3 f4 f5 a0 a1 b0 b1 heq
              generalize grow (redrawn wc dq) osq = wz at *
              go_wp2_with fail
              go_ret
              exact ⟨by rw [HNE.out]; rfl, hbz⟩
          · have HNE := Lib.hid (HRES.out (fun e => hmm (HCE.out.1 e).1))
            rw [show decide (p.m = q.m) = false by simpa using hmm] at heq
            clear hmm
            go_wp2_with fail
            refine wp_region_quiet_below mixedP (by kernel_rfl) ?_
            repeat (go_big_quiet_step (fail))
            refine wpQuiet_nil ?_
            rintro _ ⟨⟨dq, osq⟩, rfl⟩
            have hbz := HBW.out.trans ((below_regrown wc dq osq).mono (Nat.le_trans hz HSZ.out))
            clear d2 d3 d4 d5 f2 f3 f4 f5 a0 a1 b0 b1 heq
            generalize grow (redrawn wc dq) osq = wz at *
            go_wp2_with fail
            go_ret
            exact ⟨by rw [HNE.out]; rfl, hbz⟩
      · obtain rfl : k = n := by omega
        have HE := Lib.hid (show decide (ps.map PT.tm = qs.map PT.tm) = true by simpa using HD.out k (by have := HN.out; omega) HTK.out)
        go_wp2_with fail
        go_ret
        exact ⟨by rw [HE.out]; rfl, hbl⟩
  · have HE := Lib.hid (show decide (ps.map PT.tm = qs.map PT.tm) = false by
      simp only [decide_eq_false_iff_not]
      intro e
      have := congrArg List.length e
      rw [List.length_map, List.length_map] at this
      exact hne this)
    have e1 : ((ps.length : Int) != (qs.length : Int)) = true := by simp; omega
    go_enter Tryz.func10, Tryz.ntmps10
    go_wp2_with fail
    go_ret
    exact ⟨by rw [HE.out]; rfl, Below.refl _ _⟩
end Go.Proofs.YtnghlhcekghciaaGreatDoor
