/- PolytextOrder: the walk. -/
import Derived.Test.YtnghlhcekghciaaDoorXL
import Derived.Test.YtnghlhcekghciaaDoorG6
namespace Go.Proofs.YtnghlhcekghciaaDoor
open Go.RowKit

set_option maxHeartbeats 4000000 in
set_option maxRecDepth 100000 in
theorem Order_any (a0 : Option Addr) (cap0 : Nat) (ps0 : List PT) (t : Nat) (W : World) (in0 : PolyIn W W.heap.size a0 ps0) (wf0 : ∀ p ∈ ps0, WfM p.m) (ht : t ≤ 255) (htab : TabT W) :
    Calls Tryd.prog 4 #[.slice a0 ps0.length cap0, .int .u8 (t : Int)] W fun e w' => e = .returned (.bool true) ∧ Below W.heap.size W w' := by
  obtain ⟨i0, hi0, hz0, hz1, hz2⟩ := info_parts Tryd.infoTerm
  have H0 := Lib.hid in0; have W0 := Lib.hid wf0; have HT := Lib.hid htab
  clear in0 wf0 htab
  have HAW := Lib.hid (fun (w : World) (hW : Below W.heap.size W w) => awake_any w (HT.out.on hW))
  have HFW := Lib.hid (fun (w : World) (hW : Below W.heap.size W w) => Few21_any a0 cap0 W.heap.size 20 ps0 w (H0.out.below hW) (by omega))
  have HFM := Lib.hid (fun (w : World) (hW : Below W.heap.size W w) (hf : Few21 20 ps0) (a : Addr) (ls : List Bs) (hn : NIn w w.heap.size (some a) 4 ls) (h4 : ls.length = 4) (hok : namesB ls = true) =>
    Format_four a0 (some a) cap0 4 w.heap.size 20 1073741824 (pw 21) ps0 ls w (Nat.le_refl _) (((pin21 H0.out W0.out hf (by omega)).below hW).more hW.size) (by omega) big21 (by omega) hn (HT.out.on hW) h4 hok)
  go_enter Tryd.func4, Tryd.ntmps4
  go_wp2_with fail
  refine (HAW.out _ (Below.refl _ _)).mono ?_
  rintro e w1 ⟨rfl, hb1⟩
  go_wp2_with fail
  refine (HFW.out _ hb1).mono ?_
  rintro e w1' ⟨b, rfl, hf, rfl⟩
  have HF := Lib.hid hf
  clear hf
  cases b with
  | false =>
    go_wp2_with fail
    refine (HAW.out _ hb1).mono ?_
    rintro e w2 ⟨rfl, hb2⟩
    go_wp2_with fail
    go_ret
    exact ⟨rfl, hb1.trans (hb2.mono hb1.size)⟩
  | true =>
    have HX3 := Lib.hid (boxes3 w1 9 32 36 #[.string ⟨#[120]⟩, .string ⟨#[121]⟩, .string ⟨#[122]⟩, .string ⟨#[119]⟩] #[.int .u32 1] #[.bool false, .slice (some ⟨w1.heap.size + 1, 0, none⟩) 1 1])
    have HFW20 := Lib.hid (HF.out (by trivial))
    have HPN := Lib.hid (HF.out (by trivial)).1
    generalize hpn : ps0.length = n at *
    have HN := Lib.hid hpn
    clear hpn HF HFW HAW
    have hn20 := HPN.out
    go_wp2_with fail
    generalize ((w1.alloc (.cells #[.string ⟨#[120]⟩, .string ⟨#[121]⟩, .string ⟨#[122]⟩, .string ⟨#[119]⟩] 9)).alloc (.cells #[.int .u32 1] 32)).alloc (.cells #[.bool false, .slice (some ⟨w1.heap.size + 1, 0, none⟩) 1 1] 36) = w4 at *
    obtain ⟨hb4, kn, kd, ko, hs4⟩ := HX3.out
    have HNIN := Lib.hid (show NIn w4 w4.heap.size (some ⟨w1.heap.size, 0, none⟩) 4 xyzw from NIn.new4 (by decide) (by decide) (by decide) (by decide) kn)
    have HNO := Lib.hid (show NatIn w4 w4.heap.size (some ⟨w1.heap.size + 1, 0, none⟩) 1 [1] from
      ⟨⟨rfl, fun _ => ⟨_, 0, rfl, kd.lt, fun j u hu => by rw [Nat.zero_add, kd.cell]; simpa [u32s] using hu⟩⟩, by intro d hd; simp at hd; omega, Nat.le_refl _⟩)
    have HBW4 := Lib.hid (hb1.trans (hb4.mono hb1.size))
    have HKO := Lib.hid ko
    have lo := ko.lt
    have lw : W.heap.size ≤ w4.heap.size := HBW4.out.size
    clear kn kd ko hs4 HX3 hb4 hb1
    go_loopg [6, 8, 9, 28] n (fun gn qv _ _ ix wr => ∃ (k : Nat) (qs : List PT), k ≤ n ∧ gn = n - k ∧ ix = .int .i64 k ∧ PRow wr w4.heap.size qv qs ∧ qs.map PT.tm = rotL (ps0.map PT.tm) t k ∧ (∀ p ∈ qs, Q21 p) ∧ Below w4.heap.size w4 wr)
    case atStart => exact ⟨0, [], by omega, rfl, rfl, PRow.nil _ _, rfl, by simp, Below.refl _ _⟩
    case round =>
      obtain ⟨k, qs, hk, hgk, rfl, hrow, htm, hqq, hbl⟩ := hrel
      have HG := Lib.hid hgk; have HTM := Lib.hid htm; have HQQ := Lib.hid hqq
      clear hgk htm hqq
      have hz := hbl.size
      have hql : qs.length = k := by
        have := congrArg List.length HTM.out
        simpa [rotL] using this
      have HQL := Lib.hid hql
      clear hql
      by_cases hlt : k < n
      · obtain ⟨j, hj⟩ : ∃ j, j = (k + t) % n := ⟨_, rfl⟩
        have hjn : j < n := by rw [hj]; exact Nat.mod_lt _ (by omega)
        have hmod : ((k : Int) + (t : Int)) % (n : Int) = (j : Int) := by rw [hj, Int.natCast_emod, Int.natCast_add]
        obtain ⟨p, hp⟩ : ∃ p, ps0[j]? = some p := ⟨_, List.getElem?_eq_getElem (by have := HN.out; omega)⟩
        have hpm := List.mem_of_getElem? hp
        have hbw := HBW4.out.trans (hbl.mono lw)
        have hin := H0.out.below hbw
        obtain ⟨b, o, rfl, hbb, d0, d1, d2, d3, d4, d5⟩ := hin.at_ hp
        have hnt := (hin.nt p hpm).more (Nat.le_trans lw hz)
        have HRS := Lib.hid (show rotL (ps0.map PT.tm) t (k + 1) = rotL (ps0.map PT.tm) t k ++ [(p.tm.1 + 1, p.tm.2)] from rotL_snoc _ _ _ (by rw [List.length_map, HN.out, ← hj, List.getElem?_map, hp]; rfl))
        have hf20 := HFW20.out.2 p hpm
        have HQ := Lib.hid (show (dig (ival p.ng p.ds + ival false [1]).natAbs).length ≤ 21 ∧ WfM p.m ∧ ∀ j, j < 4 → gt p.m j ≤ 1073741824 from ⟨plus_one_len hnt.dg hf20.1, W0.out p hpm, hf20.2⟩)
        have i1 : (j : Int) < (n : Int) := by omega
        have i0' : (0 : Int) ≤ (j : Int) := by omega
        have i2 : (k : Int) < (n : Int) := by omega
        have i3 : ¬ (n : Int) = 0 := by omega
        have i4 : (0 : Int) ≤ (k : Int) := by omega
        have i5 : (0 : Int) ≤ (t : Int) := by omega
        have l1 : b < wr.heap.size := by omega
        have hdl : p.ds.length ≤ 20 := hf20.1
        have HTP := Lib.hid (show p.tm = (ival p.ng p.ds, p.m) from rfl)
        have HNT := Lib.hid hnt
        have hko := HKO.out.old hbl
        have HRA := Lib.hid (fun (V : World) (hV : Below wr.heap.size wr V) => RAdd_any p.ng false p.A (some ⟨w1.heap.size + 1, 0, none⟩) p.c 1 wr.heap.size p.ds [1] V hV.size (HNT.out.below hV) ((((HNO.out.below hbl).more hz).below hV)) (by omega) (by simp))
        unfold IntResK at HRA
        rw [show ([1] : List Nat).length = 1 from rfl] at HRA
        have hkp := Blk.new wr 40 p.cells.toArray
        simp only [PT.cells] at hkp
        have hko' := hko.alloc (.cells #[.bool p.ng, .slice p.A p.ds.length p.c, .int .i64 p.m.1, .int .i64 p.m.2.1, .int .i64 p.m.2.2.1, .int .i64 p.m.2.2.2] 40)
        have hrow' := hrow.old ((Below.refl _ wr).alloc (Nat.le_refl _) (.cells #[.bool p.ng, .slice p.A p.ds.length p.c, .int .i64 p.m.1, .int .i64 p.m.2.1, .int .i64 p.m.2.2.1, .int .i64 p.m.2.2.2] 40))
        have hbv : Below wr.heap.size wr (wr.alloc (.cells #[.bool p.ng, .slice p.A p.ds.length p.c, .int .i64 p.m.1, .int .i64 p.m.2.1, .int .i64 p.m.2.2.1, .int .i64 p.m.2.2.2] 40)) := (Below.refl _ wr).alloc (Nat.le_refl _) _
        clear hp hpm hin hnt hj hf20 hko hrow
        go_wp2_with fail
        generalize p.m = m at *
        generalize hm0 : m.1 = m0 at *
        generalize hm1 : m.2.1 = m1 at *
        generalize hm2 : m.2.2.1 = m2 at *
        generalize hm3 : m.2.2.2 = m3 at *
        obtain rfl : m = (m0, m1, m2, m3) := by rw [← hm0, ← hm1, ← hm2, ← hm3]
        clear hm0 hm1 hm2 hm3
        generalize wr.alloc (.cells #[.bool p.ng, .slice p.A p.ds.length p.c, .int .i64 m0, .int .i64 m1, .int .i64 m2, .int .i64 m3] 40) = V at *
        generalize wr.heap.size = bt at *
        generalize hzz : ival p.ng p.ds + ival false [1] = zz at *
        have HZZ := Lib.hid hzz
        clear hzz
        have e0 : V.cell? ⟨bt, 0, none⟩ = some (.bool p.ng) := hkp.cell 0
        have e1 : V.cell? ⟨bt, 1, none⟩ = some (.slice p.A p.ds.length p.c) := hkp.cell 1
        have e2 : V.cell? ⟨bt, 2, none⟩ = some (.int .i64 m0) := hkp.cell 2
        have e3 : V.cell? ⟨bt, 3, none⟩ = some (.int .i64 m1) := hkp.cell 3
        have e4 : V.cell? ⟨bt, 4, none⟩ = some (.int .i64 m2) := hkp.cell 4
        have e5 : V.cell? ⟨bt, 5, none⟩ = some (.int .i64 m3) := hkp.cell 5
        have e6 : V.cell? ⟨w1.heap.size + 2, 0, none⟩ = some (.bool false) := hko'.cell 0
        have e7 : V.cell? ⟨w1.heap.size + 2, 1, none⟩ = some (.slice (some ⟨w1.heap.size + 1, 0, none⟩) 1 1) := hko'.cell 1
        have lv := hkp.lt; have lk := hko'.lt
        obtain ⟨Aq, cq, rfl⟩ := own_slice6 hrow'.row
        have hvd : Below bt wr V.drew := hbv.trans ((Drawn.drew _).below _)
        have hrowd : PRow V.drew w4.heap.size (.slice Aq qs.length cq) qs := ⟨hrow'.row, hrow'.dg⟩
        have h63 : qs.length + 1 ≤ maxLen := by have := HQL.out; unfold maxLen; omega
        have hby : (qs.length + 1) * 64 ≤ 140737488355328 := by have := HQL.out; omega
        have hz4 : w4.heap.size ≤ V.drew.heap.size := Nat.le_trans hz (by show _ ≤ V.heap.size; omega)
        have HROW := Lib.hid hrowd
        have HHV := Lib.hid hbv
        clear hrow' hkp hko' hbv hrowd hmod i1 i0' i3 i5
        go_region_law (first
          | (refine step_append_any _ rfl (.tmp 41) (.tmp 49) 23 (by rfl) w4.heap.size 40 i0 _ 6 64 Tryd.underlying23 hi0 hz0 hz1 hz2 rfl (by decide) (.slice Aq qs.length cq) qs.length (qs.flatMap PT.cells) (by rfl) roX (w3.heap.size + 1) (some ⟨w3.heap.size, 0, none⟩) 1 1 (mkP zz A3 c3 (m0, m1, m2, m3)).cells (by rfl) hrd hone h63 hby hbX ?_
             intro v' w5 hown5 hg5 hat5)
          | (go_simp
             go_at_call 14
             refine (HRA.out _ hvd).mono ?_
             rintro e w3 ⟨A3, c3, rfl, h3, h4, h5⟩
             have z2 := (h5.cell lv).trans e2
             have z3 := (h5.cell lv).trans e3
             have z4 := (h5.cell lv).trans e4
             have z5 := (h5.cell lv).trans e5
             have hrd : Reads (w3.alloc (.cells #[.bool (decide (zz < 0)), .slice A3 (dig zz.natAbs).length c3, .int .i64 m0, .int .i64 m1, .int .i64 m2, .int .i64 m3] 40)) (w3.heap.size + 1) 6 (some ⟨w3.heap.size, 0, none⟩) 1 (mkP zz A3 c3 (m0, m1, m2, m3)).cells := Reads.six_new w3 (mkP zz A3 c3 (m0, m1, m2, m3)).cells rfl 40
             have hone := cells_one [mkP zz A3 c3 (m0, m1, m2, m3)]
             have roX : (w3.alloc (.cells #[.bool (decide (zz < 0)), .slice A3 (dig zz.natAbs).length c3, .int .i64 m0, .int .i64 m1, .int .i64 m2, .int .i64 m3] 40)).ownsRow w4.heap.size 40 6 (.slice Aq qs.length cq) qs.length (qs.flatMap PT.cells) := own_old (w := V.drew) HROW.out.row (h5.alloc h5.size _)
             have hbX : w4.heap.size ≤ (w3.alloc (.cells #[.bool (decide (zz < 0)), .slice A3 (dig zz.natAbs).length c3, .int .i64 m0, .int .i64 m1, .int .i64 m2, .int .i64 m3] 40)).heap.size := Nat.le_trans hz4 (h5.alloc h5.size _).size))
        all_goals
          have hvw : Below V.drew.heap.size V.drew (w3.alloc (.cells #[.bool (decide (zz < 0)), .slice A3 (dig zz.natAbs).length c3, .int .i64 m0, .int .i64 m1, .int .i64 m2, .int .i64 m3] 40)) := h5.alloc h5.size _
          have hpr := (HROW.out.old hvw).snoc (p := mkP zz A3 c3 (m0, m1, m2, m3)) ⟨h4.keep fun _ _ kk => kk.alloc _, dig_dig _, h3⟩ hown5 hg5
          have HPR := Lib.hid hpr
          have HBL := Lib.hid (((hbl.trans (HHV.out.mono hz)).trans ((Drawn.drew V).below _)).trans (hvw.mono hz4) |>.grown hg5 hbX (fun k hk => (roX.lt k hk).1))
          clear hpr hvw hown5 hg5 hat5 roX hrd hone hbX h5
          go_wp2_with fail
          go_roundg (n - (k + 1))
          case rel =>
            refine ⟨k + 1, _, by omega, rfl, by go_num, HPR.out, ?_, fun q hq => ?_, HBL.out⟩
            · rw [List.map_append, List.map_singleton, HTM.out, HRS.out, mkP_tm, HTP.out]
              rw [show ival p.ng p.ds + 1 = zz from HZZ.out]
            · rcases List.mem_append.1 hq with hq | hq
              · exact HQQ.out q hq
              · rw [List.mem_singleton] at hq; subst hq; exact HQ.out
          case measure => have := HG.out; omega
      · obtain rfl : k = n := by omega
        have HTM0 := Lib.hid (show qs.map PT.tm = rotL (ps0.map PT.tm) t k ++ (minL (ps0.map PT.tm)).take 0 by rw [HTM.out]; simp)
        have hlq : qs.length = k + 0 := by rw [HQL.out]; rfl
        have HLQ := Lib.hid hlq
        clear hlq
        go_wp2_with fail
        go_loopg [6, 10, 54] k (fun gn qv _ ix wr => ∃ (i : Nat) (qs : List PT), i ≤ k ∧ gn = k - i ∧ ix = .int .i64 i ∧ PRow wr w4.heap.size qv qs ∧ qs.map PT.tm = rotL (ps0.map PT.tm) t k ++ (minL (ps0.map PT.tm)).take i ∧ qs.length = k + i ∧ (∀ p ∈ qs, Q21 p) ∧ Below w4.heap.size w4 wr)
        case atStart => exact ⟨0, qs, by omega, rfl, rfl, hrow, HTM0.out, HLQ.out, HQQ.out, hbl⟩
        case round =>
          clear hrow hbl hz HTM HQL HQQ HG HTM0 HLQ
          obtain ⟨i, qs, hi, hgi, rfl, hrow, htm, hql, hqq, hbl⟩ := hrel
          have HGI := Lib.hid hgi; have HTM := Lib.hid htm; have HQQ := Lib.hid hqq; have HQL := Lib.hid hql
          clear hgi htm hqq hql
          have hz := hbl.size
          by_cases hlt2 : i < k
          · obtain ⟨p, hp⟩ : ∃ p, ps0[i]? = some p := ⟨_, List.getElem?_eq_getElem (by have := HN.out; omega)⟩
            have hpm := List.mem_of_getElem? hp
            have hbw := HBW4.out.trans (hbl.mono lw)
            have hin := H0.out.below hbw
            obtain ⟨b, o, rfl, hbb, d0, d1, d2, d3, d4, d5⟩ := hin.at_ hp
            have HQ := Lib.hid (show WfM p.m ∧ ∀ j, j < 4 → gt p.m j ≤ 1073741824 from ⟨W0.out p hpm, (HFW20.out.2 p hpm).2⟩)
            have HTK := Lib.hid (show (minL (ps0.map PT.tm)).take (i + 1) = (minL (ps0.map PT.tm)).take i ++ [(-1, p.m)] by
              have hl : i < (minL (ps0.map PT.tm)).length := by unfold minL; rw [List.length_map, List.length_map]; have := HN.out; omega
              rw [List.take_succ_eq_append_getElem hl]
              congr 2
              have : (minL (ps0.map PT.tm))[i]? = some (-1, p.m) := by
                unfold minL
                rw [List.getElem?_map, List.getElem?_map, hp]
                rfl
              exact (List.getElem?_eq_some_iff.1 this).2)
            have i1 : (i : Int) < (k : Int) := by omega
            have i0' : (0 : Int) ≤ (i : Int) := by omega
            have l1 : b < wr.heap.size := by omega
            obtain ⟨Aq, cq, rfl⟩ := own_slice6 hrow.row
            clear hp hpm hin d0 d1
            generalize p.m = m at *
            generalize hm0 : m.1 = m0 at *
            generalize hm1 : m.2.1 = m1 at *
            generalize hm2 : m.2.2.1 = m2 at *
            generalize hm3 : m.2.2.2 = m3 at *
            obtain rfl : m = (m0, m1, m2, m3) := by rw [← hm0, ← hm1, ← hm2, ← hm3]
            clear hm0 hm1 hm2 hm3
            have hbv := ((Below.refl wr.heap.size wr).alloc (Nat.le_refl _) (.cells #[.int .u32 1, .int .u32 0] 32))
            have hkd := Blk.new wr 32 #[.int .u32 1, .int .u32 0]
            have hrow' := hrow.old hbv
            have hrow2 := hrow'.old ((Below.refl _ _).alloc (Nat.le_refl _) (.cells #[.bool true, .slice (some ⟨wr.heap.size, 0, none⟩) 2 2, .int .i64 m0, .int .i64 m1, .int .i64 m2, .int .i64 m3] 40))
            have hrd := Reads.six_new (wr.alloc (.cells #[.int .u32 1, .int .u32 0] 32)) [.bool true, .slice (some ⟨wr.heap.size, 0, none⟩) 2 2, .int .i64 m0, .int .i64 m1, .int .i64 m2, .int .i64 m3] rfl 40
            have hone := cells_one [⟨true, [1, 0], some ⟨wr.heap.size, 0, none⟩, 2, (m0, m1, m2, m3)⟩]
            have h63 : qs.length + 1 ≤ maxLen := by have := HQL.out; unfold maxLen; omega
            have hby : (qs.length + 1) * 64 ≤ 140737488355328 := by have := HQL.out; omega
            have hbX : w4.heap.size ≤ ((wr.alloc (.cells #[.int .u32 1, .int .u32 0] 32)).alloc (.cells #[.bool true, .slice (some ⟨wr.heap.size, 0, none⟩) 2 2, .int .i64 m0, .int .i64 m1, .int .i64 m2, .int .i64 m3] 40)).heap.size := by simp; omega
            go_wp2_with (at_builtin; refine wpList_append_any _ rfl (.tmp 57) (.tmp 66) 23 rfl w4.heap.size 40 i0 _ 6 64 Tryd.underlying23 hi0 hz0 hz1 hz2 rfl (by decide) (.slice Aq qs.length cq) qs.length _ rfl hrow2.row ((wr.alloc (.cells #[.int .u32 1, .int .u32 0] 32)).heap.size + 1) (some ⟨(wr.alloc (.cells #[.int .u32 1, .int .u32 0] 32)).heap.size, 0, none⟩) 1 1 ([.bool true, .slice (some ⟨wr.heap.size, 0, none⟩) 2 2, .int .i64 m0, .int .i64 m1, .int .i64 m2, .int .i64 m3] : List Value) (by simp; rfl) hrd (by simpa [PT.cells] using hone) h63 hby hbX ?_; intro v5 w5 hown5 hg5 hat5; refine Hid.out ?_)
            refine Lib.hid ?_
            have hpr := hrow2.snoc (p := ⟨true, [1, 0], some ⟨wr.heap.size, 0, none⟩, 2, (m0, m1, m2, m3)⟩) ⟨.inr ⟨wr.heap.size, _, rfl, hkd.alloc _, rfl⟩, by intro d hd; simp at hd; omega, Nat.le_refl _⟩ (by simpa [PT.cells] using hown5) hg5
            have HPR := Lib.hid hpr
            have HBL := Lib.hid ((((hbl.alloc hz _).alloc (by simp; omega) _).grown hg5 hbX (fun k hk => (hrow2.row.lt k hk).1)))
            clear hpr hown5 hg5 hat5 hrow2 hrow' hrd hone hbX hkd hbv hrow hbl
            go_wp2_with fail
            go_roundg (k - (i + 1))
            case rel =>
              refine ⟨i + 1, _, by omega, rfl, by go_num, HPR.out, ?_, by rw [List.length_append, HQL.out]; simp; omega, fun q hq => ?_, HBL.out⟩
              · rw [List.map_append, List.map_singleton, HTM.out, HTK.out, List.append_assoc]
                rfl
              · rcases List.mem_append.1 hq with hq | hq
                · exact HQQ.out q hq
                · rw [List.mem_singleton] at hq; subst hq; exact ⟨by simp, HQ.out⟩
            case measure => have := HGI.out; omega
          · obtain rfl : i = k := by omega
            have HCF := Lib.hid (show ∀ m, cf (qs.map PT.tm) m = cf (ps0.map PT.tm) m from fun m => by
              have hl : (ps0.map PT.tm).length = i := by rw [List.length_map, HN.out]
              have hm2 : (minL (ps0.map PT.tm)).length = i := by unfold minL; rw [List.length_map, hl]
              rw [HTM.out, ← hl, List.take_of_length_le (by rw [hm2, hl]; exact Nat.le_refl _)]
              exact cf_rot _ _ _)
            obtain ⟨Aq, cq, rfl⟩ := own_slice6 hrow.row
            have HPIN := Lib.hid (pin_row hrow HQQ.out (by have := HQL.out; omega))
            have hbw := HBW4.out.trans (hbl.mono lw)
            have HNIN' := Lib.hid (((HNIN.out).below hbl).more hz)
            have HF1 := Lib.hid (HFM.out wr hbw HFW20.out ⟨w1.heap.size, 0, none⟩ xyzw HNIN'.out rfl xyzw_ok)
            clear hrow hbl
            go_wp2_with fail
            refine HF1.out.mono ?_
            rintro e w6 ⟨⟨P, hP, hc, hl, rfl⟩, hb6⟩
            have hb6' := hbw.trans (hb6.mono hbw.size)
            have HF2 := Lib.hid (Format_four Aq (some ⟨w1.heap.size, 0, none⟩) cq 4 wr.heap.size 40 1073741824 (pw 22) qs xyzw w6 hb6.size (HPIN.out.below hb6) (by omega) big22 (by omega) (HNIN'.out.below hb6) (HT.out.on hb6') rfl xyzw_ok)
            have HP := Lib.hid hP; have HC := Lib.hid hc
            clear hP hc hb6 HF1
            go_wp2_with fail
            refine HF2.out.mono ?_
            rintro e w7 ⟨⟨Q, hQ, hc, hl2, rfl⟩, hb7⟩
            obtain rfl : Q = P := hQ.unique HP.out (fun m => (hc m).trans ((HCF.out m).trans (HC.out m).symm))
            have hb7' := hb6'.trans (hb7.mono hb6'.size)
            clear hQ hc hb7 HF2
            go_wp2_with fail
            go_ret
            exact ⟨rfl, hb7'⟩
end Go.Proofs.YtnghlhcekghciaaDoor
