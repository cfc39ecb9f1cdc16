/- Contract of recpoly.build: the walk. -/
import Derived.IntWalk
import Derived.Deep.DeepCutAuto
import Derived.Test.YtkkliemgidhgmaaGreatDoorRN
namespace Go.Proofs.YtkkliemgidhgmaaGreatDoor
open Go.RowKit

set_option maxHeartbeats 8000000 in
set_option maxRecDepth 100000 in
theorem build_any : ∀ (M L : Nat), L < M → L ≤ 4 → ∀ (ps : List PT) (A : Option Addr) (c B : Nat) (w : World), B ≤ w.heap.size → PolyIn w B A ps → Desc L (ps.map PT.tm) → (∀ p ∈ ps, Cn p) → (∀ p ∈ ps, ∀ i, i < 4 → 0 ≤ gt p.m i ∧ gt p.m i ≤ 1000) → ps.length ≤ c → ps.length ≤ 1000 → (∀ p ∈ ps, NatB w p.A p.ds ∧ p.ds.length ≤ p.c) →
    Calls Tryz.prog 63 #[.slice A ps.length c, .int .i64 (L : Int)] w (BldRes (bldT L (ps.map PT.tm)) w)
  | 0, L, hM, _, _, _, _, _, _, _, _, _, _, _, _, _, _ => by omega
  | M + 1, L, hM, hL, ps, A, c, B, w, hB, hp, hds, hcn, hex, hcap, hlen, hnb => by
    have HNB := Lib.hid hnb
    clear hnb
    have IH := Lib.hid (build_any M)
    have HP := Lib.hid (fun (W : World) (hW : Below B w W) => hp.below hW)
    have hbx := (Below.refl w.heap.size w).alloc (Nat.le_refl _) (.cells #[.int .i64 0, .bool false, .slice none 0 0, .slice none 0 0] 32)
    have kbx := Blk.new w 32 #[.int .i64 0, .bool false, .slice none 0 0, .slice none 0 0]
    by_cases hn : ps.length = 0
    · obtain rfl : ps = [] := List.length_eq_zero_iff.1 hn
      have HS := Lib.hid kbx
      have HBX := Lib.hid hbx
      have HZ := Lib.hid (bldT_nil L)
      clear hp hds hcn hex hcap hlen hn hbx kbx HP IH hM hL
      go_enter Tryz.func63, Tryz.ntmps63
      go_wp2_with fail
      refine ret_blk Tryz.results63 rfl rfl HS.out Tryz.underlying32 rfl Tryz.sizeRec ?_
      refine ⟨none, 0, none, 0, by rw [List.map_nil, HZ.out]; rfl, by rw [List.map_nil, HZ.out]; exact RT.zero, ?_⟩
      exact HBX.out
    · obtain ⟨p0, hp0⟩ : ∃ p0, ps[0]? = some p0 := ⟨_, List.getElem?_eq_getElem (by omega)⟩
      obtain ⟨b, o, rfl, hbB, hc⟩ := hp.open (by omega)
      have HC := Lib.hid (fun (W : World) (hW : Below B w W) (k : Nat) (p : PT) (j : Nat) (v : Value) (h1 : ps[k]? = some p) (h2 : j < 6) (h3 : p.cells[j]? = some v) => show W.cell? ⟨b, o + (k * 6 + j), none⟩ = some v from (hW.cell (p := ⟨b, o + (k * 6 + j), none⟩) hbB).trans (hc k p j v h1 h2 h3))
      have HT0 := Lib.hid (show (ps.map PT.tm)[0]? = some p0.tm by rw [List.getElem?_map, hp0]; rfl)
      have HE0 := Lib.hid (hex p0 (List.mem_of_getElem? hp0))
      have HEX := Lib.hid hex; have HCN := Lib.hid hcn; have HPI := Lib.hid hp
      have HDS := Lib.hid hds
      have HP0 := Lib.hid hp0
      have HTL := Lib.hid (show (ps.map PT.tm).length = ps.length by simp)
      have HKB := Lib.hid kbx; have HBX := Lib.hid hbx
      have HB := Lib.hid hB
      have hBw : Below B w (w.alloc (.cells #[.int .i64 0, .bool false, .slice none 0 0, .slice none 0 0] 32)) := hbx.mono hB
      have HBw := Lib.hid hBw
      have hwl := kbx.lt
      have hz : ((ps.length : Int) == 0) = false := eq_castR _ hn
      have g1 : (0 : Int) < (ps.length : Int) := by omega
      have g2 : (ps.length : Int) ≤ (c : Int) := by omega
      clear hp hds hcn hex hn hc hp0 hbx kbx hBw
      generalize hnn : ps.length = n at *
      have HNN := Lib.hid hnn
      clear hnn
      go_enter Tryz.func63, Tryz.ntmps63
      go_wp2_with fail
      generalize hW1 : w.alloc (.cells #[.int .i64 0, .bool false, .slice none 0 0, .slice none 0 0] 32) = W1 at *
      have hsz1 : W1.heap.size = w.heap.size + 1 := by rw [← hW1]; simp
      have HSZ1 := Lib.hid hsz1
      clear hW1 hsz1
      go_loopg [1] L (fun gn lv wr => ∃ l : Nat, gn = l ∧ l ≤ L ∧ lv = .int .i64 (l : Int) ∧ bldT l (ps.map PT.tm) = bldT L (ps.map PT.tm) ∧ Desc l (ps.map PT.tm) ∧ W1 = wr)
      case atStart => exact ⟨L, rfl, Nat.le_refl _, rfl, rfl, HDS.out, rfl⟩
      case round =>
        obtain ⟨l, hgl, hlL, rfl, hbl, hdl, rfl⟩ := hrel
        have HG := Lib.hid hgl
        have HBL := Lib.hid hbl; have HDL := Lib.hid hdl
        clear hgl hbl hdl
        by_cases hl0 : l = 0
        · subst hl0
          have d0 := HC.out _ HBw.out 0 p0 0 _ HP0.out (by omega) rfl
          have d1 := HC.out _ HBw.out 0 p0 1 _ HP0.out (by omega) rfl
          simp only [Nat.zero_mul, Nat.zero_add, Nat.add_zero] at d0 d1
          have HCS := Lib.hid (show bldT L (ps.map PT.tm) = cstT p0.tm.1 by rw [← HBL.out]; exact bldT_zero HT0.out)
          obtain ⟨z, hz0⟩ := HCN.out p0 (List.mem_of_getElem? HP0.out)
          have HPC := Lib.hid (show cstT p0.tm.1 = .mk 0 p0.ng p0.ds [] by
            rw [hz0, mkP_tm]
            rfl)
          have hni := (HPI.out.nt p0 (List.mem_of_getElem? HP0.out))
          have HNI := Lib.hid hni.dg
          have HS := Lib.hid (sets4 (k := 0) HKB.out (.int .i64 0) (.bool p0.ng) (.slice p0.A p0.ds.length p0.c) (.slice none 0 0)).1
          have HS2 := Lib.hid (sets4 (k := 0) HKB.out (.int .i64 0) (.bool p0.ng) (.slice p0.A p0.ds.length p0.c) (.slice none 0 0)).2.1
          have f0 := HKB.out.frozen 0; have f1 := HKB.out.frozen 1; have f2 := HKB.out.frozen 2; have f3 := HKB.out.frozen 3
          have q0 : W1.cell? ⟨w.heap.size, 0, none⟩ = some (.int .i64 0) := HKB.out.cell 0
          have q1 : W1.cell? ⟨w.heap.size, 1, none⟩ = some (.bool false) := HKB.out.cell 1
          have q2 : W1.cell? ⟨w.heap.size, 2, none⟩ = some (.slice none 0 0) := HKB.out.cell 2
          have q3 : W1.cell? ⟨w.heap.size, 3, none⟩ = some (.slice none 0 0) := HKB.out.cell 3
          clear hz0 hni
          go_wp2_with fail
          refine ret_blk Tryz.results63 rfl rfl HS.out Tryz.underlying32 rfl Tryz.sizeRec ?_
          have hb4 := (((HBX.out.setCell (p := ⟨w.heap.size, 0, none⟩) (Nat.le_refl _) (.int .i64 0)).setCell (p := ⟨w.heap.size, 1, none⟩) (Nat.le_refl _) (.bool p0.ng)).setCell (p := ⟨w.heap.size, 2, none⟩) (Nat.le_refl _) (.slice p0.A p0.ds.length p0.c)).setCell (p := ⟨w.heap.size, 3, none⟩) (Nat.le_refl _) (.slice none 0 0)
          refine ⟨p0.A, p0.c, none, 0, by rw [HCS.out, HPC.out]; rfl, ?_, hb4⟩
          rw [HCS.out, HPC.out]
          have hnb := HNB.out p0 (List.mem_of_getElem? HP0.out)
          exact RB.const ((hnb.1.old HBX.out).keep HS2.out) HNI.out hnb.2
        · obtain ⟨i, rfl⟩ : ∃ i, l = i + 1 := ⟨l - 1, by omega⟩
          have hi4 : i < 4 := by omega
          have hli : ((i + 1 : Nat) : Int) - 1 = (i : Int) := by omega
          have g3 : (0 : Int) < ((i + 1 : Nat) : Int) := by omega
          have j0 : (0 : Int) ≤ (i : Int) := by omega
          have j4 : (i : Int) < 4 := by omega
          have HCE := Lib.hid (fun (W : World) (hW : Below B w W) (k : Nat) (p : PT) (h : ps[k]? = some p) => show W.cell? ⟨b, o + k * 6 + 2 + i, none⟩ = some (.int .i64 (gt p.m i)) by
            have := HC.out W hW k p (2 + i) _ h (by omega) (cells_exp p i hi4)
            rwa [show o + (k * 6 + (2 + i)) = o + k * 6 + 2 + i by omega] at this)
          have ce := HCE.out _ HBw.out 0 p0 HP0.out
          simp only [Nat.zero_mul, Nat.add_zero] at ce
          have he0 := HE0.out i hi4
          by_cases hz0 : gt p0.m i = 0
          · have HDN := Lib.hid (show bldT i (ps.map PT.tm) = bldT L (ps.map PT.tm) from (bldT_down HT0.out hz0).trans HBL.out)
            have HDZ := Lib.hid (show Desc i (ps.map PT.tm) from HDL.out.zero HT0.out hz0 (fun s hs => by
              obtain ⟨p, hp, rfl⟩ := List.mem_map.1 hs
              exact (HEX.out p hp i hi4).1))
            rw [hz0] at ce
            clear hz0 hl0 he0
            go_wp2_with fail
            go_roundg i
            case rel => exact ⟨i, rfl, by omega, rfl, HDN.out, HDZ.out, rfl⟩
            case measure => have := HG.out; omega
          · obtain ⟨e0, he⟩ : ∃ e0 : Nat, gt p0.m i = (e0 : Int) := ⟨(gt p0.m i).toNat, by omega⟩
            have HND := Lib.hid (show bldT L (ps.map PT.tm) = .mk ((i : Int) + 1) false [] (fillF (bldT i) i (ps.map PT.tm).length (ps.map PT.tm) (List.replicate (e0 + 1) zeroT)) by
              rw [← HBL.out, bldT_node HT0.out hz0, show (gt p0.tm.2 i).toNat = e0 by show (gt p0.m i).toNat = e0; omega])
            have HHD := Lib.hid (fun (s : Tm) (hs : s ∈ ps.map PT.tm) => show gt s.2 i ≤ (e0 : Int) by rw [← he]; exact HDL.out.first HT0.out hs)
            rw [he] at ce hz0 he0
            have hze : ((e0 : Int) == 0) = false := eq_castR _ (by omega)
            have hle : (e0 : Int) ≤ 1073741824 := by omega
            have hle2 : e0 ≤ 1000 := by omega
            have hmk := fun (W : World) => Tryz.make_rec (e0 + 1) (by omega) W
            have hce : (e0 : Int) + 1 = ((e0 + 1 : Nat) : Int) := by omega
            have HZ0 := Lib.hid hz0
            clear hz0 he hl0 he0
            generalize hNN : e0 + 1 = N at *
            have HNE := Lib.hid hNN
            clear hNN
            go_wp2_with fail
            have HBI := Lib.hid (BldI.start (w := w) (n := N) (Blk.new W1 32 (madeCells #[.int .i64 0, .bool false, .slice none 0 0, .slice none 0 0] (N * 4))) (HBX.out.alloc HBX.out.size _) (HKB.out.alloc _))
            have hg : w.heap.size < W1.heap.size := by have := HSZ1.out; omega
            generalize W1.alloc (.cells (madeCells #[.int .i64 0, .bool false, .slice none 0 0, .slice none 0 0] (N * 4)) 32) = W2 at *
            generalize W1.heap.size = g at *
            generalize hTOT : fillF (bldT i) i (ps.map PT.tm).length (ps.map PT.tm) (List.replicate N zeroT) = TOT at *
            have HTOT := Lib.hid hTOT
            clear hTOT hmk hze hle hce ce
            go_loopg [6, 7, 8] n (fun gn sv _ _ wr => ∃ (s : Nat) (ks : List RP) (cur : Array Value) (rows : List (List Value)) (m : Nat), s ≤ n ∧ gn = n - s ∧ sv = .int .i64 (s : Int) ∧ BldI w g N wr ks cur rows ∧ ((ps.map PT.tm).drop s).length ≤ m ∧ fillF (bldT i) i m ((ps.map PT.tm).drop s) ks = TOT)
            case atStart => exact ⟨0, _, _, _, (ps.map PT.tm).length, Nat.zero_le _, rfl, rfl, HBI.out, by simp, by rw [List.drop_zero]; exact HTOT.out⟩
            case round =>
              clear HBI
              obtain ⟨s, ks, cur, rows, m, hs, hgs, rfl, hbi, hml, hfl⟩ := hrel
              have HGS := Lib.hid hgs
              have HBI := Lib.hid hbi; have HML := Lib.hid hml; have HFL := Lib.hid hfl
              have hbw : Below B w wr := hbi.bel.mono HB.out
              have HBWR := Lib.hid hbw
              clear hgs hml hfl
              by_cases hsn : s < n
              · obtain ⟨p, hp⟩ : ∃ p, ps[s]? = some p := ⟨_, List.getElem?_eq_getElem (by rw [HNN.out]; exact hsn)⟩
                have hpm := List.mem_of_getElem? hp
                have cp := HCE.out wr hbw s p hp
                have hep := HEX.out p hpm i hi4
                obtain ⟨e, he⟩ : ∃ e : Nat, gt p.m i = (e : Int) := ⟨(gt p.m i).toNat, by omega⟩
                have hee := HHD.out p.tm (List.mem_map.2 ⟨p, hpm, rfl⟩)
                have hee' : gt p.m i ≤ (e0 : Int) := hee
                have HTS := Lib.hid (show (ps.map PT.tm)[s]? = some p.tm by rw [List.getElem?_map, hp]; rfl)
                have HPE := Lib.hid (show gt p.tm.2 i = (e : Int) from he)
                have hen : e < N := by have := HNE.out; omega
                rw [he] at cp
                have k0 : (0 : Int) ≤ (s : Int) := by omega
                have k1 : (s : Int) < (n : Int) := by omega
                clear hee hee' hep he hp hpm hbi hbw
                go_wp2_with fail
                go_loopg [8] (n - s) (fun gn ev wq => ∃ j : Nat, s + j ≤ n ∧ gn = n - s - j ∧ ev = .int .i64 ((s + j : Nat) : Int) ∧ (∀ x ∈ ((ps.map PT.tm).drop s).take j, gt x.2 i = (e : Int)) ∧ wr = wq)
                case atStart => exact ⟨0, by omega, rfl, rfl, by simp, rfl⟩
                case round =>
                  obtain ⟨j, hj, hgj, rfl, hrun, rfl⟩ := hrel
                  have HGJ := Lib.hid hgj; have HRUN := Lib.hid hrun
                  clear hgj hrun
                  by_cases hjn : s + j < n
                  · obtain ⟨q, hq⟩ : ∃ q, ps[s + j]? = some q := ⟨_, List.getElem?_eq_getElem (by rw [HNN.out]; exact hjn)⟩
                    have hqm := List.mem_of_getElem? hq
                    have cq := HCE.out wr HBWR.out (s + j) q hq
                    have heq := HEX.out q hqm i hi4
                    obtain ⟨f, hf⟩ : ∃ f : Nat, gt q.m i = (f : Int) := ⟨(gt q.m i).toNat, by omega⟩
                    have HTQ := Lib.hid (show (ps.map PT.tm)[s + j]? = some q.tm by rw [List.getElem?_map, hq]; rfl)
                    have HQF := Lib.hid (show gt q.tm.2 i = (f : Int) from hf)
                    rw [hf] at cq
                    have k2 : (0 : Int) ≤ ((s + j : Nat) : Int) := by omega
                    have k3 : ((s + j : Nat) : Int) < (n : Int) := by omega
                    clear heq hf hq hqm
                    by_cases hfe : f = e
                    · subst hfe
                      have HR1 := Lib.hid (show ∀ x ∈ ((ps.map PT.tm).drop s).take (j + 1), gt x.2 i = (f : Int) by
                        intro x hx
                        have hl : j < ((ps.map PT.tm).drop s).length := by rw [List.length_drop, HTL.out]; omega
                        rw [List.take_succ_eq_append_getElem hl] at hx
                        rcases List.mem_append.1 hx with hx | hx
                        · exact HRUN.out x hx
                        · rw [List.mem_singleton] at hx
                          have h2 := HTQ.out
                          rw [← List.getElem?_drop, List.getElem?_eq_getElem hl] at h2
                          injection h2 with h2
                          rw [hx, h2]
                          exact HQF.out)
                      go_wp2_with fail
                      go_roundg (n - s - (j + 1))
                      case rel => exact ⟨j + 1, by omega, rfl, by rw [show ((s + (j + 1) : Nat) : Int) = (s : Int) + (j : Int) + 1 by omega], HR1.out, rfl⟩
                      case measure => have := HGJ.out; omega
                    · have hfe' : ((f : Int) == (e : Int)) = false := by
                        have : ¬ (f : Int) = (e : Int) := by omega
                        simpa using this
                      have HSTOP := Lib.hid (show ∀ y, (ps.map PT.tm)[s + j]? = some y → gt y.2 i ≠ (e : Int) by
                        intro y hy
                        rw [HTQ.out] at hy
                        injection hy with hy
                        rw [← hy, HQF.out]
                        omega)
                      clear hfe
                      obtain ⟨hj0, m', hm1, hm2⟩ := fill_step (f := bldT i) (ks := ks) HTS.out HML.out (by rw [HTL.out]; exact hj) (fun x hx => (HRUN.out x hx).trans HPE.out.symm) (fun y hy => by rw [HPE.out]; exact HSTOP.out y hy)
                      rw [HFL.out, HPE.out, Int.toNat_natCast] at hm2
                      have hsl : ((ps.drop s).take j).length = j := by rw [List.length_take, List.length_drop, HNN.out]; omega
                      have hseg : ((ps.drop s).take j).map PT.tm = ((ps.map PT.tm).drop s).take j := by rw [List.map_take, List.map_drop]
                      have hsubm : ∀ x ∈ (ps.drop s).take j, x ∈ ps := fun x hx => List.mem_of_mem_drop (List.mem_of_mem_take hx)
                      have hbld := IH.out i (by omega) (by omega) ((ps.drop s).take j) (some ⟨b, o + s * 6, none⟩) (c - s) B wr (Nat.le_trans HB.out HBI.out.bel.size) ((HPI.out.below HBWR.out).sub s j (by rw [HNN.out]; exact hj) hj0)
                        (by rw [hseg]; exact (HDL.out.sub ((List.take_sublist _ _).trans (List.drop_sublist _ _))).down HRUN.out)
                        (fun x hx => HCN.out x (hsubm x hx)) (fun x hx => HEX.out x (hsubm x hx)) (by rw [hsl]; omega) (by rw [hsl]; omega) (fun x hx => ⟨(HNB.out x (hsubm x hx)).1.old HBI.out.bel, (HNB.out x (hsubm x hx)).2⟩)
                      rw [hsl, hseg] at hbld
                      unfold BldRes rval at hbld
                      generalize hT : bldT i (((ps.map PT.tm).drop s).take j) = T at *
                      clear hT
                      have HIH := Lib.hid hbld
                      have HM1 := Lib.hid hm1; have HM2 := Lib.hid hm2.symm
                      have HPUT := Lib.hid (fun (W2 : World) (A K : Option Addr) (c kc : Nat) (h2 : RB W2 wr.heap.size T (rcell T A c K kc)) (h3 : Below wr.heap.size wr W2) => HBI.out.put hen hg h2 h3)
                      clear hbld hm1 hm2 hsl hseg hsubm
                      go_wp2_with fail
                      refine HIH.out.mono ?_
                      rintro e' w3 ⟨A2, c2, K2, kc2, rfl, h2, h3⟩
                      have kk := HBI.out.row.old h3
                      have hz := HBI.out.siz
                      have ex : ∀ x, x < 4 → ∃ v, cur[e * 4 + x]? = some v := fun x hx => ⟨_, Array.getElem?_eq_getElem (by omega)⟩
                      obtain ⟨v0, q0⟩ := ex 0 (by omega)
                      obtain ⟨v1, q1⟩ := ex 1 (by omega)
                      obtain ⟨v2, q2⟩ := ex 2 (by omega)
                      obtain ⟨v3, q3⟩ := ex 3 (by omega)
                      have d0 : w3.cell? ⟨g, e * 4, none⟩ = some v0 := (kk.cell _).trans q0
                      have d1 : w3.cell? ⟨g, e * 4 + 1, none⟩ = some v1 := (kk.cell _).trans q1
                      have d2 : w3.cell? ⟨g, e * 4 + 2, none⟩ = some v2 := (kk.cell _).trans q2
                      have d3 : w3.cell? ⟨g, e * 4 + 3, none⟩ = some v3 := (kk.cell _).trans q3
                      have f0 := kk.frozen (e * 4); have f1 := kk.frozen (e * 4 + 1); have f2 := kk.frozen (e * 4 + 2); have f3 := kk.frozen (e * 4 + 3); have z0 := kk.lt
                      have k4 : (0 : Int) ≤ (e : Int) := by omega
                      have k5 : (e : Int) < (N : Int) := by omega
                      have HN2 := Lib.hid (HPUT.out w3 A2 K2 c2 kc2 h2 h3)
                      clear kk hz ex q0 q1 q2 q3 h2 h3 HIH HPUT
                      generalize T.lv = xl at *
                      generalize T.ng = xg at *
                      generalize T.ds.length = xd at *
                      generalize T.ks.length = xk at *
                      go_wp2_with fail
                      obtain ⟨cur', hn⟩ := HN2.out
                      go_roundg (n - (s + j))
                      case rel => exact ⟨s + j, ks.set e T, cur', _, m', hj, rfl, by rw [show ((s + j : Nat) : Int) = (s : Int) + (j : Int) by omega], hn, HM1.out, HM2.out⟩
                      case measure => have := HGS.out; omega
                  · have hjn' : s + j = n := by omega
                    have HSTOP := Lib.hid (show ∀ y, (ps.map PT.tm)[s + j]? = some y → gt y.2 i ≠ (e : Int) by
                      intro y hy
                      rw [List.getElem?_eq_none (by rw [HTL.out]; omega)] at hy
                      cases hy)
                    have k3 : (n : Int) ≤ ((s + j : Nat) : Int) := by omega
                    clear hjn'
                    obtain ⟨hj0, m', hm1, hm2⟩ := fill_step (f := bldT i) (ks := ks) HTS.out HML.out (by rw [HTL.out]; exact hj) (fun x hx => (HRUN.out x hx).trans HPE.out.symm) (fun y hy => by rw [HPE.out]; exact HSTOP.out y hy)
                    rw [HFL.out, HPE.out, Int.toNat_natCast] at hm2
                    have hsl : ((ps.drop s).take j).length = j := by rw [List.length_take, List.length_drop, HNN.out]; omega
                    have hseg : ((ps.drop s).take j).map PT.tm = ((ps.map PT.tm).drop s).take j := by rw [List.map_take, List.map_drop]
                    have hsubm : ∀ x ∈ (ps.drop s).take j, x ∈ ps := fun x hx => List.mem_of_mem_drop (List.mem_of_mem_take hx)
                    have hbld := IH.out i (by omega) (by omega) ((ps.drop s).take j) (some ⟨b, o + s * 6, none⟩) (c - s) B wr (Nat.le_trans HB.out HBI.out.bel.size) ((HPI.out.below HBWR.out).sub s j (by rw [HNN.out]; exact hj) hj0)
                      (by rw [hseg]; exact (HDL.out.sub ((List.take_sublist _ _).trans (List.drop_sublist _ _))).down HRUN.out)
                      (fun x hx => HCN.out x (hsubm x hx)) (fun x hx => HEX.out x (hsubm x hx)) (by rw [hsl]; omega) (by rw [hsl]; omega) (fun x hx => ⟨(HNB.out x (hsubm x hx)).1.old HBI.out.bel, (HNB.out x (hsubm x hx)).2⟩)
                    rw [hsl, hseg] at hbld
                    unfold BldRes rval at hbld
                    generalize hT : bldT i (((ps.map PT.tm).drop s).take j) = T at *
                    clear hT
                    have HIH := Lib.hid hbld
                    have HM1 := Lib.hid hm1; have HM2 := Lib.hid hm2.symm
                    have HPUT := Lib.hid (fun (W2 : World) (A K : Option Addr) (c kc : Nat) (h2 : RB W2 wr.heap.size T (rcell T A c K kc)) (h3 : Below wr.heap.size wr W2) => HBI.out.put hen hg h2 h3)
                    clear hbld hm1 hm2 hsl hseg hsubm
                    go_wp2_with fail
                    refine HIH.out.mono ?_
                    rintro e' w3 ⟨A2, c2, K2, kc2, rfl, h2, h3⟩
                    have kk := HBI.out.row.old h3
                    have hz := HBI.out.siz
                    have ex : ∀ x, x < 4 → ∃ v, cur[e * 4 + x]? = some v := fun x hx => ⟨_, Array.getElem?_eq_getElem (by omega)⟩
                    obtain ⟨v0, q0⟩ := ex 0 (by omega)
                    obtain ⟨v1, q1⟩ := ex 1 (by omega)
                    obtain ⟨v2, q2⟩ := ex 2 (by omega)
                    obtain ⟨v3, q3⟩ := ex 3 (by omega)
                    have d0 : w3.cell? ⟨g, e * 4, none⟩ = some v0 := (kk.cell _).trans q0
                    have d1 : w3.cell? ⟨g, e * 4 + 1, none⟩ = some v1 := (kk.cell _).trans q1
                    have d2 : w3.cell? ⟨g, e * 4 + 2, none⟩ = some v2 := (kk.cell _).trans q2
                    have d3 : w3.cell? ⟨g, e * 4 + 3, none⟩ = some v3 := (kk.cell _).trans q3
                    have f0 := kk.frozen (e * 4); have f1 := kk.frozen (e * 4 + 1); have f2 := kk.frozen (e * 4 + 2); have f3 := kk.frozen (e * 4 + 3); have z0 := kk.lt
                    have k4 : (0 : Int) ≤ (e : Int) := by omega
                    have k5 : (e : Int) < (N : Int) := by omega
                    have HN2 := Lib.hid (HPUT.out w3 A2 K2 c2 kc2 h2 h3)
                    clear kk hz ex q0 q1 q2 q3 h2 h3 HIH HPUT
                    generalize T.lv = xl at *
                    generalize T.ng = xg at *
                    generalize T.ds.length = xd at *
                    generalize T.ks.length = xk at *
                    go_wp2_with fail
                    obtain ⟨cur', hn⟩ := HN2.out
                    go_roundg (n - (s + j))
                    case rel => exact ⟨s + j, ks.set e T, cur', _, m', hj, rfl, by rw [show ((s + j : Nat) : Int) = (s : Int) + (j : Int) by omega], hn, HM1.out, HM2.out⟩
                    case measure => have := HGS.out; omega
              · obtain rfl : s = n := by omega
                have hks : ks = TOT := by
                  have h := HFL.out
                  rw [List.drop_of_length_le (by rw [HTL.out]; exact Nat.le_refl _)] at h
                  rw [← h]
                  cases m <;> rfl
                subst hks
                have q0 : wr.cell? ⟨w.heap.size, 0, none⟩ = some (.int .i64 0) := hbi.res.cell 0
                have q1 : wr.cell? ⟨w.heap.size, 1, none⟩ = some (.bool false) := hbi.res.cell 1
                have q2 : wr.cell? ⟨w.heap.size, 2, none⟩ = some (.slice none 0 0) := hbi.res.cell 2
                have q3 : wr.cell? ⟨w.heap.size, 3, none⟩ = some (.slice none 0 0) := hbi.res.cell 3
                have f0 := hbi.res.frozen 0; have f1 := hbi.res.frozen 1; have f2 := hbi.res.frozen 2; have f3 := hbi.res.frozen 3; have z0 := hbi.res.lt
                have hi1 : ((i + 1 : Nat) : Int) = (i : Int) + 1 := by omega
                have HFN := Lib.hid (hbi.fin hg ((i : Int) + 1))
                have HS := Lib.hid (sets4 (k := 0) hbi.res (.int .i64 ((i : Int) + 1)) (.bool false) (.slice none 0 0) (.slice (some ⟨g, 0, none⟩) N N)).1
                have HKL := Lib.hid hbi.kl
                clear hbi hbw
                go_wp2_with fail
                refine ret_blk Tryz.results63 rfl rfl HS.out Tryz.underlying32 rfl Tryz.sizeRec ?_
                refine ⟨none, 0, some ⟨g, 0, none⟩, N, ?_, by rw [HND.out]; exact HFN.out, ?_⟩
                · rw [HND.out]
                  unfold rval
                  show _ = Ending.returned (.agg #[.int .i64 ((i : Int) + 1), .bool false, .slice none 0 0, .slice (some ⟨g, 0, none⟩) ks.length N])
                  rw [HKL.out]
                  rfl
                · exact (((HBI.out.bel.setCell (Nat.le_refl _) _).setCell (Nat.le_refl _) _).setCell (Nat.le_refl _) _).setCell (Nat.le_refl _) _
end Go.Proofs.YtkkliemgidhgmaaGreatDoor
