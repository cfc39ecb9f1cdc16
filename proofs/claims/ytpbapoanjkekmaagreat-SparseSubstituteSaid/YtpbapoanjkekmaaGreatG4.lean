/- Contract of gather.add: a monomial that is there. -/
import Derived.Deep.RegionHeld3
import Derived.Deep.DrawnRows
import Derived.Test.YtpbapoanjkekmaaGreatZG
namespace Go.Proofs.YtpbapoanjkekmaaGreat
open Go.RowKit
attribute [local go_sem ↓] Go.wp_at_zero Go.wp_at_succ

theorem map_set_tm (ps : List PT) (i : Nat) (q : PT) : (ps.set i q).map PT.tm = (ps.map PT.tm).set i q.tm := by rw [List.map_set]

set_option maxHeartbeats 2000000 in
set_option maxRecDepth 100000 in
theorem gadd_old (base g mb : Nat) (v : Value) (ts : List Tm) (ps : List PT) (m : Mo) (ng : Bool) (A : Option Addr) (c : Nat) (ds : List Nat) (w : World) (hG : GAt w base g mb v ps) (hI : GInv ts (ps.map PT.tm)) (hb : base ≤ w.heap.size) (hv : vld m = true) (hm : WfM m)
    (hin : NatIn w w.heap.size A c ds) (hl0 : ds.length ≤ 1000) (hlen : ps.length ≤ 100000) (hbig : nrm ts < Big) (f : Mo → Option Nat) (hf : MMap w mb ps.length f) (i : Nat) (p : PT) (hfi : f m = some i) (hp : ps[i]? = some p) (hpm : p.m = m) :
    Calls Tryz.prog 36 #[.pointer (some ⟨g, 0, none⟩), .agg (moV m), .agg #[.bool ng, .slice A ds.length c]] w (AddRes base g mb v (ts ++ [(ival ng ds, m)]) w) := by
  have hpi : p ∈ ps := List.mem_of_getElem? hp
  have hlt : i < ps.length := GAt.upd_len hp
  have hit : (ps.map PT.tm)[i]? = some (p.tm.1, m) := by simp [hp, PT.tm, hpm]
  have HI := Lib.hid (hI.upd hit (ival ng ds))
  have hpl : p.ds.length ≤ 600 := by
    rw [(hG.cn p hpi).ds]
    exact dig_len_big (Nat.lt_of_le_of_lt (hI.mem_nrm (List.mem_map.2 ⟨p, hpi, rfl⟩)) hbig)
  have hn := fun W => neg_any m W
  rw [hv] at hn
  have hlk := fun (W : World) (hW : Below w.heap.size w W) => (hf.old hW).look hm
  rw [hfi] at hlk
  simp only [Option.getD_some, Option.isSome_some] at hlk
  have ha := fun (W : World) (hW : Below w.heap.size w W) => IAdd_any p.ng ng p.A A p.c c w.heap.size p.ds ds W hW.size ((hG.nin hpi).below hW) (hin.below hW) (by omega) (by omega)
  obtain ⟨rb, cap, hve⟩ : ∃ rb cap, v = .slice (some ⟨rb, 0, none⟩) ps.length cap := by
    obtain ⟨g', cap, hv', _⟩ := hG.row.form (by omega)
    exact ⟨g', cap, hv'⟩
  have HU := Lib.hid (fun (W : World) (hW : Below w.heap.size w W) (A3 : Option Addr) (c3 : Nat) => (hG.old hW).upd hve hp (p.tm.1 + ival ng ds) A3 c3)
  have HMS := Lib.hid (map_set_tm ps i)
  have HPM := Lib.hid hpm
  obtain ⟨cur, hkr, _, hcap, hcur⟩ := own_blk (hve ▸ hG.row)
  have r0 : cur[i * 6]? = some (.bool p.ng) := hcur _ _ (flat_at ps i 0 p hp (by omega))
  have r1 : cur[i * 6 + 1]? = some (.slice p.A p.ds.length p.c) := hcur _ _ (flat_at ps i 1 p hp (by omega))
  have hgb := hG.gb
  rw [hve] at hgb
  have HVE := Lib.hid hve
  unfold AddRes
  unfold IntRes at ha
  have hze : ival p.ng p.ds + ival ng ds = p.tm.1 + ival ng ds := rfl
  rw [hze] at ha
  clear hze hcur hve hfi hpm hit hv hI hm hpi hf hp
  generalize ts ++ [(ival ng ds, m)] = ts' at *
  generalize p.tm.1 + ival ng ds = zz at *
  generalize hpn : p.ng = png at *
  generalize hpd : p.ds = pds at *
  generalize hpA : p.A = pA at *
  generalize hpc : p.c = pc at *
  generalize ps.length = pn at *
  clear hpn hpd hpA hpc
  have HA := Lib.hid ha
  have HLK := Lib.hid hlk
  have HN := Lib.hid hn
  have HKR := Lib.hid hkr; have HGB := Lib.hid hgb; have R0 := Lib.hid r0; have R1 := Lib.hid r1
  have HGA := Lib.hid hG
  clear hkr hgb r0 r1 hin hG
  have HX := Lib.hid (boxes2 w 44 31 (moV m) #[.bool ng, .slice A ds.length c])
  clear hn hlk ha
  unfold moV at *
  generalize m.1 = m0 at *
  generalize m.2.1 = m1 at *
  generalize m.2.2.1 = m2 at *
  generalize m.2.2.2 = m3 at *
  go_enter Tryz.func36, Tryz.ntmps36
  go_wp2_with fail
  generalize (w.alloc (.cells #[.int .i64 m0, .int .i64 m1, .int .i64 m2, .int .i64 m3] 44)).alloc (.cells #[.bool ng, .slice A ds.length c] 31) = W at *
  obtain ⟨hb0, k0, k1, hs⟩ := HX.out
  clear hs HX
  refine (HN.out _).mono ?_
  rintro e W1 ⟨rfl, hl⟩
  have hlb := hb0.trans (hl.below.mono hb0.size)
  have q0 := k0.old hl.below; have q1 := k1.old hl.below
  clear k0 k1 hb0 hl
  have gb1 := HGB.out.old hlb
  have kr1 := HKR.out.old hlb
  have g0 : W1.cell? ⟨g, 0, none⟩ = some (.map (some mb)) := gb1.cell 0
  have g1 : W1.cell? ⟨g, 1, none⟩ = some (.slice (some ⟨rb, 0, none⟩) pn cap) := gb1.cell 1
  have b0 : W1.cell? ⟨w.heap.size, 0, none⟩ = some (.int .i64 m0) := q0.cell 0
  have b1 : W1.cell? ⟨w.heap.size, 1, none⟩ = some (.int .i64 m1) := q0.cell 1
  have b2 : W1.cell? ⟨w.heap.size, 2, none⟩ = some (.int .i64 m2) := q0.cell 2
  have b3 : W1.cell? ⟨w.heap.size, 3, none⟩ = some (.int .i64 m3) := q0.cell 3
  have hlk1 := fun (n : Nat) => HLK.out (W1.drewN n) (hlb.trans ((Drawn.drewN _ _).below _))
  have i0 : (0 : Int) ≤ (i : Int) := by omega
  have i1 : (i : Int) < (pn : Int) := by omega
  have i2 : (pn : Int) ≤ (cap : Int) := by omega
  go_wp2_with fail
  go_quiet (fail)
  clear hlk1 b0 b1 b2 b3 g0 g1
  have hlb2 : Below w.heap.size w (W1.drewN nq) := hlb.trans ((Drawn.drewN _ _).below _)
  replace gb1 := gb1.drewN nq
  replace kr1 := kr1.drewN nq
  replace q1 := q1.drewN nq
  clear hlb q0
  generalize W1.drewN nq = W2 at *
  have g1 : W2.cell? ⟨g, 1, none⟩ = some (.slice (some ⟨rb, 0, none⟩) pn cap) := gb1.cell 1
  have c0 : W2.cell? ⟨w.heap.size + 1, 0, none⟩ = some (.bool ng) := q1.cell 0
  have c1 : W2.cell? ⟨w.heap.size + 1, 1, none⟩ = some (.slice A ds.length c) := q1.cell 1
  have e0 : W2.cell? ⟨rb, i * 6, none⟩ = some (.bool png) := (kr1.cell _).trans R0.out
  have e1 : W2.cell? ⟨rb, i * 6 + 1, none⟩ = some (.slice pA pds.length pc) := (kr1.cell _).trans R1.out
  have lg := gb1.lt; have lr := kr1.lt; have lq := q1.lt
  have hlb3 : Below w.heap.size w W2.drew := hlb2.trans ((Drawn.drew _).below _)
  go_wp2_with fail
  go_region_with ((go_at_call 40; refine (HA.out _ hlb3).mono ?_; rintro e w3 ⟨A3, c3, rfl, h3, h4, h5⟩; have kk := Blk.old (w := W2.drew) kr1 h5; have d0 := (kk.cell (i * 6)).trans R0.out; have d1 := (kk.cell (i * 6 + 1)).trans R1.out; have f0 := kk.frozen (i * 6); have f1 := kk.frozen (i * 6 + 1); have z1 := (h5.cell lg).trans g1))
  all_goals
    go_wp2_with fail
    refine bodyPost_ret (v := .tuple #[]) (results_none rfl _ _ _) rfl ?_
    have hlb4 := hlb3.trans (h5.mono hlb3.size)
    obtain ⟨u1, u2⟩ := HU.out w3 hlb4 A3 c3 h4 h3
    have hfar : FarT g v v w ((w3.setCell ⟨rb, i * 6, none⟩ (.bool (decide (zz < 0)))).setCell ⟨rb, i * 6 + 1, none⟩ (.slice A3 (dig zz.natAbs).length c3)) := fun k t cs h1 _ h3 => by
      have hne : k ≠ rb := fun e => h3 (by rw [HVE.out, e]; rfl)
      exact ⟨((h1.old hlb4).far hne _).far hne _, h3⟩
    refine ⟨rfl, v, _, u1, ?_, (GTurn.of_below hb hlb4).trans u2, hfar, ((OthT.of_below hlb4).set kk _ _).set (kk.set_ _ _) _ _⟩
    rw [HMS.out, mkP_tm, HPM.out]
    exact HI.out
end Go.Proofs.YtpbapoanjkekmaaGreat
