/- Contract of the reference's Equal, at equal matrices. -/
import Derived.IntWalk
import Derived.Lib.QuietBelow
import Derived.Test.YtkkliemgidhgmaaGreatDoorMF
import Derived.Test.YtkkliemgidhgmaaGreatDoorRS
namespace Go.Proofs.YtkkliemgidhgmaaGreatDoor
open Go.RowKit Go.Sort

set_option maxHeartbeats 4000000 in
set_option maxRecDepth 100000 in
theorem Eql_any (X : Nat) (hX : X ≤ 100000) : ∀ (D : Nat) (t : MX), depM t ≤ D → SmM X t → ∀ (A : Option Addr) (c : Nat) (K : Option Addr) (kc : Nat) (L : Option Addr) (lc : Nat) (A' : Option Addr) (c' : Nat) (K' : Option Addr) (kc' : Nat) (L' : Option Addr) (lc' B : Nat) (w : World), B ≤ w.heap.size →
    MV w (· < B) t (mcell t A c K kc L lc) → MV w (· < B) t (mcell t A' c' K' kc' L' lc') →
    Calls Tryz.prog 10 #[.agg #[.int .i64 t.kd, .int .i64 t.rl, .int .i64 t.p.lv, .bool t.p.ng, .slice A t.p.ds.length c, .slice K t.p.ks.length kc, .slice L t.ks.length lc],
      .agg #[.int .i64 t.kd, .int .i64 t.rl, .int .i64 t.p.lv, .bool t.p.ng, .slice A' t.p.ds.length c', .slice K' t.p.ks.length kc', .slice L' t.ks.length lc']] w fun e w' => e = .returned (.bool true) ∧ Below w.heap.size w w'
  | 0, t, hD, _, _, _, _, _, _, _, _, _, _, _, _, _, _, _, _, _, _ => by cases t; simp only [depM] at hD; omega
  | D + 1, t, hD, hf, A, c, K, kc, L, lc, A', c', K', kc', L', lc', B, w, hB, h, h' => by
    have IH := Lib.hid (Eql_any X hX D)
    have HR := Lib.hid (fun (W : World) (hW : Below w.heap.size w W) => h.below (hW.mono hB))
    have HR' := Lib.hid (fun (W : World) (hW : Below w.heap.size w W) => h'.below (hW.mono hB))
    have HD := Lib.hid (fun (u : MX) (hu : u ∈ t.ks) => show depM u ≤ D by have := depM_kid hu; omega)
    have HF := Lib.hid hf.at_.2.2
    have HB := Lib.hid hB
    have hkl := hf.at_.2.1
    have HSP := Lib.hid (fun (W : World) (hW : Below w.heap.size w W) => SPoly_any X hX (depT t.p) t.p (Nat.le_refl _) hf.at_.1 A c K kc A' c' K' kc' B W (Nat.le_trans hB hW.size) (HR.out W hW).node.1 (HR'.out W hW).node.1)
    have HX := Lib.hid (boxes2 w 35 35 #[.int .i64 t.kd, .int .i64 t.rl, .int .i64 t.p.lv, .bool t.p.ng, .slice A t.p.ds.length c, .slice K t.p.ks.length kc, .slice L t.ks.length lc] #[.int .i64 t.kd, .int .i64 t.rl, .int .i64 t.p.lv, .bool t.p.ng, .slice A' t.p.ds.length c', .slice K' t.p.ks.length kc', .slice L' t.ks.length lc'])
    have hlc := h.node.2; have hlc' := h'.node.2
    unfold rval at HSP
    clear h h' hD hf hB
    generalize hnk : t.ks.length = nk at *
    have HNK := Lib.hid hnk
    clear hnk
    generalize t.p.ds.length = pd at *
    generalize t.p.ks.length = pk at *
    generalize t.p.ng = pg at *
    generalize t.p.lv = pl at *
    generalize t.kd = kd at *
    generalize t.rl = rl at *
    have e0 : (kd != kd) = false := by simp
    have e1 : (rl != rl) = false := by simp
    have e2 : ((nk : Int) != (nk : Int)) = false := by simp
    go_enter Tryz.func10, Tryz.ntmps10
    go_wp2_with fail
    obtain ⟨hb0, k0, k1, hs⟩ := HX.out
    generalize (w.alloc (.cells #[.int .i64 kd, .int .i64 rl, .int .i64 pl, .bool pg, .slice A pd c, .slice K pk kc, .slice L nk lc] 35)).alloc (.cells #[.int .i64 kd, .int .i64 rl, .int .i64 pl, .bool pg, .slice A' pd c', .slice K' pk kc', .slice L' nk lc'] 35) = W at *
    have HSI1 := Lib.hid (HSP.out W hb0)
    have HB0 := Lib.hid hb0; have HK0 := Lib.hid k0; have HK1 := Lib.hid k1
    clear HX hb0 k0 k1 hs HSP
    refine HSI1.out.mono ?_
    rintro e w2 ⟨rfl, hb2⟩
    have HB2 := Lib.hid (HB0.out.trans (hb2.mono HB0.out.size)); have HJ0 := Lib.hid (HK0.out.old hb2); have HJ1 := Lib.hid (HK1.out.old hb2)
    clear HB0 HK0 HK1 HSI1 hb2
    have c1 : w2.cell? ⟨w.heap.size, 6, none⟩ = some (.slice L nk lc) := HJ0.out.cell 6
    go_wp2_with fail
    clear c1
    go_loopg [5, 38] nk (fun gn _ ix wr => ∃ k : Nat, k ≤ nk ∧ gn = nk - k ∧ ix = .int .i64 k ∧ Below w.heap.size w wr ∧ Blk wr w.heap.size 35 #[.int .i64 kd, .int .i64 rl, .int .i64 pl, .bool pg, .slice A pd c, .slice K pk kc, .slice L nk lc] ∧ Blk wr (w.heap.size + 1) 35 #[.int .i64 kd, .int .i64 rl, .int .i64 pl, .bool pg, .slice A' pd c', .slice K' pk kc', .slice L' nk lc'])
    case atStart => exact ⟨0, Nat.zero_le _, rfl, rfl, HB2.out, HJ0.out, HJ1.out⟩
    case round =>
      clear HB2 HJ0 HJ1
      obtain ⟨k, hk, hgk, rfl, hbw, hk0, hk1⟩ := hrel
      have HG := Lib.hid hgk
      clear hgk
      have c3 : wr.cell? ⟨w.heap.size, 6, none⟩ = some (.slice L nk lc) := hk0.cell 6
      have d3 : wr.cell? ⟨w.heap.size + 1, 6, none⟩ = some (.slice L' nk lc') := hk1.cell 6
      by_cases hlt : k < nk
      · obtain ⟨u, hu⟩ : ∃ u, t.ks[k]? = some u := ⟨_, List.getElem?_eq_getElem (by rw [HNK.out]; exact hlt)⟩
        obtain ⟨b, o, A1, q1, K1, r1, L1, s1, rfl, hbB, hx, hku⟩ := (HR.out wr hbw).kid hu
        obtain ⟨b', o', A2, q2, K2, r2, L2, s2, rfl, hbB', hy, hku'⟩ := (HR'.out wr hbw).kid hu
        have hum := List.mem_of_getElem? hu
        have HC := Lib.hid (fun (d : Nat) (os : Array Obj) => Calls.regrown_of (d := d) (os := os) (IH.out u (HD.out u hum) (HF.out u hum) A1 q1 K1 r1 L1 s1 A2 q2 K2 r2 L2 s2 wr.heap.size (grow (redrawn wr d) os) (below_regrown wr d os).size ((hku.more (Nat.le_trans HB.out hbw.size)).below (below_regrown wr d os)) ((hku'.more (Nat.le_trans HB.out hbw.size)).below (below_regrown wr d os))))
        have i3 : (0 : Int) ≤ (k : Int) := by omega
        have i4 : (k : Int) < (nk : Int) := by omega
        have i5 : (nk : Int) ≤ (lc : Int) := by omega
        have i6 : (nk : Int) ≤ (lc' : Int) := by omega
        have HBW := Lib.hid hbw; have HK0 := Lib.hid hk0; have HK1 := Lib.hid hk1
        have x0 := cell_regrown (hx 0 _ rfl); have x1 := cell_regrown (hx 1 _ rfl); have x2 := cell_regrown (hx 2 _ rfl); have x3 := cell_regrown (hx 3 _ rfl); have x4 := cell_regrown (hx 4 _ rfl); have x5 := cell_regrown (hx 5 _ rfl); have x6 := cell_regrown (hx 6 _ rfl)
        have y0 := cell_regrown (hy 0 _ rfl); have y1 := cell_regrown (hy 1 _ rfl); have y2 := cell_regrown (hy 2 _ rfl); have y3 := cell_regrown (hy 3 _ rfl); have y4 := cell_regrown (hy 4 _ rfl); have y5 := cell_regrown (hy 5 _ rfl); have y6 := cell_regrown (hy 6 _ rfl)
        simp only [Nat.add_zero, ← Nat.add_assoc] at x0 x1 x2 x3 x4 x5 x6 y0 y1 y2 y3 y4 y5 y6
        clear hu hum hku hku' hbw hk0 hk1 hx hy
        generalize u.p.ds.length = ud at *
        generalize u.p.ks.length = uk at *
        generalize u.p.ng = ug at *
        generalize u.p.lv = ul at *
        generalize u.kd = ukd at *
        generalize u.rl = url at *
        generalize u.ks.length = un at *
        replace c3 := cell_regrown c3; replace d3 := cell_regrown d3
        go_wp2_with fail
        refine wp_region_quiet_below mixedP (by kernel_rfl) ?_
        repeat (go_big_quiet_step (fail))
        refine wpQuiet_step (fun K hK => ?_)
        go_simp
        apply Exists.intro
        refine ⟨fun _ => HC.out _ _, hK _ ?_⟩
        clear hK K
        repeat (go_big_quiet_step (fail))
        refine wpQuiet_nil ?_
        rintro _ ⟨⟨dq, osq⟩, rfl⟩
        have hq := below_regrown wr dq osq
        have hbz := HBW.out.trans (hq.mono HBW.out.size)
        have hz0 := HK0.out.old hq; have hz1 := HK1.out.old hq
        clear c3 d3 x0 x1 x2 x3 x4 x5 x6 y0 y1 y2 y3 y4 y5 y6 HC hq
        generalize grow (redrawn wr dq) osq = wz at *
        go_wp2_with fail
        go_roundg (nk - (k + 1))
        case rel => exact ⟨k + 1, by omega, rfl, by go_num, hbz, hz0, hz1⟩
        case measure => have := HG.out; omega
      · obtain rfl : k = nk := by omega
        have HBW := Lib.hid hbw
        clear hbw
        go_wp2_with fail
        go_ret
        exact ⟨rfl, HBW.out⟩
end Go.Proofs.YtkkliemgidhgmaaGreatDoor
