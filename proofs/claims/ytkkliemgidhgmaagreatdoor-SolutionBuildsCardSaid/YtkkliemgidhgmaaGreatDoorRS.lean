/- Contracts of the reference's SameInt and SamePoly, at equal trees. -/
import Derived.IntWalk
import Derived.Lib.QuietBelow
import Derived.Test.YtkkliemgidhgmaaGreatDoorRH
namespace Go.Proofs.YtkkliemgidhgmaaGreatDoor
open Go.RowKit Go.Sort

theorem mixedP : Tryz.prog.follows .mixedOrders = true := by kernel_rfl

set_option maxHeartbeats 2000000 in
set_option maxRecDepth 100000 in
theorem SInt_any (g : Bool) (ds : List Nat) (A A' : Option Addr) (c c' B : Nat) (w : World) (hB : B ≤ w.heap.size) (h : NatIn w B A c ds) (h' : NatIn w B A' c' ds) (hl : ds.length ≤ 1000000) :
    Calls Tryz.prog 43 #[.agg #[.bool g, .slice A ds.length c], .agg #[.bool g, .slice A' ds.length c']] w fun e w' => e = .returned (.bool true) ∧ Below w.heap.size w w' := by
  have HX := Lib.hid (boxes2 w 29 29 #[.bool g, .slice A ds.length c] #[.bool g, .slice A' ds.length c'])
  have HN := Lib.hid (fun (W : World) (hW : Below w.heap.size w W) => h.below (hW.mono hB))
  have HN' := Lib.hid (fun (W : World) (hW : Below w.heap.size w W) => h'.below (hW.mono hB))
  have hc : ds.length ≤ c := h.cap; have hc' : ds.length ≤ c' := h'.cap
  clear h h' hB
  generalize hnd : ds.length = nd at *
  have HND := Lib.hid hnd
  clear hnd
  have e0 : (g != g) = false := by simp
  have e1 : ((nd : Int) != (nd : Int)) = false := by simp
  go_enter Tryz.func43, Tryz.ntmps43
  go_wp2_with fail
  obtain ⟨hb0, k0, k1, hs⟩ := HX.out
  generalize (w.alloc (.cells #[.bool g, .slice A nd c] 29)).alloc (.cells #[.bool g, .slice A' nd c'] 29) = W at *
  have HB0 := Lib.hid hb0; have HK0 := Lib.hid k0; have HK1 := Lib.hid k1
  clear HX hb0 k0 k1 hs
  go_loopg [5, 23] nd (fun gn _ ix wr => ∃ k : Nat, k ≤ nd ∧ gn = nd - k ∧ ix = .int .i64 k ∧ Below w.heap.size w wr ∧ Blk wr w.heap.size 29 #[.bool g, .slice A nd c] ∧ Blk wr (w.heap.size + 1) 29 #[.bool g, .slice A' nd c'])
  case atStart => exact ⟨0, Nat.zero_le _, rfl, rfl, HB0.out, HK0.out, HK1.out⟩
  case round =>
    clear HB0 HK0 HK1
    obtain ⟨k, hk, hgk, rfl, hbw, hk0, hk1⟩ := hrel
    have HG := Lib.hid hgk
    clear hgk
    have c1 : wr.cell? ⟨w.heap.size, 1, none⟩ = some (.slice A nd c) := hk0.cell 1
    have d1 : wr.cell? ⟨w.heap.size + 1, 1, none⟩ = some (.slice A' nd c') := hk1.cell 1
    have hn := HN.out wr hbw; have hn' := HN'.out wr hbw
    by_cases hlt : k < nd
    · obtain ⟨b, o, rfl, hbB, x0⟩ := nat_at (ds := ds) hn.rd (k := k) (by rw [HND.out]; exact hlt)
      obtain ⟨b', o', rfl, hbB', x1⟩ := nat_at (ds := ds) hn'.rd (k := k) (by rw [HND.out]; exact hlt)
      have i3 : (0 : Int) ≤ (k : Int) := by omega
      have i4 : (k : Int) < (nd : Int) := by omega
      have hx := at_ltR hn.dg k
      generalize ds.getD k 0 = x at *
      have HBW := Lib.hid hbw; have HK0 := Lib.hid hk0; have HK1 := Lib.hid hk1
      clear hn hn' hbw hk0 hk1
      go_wp2_with fail
      go_quiet (fail)
      go_wp2_with fail
      go_roundg (nd - (k + 1))
      case rel => exact ⟨k + 1, by omega, rfl, by go_num, HBW.out.trans ((Drawn.drewN _ _).below _), HK0.out, HK1.out⟩
      case measure => have := HG.out; omega
    · obtain rfl : k = nd := by omega
      have HBW := Lib.hid hbw
      clear hbw
      go_wp2_with fail
      go_ret
      exact ⟨rfl, HBW.out⟩
set_option maxHeartbeats 4000000 in
set_option maxRecDepth 100000 in
theorem SPoly_any (X : Nat) (hX : X ≤ 100000) : ∀ (D : Nat) (t : RP), depT t ≤ D → SmT X t → ∀ (A : Option Addr) (c : Nat) (K : Option Addr) (kc : Nat) (A' : Option Addr) (c' : Nat) (K' : Option Addr) (kc' B : Nat) (w : World), B ≤ w.heap.size → RV w (· < B) t (rcell t A c K kc) → RV w (· < B) t (rcell t A' c' K' kc') →
    Calls Tryz.prog 23 #[rval t A c K kc, rval t A' c' K' kc'] w fun e w' => e = .returned (.bool true) ∧ Below w.heap.size w w'
  | 0, t, hD, _, _, _, _, _, _, _, _, _, _, _, _, _, _ => by cases t; simp only [depT] at hD; omega
  | D + 1, t, hD, hf, A, c, K, kc, A', c', K', kc', B, w, hB, h, h' => by
    have IH := Lib.hid (SPoly_any X hX D)
    have HR := Lib.hid (fun (W : World) (hW : Below w.heap.size w W) => h.below (hW.mono hB))
    have HR' := Lib.hid (fun (W : World) (hW : Below w.heap.size w W) => h'.below (hW.mono hB))
    have HD := Lib.hid (fun (u : RP) (hu : u ∈ t.ks) => show depT u ≤ D by have := dep_kid hu; omega)
    have HF := Lib.hid hf.at_.2.2
    have HB := Lib.hid hB
    have hdl := hf.at_.1; have hkl := hf.at_.2.1
    have HSI := Lib.hid (fun (W : World) (hW : Below w.heap.size w W) => SInt_any t.ng t.ds A A' c c' B W (Nat.le_trans hB hW.size) (HR.out W hW).natIn (HR'.out W hW).natIn (by omega))
    have hkc := h.node.2.2.2; have hkc' := h'.node.2.2.2
    have HX := Lib.hid (boxes2 w 32 32 #[.int .i64 t.lv, .bool t.ng, .slice A t.ds.length c, .slice K t.ks.length kc] #[.int .i64 t.lv, .bool t.ng, .slice A' t.ds.length c', .slice K' t.ks.length kc'])
    unfold rval at IH ⊢
    clear h h' hD hf hB
    generalize hnd : t.ds.length = nd at *
    generalize hnk : t.ks.length = nk at *
    have HND := Lib.hid hnd; have HNK := Lib.hid hnk
    clear hnd hnk
    have e0 : (t.lv != t.lv) = false := by simp
    have e1 : ((nk : Int) != (nk : Int)) = false := by simp
    go_enter Tryz.func23, Tryz.ntmps23
    go_wp2_with fail
    obtain ⟨hb0, k0, k1, hs⟩ := HX.out
    generalize (w.alloc (.cells #[.int .i64 t.lv, .bool t.ng, .slice A nd c, .slice K nk kc] 32)).alloc (.cells #[.int .i64 t.lv, .bool t.ng, .slice A' nd c', .slice K' nk kc'] 32) = W at *
    have HSI1 := Lib.hid (HSI.out W hb0)
    have HB0 := Lib.hid hb0; have HK0 := Lib.hid k0; have HK1 := Lib.hid k1
    clear HX hb0 k0 k1 hs HSI
    refine HSI1.out.mono ?_
    rintro e w2 ⟨rfl, hb2⟩
    have HB2 := Lib.hid (HB0.out.trans (hb2.mono HB0.out.size)); have HJ0 := Lib.hid (HK0.out.old hb2); have HJ1 := Lib.hid (HK1.out.old hb2)
    clear HB0 HK0 HK1 HSI1 hb2
    have c0 : w2.cell? ⟨w.heap.size, 2, none⟩ = some (.slice A nd c) := HJ0.out.cell 2
    have c1 : w2.cell? ⟨w.heap.size, 3, none⟩ = some (.slice K nk kc) := HJ0.out.cell 3
    go_wp2_with fail
    clear c0 c1
    go_loopg [5, 31] nk (fun gn _ ix wr => ∃ k : Nat, k ≤ nk ∧ gn = nk - k ∧ ix = .int .i64 k ∧ Below w.heap.size w wr ∧ Blk wr w.heap.size 32 #[.int .i64 t.lv, .bool t.ng, .slice A nd c, .slice K nk kc] ∧ Blk wr (w.heap.size + 1) 32 #[.int .i64 t.lv, .bool t.ng, .slice A' nd c', .slice K' nk kc'])
    case atStart => exact ⟨0, Nat.zero_le _, rfl, rfl, HB2.out, HJ0.out, HJ1.out⟩
    case round =>
      clear HB2 HJ0 HJ1
      obtain ⟨k, hk, hgk, rfl, hbw, hk0, hk1⟩ := hrel
      have HG := Lib.hid hgk
      clear hgk
      have c3 : wr.cell? ⟨w.heap.size, 3, none⟩ = some (.slice K nk kc) := hk0.cell 3
      have d3 : wr.cell? ⟨w.heap.size + 1, 3, none⟩ = some (.slice K' nk kc') := hk1.cell 3
      by_cases hlt : k < nk
      · obtain ⟨u, hu⟩ : ∃ u, t.ks[k]? = some u := ⟨_, List.getElem?_eq_getElem (by rw [HNK.out]; exact hlt)⟩
        obtain ⟨b, o, A1, q1, K1, r1, rfl, hbB, x0, x1, x2, x3, hku⟩ := (HR.out wr hbw).kid hu
        obtain ⟨b', o', A2, q2, K2, r2, rfl, hbB', y0, y1, y2, y3, hku'⟩ := (HR'.out wr hbw).kid hu
        have hum := List.mem_of_getElem? hu
        have HC := Lib.hid (fun (d : Nat) (os : Array Obj) => Calls.regrown_of (d := d) (os := os) (IH.out u (HD.out u hum) (HF.out u hum) A1 q1 K1 r1 A2 q2 K2 r2 wr.heap.size (grow (redrawn wr d) os) (below_regrown wr d os).size ((hku.more (Nat.le_trans HB.out hbw.size)).below (below_regrown wr d os)) ((hku'.more (Nat.le_trans HB.out hbw.size)).below (below_regrown wr d os))))
        have i3 : (0 : Int) ≤ (k : Int) := by omega
        have i4 : (k : Int) < (nk : Int) := by omega
        have i5 : (nk : Int) ≤ (kc : Int) := by omega
        have i6 : (nk : Int) ≤ (kc' : Int) := by omega
        have HBW := Lib.hid hbw; have HK0 := Lib.hid hk0; have HK1 := Lib.hid hk1
        clear hu hum hku hku' hbw hk0 hk1
        generalize u.ds.length = ud at *
        generalize u.ks.length = uk at *
        generalize u.ng = ug at *
        generalize u.lv = ul at *
        replace c3 := cell_regrown c3; replace d3 := cell_regrown d3
        replace x0 := cell_regrown x0; replace x1 := cell_regrown x1; replace x2 := cell_regrown x2; replace x3 := cell_regrown x3
        replace y0 := cell_regrown y0; replace y1 := cell_regrown y1; replace y2 := cell_regrown y2; replace y3 := cell_regrown y3
        go_wp2_with fail
        refine wp_region_quiet_below mixedP (by kernel_rfl) ?_
        repeat (go_big_quiet_step (fail))
        refine wpQuiet_step (fun K hK => ?_)
        go_simp
        apply Exists.intro
        refine ⟨fun _ => HC.out _ _, hK _ ?_⟩
        clear hK K
        repeat (go_big_quiet_step (fail))
        refine wpQuiet_nil ?_
        rintro _ ⟨⟨dq, osq⟩, rfl⟩
        have hq := below_regrown wr dq osq
        have hbz := HBW.out.trans (hq.mono HBW.out.size)
        have hz0 := HK0.out.old hq; have hz1 := HK1.out.old hq
        clear c3 d3 x0 x1 x2 x3 y0 y1 y2 y3 HC hq
        generalize grow (redrawn wr dq) osq = wz at *
        go_wp2_with fail
        go_roundg (nk - (k + 1))
        case rel => exact ⟨k + 1, by omega, rfl, by go_num, hbz, hz0, hz1⟩
        case measure => have := HG.out; omega
      · obtain rfl : k = nk := by omega
        have HBW := Lib.hid hbw
        clear hbw
        go_wp2_with fail
        go_ret
        exact ⟨rfl, HBW.out⟩
end Go.Proofs.YtkkliemgidhgmaaGreatDoor
