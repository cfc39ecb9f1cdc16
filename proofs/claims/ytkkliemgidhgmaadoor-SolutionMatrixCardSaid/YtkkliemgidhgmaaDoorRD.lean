/- Contracts of the reference's roomPoly, FewPoly. -/
import Derived.IntWalk
import Derived.Test.YtkkliemgidhgmaaDoorRC
namespace Go.Proofs.YtkkliemgidhgmaaDoor
open Go.RowKit

abbrev rval (t : RP) (A : Option Addr) (c : Nat) (K : Option Addr) (kc : Nat) : Value := .agg #[.int .i64 t.lv, .bool t.ng, .slice A t.ds.length c, .slice K t.ks.length kc]
set_option maxHeartbeats 2000000 in
set_option maxRecDepth 100000 in
theorem room_any (dg : Nat) (hdg : dg ≤ 1000) : ∀ (D : Nat) (t : RP), depT t ≤ D → ∀ (A : Option Addr) (c : Nat) (K : Option Addr) (kc B : Nat) (n : Int) (d : Nat) (w : World), B ≤ w.heap.size → RV w (· < B) t (rcell t A c K kc) → 0 ≤ n → n ≤ 1000000 → d ≤ 1000 →
    Calls Tryd.prog 20 #[rval t A c K kc, .int .i64 n, .int .i64 (d : Int), .int .i64 (dg : Int)] w fun e w' => e = .returned (.int .i64 (roomT dg t n d)) ∧ Below w.heap.size w w'
  | 0, t, hD, _, _, _, _, _, _, _, _, _, _, _, _, _ => by cases t; simp only [depT] at hD; omega
  | D + 1, t, hD, A, c, K, kc, B, n, d, w, hB, h, hn0, hn1, hd => by
    have IH := Lib.hid (room_any dg hdg D)
    have HR := Lib.hid (fun (W : World) (hW : Below w.heap.size w W) => h.below (hW.mono hB))
    have HD := Lib.hid (fun (u : RP) (hu : u ∈ t.ks) => show depT u ≤ D by have := dep_kid hu; omega)
    have HB := Lib.hid hB
    have hbx := (Below.refl w.heap.size w).alloc (Nat.le_refl _) (.cells #[.int .i64 t.lv, .bool t.ng, .slice A t.ds.length c, .slice K t.ks.length kc] 32)
    have kbx := Blk.new w 32 #[.int .i64 t.lv, .bool t.ng, .slice A t.ds.length c, .slice K t.ks.length kc]
    have HBX := Lib.hid hbx; have HKX := Lib.hid kbx
    rw [roomT_eq]
    have hm : IntKind.i64.wrap (n - 1) = n - 1 := IntWalk.i64_in _ (by omega)
    clear h hD hbx kbx hB
    by_cases h0 : d = 0
    · subst h0
      rw [if_pos rfl]
      go_enter Tryd.func20, Tryd.ntmps20
      go_wp2_with fail
      go_ret
      exact ⟨rfl, HBX.out⟩
    · rw [if_neg h0]
      have i0 : ((d : Int) == 0) = false := by simp; omega
      by_cases h1 : dg < t.ds.length
      · rw [if_pos h1]
        clear h0
        go_enter Tryd.func20, Tryd.ntmps20
        go_wp2_with fail
        go_ret
        exact ⟨rfl, HBX.out⟩
      · rw [if_neg h1]
        have h1 : t.ds.length ≤ dg := by omega
        by_cases h2 : 12 < t.ks.length
        · rw [if_pos h2]
          have i2 : (12 : Int) < (t.ks.length : Int) := by omega
          clear h0 h2
          go_enter Tryd.func20, Tryd.ntmps20
          go_wp2_with fail
          go_ret
          exact ⟨rfl, HBX.out⟩
        · rw [if_neg h2]
          have i2 : (t.ks.length : Int) ≤ 12 := by omega
          have HN := Lib.hid hn0; have HN1 := Lib.hid hn1; have H0 := Lib.hid h0
          have hd1 : (d : Int) - 1 = ((d - 1 : Nat) : Int) := by omega
          have hw1 : IntKind.i64.wrap ((d - 1 : Nat) : Int) = ((d - 1 : Nat) : Int) := IntWalk.i64_in _ (by omega)
          have HDD := Lib.hid (show d - 1 ≤ 1000 by omega)
          clear h0 h2
          generalize d - 1 = d' at *
          go_enter Tryd.func20, Tryd.ntmps20
          go_wp2_with fail
          generalize hbb : w.alloc (.cells #[.int .i64 t.lv, .bool t.ng, .slice A t.ds.length c, .slice K t.ks.length kc] 32) = w1 at *
          clear hbb
          go_loopg [1, 9, 31] t.ks.length (fun gn nv _ ix wr => ∃ k : Nat, k ≤ t.ks.length ∧ gn = t.ks.length - k ∧ ix = .int .i64 k ∧ nv = .int .i64 (roomL dg (t.ks.take k) (n - 1) d') ∧ Below w.heap.size w wr ∧ Blk wr w.heap.size 32 #[.int .i64 t.lv, .bool t.ng, .slice A t.ds.length c, .slice K t.ks.length kc])
          case atStart => exact ⟨0, Nat.zero_le _, rfl, rfl, by simp [roomL], HBX.out, HKX.out⟩
          case round =>
            obtain ⟨k, hk, hgk, rfl, rfl, hbw, hkb⟩ := hrel
            have HG := Lib.hid hgk
            clear hgk
            have hbd := roomL_bd dg (t.ks.take k) (n - 1) d' (by have := HN.out; omega)
            have HTK := Lib.hid (fun u (hu : t.ks[k]? = some u) h0 => roomL_take (dg := dg) hu (n - 1) d' h0)
            have HST := Lib.hid (fun (hk : k < t.ks.length) h0 => roomL_stop (dg := dg) hk (n - 1) d' h0)
            have HFIN := Lib.hid (show t.ks.length ≤ k → roomL dg (t.ks.take k) (n - 1) d' = roomL dg t.ks (n - 1) d' from fun h => by rw [List.take_of_length_le h])
            generalize roomL dg (t.ks.take k) (n - 1) d' = v at *
            have c0 : wr.cell? ⟨w.heap.size, 0, none⟩ = some (.int .i64 t.lv) := hkb.cell 0
            have c1 : wr.cell? ⟨w.heap.size, 1, none⟩ = some (.bool t.ng) := hkb.cell 1
            have c2 : wr.cell? ⟨w.heap.size, 2, none⟩ = some (.slice A t.ds.length c) := hkb.cell 2
            have c3 : wr.cell? ⟨w.heap.size, 3, none⟩ = some (.slice K t.ks.length kc) := hkb.cell 3
            by_cases hlt : k < t.ks.length
            · by_cases hv : v < 0
              · clear hm hd1 hw1
                go_wp2_with fail
                go_ret
                exact ⟨by rw [HST.out hlt hv]; rfl, hbw⟩
              · obtain ⟨u, hu⟩ : ∃ u, t.ks[k]? = some u := ⟨_, List.getElem?_eq_getElem hlt⟩
                have hrv := HR.out wr hbw
                obtain ⟨b, o, A', c', K', kc', rfl, hbB, e0, e1, e2, e3, hku⟩ := hrv.kid hu
                have hkc := hrv.node.2.2.2
                have HIH := Lib.hid (IH.out u (HD.out u (List.mem_of_getElem? hu)) A' c' K' kc' wr.heap.size v d' wr (Nat.le_refl _) (hku.more (Nat.le_trans HB.out hbw.size)) (by omega) (by have := HN1.out; omega) HDD.out)
                have HNX := Lib.hid (HTK.out u hu (by omega))
                have i3 : (0 : Int) ≤ (k : Int) := by omega
                have i4 : (k : Int) < (t.ks.length : Int) := by omega
                have i5 : (t.ks.length : Int) ≤ (kc : Int) := by omega
                have HBW := Lib.hid hbw; have HKB := Lib.hid hkb
                have hvn : 0 ≤ v := by omega
                clear hu hrv hku hkc hbw hkb hv
                go_wp2_with fail
                refine HIH.out.mono ?_
                rintro e w2 ⟨rfl, hb2⟩
                have HB2 := Lib.hid (HBW.out.trans (hb2.mono HBW.out.size)); have HK2 := Lib.hid (HKB.out.old hb2)
                clear hb2 HIH HBW HKB
                go_wp2_with fail
                go_roundg (t.ks.length - (k + 1))
                case rel => exact ⟨k + 1, by omega, rfl, by go_num, by rw [HNX.out], HB2.out, HK2.out⟩
                case measure => have := HG.out; omega
            · obtain rfl : k = t.ks.length := by omega
              clear hm hd1 hw1
              go_wp2_with fail
              go_ret
              exact ⟨by rw [← HFIN.out (Nat.le_refl _)]; rfl, hbw⟩
theorem FewP_any (t : RP) (A : Option Addr) (c : Nat) (K : Option Addr) (kc B n dg : Nat) (w : World) (hB : B ≤ w.heap.size) (h : RV w (· < B) t (rcell t A c K kc)) (hn : n ≤ 1000000) (hdg : dg ≤ 1000) :
    Calls Tryd.prog 10 #[rval t A c K kc, .int .i64 (n : Int), .int .i64 (dg : Int)] w fun e w' => e = .returned (.bool (decide (0 ≤ roomT dg t n 6))) ∧ Below w.heap.size w w' := by
  have hbx := (Below.refl w.heap.size w).alloc (Nat.le_refl _) (.cells #[.int .i64 t.lv, .bool t.ng, .slice A t.ds.length c, .slice K t.ks.length kc] 32)
  have HR := Lib.hid (room_any dg hdg (depT t) t (Nat.le_refl _) A c K kc B n 6 _ (Nat.le_trans hB hbx.size) (h.below (hbx.mono hB)) (by omega) (by omega) (by omega))
  have HBX := Lib.hid hbx
  clear hbx h hB
  generalize roomT dg t n 6 = r at *
  go_enter Tryd.func10, Tryd.ntmps10
  go_wp2_with fail
  refine HR.out.mono ?_
  rintro e w2 ⟨rfl, hb⟩
  go_wp2_with fail
  go_ret
  exact ⟨rfl, HBX.out.trans (hb.mono HBX.out.size)⟩
end Go.Proofs.YtkkliemgidhgmaaDoor
