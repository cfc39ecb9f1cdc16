/- Contracts of the reference's Valid, CompareMono, Few, and of few. -/
import Derived.IntWalk
import Derived.Test.YtpbapoanjkekmaaGreatH5
import Derived.Test.YtpbapoanjkekmaaGreatZK
import Derived.Test.YtpbapoanjkekmaaGreatT3
namespace Go.Proofs.YtpbapoanjkekmaaGreat
open Go.RowKit

set_option maxHeartbeats 2000000 in
set_option maxRecDepth 100000 in
theorem RV_any (m : Mo) (w : World) : Calls Tryz.prog 34 #[.agg (moV m)] w fun e w' => e = .returned (.bool (vld m)) ∧ Laid w w' := by
  have hl : Laid w (w.alloc (.cells (moV m) 44)) := (Laid.refl w).alloc _
  have k0 := Blk.new w 44 (moV m)
  have HB := Lib.hid (fun (k : Nat) => @vld_bad m k)
  have HO := Lib.hid (fun (k : Nat) => @vldTo_ok m k)
  have HF := Lib.hid (vldTo_four m)
  generalize vld m = v at *
  go_enter Tryz.func34, Tryz.ntmps34
  go_wp2
  generalize w.alloc (.cells (moV m) 44) = W at *
  go_loopg [3] 4 (fun gn i wr => ∃ (k : Nat), k ≤ 4 ∧ gn = 4 - k ∧ i = .int .i64 k ∧ vldTo m k = true ∧ W = wr)
  case atStart => exact ⟨0, by omega, rfl, rfl, rfl, rfl⟩
  case round =>
    obtain ⟨k, hk, hgk, rfl, hv, rfl⟩ := hrel
    have HG := Lib.hid hgk; clear hgk
    have HV := Lib.hid hv; clear hv
    by_cases hlt : k < 4
    · have ck : W.cell? ⟨w.heap.size, k, none⟩ = some (.int .i64 (gt m k)) := (k0.cell k).trans (moV_at m hlt)
      have i0 : (0 : Int) ≤ (k : Int) := by omega
      have i1 : (k : Int) < 4 := by omega
      by_cases hx : gt m k < 0
      · have HE := Lib.hid (HB.out k hlt hx)
        generalize gt m k = x at *
        clear HO HB
        go_wp2
        go_ret
        exact ⟨by rw [HE.out]; rfl, hl⟩
      · have HE := Lib.hid (HO.out k HV.out (by omega))
        generalize gt m k = x at *
        clear HO HB
        go_wp2
        go_roundg (4 - (k + 1))
        case rel => exact ⟨k + 1, by omega, rfl, by go_num, HE.out, rfl⟩
        case measure => have := HG.out; omega
    · obtain rfl : k = 4 := by omega
      clear HO HB
      go_wp2
      go_ret
      exact ⟨by rw [← HF.out, HV.out]; rfl, hl⟩

set_option maxHeartbeats 2000000 in
set_option maxRecDepth 100000 in
theorem RC_any (a b : Mo) (w : World) : Calls Tryz.prog 48 #[.agg (moV a), .agg (moV b)] w fun e w' => e = .returned (.int .i64 (cmpM a b)) ∧ Laid w w' := by
  obtain ⟨hb0, k0, k1, hs⟩ := boxes2 w 44 44 (moV a) (moV b)
  have hl : Laid w ((w.alloc (.cells (moV a) 44)).alloc (.cells (moV b) 44)) := ((Laid.refl w).alloc _).alloc _
  have HC := Lib.hid (cmpTo_four a b)
  clear hs
  generalize cmpM a b = r at *
  go_enter Tryz.func48, Tryz.ntmps48
  go_wp2
  generalize (w.alloc (.cells (moV a) 44)).alloc (.cells (moV b) 44) = W at *
  go_loopg [5] 4 (fun gn i wr => ∃ (k : Nat), k ≤ 4 ∧ gn = k ∧ i = .int .i64 ((k : Int) - 1) ∧ cmpTo a b k = r ∧ Drawn W wr)
  case atStart => exact ⟨4, Nat.le_refl _, rfl, rfl, HC.out, Drawn.refl _⟩
  case round =>
    obtain ⟨k, hk, hgk, rfl, hr, hd⟩ := hrel
    have HG := Lib.hid hgk; clear hgk
    have HR := Lib.hid hr; clear hr
    by_cases h0 : 0 < k
    · obtain ⟨j, rfl⟩ : ∃ j, k = j + 1 := ⟨k - 1, by omega⟩
      have c0 : wr.cell? ⟨w.heap.size, j, none⟩ = some (.int .i64 (gt a j)) := ((k0.drawn hd).cell j).trans (moV_at a (by omega))
      have c1 : wr.cell? ⟨w.heap.size + 1, j, none⟩ = some (.int .i64 (gt b j)) := ((k1.drawn hd).cell j).trans (moV_at b (by omega))
      have hkk : ((j + 1 : Nat) : Int) - 1 = (j : Int) := by omega
      rw [hkk]
      have i0 : (0 : Int) ≤ (j : Int) := by omega
      have i1 : (j : Int) < 4 := by omega
      rcases Int.lt_trichotomy (gt a j) (gt b j) with h | h | h
      · have hz : cmpI (gt a j) (gt b j) = -1 := by simp [cmpI, h]
        have HR' := Lib.hid ((cmpTo_ne (by rw [hz]; decide)).symm.trans HR.out)
        rw [hz] at HR'
        have h' : ¬ gt b j < gt a j := by omega
        clear hz hkk HR
        generalize gt a j = x at *
        generalize gt b j = y at *
        go_wp2
        go_quiet (fail)
        go_wp2
        have c0' : (wr.drewN nq).cell? ⟨w.heap.size, j, none⟩ = some (.int .i64 x) := c0
        have c1' : (wr.drewN nq).cell? ⟨w.heap.size + 1, j, none⟩ = some (.int .i64 y) := c1
        have hd' : Drawn W (wr.drewN nq) := hd.trans (.drewN _ _)
        clear c0 c1 hd
        generalize wr.drewN nq = w3 at *
        go_quiet (fail)
        go_wp2
        go_ret
        exact ⟨by rw [← HR'.out]; rfl, (hl.drawn hd').drewN _⟩
      · have hz : cmpI (gt a j) (gt b j) = 0 := by simp [cmpI, h]
        have HR' := Lib.hid ((cmpTo_eq hz).symm.trans HR.out)
        have h1 : ¬ gt b j < gt a j := by omega
        have h2 : ¬ gt a j < gt b j := by omega
        clear hz hkk HR h
        generalize gt a j = x at *
        generalize gt b j = y at *
        go_wp2
        go_quiet (fail)
        go_wp2
        have c0' : (wr.drewN nq).cell? ⟨w.heap.size, j, none⟩ = some (.int .i64 x) := c0
        have c1' : (wr.drewN nq).cell? ⟨w.heap.size + 1, j, none⟩ = some (.int .i64 y) := c1
        have hd' : Drawn W (wr.drewN nq) := hd.trans (.drewN _ _)
        clear c0 c1 hd
        generalize wr.drewN nq = w3 at *
        go_quiet (fail)
        go_wp2
        go_roundg j
        case rel => exact ⟨j, by omega, rfl, rfl, HR'.out, hd'.trans (.drewN _ _)⟩
        case measure => have := HG.out; omega
      · have hz : cmpI (gt a j) (gt b j) = 1 := by have : ¬ gt a j < gt b j := by omega
                                                   simp [cmpI, h, this]
        have HR' := Lib.hid ((cmpTo_ne (by rw [hz]; decide)).symm.trans HR.out)
        rw [hz] at HR'
        clear hz hkk HR
        generalize gt a j = x at *
        generalize gt b j = y at *
        go_wp2
        go_quiet (fail)
        go_wp2
        go_ret
        exact ⟨by rw [← HR'.out]; rfl, (hl.drawn hd).drewN _⟩
    · obtain rfl : k = 0 := by omega
      go_wp2
      go_ret
      exact ⟨by rw [← HR.out]; rfl, hl.drawn hd⟩

/-- few digits, exponents neither great nor very negative -/
def fewP (d : Nat) (M : Int) (p : PT) : Prop := p.ds.length ≤ d ∧ ∀ j, j < 4 → -1000 ≤ gt p.m j ∧ gt p.m j ≤ M
def FewRes (t d : Nat) (M : Int) (ps : List PT) (w : World) (e : Ending) (w' : World) : Prop := ∃ b : Bool, e = .returned (.bool b) ∧ (b = true → ps.length ≤ t ∧ ∀ p ∈ ps, fewP d M p) ∧ w = w'
set_option maxHeartbeats 4000000 in
set_option maxRecDepth 100000 in
theorem Few_any (A : Option Addr) (c B t d : Nat) (M : Int) (ps : List PT) (w : World) (h : PolyIn w B A ps) (ht : t ≤ 1000) : Calls Tryz.prog 24 #[.slice A ps.length c, .int .i64 (t : Int), .int .i64 (d : Int), .int .i64 M] w (FewRes t d M ps w) := by
  have H := Lib.hid h
  clear h
  generalize hpn : ps.length = pn at *
  have HP := Lib.hid hpn
  clear hpn
  by_cases hlen : pn ≤ t
  · go_enter Tryz.func24, Tryz.ntmps24
    have hl1 : ¬ (t : Int) < (pn : Int) := by omega
    go_wp2_with fail
    go_loopg [9, 10] pn (fun gn ix _ wr => ∃ (k : Nat), k ≤ pn ∧ gn = pn - k ∧ ix = .int .i64 k ∧ (∀ p ∈ ps.take k, fewP d M p) ∧ w = wr)
    case atStart => exact ⟨0, by omega, rfl, rfl, fun p hp => by simp at hp, rfl⟩
    case round =>
      obtain ⟨k, hk, hgk, rfl, hf, rfl⟩ := hrel
      have HG := Lib.hid hgk; have HF := Lib.hid hf
      clear hgk hf
      by_cases hlt : k < pn
      · obtain ⟨p, hp⟩ : ∃ p, ps[k]? = some p := ⟨_, List.getElem?_eq_getElem (by have := HP.out; omega)⟩
        obtain ⟨b, o, rfl, hbb, d0, d1, d2, d3, d4, d5⟩ := H.out.at_ hp
        have i1 : (k : Int) < (pn : Int) := by omega
        have i0 : (0 : Int) ≤ (k : Int) := by omega
        have dj : ∀ j, j < 4 → w.cell? ⟨b, o + k * 6 + 2 + j, none⟩ = some (.int .i64 (gt p.m j)) := fun j hj => by
          rcases (by omega : j = 0 ∨ j = 1 ∨ j = 2 ∨ j = 3) with rfl | rfl | rfl | rfl
          · exact d2
          · exact d3
          · exact d4
          · exact d5
        have DJ := Lib.hid dj
        have HTK := Lib.hid (show ∀ q ∈ ps.take (k + 1), q ∈ ps.take k ∨ q = p by
          intro q hq
          rw [List.take_succ_eq_append_getElem (by have := HP.out; omega)] at hq
          rcases List.mem_append.1 hq with x | x
          · exact .inl x
          · simp at x
            exact .inr (x.trans (List.getElem?_eq_some_iff.1 hp).2))
        clear d0 d2 d3 d4 d5 dj hp
        by_cases hdl : p.ds.length ≤ d
        · have hd1 : ¬ (d : Int) < (p.ds.length : Int) := by omega
          go_wp2_with fail
          go_loopg [10] 4 (fun gn jx wr => ∃ (j : Nat), j ≤ 4 ∧ gn = 4 - j ∧ jx = .int .i64 j ∧ (∀ i, i < j → -1000 ≤ gt p.m i ∧ gt p.m i ≤ M) ∧ w = wr)
          case atStart => exact ⟨0, by omega, rfl, rfl, fun i hi => by omega, rfl⟩
          case round =>
            obtain ⟨j, hj, hgj, rfl, hfj, rfl⟩ := hrel
            have HGJ := Lib.hid hgj; have HFJ := Lib.hid hfj
            clear hgj hfj
            by_cases hlt2 : j < 4
            · have cj := DJ.out j hlt2
              have j0 : (0 : Int) ≤ (j : Int) := by omega
              have j1 : (j : Int) < 4 := by omega
              have HJN := Lib.hid (fun (h1 : -1000 ≤ gt p.m j) (h2 : gt p.m j ≤ M) => show ∀ i, i < j + 1 → -1000 ≤ gt p.m i ∧ gt p.m i ≤ M from fun i hi => by
                by_cases e : i = j
                · subst e; exact ⟨h1, h2⟩
                · exact HFJ.out i (by omega))
              generalize gt p.m j = x at *
              by_cases hx1 : M < x
              · go_wp2_with fail
                go_ret
                exact ⟨false, rfl, fun h => (by cases h), rfl⟩
              · by_cases hx2 : x < -1000
                · go_wp2_with fail
                  go_ret
                  exact ⟨false, rfl, fun h => (by cases h), rfl⟩
                · have HJ2 := Lib.hid (HJN.out (by omega) (by omega))
                  go_wp2_with fail
                  go_roundg (4 - (j + 1))
                  case rel => exact ⟨j + 1, by omega, rfl, by go_num, HJ2.out, rfl⟩
                  case measure => have := HGJ.out; omega
            · obtain rfl : j = 4 := by omega
              have HNX := Lib.hid (show ∀ q ∈ ps.take (k + 1), fewP d M q from fun q hq => (HTK.out q hq).elim (fun x => HF.out q x) (fun x => by rw [x]; exact ⟨hdl, HFJ.out⟩))
              go_wp2_with fail
              go_roundg (pn - (k + 1))
              case rel => exact ⟨k + 1, by omega, rfl, by go_num, HNX.out, rfl⟩
              case measure => have := HG.out; omega
        · have hd1 : (d : Int) < (p.ds.length : Int) := by omega
          go_wp2_with fail
          go_ret
          exact ⟨false, rfl, fun h => (by cases h), rfl⟩
      · obtain rfl : k = pn := by omega
        go_wp2_with fail
        go_ret
        refine ⟨true, rfl, fun _ => ⟨by rw [HP.out]; exact hlen, fun p hp => HF.out p ?_⟩, rfl⟩
        rw [← HP.out, List.take_length]
        exact hp
  · go_enter Tryz.func24, Tryz.ntmps24
    have hl1 : (t : Int) < (pn : Int) := by omega
    go_wp2_with fail
    go_ret
    exact ⟨false, rfl, fun h => (by cases h), rfl⟩
theorem few_any (A : Option Addr) (c B : Nat) (ps : List PT) (w : World) (h : PolyIn w B A ps) : Calls Tryz.prog 7 #[.slice A ps.length c] w (FewRes 8 6 9 ps w) := by
  have HF := Lib.hid (Few_any A c B 8 6 9 ps w h (by omega))
  clear h
  go_enter Tryz.func7, Tryz.ntmps7
  go_wp2_with fail
  refine HF.out.mono ?_
  rintro e w1 ⟨b, rfl, h1, rfl⟩
  go_wp2_with fail
  go_ret
  exact ⟨b, rfl, h1, rfl⟩
end Go.Proofs.YtpbapoanjkekmaaGreat

/- Contract of the reference's Canonical at canonical polynomials. -/
namespace Go.Proofs.YtpbapoanjkekmaaGreat
open Go.RowKit
attribute [local go_sem ↓] Go.wp_at_zero Go.wp_at_succ

theorem dig_last (v : Nat) (hv : v ≠ 0) : (dig v).getD ((dig v).length - 1) 0 ≠ 0 := by
  induction v using Nat.strongRecOn with
  | _ v ih =>
    rw [dig_pos hv]
    by_cases h : v / 4294967296 = 0
    · rw [h, dig_zero]
      simp
      omega
    · have hl : 0 < (dig (v / 4294967296)).length := dig_len_pos.2 (by omega)
      have e : (v % 4294967296 :: dig (v / 4294967296)).length - 1 = ((dig (v / 4294967296)).length - 1) + 1 := by simp; omega
      rw [e, List.getD_cons_succ]
      exact ih _ (by omega) h
theorem Canon.lt_at {ps : List PT} (h : Canon (ps.map PT.tm)) {i j : Nat} {p q : PT} (hp : ps[i]? = some p) (hq : ps[j]? = some q) (hij : i < j) : ltM q.m p.m := by
  have h1 := List.pairwise_iff_getElem.1 h.so i j (by simp; exact (List.getElem?_eq_some_iff.1 hp).1) (by simp; exact (List.getElem?_eq_some_iff.1 hq).1) hij
  simp only [List.getElem_map] at h1
  rw [(List.getElem?_eq_some_iff.1 hp).2, (List.getElem?_eq_some_iff.1 hq).2] at h1
  exact h1

set_option maxHeartbeats 4000000 in
set_option maxRecDepth 100000 in
theorem Can_any (A : Option Addr) (c B : Nat) (ps : List PT) (w : World) (hB : B ≤ w.heap.size) (h : PolyIn w B A ps) (hc : Canon (ps.map PT.tm)) (hn : ∀ p ∈ ps, Cn p) (hlen : ps.length ≤ 100000) (hdl : ∀ p ∈ ps, p.ds.length ≤ 1000) :
    Calls Tryz.prog 23 #[.slice A ps.length c] w fun e w' => e = .returned (.bool true) ∧ Below w.heap.size w w' := by
  have H := Lib.hid h; have HC := Lib.hid hc; have HN := Lib.hid hn; have HD := Lib.hid hdl
  clear h hc hn hdl
  generalize hpn : ps.length = pn at *
  have HP := Lib.hid hpn
  clear hpn
  go_enter Tryz.func23, Tryz.ntmps23
  go_wp2_with fail
  go_loopg [3, 4, 5] pn (fun gn ix _ _ wr => ∃ (k : Nat), k ≤ pn ∧ gn = pn - k ∧ ix = .int .i64 k ∧ Below w.heap.size w wr)
  case atStart => exact ⟨0, by omega, rfl, rfl, Below.refl _ _⟩
  case round =>
    obtain ⟨k, hk, hgk, rfl, hbl⟩ := hrel
    have HG := Lib.hid hgk; clear hgk
    by_cases hlt : k < pn
    · obtain ⟨p, hp⟩ : ∃ p, ps[k]? = some p := ⟨_, List.getElem?_eq_getElem (by have := HP.out; omega)⟩
      have hpm := List.mem_of_getElem? hp
      have hin := H.out.below (hbl.mono hB)
      obtain ⟨b, o, hA, hbb, d0, d1, d2, d3, d4, d5⟩ := hin.at_ hp
      subst hA
      have i1 : (k : Int) < (pn : Int) := by omega
      have i0 : (0 : Int) ≤ (k : Int) := by omega
      have hsz := hbl.size
      have hb1 : b < wr.heap.size := by omega
      have hz : p.tm.1 ≠ 0 := HC.out.ne p.tm (List.mem_map.2 ⟨p, hpm, rfl⟩)
      have hv : vld p.m = true := HC.out.vl p.tm (List.mem_map.2 ⟨p, hpm, rfl⟩)
      have hds := (HN.out p hpm).ds
      have hlast := dig_last p.tm.1.natAbs (by omega)
      rw [← hds] at hlast
      have hpos : 0 < p.ds.length := by rw [hds]; exact dig_len_pos.2 (by omega)
      have hle := HD.out p hpm
      obtain ⟨n, hn⟩ : ∃ n, p.ds.length = n + 1 := ⟨p.ds.length - 1, by omega⟩
      have hnin := hin.nt p hpm
      obtain ⟨b2, o2, hA2, hbb2, c2⟩ := nat_at hnin.rd (k := n) (by omega)
      have hlast' : p.ds.getD n 0 ≠ 0 := by rw [hn] at hlast; exact hlast
      have hb2 : b2 < wr.heap.size := by omega
      have HV := Lib.hid (fun W => RV_any p.m W)
      rw [hv] at HV
      unfold moV at HV
      have HX := Lib.hid (Blk.new wr 31 #[.bool p.ng, .slice p.A p.ds.length p.c])
      have hbx := (Below.refl wr.heap.size wr).alloc (Nat.le_refl _) (.cells #[.bool p.ng, .slice p.A p.ds.length p.c] 31)
      have HBX := Lib.hid hbx
      rw [hn, hA2] at d1 HX HBX
      have HPK := Lib.hid hp
      have HH := Lib.hid hin
      generalize p.ds.getD n 0 = dg at *
      have hdg : (((dg : Nat) : Int) == 0) = false := by simpa using hlast'
      have n0 : (n : Int) + 1 - 1 = (n : Int) := by omega
      have hn1 : ((n : Int) + 1 == 0) = false := by simp; omega
      have hnb : (n : Int) ≤ 1000 := by omega
      clear hz hv hds hlast hpos hle hnin hlast' hin hp hpm hbx
      go_wp2_with fail
      refine (HV.out _).mono ?_
      rintro e w1 ⟨rfl, hl1⟩
      have hbx := HBX.out
      have hb3 : Below wr.heap.size wr w1 := hbx.trans (hl1.below.mono hbx.size)
      have kx := HX.out.old hl1.below
      have x1 : w1.cell? ⟨wr.heap.size, 1, none⟩ = some (.slice (some ⟨b2, o2, none⟩) (n + 1) p.c) := kx.cell 1
      have x2 := (hb3.cell (p := ⟨b2, o2 + n, none⟩) hb2).trans c2
      have hbw1 := hbl.trans (hb3.mono hsz)
      have y2 := (hb3.cell (p := ⟨b, o + k * 6 + 2, none⟩) hb1).trans d2
      have y3 := (hb3.cell (p := ⟨b, o + k * 6 + 3, none⟩) hb1).trans d3
      have y4 := (hb3.cell (p := ⟨b, o + k * 6 + 4, none⟩) hb1).trans d4
      have y5 := (hb3.cell (p := ⟨b, o + k * 6 + 5, none⟩) hb1).trans d5
      clear d0 d1 d2 d3 d4 d5 c2 HX HBX hbx kx hl1 HV
      have j0 : (0 : Int) ≤ (n : Int) := by omega
      have j1 : (n : Int) < (n : Int) + 1 := by omega
      by_cases hk0 : k = 0
      · subst hk0
        go_wp2_with fail
        go_quiet (fail)
        go_wp2_with fail
        go_roundg (pn - 1)
        case rel => exact ⟨1, by omega, rfl, rfl, hbw1.trans ((Drawn.drewN _ _).below _)⟩
        case measure => have := HG.out; omega
      · obtain ⟨j, rfl⟩ : ∃ j, k = j + 1 := ⟨k - 1, by omega⟩
        obtain ⟨q, hq⟩ : ∃ q, ps[j]? = some q := ⟨_, List.getElem?_eq_getElem (by have := HP.out; omega)⟩
        obtain ⟨b', o', hA', _, _, _, f2, f3, f4, f5⟩ := HH.out.at_ hq
        injection hA' with hA'
        injection hA' with e1 e2
        subst e1; subst e2
        have hlt' := HC.out.lt_at hq HPK.out (Nat.lt_succ_self j)
        have hcm : ¬ cmpM q.m p.m ≤ 0 := by
          rw [cmpM_neg p.m q.m]
          have := cmpM_lt.2 hlt'
          omega
        have HRC := Lib.hid (fun W => RC_any q.m p.m W)
        unfold moV at HRC
        generalize cmpM q.m p.m = cm at *
        have z2 := (hb3.cell (p := ⟨b, o + j * 6 + 2, none⟩) hb1).trans f2
        have z3 := (hb3.cell (p := ⟨b, o + j * 6 + 3, none⟩) hb1).trans f3
        have z4 := (hb3.cell (p := ⟨b, o + j * 6 + 4, none⟩) hb1).trans f4
        have z5 := (hb3.cell (p := ⟨b, o + j * 6 + 5, none⟩) hb1).trans f5
        clear f2 f3 f4 f5 hq hlt' HPK HH
        generalize p.m.1 = p0 at *
        generalize p.m.2.1 = p1 at *
        generalize p.m.2.2.1 = p2 at *
        generalize p.m.2.2.2 = p3 at *
        generalize q.m.1 = q0 at *
        generalize q.m.2.1 = q1 at *
        generalize q.m.2.2.1 = q2 at *
        generalize q.m.2.2.2 = q3 at *
        have lb1 : b < w1.heap.size := Nat.lt_of_lt_of_le hb1 hb3.size
        have m1 : ((j + 1 : Nat) : Int) - 1 = (j : Int) := by omega
        have m2 : (0 : Int) < ((j + 1 : Nat) : Int) := by omega
        have m3 : (j : Int) < (pn : Int) := by omega
        have m4 : (0 : Int) ≤ (j : Int) := by omega
        go_wp2_with fail
        have hw2 : decide ((0 : Int) < (j : Int) + 1) = true := by simp
        have hw3 : (0 : Int) ≤ (j : Int) + 1 := by omega
        have hw4 : (j : Int) + 1 < (pn : Int) := by omega
        have hw5 : ((j : Int) + 1).toNat = j + 1 := by omega
        have hw1 : IntKind.i64.wrap (j : Int) = (j : Int) := IntWalk.i64_in _ (by omega)
        go_region_held3 (fun w' => w'.cell? ⟨b, o + j * 6 + 2, none⟩ = some (.int .i64 q0) ∧ w'.cell? ⟨b, o + j * 6 + 3, none⟩ = some (.int .i64 q1) ∧ w'.cell? ⟨b, o + j * 6 + 4, none⟩ = some (.int .i64 q2) ∧ w'.cell? ⟨b, o + j * 6 + 5, none⟩ = some (.int .i64 q3) ∧ w'.cell? ⟨b, o + (j + 1) * 6 + 2, none⟩ = some (.int .i64 p0) ∧ w'.cell? ⟨b, o + (j + 1) * 6 + 3, none⟩ = some (.int .i64 p1) ∧ w'.cell? ⟨b, o + (j + 1) * 6 + 4, none⟩ = some (.int .i64 p2) ∧ w'.cell? ⟨b, o + (j + 1) * 6 + 5, none⟩ = some (.int .i64 p3))
          (first | exact ⟨z2, z3, z4, z5, y2, y3, y4, y5⟩ | exact ⟨(hb4.cell lb1).trans z2, (hb4.cell lb1).trans z3, (hb4.cell lb1).trans z4, (hb4.cell lb1).trans z5, (hb4.cell lb1).trans y2, (hb4.cell lb1).trans y3, (hb4.cell lb1).trans y4, (hb4.cell lb1).trans y5⟩)
          (first | (go_at_call 48; refine (HRC.out _).mono ?_; rintro e w2 ⟨rfl, hl2⟩; have hb4 := hl2.below))
        clear hw1 hw2 hw3 hw4 hw5 z2 z3 z4 z5 y2 y3 y4 y5 x1 x2
        have hbe := hbw1.trans ((((Drawn.drew w1).below _).trans hb4).mono hbw1.size)
        go_wp2_with fail
        go_roundg (pn - (j + 1 + 1))
        case rel => exact ⟨j + 1 + 1, by omega, rfl, by go_num, hbe⟩
        case measure => have := HG.out; omega
    · obtain rfl : k = pn := by omega
      go_wp2_with fail
      go_ret
      exact ⟨rfl, hbl⟩
end Go.Proofs.YtpbapoanjkekmaaGreat

/- Contract of the reference's Coef. -/
namespace Go.Proofs.YtpbapoanjkekmaaGreat
open Go.RowKit
attribute [local go_sem ↓] Go.wp_at_zero Go.wp_at_succ

theorem cf_take {ps : List PT} {k : Nat} {p : PT} (hp : ps[k]? = some p) {m : Mo} (hv : vld m = true) : cf ((ps.take (k + 1)).map PT.tm) m = cf ((ps.take k).map PT.tm) m + if p.m = m then p.tm.1 else 0 := by
  rw [take_snoc_tm hp, cf_append, cf_cons, cf_nil]
  by_cases e : p.m = m
  · subst e; rw [if_pos ⟨hv, rfl⟩, if_pos rfl]; omega
  · rw [if_neg (fun h => e h.2), if_neg e]; omega
theorem cf_invalid (l : List Tm) {m : Mo} (hv : vld m = false) : cf l m = 0 := by
  induction l with
  | nil => rfl
  | cons t l ih =>
    rw [cf_cons, ih, if_neg]
    · rfl
    · rintro ⟨h1, rfl⟩
      rw [hv] at h1
      cases h1

end Go.Proofs.YtpbapoanjkekmaaGreat

/- Contract of fit: the fixed example holds. -/
namespace Go.Proofs.YtpbapoanjkekmaaGreat
open Go.RowKit
attribute [local go_sem ↓] Go.wp_at_zero Go.wp_at_succ

def fitL : List Tm := [(1, (0, 2, 0, 0)), (2, (1, 1, 0, 0)), (1, (2, 0, 0, 0))]
def fitX : List Tm := [(1, (1, 0, 0, 0)), (1, (0, 1, 0, 0))]
theorem fit_can : Canon fitL := by
  refine ⟨by decide, by decide, ?_⟩
  unfold fitL
  simp [ltM]
theorem fit_cf (m : Mo) : cf fitL m = mulC fitX fitX m := by
  unfold cf mulC mulW fitL fitX
  simp only [lin, addM]
  by_cases h1 : ((0, 2, 0, 0) : Mo) = m
  · subst h1; decide
  · by_cases h2 : ((1, 1, 0, 0) : Mo) = m
    · subst h2; decide
    · by_cases h3 : ((2, 0, 0, 0) : Mo) = m
      · subst h3; decide
      · simp [h1, h2, h3]
theorem fit_lv : lvL fitL = 2 := by decide
theorem fit_sum (m : Mo) : cf [(1, (1, 0, 0, 0))] m + cf [(1, (0, 1, 0, 0))] m = cf fitX m := by
  rw [show fitX = [(1, (1, 0, 0, 0))] ++ [(1, (0, 1, 0, 0))] from rfl, cf_append]
theorem fit_qs {qs : List PT} (h : qs.map PT.tm = fitL) : ∃ q0 q1 q2, qs = [q0, q1, q2] ∧ q0.m = (0, 2, 0, 0) ∧ q1.m = (1, 1, 0, 0) ∧ q2.m = (2, 0, 0, 0) ∧ q1.tm.1 = 2 := by
  unfold fitL at h
  rcases qs with _ | ⟨q0, _ | ⟨q1, _ | ⟨q2, _ | ⟨q3, l⟩⟩⟩⟩
  · simp at h
  · simp at h
  · simp at h
  · simp [PT.tm] at h
    exact ⟨q0, q1, q2, rfl, h.1.2, h.2.1.2, h.2.2.2, h.2.1.1⟩
  · simp at h

set_option maxHeartbeats 4000000 in
set_option maxRecDepth 100000 in
theorem fit_any (w : World) : Calls Tryz.prog 6 #[] w fun e w' => e = .returned (.bool true) ∧ Below w.heap.size w w' := by
  have HV1 := Lib.hid (Var_1 w); have HV2 := Lib.hid (fun W => Var_2 W)
  go_enter Tryz.func6, Tryz.ntmps6
  go_wp2_with fail
  refine HV1.out.mono ?_
  rintro e w1 ⟨A1, c1, p1, rfl, hg1, hb1⟩
  have HG1 := Lib.hid hg1; clear hg1
  go_wp2_with fail
  refine (HV2.out _).mono ?_
  rintro e w2 ⟨A2, c2, p2, rfl, hg2, hb2⟩
  have i1 := (HG1.out.pin (by omega) (pw_one (k := 600) (by decide))).old hb2
  have i2 := hg2.pin (by omega) (pw_one (k := 600) (by decide))
  have h3 : 1 + 1 < Big := Nat.lt_of_le_of_lt (by decide : 1 + 1 ≤ pw 1) (pw_lt (show 1 < 600 by decide))
  have HA := Lib.hid (SAdd_any A1 A2 c1 c2 w2.heap.size 1 1 1 1 1 p1 p2 w2 (Nat.le_refl _) i1 i2 (by omega) h3)
  have HG2 := Lib.hid hg2
  clear hg2 i1 i2
  go_wp2_with fail
  refine HA.out.mono ?_
  rintro e w3 ⟨A3, c3, p3, rfl, hg3, hb3⟩
  have i3 := hg3.pin (by omega) h3
  have h4 : 1 + 1 < pw 47 := Nat.lt_of_le_of_lt (by decide : 1 + 1 ≤ pw 1) (pw_lt (show 1 < 47 by decide))
  have h5 : (1 + 1) * (1 + 1) < Big := Nat.lt_of_le_of_lt (by decide : (1 + 1) * (1 + 1) ≤ pw 1) (pw_lt (show 1 < 600 by decide))
  have HPW := Lib.hid (Pow_two A3 c3 w3.heap.size (1 + 1) 1 (1 + 1) p3 w3 (Nat.le_refl _) i3 (by omega) (by omega) (by omega) h4 h5)
  have HF3 := Lib.hid (fun m => show cf (p3.map PT.tm) m = cf fitX m by rw [hg3.cf, HG1.out.cf, HG2.out.cf, fit_sum])
  clear hg3 i3 HA HV1 HV2
  go_wp2_with fail
  refine HPW.out.mono ?_
  rintro e w4 ⟨A4, c4, p4, rfl, hg4, hb4⟩
  have hbw : Below w.heap.size w w4 := ((hb1.trans (hb2.mono hb1.size)).trans (hb3.mono (Nat.le_trans hb1.size hb2.size))).trans (hb4.mono (Nat.le_trans (Nat.le_trans hb1.size hb2.size) hb3.size))
  have hq : p4.map PT.tm = fitL := hg4.can.unique fit_can fun m => by rw [hg4.cf, fit_cf]; exact mulC_ext HF3.out HF3.out m
  have i4 := hg4.pin (by omega) h5
  obtain ⟨q0, q1, q2, rfl, e0, e1, e2, e3⟩ := fit_qs hq
  obtain ⟨b, o, hA, hbb, a0, a1, a2, a3, a4, a5⟩ := i4.pin.at_ (k := 0) (p := q0) rfl
  obtain ⟨b', o', hA', _, b0, b1, b2, b3, b4, b5⟩ := i4.pin.at_ (k := 1) (p := q1) rfl
  obtain ⟨b'', o'', hA'', _, f0, f1, f2, f3, f4, f5⟩ := i4.pin.at_ (k := 2) (p := q2) rfl
  subst hA
  injection hA' with hA'
  injection hA' with x1 x2
  subst x1; subst x2
  injection hA'' with hA''
  injection hA'' with x1 x2
  subst x1; subst x2
  rw [e0] at a2 a3 a4 a5
  rw [e1] at b2 b3 b4 b5
  rw [e2] at f2 f3 f4 f5
  have n1 := i4.pin.nt q1 (by simp)
  have l1 := i4.dl q1 (by simp)
  have HLV := Lib.hid (fun (W : World) (hW : Below w4.heap.size w4 W) => Level_any (some ⟨b, o, none⟩) c4 w4.heap.size ((1 + 1) * (1 + 1)) (1 + 1) ((1 + 1) * (1 + 1)) [q0, q1, q2] W hW.size (i4.below hW) (by omega) h5)
  have HSM := Lib.hid (fun (W : World) (A' : Option Addr) (c' : Nat) (hW : Below w4.heap.size w4 W) (hb : NatB W A' (dig (Int.natAbs 2))) (hc : (dig (Int.natAbs 2)).length ≤ c') => Same_any q1.ng (decide ((2 : Int) < 0)) q1.A A' q1.c c' W.heap.size q1.ds (dig (Int.natAbs 2)) W (Nat.le_refl _) ((n1.below hW).more hW.size) (natB_nin hb hc) (by omega) (Nat.le_trans (dig_len_pw (k := 1) (show Int.natAbs 2 < pw 1 by decide)) (by omega)))
  have hval : decide (ival q1.ng q1.ds = ival (decide ((2 : Int) < 0)) (dig (Int.natAbs 2))) = true := by rw [ival_dig]; exact decide_eq_true e3
  rw [hval] at HSM
  have ho := fun (W : World) => IOf_any 2 (by omega) (by omega) W
  unfold IntRes at ho
  have w0 : WfM (0, 2, 0, 0) := by unfold WfM WfI; simp
  have w1' : WfM (1, 1, 0, 0) := by unfold WfM WfI; simp
  have w2' : WfM (2, 0, 0, 0) := by unfold WfM WfI; simp
  have q0' := fun W => Tryz.eq_mono (0, 2, 0, 0) (0, 2, 0, 0) w0 w0 W
  have q1' := fun W => Tryz.eq_mono (1, 1, 0, 0) (1, 1, 0, 0) w1' w1' W
  have q2' := fun W => Tryz.eq_mono (2, 0, 0, 0) (2, 0, 0, 0) w2' w2' W
  simp only [moV, decide_true] at q0' q1' q2'
  generalize dig (Int.natAbs 2) = d2 at *
  generalize decide ((2 : Int) < 0) = n2 at *
  have HO := Lib.hid ho
  have HQ := Lib.hid hq
  clear ho hval hg4 hq HPW e0 e1 e2 e3 n1 l1 i4
  simp only [List.length_cons, List.length_nil] at *
  have ac0 : w4.cell? ⟨b, o + 2, none⟩ = some (.int .i64 0) := a2
  have ac1 : w4.cell? ⟨b, o + 3, none⟩ = some (.int .i64 2) := a3
  have ac2 : w4.cell? ⟨b, o + 4, none⟩ = some (.int .i64 0) := a4
  have ac3 : w4.cell? ⟨b, o + 5, none⟩ = some (.int .i64 0) := a5
  have bc0 : w4.cell? ⟨b, o + 8, none⟩ = some (.int .i64 1) := b2
  have bc1 : w4.cell? ⟨b, o + 9, none⟩ = some (.int .i64 1) := b3
  have bc2 : w4.cell? ⟨b, o + 10, none⟩ = some (.int .i64 0) := b4
  have bc3 : w4.cell? ⟨b, o + 11, none⟩ = some (.int .i64 0) := b5
  have fc0 : w4.cell? ⟨b, o + 14, none⟩ = some (.int .i64 2) := f2
  have fc1 : w4.cell? ⟨b, o + 15, none⟩ = some (.int .i64 0) := f3
  have fc2 : w4.cell? ⟨b, o + 16, none⟩ = some (.int .i64 0) := f4
  have fc3 : w4.cell? ⟨b, o + 17, none⟩ = some (.int .i64 0) := f5
  have bc4 : w4.cell? ⟨b, o + 6, none⟩ = some (.bool q1.ng) := b0
  have bc5 : w4.cell? ⟨b, o + 7, none⟩ = some (.slice q1.A q1.ds.length q1.c) := b1
  clear a0 a1 a2 a3 a4 a5 b0 b1 b2 b3 b4 b5 f0 f1 f2 f3 f4 f5
  go_wp2_with fail
  have hbd : Below w4.heap.size w4 w4.drew := (Drawn.drew _).below _
  go_region_held3 (fun w' => w'.cell? ⟨b, o + 2, none⟩ = some (.int .i64 0) ∧ w'.cell? ⟨b, o + 3, none⟩ = some (.int .i64 2) ∧ w'.cell? ⟨b, o + 4, none⟩ = some (.int .i64 0) ∧ w'.cell? ⟨b, o + 5, none⟩ = some (.int .i64 0) ∧ w'.cell? ⟨b, o + 8, none⟩ = some (.int .i64 1) ∧ w'.cell? ⟨b, o + 9, none⟩ = some (.int .i64 1) ∧ w'.cell? ⟨b, o + 10, none⟩ = some (.int .i64 0) ∧ w'.cell? ⟨b, o + 11, none⟩ = some (.int .i64 0) ∧ w'.cell? ⟨b, o + 14, none⟩ = some (.int .i64 2) ∧ w'.cell? ⟨b, o + 15, none⟩ = some (.int .i64 0) ∧ w'.cell? ⟨b, o + 16, none⟩ = some (.int .i64 0) ∧ w'.cell? ⟨b, o + 17, none⟩ = some (.int .i64 0) ∧ w'.cell? ⟨b, o + 6, none⟩ = some (.bool q1.ng) ∧ w'.cell? ⟨b, o + 7, none⟩ = some (.slice q1.A q1.ds.length q1.c))
    (first | exact ⟨ac0, ac1, ac2, ac3, bc0, bc1, bc2, bc3, fc0, fc1, fc2, fc3, bc4, bc5⟩ | exact ⟨(h6.cell hbb).trans ac0, (h6.cell hbb).trans ac1, (h6.cell hbb).trans ac2, (h6.cell hbb).trans ac3, (h6.cell hbb).trans bc0, (h6.cell hbb).trans bc1, (h6.cell hbb).trans bc2, (h6.cell hbb).trans bc3, (h6.cell hbb).trans fc0, (h6.cell hbb).trans fc1, (h6.cell hbb).trans fc2, (h6.cell hbb).trans fc3, (h6.cell hbb).trans bc4, (h6.cell hbb).trans bc5⟩ | exact ⟨(h8.cell hbb).trans ac0, (h8.cell hbb).trans ac1, (h8.cell hbb).trans ac2, (h8.cell hbb).trans ac3, (h8.cell hbb).trans bc0, (h8.cell hbb).trans bc1, (h8.cell hbb).trans bc2, (h8.cell hbb).trans bc3, (h8.cell hbb).trans fc0, (h8.cell hbb).trans fc1, (h8.cell hbb).trans fc2, (h8.cell hbb).trans fc3, (h8.cell hbb).trans bc4, (h8.cell hbb).trans bc5⟩ | exact ⟨(h10.cell hbb).trans ac0, (h10.cell hbb).trans ac1, (h10.cell hbb).trans ac2, (h10.cell hbb).trans ac3, (h10.cell hbb).trans bc0, (h10.cell hbb).trans bc1, (h10.cell hbb).trans bc2, (h10.cell hbb).trans bc3, (h10.cell hbb).trans fc0, (h10.cell hbb).trans fc1, (h10.cell hbb).trans fc2, (h10.cell hbb).trans fc3, (h10.cell hbb).trans bc4, (h10.cell hbb).trans bc5⟩)
    (first | (go_at_call 19; refine (HO.out _).mono ?_; rintro e w5 ⟨A5, c5, rfl, h6a, h6b, h6c⟩; have h6 := hbd.trans h6c) | (go_at_call 27; refine (HSM.out w5 A5 c5 h6 h6b h6a).mono ?_; rintro e w6 ⟨rfl, h7⟩; have h8 := h6.trans (h7.mono h6.size)) | (go_at_call 28; refine (HLV.out _ h8).mono ?_; rintro e w7 ⟨⟨P, hP1, hP2, rfl⟩, h9⟩; have h10 := h8.trans (h9.mono h8.size)))
  have HPL := Lib.hid (show (lvL P == 2) = true by
    have hP : P = fitL := hP1.unique fit_can fun m => by rw [hP2 m]; exact congrArg (fun l => cf l m) HQ.out
    rw [hP, fit_lv]; rfl)
  clear hP2
  go_wp2_with fail
  go_ret
  exact ⟨by rw [← HPL.out]; rfl, hbw.trans (h10.mono hbw.size)⟩
end Go.Proofs.YtpbapoanjkekmaaGreat

/- SparseProduct: few polynomials; the plain law. -/
namespace Go.Proofs.YtpbapoanjkekmaaGreat
open Go.RowKit

theorem pw_mul (a b : Nat) : pw a * pw b = pw (a + b) := (Nat.pow_add _ a b).symm
theorem pw_pos (a : Nat) : 0 < pw a := Nat.pow_pos (by omega)
theorem pw_dbl (a : Nat) : pw a + pw a ≤ pw (a + 1) := by
  have : pw (a + 1) = pw a * 4294967296 := Nat.pow_succ ..
  have := pw_pos a
  omega
theorem pw_le {a b : Nat} (h : a ≤ b) : pw a ≤ pw b := Nat.pow_le_pow_right (by omega) h
theorem val_pw {ds : List Nat} (h : Dig ds) {k : Nat} (hk : ds.length ≤ k) : val ds < pw k := Nat.lt_of_lt_of_le (val_lt h) (pw_le hk)
theorem nrm_le_each (l : List Tm) (K : Nat) (h : ∀ t ∈ l, t.1.natAbs ≤ K) : nrm l ≤ l.length * K := by
  induction l with
  | nil => simp [nrm]
  | cons t l ih =>
    have h1 := h t List.mem_cons_self
    have h2 := ih fun s hs => h s (List.mem_cons_of_mem _ hs)
    simp only [nrm, List.length_cons, Nat.add_mul, Nat.one_mul]
    omega
theorem few_pin {w : World} {B : Nat} {A : Option Addr} {ps : List PT} (h : PolyIn w B A ps) (hw : ∀ p ∈ ps, WfM p.m) {t d : Nat} {M : Int} (hf : ps.length ≤ t ∧ ∀ p ∈ ps, fewP d M p) (ht : t ≤ 4294967296) (hd : d ≤ 1000) : PIn w B A ps t M (pw (d + 1)) where
  pin := h
  dl p hp := Nat.le_trans (hf.2 p hp).1 hd
  wf := hw
  mb p hp _ := ⟨((hf.2 p hp).2 0 (by omega)).2, ((hf.2 p hp).2 1 (by omega)).2, ((hf.2 p hp).2 2 (by omega)).2, ((hf.2 p hp).2 3 (by omega)).2⟩
  len := hf.1
  nm := by
    have h1 := nrm_le_each (ps.map PT.tm) (pw d) (fun t ht => by
      obtain ⟨p, hp, rfl⟩ := List.mem_map.1 ht
      show (ival p.ng p.ds).natAbs ≤ _
      rw [ival_abs]
      exact Nat.le_of_lt (val_pw (h.nt p hp).dg (hf.2 p hp).1))
    have h2 : (ps.map PT.tm).length * pw d ≤ 4294967296 * pw d := Nat.mul_le_mul_right _ (by rw [List.length_map]; omega)
    have h3 : pw (d + 1) = pw d * 4294967296 := Nat.pow_succ ..
    omega
def vF (l : List Tm) : List Tm := l.filter fun t => vld t.2
theorem lin_vF (f : Mo → Int) (l : List Tm) : lin f (vF l) = lin f l := by
  induction l with
  | nil => rfl
  | cons t l ih =>
    unfold vF at *
    by_cases h : vld t.2 = true
    · simp only [List.filter_cons, h, if_true, lin, ih]
    · simp only [List.filter_cons, h, lin]
      simpa using ih
theorem cf_vF (l : List Tm) (m : Mo) : cf (vF l) m = cf l m := lin_vF _ l
theorem vF_vl (l : List Tm) : ∀ t ∈ vF l, vld t.2 = true := fun _ ht => (List.mem_filter.1 ht).2
theorem cf_all_prod (p q : List Tm) (m : Mo) : cf (mulL (vF p) (vF q)) m = mulC p q m := by
  rw [cf_mulL _ _ (vF_vl p) (vF_vl q)]
  exact mulC_ext (cf_vF p) (cf_vF q) m
theorem vF_snoc (l : List Tm) (t : Tm) : vF (l ++ [t]) = if vld t.2 = true then vF l ++ [t] else vF l := by
  unfold vF
  rw [List.filter_append]
  by_cases h : vld t.2 = true <;> simp [h]
/-- the law of distribution -/
theorem mulC_dist {p q r s : List Tm} (h : ∀ m, cf s m = cf q m + cf r m) (m : Mo) : mulC p s m = mulC p q m + mulC p r m := by
  rw [← mulC_add]
  exact mulC_ext (fun _ => rfl) (fun x => by rw [h, cf_append]) m
/-- the products of one term with valid ones -/
def rowV (p : Tm) (l : List Tm) : List Tm := if vld p.2 = true then mulRow p (vF l) else []
theorem rowV_nil (p : Tm) : rowV p [] = [] := by unfold rowV; split <;> rfl
theorem rowV_bad {p : Tm} (h : vld p.2 = false) (l : List Tm) : rowV p l = [] := by unfold rowV; rw [if_neg (by simp [h])]
theorem rowV_skip {p t : Tm} (l : List Tm) (h : vld t.2 = false) : rowV p (l ++ [t]) = rowV p l := by
  have e : vF (l ++ [t]) = vF l := by rw [vF_snoc, if_neg (by simp [h])]
  unfold rowV
  rw [e]
theorem rowV_snoc {p t : Tm} (l : List Tm) (hp : vld p.2 = true) (h : vld t.2 = true) : rowV p (l ++ [t]) = rowV p l ++ [(p.1 * t.1, addM p.2 t.2)] := by
  unfold rowV
  rw [if_pos hp, if_pos hp, vF_snoc, if_pos h]
  simp [mulRow]
theorem mulV_snoc (P Q : List Tm) (p : Tm) : mulL (vF (P ++ [p])) (vF Q) = mulL (vF P) (vF Q) ++ rowV p Q := by
  unfold rowV
  rw [vF_snoc]
  by_cases h : vld p.2 = true
  · rw [if_pos h, if_pos h, mulL_snoc]
  · rw [if_neg h, if_neg h, List.append_nil]
theorem vF_len (l : List Tm) : (vF l).length ≤ l.length := List.length_filter_le _ _
theorem rowV_len (p : Tm) (l : List Tm) : (rowV p l).length ≤ l.length := by
  unfold rowV
  split
  · rw [len_mulRow]; exact vF_len l
  · simp
theorem allV_len (P Q l : List Tm) (p : Tm) (h1 : P.length ≤ 8) (h2 : Q.length ≤ 8) (h3 : l.length ≤ 8) : (mulL (vF P) (vF Q) ++ rowV p l).length ≤ 100 := by
  rw [List.length_append, len_mulL]
  have a1 := vF_len P; have a2 := vF_len Q; have a3 := rowV_len p l
  have : (vF P).length * (vF Q).length ≤ 8 * 8 := Nat.mul_le_mul (by omega) (by omega)
  omega
theorem nrm_vF (l : List Tm) : nrm (vF l) ≤ nrm l := by
  induction l with
  | nil => simp [vF]
  | cons t l ih =>
    unfold vF at *
    by_cases h : vld t.2 = true
    · simp only [List.filter_cons, h, if_true, nrm]; omega
    · simp only [List.filter_cons, h, nrm]; simp; omega
theorem own_new_ne {w : World} {base n size : Nat} {e : TypeId} {v : Value} {xs : List Value} (h : w.ownsRow base e size v n xs) (k : Nat) : v.ownBlock ≠ some (w.heap.size + k) := fun e1 => by
  rcases h.2 with ⟨rfl, _⟩ | ⟨r, _, cur, rfl, _, hh, _⟩
  · simp [Value.ownBlock] at e1
  · have h1 : r = w.heap.size + k := by simpa [Value.ownBlock] using e1
    have h2 := (show Blk w r _ cur from hh).lt
    omega
theorem cell_far1 {w : World} {g b o o' : Nat} {u x : Value} (h : w.cell? ⟨b, o, none⟩ = some x) (hne : b ≠ g) : (w.setCell ⟨g, o', none⟩ u).cell? ⟨b, o, none⟩ = some x := by
  rw [World.cell?_setCell_other _ _ _ _ (fun e => hne (congrArg Addr.block e).symm)]
  exact h
def mix6 (a b : Value) (x0 x1 x2 x3 : Int) : Nat → Array Value
  | 0 => #[a, b, .int .i64 0, .int .i64 0, .int .i64 0, .int .i64 0]
  | 1 => #[a, b, .int .i64 x0, .int .i64 0, .int .i64 0, .int .i64 0]
  | 2 => #[a, b, .int .i64 x0, .int .i64 x1, .int .i64 0, .int .i64 0]
  | 3 => #[a, b, .int .i64 x0, .int .i64 x1, .int .i64 x2, .int .i64 0]
  | _ => #[a, b, .int .i64 x0, .int .i64 x1, .int .i64 x2, .int .i64 x3]
/-- a row of terms with one more -/
theorem POwn.snoc {X w4 : World} {base : Nat} {v v' : Value} {al : List PT} {q : PT} (h : POwn X base v al) (hb : base ≤ X.heap.size) (hq : NatB X q.A q.ds) (hqc : q.ds.length ≤ q.c) (hqn : Cn q) (o : Obj)
    (hown : w4.ownsRow base 56 6 v' (al.length + 1) (al.flatMap PT.cells ++ q.cells)) (hg : (X.alloc o).grownBy w4 v.ownBlock) : POwn w4 base v' (al ++ [q]) ∧ Below base X w4 := by
  have hba : Below X.heap.size X (X.alloc o) := (Below.refl _ X).alloc (Nat.le_refl _) o
  have row1 := own_old h.row hba
  have t : GTurn base X w4 := (GTurn.of_below hb hba).trans (.grown (Nat.le_trans hb hba.size) row1 hg)
  refine ⟨⟨by rw [flat_snoc, List.length_append]; exact hown, fun p hp => ?_, fun p hp => ?_⟩, t.below⟩
  · rcases List.mem_append.1 hp with k | k
    · exact ⟨t.natB (h.dg p k).1, (h.dg p k).2⟩
    · simp at k
      subst k
      exact ⟨t.natB hq, hqc⟩
  · rcases List.mem_append.1 hp with k | k
    · exact h.cn p k
    · simp at k
      subst k
      exact hqn
end Go.Proofs.YtpbapoanjkekmaaGreat
