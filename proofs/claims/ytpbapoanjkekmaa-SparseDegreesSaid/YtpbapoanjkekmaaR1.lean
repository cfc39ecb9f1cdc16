/- Contracts of the reference's Valid, CompareMono, Few, and of few. -/
import Derived.Test.YtpbapoanjkekmaaH5
namespace Go.Proofs.Ytpbapoanjkekmaa
open Go.RowKit

set_option maxHeartbeats 2000000 in
set_option maxRecDepth 100000 in
theorem RV_any (m : Mo) (w : World) : Calls Try.prog 15 #[.agg (moV m)] w fun e w' => e = .returned (.bool (vld m)) ∧ Laid w w' := by
  have hl : Laid w (w.alloc (.cells (moV m) 33)) := (Laid.refl w).alloc _
  have k0 := Blk.new w 33 (moV m)
  have HB := Lib.hid (fun (k : Nat) => @vld_bad m k)
  have HO := Lib.hid (fun (k : Nat) => @vldTo_ok m k)
  have HF := Lib.hid (vldTo_four m)
  generalize vld m = v at *
  go_enter Try.func15, Try.ntmps15
  go_wp2
  generalize w.alloc (.cells (moV m) 33) = W at *
  go_loopg [3] 4 (fun gn i wr => ∃ (k : Nat), k ≤ 4 ∧ gn = 4 - k ∧ i = .int .i64 k ∧ vldTo m k = true ∧ W = wr)
  case atStart => exact ⟨0, by omega, rfl, rfl, rfl, rfl⟩
  case round =>
    obtain ⟨k, hk, hgk, rfl, hv, rfl⟩ := hrel
    have HG := Lib.hid hgk; clear hgk
    have HV := Lib.hid hv; clear hv
    by_cases hlt : k < 4
    · have ck : W.cell? ⟨w.heap.size, k, none⟩ = some (.int .i64 (gt m k)) := (k0.cell k).trans (moV_at m hlt)
      have i0 : (0 : Int) ≤ (k : Int) := by omega
      have i1 : (k : Int) < 4 := by omega
      by_cases hx : gt m k < 0
      · have HE := Lib.hid (HB.out k hlt hx)
        generalize gt m k = x at *
        clear HO HB
        go_wp2
        go_ret
        exact ⟨by rw [HE.out]; rfl, hl⟩
      · have HE := Lib.hid (HO.out k HV.out (by omega))
        generalize gt m k = x at *
        clear HO HB
        go_wp2
        go_roundg (4 - (k + 1))
        case rel => exact ⟨k + 1, by omega, rfl, by go_num, HE.out, rfl⟩
        case measure => have := HG.out; omega
    · obtain rfl : k = 4 := by omega
      clear HO HB
      go_wp2
      go_ret
      exact ⟨by rw [← HF.out, HV.out]; rfl, hl⟩

set_option maxHeartbeats 2000000 in
set_option maxRecDepth 100000 in
theorem RC_any (a b : Mo) (w : World) : Calls Try.prog 29 #[.agg (moV a), .agg (moV b)] w fun e w' => e = .returned (.int .i64 (cmpM a b)) ∧ Laid w w' := by
  obtain ⟨hb0, k0, k1, hs⟩ := boxes2 w 33 33 (moV a) (moV b)
  have hl : Laid w ((w.alloc (.cells (moV a) 33)).alloc (.cells (moV b) 33)) := ((Laid.refl w).alloc _).alloc _
  have HC := Lib.hid (cmpTo_four a b)
  clear hs
  generalize cmpM a b = r at *
  go_enter Try.func29, Try.ntmps29
  go_wp2
  generalize (w.alloc (.cells (moV a) 33)).alloc (.cells (moV b) 33) = W at *
  go_loopg [5] 4 (fun gn i wr => ∃ (k : Nat), k ≤ 4 ∧ gn = k ∧ i = .int .i64 ((k : Int) - 1) ∧ cmpTo a b k = r ∧ Drawn W wr)
  case atStart => exact ⟨4, Nat.le_refl _, rfl, rfl, HC.out, Drawn.refl _⟩
  case round =>
    obtain ⟨k, hk, hgk, rfl, hr, hd⟩ := hrel
    have HG := Lib.hid hgk; clear hgk
    have HR := Lib.hid hr; clear hr
    by_cases h0 : 0 < k
    · obtain ⟨j, rfl⟩ : ∃ j, k = j + 1 := ⟨k - 1, by omega⟩
      have c0 : wr.cell? ⟨w.heap.size, j, none⟩ = some (.int .i64 (gt a j)) := ((k0.drawn hd).cell j).trans (moV_at a (by omega))
      have c1 : wr.cell? ⟨w.heap.size + 1, j, none⟩ = some (.int .i64 (gt b j)) := ((k1.drawn hd).cell j).trans (moV_at b (by omega))
      have hkk : ((j + 1 : Nat) : Int) - 1 = (j : Int) := by omega
      rw [hkk]
      have i0 : (0 : Int) ≤ (j : Int) := by omega
      have i1 : (j : Int) < 4 := by omega
      rcases Int.lt_trichotomy (gt a j) (gt b j) with h | h | h
      · have hz : cmpI (gt a j) (gt b j) = -1 := by simp [cmpI, h]
        have HR' := Lib.hid ((cmpTo_ne (by rw [hz]; decide)).symm.trans HR.out)
        rw [hz] at HR'
        have h' : ¬ gt b j < gt a j := by omega
        clear hz hkk HR
        generalize gt a j = x at *
        generalize gt b j = y at *
        go_wp2
        go_quiet (fail)
        go_wp2
        have c0' : (wr.drewN nq).cell? ⟨w.heap.size, j, none⟩ = some (.int .i64 x) := c0
        have c1' : (wr.drewN nq).cell? ⟨w.heap.size + 1, j, none⟩ = some (.int .i64 y) := c1
        have hd' : Drawn W (wr.drewN nq) := hd.trans (.drewN _ _)
        clear c0 c1 hd
        generalize wr.drewN nq = w3 at *
        go_quiet (fail)
        go_wp2
        go_ret
        exact ⟨by rw [← HR'.out]; rfl, (hl.drawn hd').drewN _⟩
      · have hz : cmpI (gt a j) (gt b j) = 0 := by simp [cmpI, h]
        have HR' := Lib.hid ((cmpTo_eq hz).symm.trans HR.out)
        have h1 : ¬ gt b j < gt a j := by omega
        have h2 : ¬ gt a j < gt b j := by omega
        clear hz hkk HR h
        generalize gt a j = x at *
        generalize gt b j = y at *
        go_wp2
        go_quiet (fail)
        go_wp2
        have c0' : (wr.drewN nq).cell? ⟨w.heap.size, j, none⟩ = some (.int .i64 x) := c0
        have c1' : (wr.drewN nq).cell? ⟨w.heap.size + 1, j, none⟩ = some (.int .i64 y) := c1
        have hd' : Drawn W (wr.drewN nq) := hd.trans (.drewN _ _)
        clear c0 c1 hd
        generalize wr.drewN nq = w3 at *
        go_quiet (fail)
        go_wp2
        go_roundg j
        case rel => exact ⟨j, by omega, rfl, rfl, HR'.out, hd'.trans (.drewN _ _)⟩
        case measure => have := HG.out; omega
      · have hz : cmpI (gt a j) (gt b j) = 1 := by have : ¬ gt a j < gt b j := by omega
                                                   simp [cmpI, h, this]
        have HR' := Lib.hid ((cmpTo_ne (by rw [hz]; decide)).symm.trans HR.out)
        rw [hz] at HR'
        clear hz hkk HR
        generalize gt a j = x at *
        generalize gt b j = y at *
        go_wp2
        go_quiet (fail)
        go_wp2
        go_ret
        exact ⟨by rw [← HR'.out]; rfl, (hl.drawn hd).drewN _⟩
    · obtain rfl : k = 0 := by omega
      go_wp2
      go_ret
      exact ⟨by rw [← HR.out]; rfl, hl.drawn hd⟩

/-- few digits, exponents neither great nor very negative -/
def fewP (d : Nat) (M : Int) (p : PT) : Prop := p.ds.length ≤ d ∧ ∀ j, j < 4 → -1000 ≤ gt p.m j ∧ gt p.m j ≤ M
def FewRes (t d : Nat) (M : Int) (ps : List PT) (w : World) (e : Ending) (w' : World) : Prop := ∃ b : Bool, e = .returned (.bool b) ∧ (b = true → ps.length ≤ t ∧ ∀ p ∈ ps, fewP d M p) ∧ w = w'
set_option maxHeartbeats 4000000 in
set_option maxRecDepth 100000 in
theorem Few_any (A : Option Addr) (c B t d : Nat) (M : Int) (ps : List PT) (w : World) (h : PolyIn w B A ps) (ht : t ≤ 1000) : Calls Try.prog 46 #[.slice A ps.length c, .int .i64 (t : Int), .int .i64 (d : Int), .int .i64 M] w (FewRes t d M ps w) := by
  have H := Lib.hid h
  clear h
  generalize hpn : ps.length = pn at *
  have HP := Lib.hid hpn
  clear hpn
  by_cases hlen : pn ≤ t
  · go_enter Try.func46, Try.ntmps46
    have hl1 : ¬ (t : Int) < (pn : Int) := by omega
    go_wp2_with fail
    go_loopg [9, 10] pn (fun gn ix _ wr => ∃ (k : Nat), k ≤ pn ∧ gn = pn - k ∧ ix = .int .i64 k ∧ (∀ p ∈ ps.take k, fewP d M p) ∧ w = wr)
    case atStart => exact ⟨0, by omega, rfl, rfl, fun p hp => by simp at hp, rfl⟩
    case round =>
      obtain ⟨k, hk, hgk, rfl, hf, rfl⟩ := hrel
      have HG := Lib.hid hgk; have HF := Lib.hid hf
      clear hgk hf
      by_cases hlt : k < pn
      · obtain ⟨p, hp⟩ : ∃ p, ps[k]? = some p := ⟨_, List.getElem?_eq_getElem (by have := HP.out; omega)⟩
        obtain ⟨b, o, rfl, hbb, d0, d1, d2, d3, d4, d5⟩ := H.out.at_ hp
        have i1 : (k : Int) < (pn : Int) := by omega
        have i0 : (0 : Int) ≤ (k : Int) := by omega
        have dj : ∀ j, j < 4 → w.cell? ⟨b, o + k * 6 + 2 + j, none⟩ = some (.int .i64 (gt p.m j)) := fun j hj => by
          rcases (by omega : j = 0 ∨ j = 1 ∨ j = 2 ∨ j = 3) with rfl | rfl | rfl | rfl
          · exact d2
          · exact d3
          · exact d4
          · exact d5
        have DJ := Lib.hid dj
        have HTK := Lib.hid (show ∀ q ∈ ps.take (k + 1), q ∈ ps.take k ∨ q = p by
          intro q hq
          rw [List.take_succ_eq_append_getElem (by have := HP.out; omega)] at hq
          rcases List.mem_append.1 hq with x | x
          · exact .inl x
          · simp at x
            exact .inr (x.trans (List.getElem?_eq_some_iff.1 hp).2))
        clear d0 d2 d3 d4 d5 dj hp
        by_cases hdl : p.ds.length ≤ d
        · have hd1 : ¬ (d : Int) < (p.ds.length : Int) := by omega
          go_wp2_with fail
          go_loopg [10] 4 (fun gn jx wr => ∃ (j : Nat), j ≤ 4 ∧ gn = 4 - j ∧ jx = .int .i64 j ∧ (∀ i, i < j → -1000 ≤ gt p.m i ∧ gt p.m i ≤ M) ∧ w = wr)
          case atStart => exact ⟨0, by omega, rfl, rfl, fun i hi => by omega, rfl⟩
          case round =>
            obtain ⟨j, hj, hgj, rfl, hfj, rfl⟩ := hrel
            have HGJ := Lib.hid hgj; have HFJ := Lib.hid hfj
            clear hgj hfj
            by_cases hlt2 : j < 4
            · have cj := DJ.out j hlt2
              have j0 : (0 : Int) ≤ (j : Int) := by omega
              have j1 : (j : Int) < 4 := by omega
              have HJN := Lib.hid (fun (h1 : -1000 ≤ gt p.m j) (h2 : gt p.m j ≤ M) => show ∀ i, i < j + 1 → -1000 ≤ gt p.m i ∧ gt p.m i ≤ M from fun i hi => by
                by_cases e : i = j
                · subst e; exact ⟨h1, h2⟩
                · exact HFJ.out i (by omega))
              generalize gt p.m j = x at *
              by_cases hx1 : M < x
              · go_wp2_with fail
                go_ret
                exact ⟨false, rfl, fun h => (by cases h), rfl⟩
              · by_cases hx2 : x < -1000
                · go_wp2_with fail
                  go_ret
                  exact ⟨false, rfl, fun h => (by cases h), rfl⟩
                · have HJ2 := Lib.hid (HJN.out (by omega) (by omega))
                  go_wp2_with fail
                  go_roundg (4 - (j + 1))
                  case rel => exact ⟨j + 1, by omega, rfl, by go_num, HJ2.out, rfl⟩
                  case measure => have := HGJ.out; omega
            · obtain rfl : j = 4 := by omega
              have HNX := Lib.hid (show ∀ q ∈ ps.take (k + 1), fewP d M q from fun q hq => (HTK.out q hq).elim (fun x => HF.out q x) (fun x => by rw [x]; exact ⟨hdl, HFJ.out⟩))
              go_wp2_with fail
              go_roundg (pn - (k + 1))
              case rel => exact ⟨k + 1, by omega, rfl, by go_num, HNX.out, rfl⟩
              case measure => have := HG.out; omega
        · have hd1 : (d : Int) < (p.ds.length : Int) := by omega
          go_wp2_with fail
          go_ret
          exact ⟨false, rfl, fun h => (by cases h), rfl⟩
      · obtain rfl : k = pn := by omega
        go_wp2_with fail
        go_ret
        refine ⟨true, rfl, fun _ => ⟨by rw [HP.out]; exact hlen, fun p hp => HF.out p ?_⟩, rfl⟩
        rw [← HP.out, List.take_length]
        exact hp
  · go_enter Try.func46, Try.ntmps46
    have hl1 : (t : Int) < (pn : Int) := by omega
    go_wp2_with fail
    go_ret
    exact ⟨false, rfl, fun h => (by cases h), rfl⟩
theorem few_any (A : Option Addr) (c B : Nat) (ps : List PT) (w : World) (h : PolyIn w B A ps) : Calls Try.prog 10 #[.slice A ps.length c] w (FewRes 8 6 9 ps w) := by
  have HF := Lib.hid (Few_any A c B 8 6 9 ps w h (by omega))
  clear h
  go_enter Try.func10, Try.ntmps10
  go_wp2_with fail
  refine HF.out.mono ?_
  rintro e w1 ⟨b, rfl, h1, rfl⟩
  go_wp2_with fail
  go_ret
  exact ⟨b, rfl, h1, rfl⟩
end Go.Proofs.Ytpbapoanjkekmaa
