/- Contract of division.Gcd. -/
import Derived.StillTailTactics
import Derived.Deep.RegionHeld3
import Derived.Test.YtpbapoanjkekmaaVK
import Derived.Test.YtpbapoanjkekmaaZY
import Derived.Test.YtpbapoanjkekmaaZI
namespace Go.Proofs.Ytpbapoanjkekmaa
open Go.RowKit

theorem FromN_any (g c : Nat) (A : Option Addr) (w : World) (hc : (dig g).length ≤ c) (hm : (dig g).length ≤ 1000000) (h : NatB w A (dig g)) :
    Calls Try.prog 63 #[.bool false, .slice A (dig g).length c] w fun e w' => ∃ A c, e = .returned (.agg #[.bool false, .slice A (dig g).length c]) ∧ (dig g).length ≤ c ∧ NatB w' A (dig g) ∧ Below w.heap.size w w' := by
  refine (From_any false A c w.heap.size (dig g) w (Nat.le_refl _) hc hm h.reads (dig_dig g)).mono ?_
  rintro e w' ⟨A1, c1, h1, h2, h3, h4⟩
  have e1 : ival false (dig g) = (g : Int) := by unfold ival; rw [if_neg (by simp), val_dig]
  rw [e1] at h1 h2 h3
  have e0 : decide ((g : Int) < 0) = false := by simp
  rw [e0, Int.natAbs_natCast] at h1
  rw [Int.natAbs_natCast] at h2 h3
  exact ⟨A1, c1, h1, h2, h3, h4⟩
theorem len_two {g : Nat} (h : g < 18446744073709551616) : (dig g).length ≤ 2 := dig_len_lt (by
  have e : (4294967296 : Nat) ^ 2 = 18446744073709551616 := by decide
  rw [e]
  exact h)
theorem Uint64_fix (g c : Nat) (A : Option Addr) (w : World) (hg : g < 18446744073709551616) (hc : (dig g).length ≤ c) (hm : (dig g).length ≤ 900000) (h : NatB w A (dig g)) :
    Calls Try.prog 67 #[.slice A (dig g).length c] w fun e w' => e = .returned (.tuple #[.int .u64 (g : Int), .bool true]) ∧ Drawn w w' := by
  refine (Uint64_any A c w.heap.size (dig g) w hc hm h.reads (dig_dig g)).mono ?_
  rintro e w' ⟨h1, h2⟩
  rw [val_dig] at h1
  rcases h1 with ⟨_, rfl⟩ | ⟨h3, _⟩
  · exact ⟨rfl, h2⟩
  · omega
theorem two_lt {g : Nat} (h : (dig g).length ≤ 2) : g < 18446744073709551616 := by
  have l := val_lt (dig_dig g)
  rw [val_dig] at l
  have := Nat.pow_le_pow_right (n := 4294967296) (by decide) h
  omega
/-- two numbers in memory, with their greatest common divisor -/
structure GSt (w0 w : World) (b G X Y : Nat) (xv yv : Value) : Prop where
  x : ∃ Ax cx, xv = .slice Ax (dig X).length cx ∧ (dig X).length ≤ cx ∧ NatB w Ax (dig X)
  y : ∃ Ay cy, yv = .slice Ay (dig Y).length cy ∧ (dig Y).length ≤ cy ∧ NatB w Ay (dig Y)
  lx : (dig X).length ≤ 400000
  ly : (dig Y).length ≤ 400000
  g : Nat.gcd X Y = G
  bw : Below w0.heap.size w0 w
  bk : Blk w b 31 #[.bool false, .slice none 0 0]
set_option maxHeartbeats 4000000 in
set_option maxRecDepth 100000 in
theorem Gcd_any (ng ng' : Bool) (A A' : Option Addr) (c c' B : Nat) (ds es : List Nat) (w : World) (hB : B ≤ w.heap.size) (h : NatIn w B A c ds) (h' : NatIn w B A' c' es) (hm : ds.length ≤ 400000) (hm' : es.length ≤ 400000) :
    Calls Try.prog 43 #[.agg #[.bool ng, .slice A ds.length c], .agg #[.bool ng', .slice A' es.length c']] w (IntRes ((Nat.gcd (val ds) (val es) : Nat) : Int) w) := by
  have HN1 := Lib.hid (fun (W : World) (hb : Below w.heap.size w W) => Normal_any A c B ds W (Nat.le_trans hB hb.size) h.cap (by omega) (h.rd.below (hb.mono hB)) h.dg)
  have HN2 := Lib.hid (fun (W : World) (hb : Below w.heap.size w W) => Normal_any A' c' B es W (Nat.le_trans hB hb.size) h'.cap (by omega) (h'.rd.below (hb.mono hB)) h'.dg)
  have HLX := Lib.hid (show (dig (val ds)).length ≤ 400000 by have := dig_len_le h.dg; omega)
  have HLY := Lib.hid (show (dig (val es)).length ≤ 400000 by have := dig_len_le h'.dg; omega)
  have HX := Lib.hid (boxes3 w 31 31 31 #[.bool ng, .slice A ds.length c] #[.bool ng', .slice A' es.length c'] #[.bool false, .slice none 0 0])
  clear h h' hm hm'
  unfold NatRes at HN1 HN2
  generalize val ds = X0 at *
  generalize val es = Y0 at *
  generalize ds.length = n at *
  generalize es.length = n' at *
  have HRES := Lib.hid (fun (g : Nat) (hg : g = Nat.gcd X0 Y0) (W : World) (A : Option Addr) (c : Nat) (h1 : (dig g).length ≤ c) (h2 : NatB W A (dig g)) (h3 : Below w.heap.size w W) => show IntRes ((Nat.gcd X0 Y0 : Nat) : Int) w (.returned (.agg #[.bool false, .slice A (dig g).length c])) W by
    rw [← hg]
    exact ⟨A, c, by simp, h1, h2, h3⟩)
  generalize hG : Nat.gcd X0 Y0 = G at *
  have HG := Lib.hid hG
  clear hG
  go_enter Try.func43, Try.ntmps43
  go_wp2_with fail
  generalize ((w.alloc (.cells #[.bool ng, .slice A n c] 31)).alloc (.cells #[.bool ng', .slice A' n' c'] 31)).alloc (.cells #[.bool false, .slice none 0 0] 31) = W at *
  obtain ⟨hb0, k0, k1, k2, hs⟩ := HX.out
  have HS := Lib.hid hs
  clear hs HX
  have c1 : W.cell? ⟨w.heap.size, 1, none⟩ = some (.slice A n c) := k0.cell 1
  have c3 : W.cell? ⟨w.heap.size + 1, 1, none⟩ = some (.slice A' n' c') := k1.cell 1
  have l0 := k0.lt; have l1 := k1.lt
  have d1 : W.drew.cell? ⟨w.heap.size, 1, none⟩ = some (.slice A n c) := c1
  have d3 : W.drew.cell? ⟨w.heap.size + 1, 1, none⟩ = some (.slice A' n' c') := c3
  have K2 : Blk W.drew (w.heap.size + 1 + 1) 31 #[.bool false, .slice none 0 0] := k2
  have hb0' : Below w.heap.size w W.drew := hb0.trans ((Drawn.drew _).below _)
  clear hb0 k0 k1 k2
  generalize hbx : w.heap.size + 1 = bx at *
  have HBX := Lib.hid hbx
  clear hbx
  go_region_held3 (fun w' => w'.cell? ⟨w.heap.size, 1, none⟩ = some (.slice A n c) ∧ w'.cell? ⟨bx, 1, none⟩ = some (.slice A' n' c'))
    (first | (with_reducible exact ⟨r1, r3⟩) | (with_reducible exact ⟨q1, q3⟩) | (with_reducible exact ⟨d1, d3⟩))
    (first | (go_at_call 65; (with_reducible refine (HN1.out _ hb0').mono ?_); rintro e w1 ⟨A1, c1', rfl, h1, h2, h3⟩; have q1 := (h3.cell l0).trans c1; have q3 := (h3.cell l1).trans c3; have hb1 := hb0'.trans (h3.mono hb0'.size)) | (go_at_call 65; (with_reducible refine (HN2.out _ hb1).mono ?_); rintro e w2 ⟨A2, c2', rfl, g1, g2, g3⟩; have r1 := (g3.cell (Nat.lt_of_lt_of_le l0 h3.size)).trans q1; have r3 := (g3.cell (Nat.lt_of_lt_of_le l1 h3.size)).trans q3; have hb2 := hb1.trans (g3.mono hb1.size)))
  have hbk := (K2.old h3).old g3
  have HST := Lib.hid (show GSt w w2 (bx + 1) G X0 Y0 (.slice A1 (dig X0).length c1') (.slice A2 (dig Y0).length c2') from ⟨⟨A1, c1', rfl, h1, h2.old g3⟩, ⟨A2, c2', rfl, g1, g2⟩, HLX.out, HLY.out, HG.out, hb2, hbk⟩)
  rename_i hH
  clear hH r1 r3 q1 q3 h1 h2 h3 hb1 g1 g2 g3 hb2 hbk d1 d3 c1 c3 l0 l1 hb0' K2 HS
  go_wp2_with fail
  have HBR := Lib.hid (show w.heap.size ≤ bx + 1 by have := HBX.out; omega)
  generalize bx + 1 = br at *
  go_loopg [5, 6, 7, 8] Y0 (fun gn xv yv _ _ wr => ∃ X Y, gn = Y ∧ GSt w wr br G X Y xv yv)
  case atStart => exact ⟨X0, Y0, rfl, HST.out⟩
  case round =>
    obtain ⟨X, Y, hgy, ⟨Ax, cx, rfl, hcx, hnx⟩, ⟨Ay, cy, rfl, hcy, hny⟩, hlx, hly, hg, hbw, hbk⟩ := hrel
    have HGY := Lib.hid hgy
    have HGG := Lib.hid hg
    have HBW := Lib.hid hbw; have HBK := Lib.hid hbk
    have HLX2 := Lib.hid hlx; have HLY2 := Lib.hid hly
    clear hgy hg hbw hbk HST
    by_cases hlong : (dig X).length ≤ 2 ∧ (dig Y).length ≤ 2
    · obtain ⟨hx2, hy2⟩ := hlong
      have HU1 := Lib.hid (Uint64_fix X cx Ax wr (two_lt hx2) hcx (by omega) hnx)
      have HU2 := Lib.hid (fun (W : World) (hW : Below wr.heap.size wr W) => Uint64_fix Y cy Ay W (two_lt hy2) hcy (by omega) (hny.old hW))
      have HXB := Lib.hid (two_lt hx2); have HYB := Lib.hid (two_lt hy2)
      generalize (dig X).length = lx at *
      generalize (dig Y).length = ly at *
      have ix : (lx : Int) ≤ 2 := by omega
      have iy : (ly : Int) ≤ 2 := by omega
      clear HLX2 HLY2 hlx hly hnx hny HLX HLY HN1 HN2 HG
      go_wp2_with fail
      refine HU1.out.mono ?_
      rintro e wa ⟨rfl, hda⟩
      have HDA := Lib.hid (hda.below wr.heap.size)
      have HU3 := Lib.hid (HU2.out wa HDA.out)
      clear hda HU1 HU2
      go_wp2_with fail
      refine HU3.out.mono ?_
      rintro e wb ⟨rfl, hdb⟩
      have HDB := Lib.hid (HDA.out.trans ((hdb.below wa.heap.size).mono HDA.out.size))
      have HB2 := Lib.hid (HBW.out.trans (HDB.out.mono HBW.out.size)); have HK2 := Lib.hid (HBK.out.old HDB.out)
      clear hdb HDA HDB HU3 HBW HBK ix iy hx2 hy2 hcx hcy
      go_wp2_with fail
      go_loopg [9, 11] Y (fun gn mv nv wq => ∃ m k : Nat, gn = k ∧ mv = .int .u64 (m : Int) ∧ nv = .int .u64 (k : Int) ∧ m < 18446744073709551616 ∧ k < 18446744073709551616 ∧ Nat.gcd m k = G ∧ Below w.heap.size w wq ∧ Blk wq br 31 #[.bool false, .slice none 0 0])
      case atStart => exact ⟨X, Y, rfl, rfl, rfl, HXB.out, HYB.out, HGG.out, HB2.out, HK2.out⟩
      case round =>
        obtain ⟨m, k, hgk, rfl, rfl, hm, hk, hg, hbw, hbk⟩ := hrel
        have HGK := Lib.hid hgk
        have HG := Lib.hid hg
        have HBW := Lib.hid hbw; have HBK := Lib.hid hbk
        clear hgk hg hbw hbk HB2 HK2 HXB HYB HGG HGY
        by_cases hk0 : k = 0
        · subst hk0
          have HOF := Lib.hid (Of_any m hm wr)
          unfold NatRes at HOF
          have HGM := Lib.hid (show m = G by rw [← HG.out, Nat.gcd_zero_right])
          have HL2 := Lib.hid (len_two hm)
          go_wp2_with fail
          refine HOF.out.mono ?_
          rintro e wc ⟨Ad, cd, rfl, hcd, hnd, hbd⟩
          have HFF := Lib.hid (FromN_any m cd Ad wc hcd (by have := HL2.out; omega) hnd)
          have HBC := Lib.hid (HBW.out.trans (hbd.mono HBW.out.size)); have HKC := Lib.hid (HBK.out.old hbd)
          clear hcd hnd hbd HBW HBK
          go_wp2_with fail
          refine HFF.out.mono ?_
          rintro e wd ⟨Ae, ce, rfl, hce, hne, hbe⟩
          have kk := HKC.out.old hbe
          have hbel := HBC.out.trans (hbe.mono HBC.out.size)
          have d0 : wd.cell? ⟨br, 0, none⟩ = some (.bool false) := kk.cell 0
          have d1 : wd.cell? ⟨br, 1, none⟩ = some (.slice none 0 0) := kk.cell 1
          have f0 := kk.frozen 0; have f1 := kk.frozen 1; have z0 := kk.lt
          have HKK := Lib.hid kk; have HBE := Lib.hid hbel; have HNE := Lib.hid hne; have HCE := Lib.hid hce
          clear kk hbel hne hce hbe
          go_wp2_with fail
          exact ret_blk Try.results43 rfl rfl ((HKK.out.set_ 0 _).set_ 1 _) Try.underlying31 rfl Try.sizeInt (HRES.out m HGM.out _ Ae ce HCE.out (HNE.out.store2 HKK.out (by decide) _ _) ((HBE.out.setCell HBR.out _).setCell HBR.out _))
        · have e0 : ¬ ((k : Int) = 0) := by omega
          have e1 : (m : Int) % (k : Int) = ((m % k : Nat) : Int) := (Int.natCast_emod _ _).symm
          have e2 : Int.tmod (m : Int) (k : Int) = ((m % k : Nat) : Int) := by rw [Int.tmod_eq_emod_of_nonneg (by omega)]; exact e1
          have hr : m % k < k := Nat.mod_lt _ (by omega)
          have e3 := wraps_u64n (n := m % k) (by omega)
          have HGC := Lib.hid (show Nat.gcd k (m % k) = G by rw [← HG.out, Nat.gcd_comm m k, Nat.gcd_rec k m, Nat.gcd_comm])
          have HR := Lib.hid hr
          clear hr
          generalize m % k = r at *
          go_wp2_with fail
          go_quiet (fail)
          clear e0 e1 e2 e3
          go_wp2_with fail
          go_roundg r
          case rel => exact ⟨k, r, rfl, rfl, rfl, hk, Nat.lt_trans HR.out hk, HGC.out, HBW.out.trans ((Drawn.drewN _ _).below _), HBK.out.drewN _⟩
          case measure => have := HGK.out; have := HR.out; omega
    · by_cases hy0 : Y = 0
      · subst hy0
        have hz : (dig 0).length = 0 := by rw [dig_zero]; rfl
        have hx2 : 2 < (dig X).length := by omega
        have HGM := Lib.hid (show X = G by rw [← HGG.out, Nat.gcd_zero_right])
        have HFF := Lib.hid (FromN_any X cx Ax wr hcx (by omega) hnx)
        rw [hz] at *
        generalize hlxe : (dig X).length = lx at *
        have HLXE := Lib.hid hlxe
        clear hlxe hz hny
        have ix : (2 : Int) < (lx : Int) := by omega
        clear HLX2 HLY2 hlx hly hnx HLX HLY HN1 HN2 HG
        go_wp2_with fail
        refine HFF.out.mono ?_
        rintro e wd ⟨Ae, ce, rfl, hce, hne, hbe⟩
        have kk := HBK.out.old hbe
        have hbel := HBW.out.trans (hbe.mono HBW.out.size)
        have d0 : wd.cell? ⟨br, 0, none⟩ = some (.bool false) := kk.cell 0
        have d1 : wd.cell? ⟨br, 1, none⟩ = some (.slice none 0 0) := kk.cell 1
        have f0 := kk.frozen 0; have f1 := kk.frozen 1; have z0 := kk.lt
        have HKK := Lib.hid kk; have HBE := Lib.hid hbel; have HNE := Lib.hid hne; have HCE := Lib.hid hce
        clear kk hbel hne hce hbe
        go_wp2_with fail
        have hcE := HCE.out; have hnE := HNE.out
        exact ret_blk Try.results43 rfl rfl ((HKK.out.set_ 0 _).set_ 1 _) Try.underlying31 rfl Try.sizeInt (HLXE.out ▸ HRES.out X HGM.out _ Ae ce (HLXE.out.symm ▸ hcE) (hnE.store2 HKK.out (by decide) _ _) ((HBE.out.setCell HBR.out _).setCell HBR.out _))
      · have hly0 : 0 < (dig Y).length := dig_len_pos.2 (by omega)
        have HDV := Lib.hid (divide_any Ax Ay cx cy wr.heap.size (dig X) (dig Y) wr (Nat.le_refl _) hcx hcy hlx hly hnx.reads hny.reads (dig_dig _) (dig_dig _) (by rw [val_dig]; exact hy0))
        unfold DivideRes at HDV
        rw [val_dig, val_dig] at HDV
        have hr : X % Y < Y := Nat.mod_lt _ (by omega)
        have HGC := Lib.hid (show Nat.gcd Y (X % Y) = G by rw [← HGG.out, Nat.gcd_comm X Y, Nat.gcd_rec Y X, Nat.gcd_comm])
        have HLR := Lib.hid (Nat.le_trans (dig_mono (Nat.le_of_lt hr)) hly)
        have HR := Lib.hid hr
        clear hr
        generalize X % Y = R at *
        generalize X / Y = Q at *
        have HNY := Lib.hid hny
        have HCY := Lib.hid hcy
        generalize hlxe : (dig X).length = lx at *
        generalize hlye : (dig Y).length = ly at *
        have HLYE := Lib.hid hlye
        have hor : (2 : Int) < (lx : Int) ∨ (2 : Int) < (ly : Int) := by omega
        have iy : (0 : Int) < (ly : Int) := by omega
        clear HLX2 hlxe hlye hlx hly hnx hny HLX HLY HN1 HN2 HG hcx hcy
        go_wp2_with fail
        all_goals
          refine HDV.out.mono ?_
          rintro e wd ⟨Aq, cq, Ar, cr, rfl, hcq, hcr, hnq, hnr, hbd⟩
          have HB2 := Lib.hid (HBW.out.trans (hbd.mono HBW.out.size)); have HK2 := Lib.hid (HBK.out.old hbd); have HN2 := Lib.hid (HNY.out.old hbd)
          have HN3 := Lib.hid hnr; have HC3 := Lib.hid hcr
          clear hbd hnq hnr hcq hcr
          go_wp2_with fail
          go_roundg R
          case rel => exact ⟨Y, R, rfl, ⟨⟨Ay, cy, by rw [HLYE.out], by rw [HLYE.out]; exact HCY.out, HN2.out⟩, ⟨Ar, cr, rfl, HC3.out, HN3.out⟩, by rw [HLYE.out]; exact HLY2.out, HLR.out, HGC.out, HB2.out, HK2.out⟩⟩
          case measure => have := HGY.out; have := HR.out; omega
end Go.Proofs.Ytpbapoanjkekmaa
