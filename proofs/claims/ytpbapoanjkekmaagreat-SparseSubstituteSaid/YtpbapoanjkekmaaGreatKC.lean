/- Contract of natural.product for numbers of any length: the walk. -/
import Derived.Test.YtpbapoanjkekmaaGreatKB
namespace Go.Proofs.YtpbapoanjkekmaaGreat
open Go.RowKit

theorem nat_src {w : World} {A : Option Addr} {ds : List Nat} (h : NatB w A ds) : 0 < (u32s ds).length → ∃ ad, A = some ad ∧ ∀ j v, (u32s ds)[j]? = some v → w.cell? (ad.add j) = some v := fun hp => by
  obtain ⟨b, o, e, _, hcl⟩ := h.reads.2 (by simpa [u32s] using hp)
  refine ⟨⟨b, o, none⟩, e, fun j v hv => ?_⟩
  have h1 := hcl j v hv
  have e3 : (⟨b, o, none⟩ : Addr).add j = ⟨b, o + j, none⟩ := by simp [Addr.add]
  rw [e3]
  exact h1
theorem copy_len {zs : List Nat} {m n : Nat} (h : zs.length = m) (hle : m ≤ n) : (u32s zs).length = Nat.min m n := by
  rw [u32s_len, h]; exact (Nat.min_eq_left hle).symm
theorem splice_head {zs : List Nat} {n m : Nat} (h : zs.length = m) : splice (u32s (List.replicate n 0)) 0 (u32s zs) = u32s (zs ++ List.replicate (n - m) 0) := by
  rw [splice_u]
  simp [h]
theorem val_padded {zs : List Nat} {k : Nat} : val (zs ++ List.replicate k 0) = val zs := by rw [val_append, val_zeros, Nat.mul_zero, Nat.add_zero]
theorem ProdN.zero {w w' : World} {n : Nat} (hb : Blk w' w.heap.size 82 (u32s (List.replicate n 0)).toArray) (h : Below w.heap.size w w') : ProdN n 0 w (.returned (.slice (some ⟨w.heap.size, 0, none⟩) n n)) w' :=
  ⟨some ⟨w.heap.size, 0, none⟩, n, List.replicate n 0, by rw [List.length_replicate], by rw [List.length_replicate]; exact Nat.le_refl _, List.length_replicate .., dig_zs n, val_zeros n, .of_blk (Nat.le_refl _) hb, h⟩
theorem isZero_at {w : World} {B c : Nat} {A : Option Addr} {ds : List Nat} (h : NatIn w B A c ds) (hm : ds.length ≤ 900000) {bv : Bool} (hv : (val ds == 0) = bv) (W : World) (hB : B ≤ w.heap.size) (hW : Below w.heap.size w W) :
    Calls Tryz.prog 59 #[.slice A ds.length c] W fun e w' => e = .returned (.bool bv) ∧ W = w' := by
  have h2 := h.below (hW.mono hB)
  have := IsZero_any A c B ds W h2.cap (by omega) h2.rd h2.dg
  rwa [hv] at this

set_option maxHeartbeats 4000000 in
set_option maxRecDepth 100000 in
theorem product_step (n : Nat) (hIH : ProdIH n) (A A' : Option Addr) (c c' B : Nat) (a b : List Nat) (w : World) (hn : a.length + b.length = n) (hB : B ≤ w.heap.size) (hm : n ≤ 900000) (h : NatIn w B A c a) (h' : NatIn w B A' c' b) :
    Calls Tryz.prog 90 #[.slice A a.length c, .slice A' b.length c'] w (ProdN n (val a * val b) w) := by
  have HIH := Lib.hid hIH; have HI := Lib.hid h; have HI' := Lib.hid h'
  obtain ⟨X, hX⟩ : ∃ X, val a * val b = X := ⟨_, rfl⟩
  rw [hX]
  have HX := Lib.hid hX
  clear hIH h h' hX
  go_enter Tryz.func90, Tryz.ntmps90
  go_upto_if 14 with (fail)
  go_cut [0, 1] (fun u v wc => MulArgs w B n X u v ∧ wc = w)
  case first =>
    by_cases hlt : a.length < b.length
    · go_wp2_with fail
      go_meet
      case rel => exact ⟨⟨A', A, c', c, b, a, rfl, rfl, by omega, by omega, HI'.out, HI.out, by rw [Nat.mul_comm]; exact HX.out⟩, rfl⟩
    · go_wp2_with fail
      go_meet
      case rel => exact ⟨⟨A, A', c, c', a, b, rfl, rfl, by omega, by omega, HI.out, HI'.out, HX.out⟩, rfl⟩
  case rest =>
    clear HI HI' HX hn
    obtain ⟨⟨A, A', c, c', a, b, rfl, rfl, hba, hn, h, h', hX⟩, rfl⟩ := hcut
    by_cases h48 : b.length < 48
    · have hs := school_new A' A c' c B b a wc hB (by omega) h'.rd h.rd h'.dg h.dg
      rw [Nat.add_comm b.length, hn, Nat.mul_comm, hX] at hs
      have HS := Lib.hid hs
      clear h h' hX hs hn HIH
      go_wp2_with fail
      refine HS.out.mono ?_
      rintro e w1 ⟨A1, c1, zs, rfl, k1, k2, k3, k4, k5, k6⟩
      have K2 := Lib.hid k2; have K3 := Lib.hid k3; have K4 := Lib.hid k4; have K5 := Lib.hid k5; have K6 := Lib.hid k6
      clear k2 k3 k4 k5 k6 HS
      go_wp2_with fail
      go_ret
      exact ⟨A1, c1, zs, rfl, k1, K2.out, K3.out, K4.out, K5.out, K6.out⟩
    · have hab : a.length + b.length ≤ 900000 := by omega
      have hmk := fun (W : World) => Tryz.make_u32 (a.length + b.length) (by omega) W
      rw [show ((a.length + b.length : Nat) : Int) = (a.length : Int) + (b.length : Int) by omega] at hmk
      have hbl0 := (Below.refl wc.heap.size wc).alloc (Nat.le_refl _) (.cells (u32s (List.replicate (a.length + b.length) 0)).toArray 82)
      have HZB := Lib.hid (Blk.new wc 82 (u32s (List.replicate (a.length + b.length) 0)).toArray)
      have HBL := Lib.hid hbl0
      by_cases za : val a = 0
      · have HZ := Lib.hid (isZero_at h (by omega) (bv := true) (by rw [za]; rfl) _ hB hbl0)
        have HX := Lib.hid (show X = 0 by rw [← hX, za, Nat.zero_mul])
        have HN := Lib.hid hn
        clear h h' hX hn hbl0 za
        go_wp2_with fail
        refine HZ.out.mono ?_
        rintro e w1 ⟨rfl, rfl⟩
        go_wp2_with fail
        go_ret
        rw [HX.out, ← HN.out]
        exact ProdN.zero HZB.out HBL.out
      · have hza : (val a == 0) = false := by simpa using za
        by_cases zb : val b = 0
        · have HZ := Lib.hid (isZero_at h (by omega) hza _ hB hbl0)
          have HZ' := Lib.hid (isZero_at h' (by omega) (bv := true) (by rw [zb]; rfl) _ hB hbl0)
          have HX := Lib.hid (show X = 0 by rw [← hX, zb, Nat.mul_zero])
          have HN := Lib.hid hn
          clear h h' hX hn hbl0 za zb hza
          go_wp2_with fail
          refine HZ.out.mono ?_
          rintro e w1 ⟨rfl, rfl⟩
          go_wp2_with fail
          refine HZ'.out.mono ?_
          rintro e w1 ⟨rfl, rfl⟩
          go_wp2_with fail
          go_ret
          rw [HX.out, ← HN.out]
          exact ProdN.zero HZB.out HBL.out
        · have HZ := Lib.hid (isZero_at h (by omega) hza _ hB hbl0)
          have HZ' := Lib.hid (isZero_at h' (by omega) (bv := false) (by simpa using zb) _ hB hbl0)
          obtain ⟨ba, oa, rfl, _, _⟩ := h.rd.2 (by omega)
          obtain ⟨bb, ob, rfl, _, _⟩ := h'.rd.2 (by omega)
          obtain ⟨half, hhalf⟩ : ∃ half, half = (a.length + 1) / 2 := ⟨_, rfl⟩
          have hhI : ((a.length : Int) + 1) / 2 = (half : Int) := by omega
          clear za zb hza
          have hha : half < a.length := by omega
          have hha' : half ≤ a.length := by omega
          have lt : (a.take half).length = half := by rw [List.length_take]; omega
          have ld : (a.drop half).length = a.length - half := List.length_drop ..
          have hxl : X < 4294967296 ^ (a.length + b.length) := by rw [← hX, Nat.pow_add]; exact Nat.mul_lt_mul'' (val_lt h.dg) (val_lt h'.dg)
          have hcut : val a = val (a.take half) + 4294967296 ^ half * val (a.drop half) := by
            conv => lhs; rw [← List.take_append_drop half a]
            rw [val_append, lt]
          have i1 : (half : Int) ≤ (c : Int) := by have := h.cap; omega
          have i2 : (half : Int) ≤ (a.length : Int) := by omega
          have e1 : ¬ (c = half) := by have := h.cap; omega
          have e2 : ¬ (a.length + b.length = half) := by omega
          have i3 : (half : Int) ≤ (a.length : Int) + (b.length : Int) := by omega
          by_cases hu : b.length ≤ half
          · have hp1 := fun (W : World) (hW : Below wc.heap.size wc W) => HIH.out (some ⟨ba, oa, none⟩) (some ⟨bb, ob, none⟩) c c' B (a.take half) b W (by rw [lt]; omega) (Nat.le_trans hB hW.size) ((nin_take h hha').below (hW.mono hB)) (h'.below (hW.mono hB))
            have hp2 := fun (W : World) (hW : Below wc.heap.size wc W) => HIH.out (some ⟨ba, oa + half, none⟩) (some ⟨bb, ob, none⟩) (c - half) c' B (a.drop half) b W (by rw [ld]; omega) (Nat.le_trans hB hW.size) ((nin_drop h hha').below (hW.mono hB)) (h'.below (hW.mono hB))
            rw [lt] at hp1
            rw [ld] at hp2
            have hfin : val (a.take half) * val b + 4294967296 ^ half * (val (a.drop half) * val b) = X := by rw [← hX, hcut, Nat.add_mul, Nat.mul_assoc]
            have hlz : (dig (val (a.drop half) * val b)).length ≤ a.length + b.length - half := by
              refine dig_len_lt (pow_split (k := half) rfl (show a.length + b.length = half + _ by omega) ?_)
              omega
            have HP1 := Lib.hid hp1; have HP2 := Lib.hid hp2; have HLZ := Lib.hid hlz
            have HFIN := Lib.hid hfin; have HXL := Lib.hid hxl; have HN := Lib.hid hn
            have HHA := Lib.hid (And.intro hha (And.intro hu hab))
            clear h h' hX hn hp1 hp2 hlz hfin hxl hcut lt ld hhalf HIH
            generalize val (a.take half) = al at *
            generalize val (a.drop half) = ah at *
            generalize val b = bv at *
            go_wp2_with fail
            refine HZ.out.mono ?_
            rintro e w1 ⟨rfl, rfl⟩
            go_wp2_with fail
            refine HZ'.out.mono ?_
            rintro e w1 ⟨rfl, rfl⟩
            go_wp2_with fail
            refine (HP1.out _ HBL.out).mono ?_
            rintro e w1 ⟨A1, c1, z1, rfl, k1, k2, k3, k4, k5, k6⟩
            have HU1 := Lib.hid (HZB.out.old k6)
            have HCL := Lib.hid (copy_len (n := a.length + b.length) (rfl : z1.length = z1.length) (by have := HHA.out; omega))
            have HSRC := Lib.hid (nat_src k5.nat)
            have HFIT := Lib.hid (show 0 + (u32s z1).length ≤ (u32s (List.replicate (a.length + b.length) 0)).length by rw [u32s_len, u32s_len, List.length_replicate]; have := HHA.out; omega)
            have HB1 := Lib.hid (HBL.out.trans (k6.mono hbl0.size))
            have K2 := Lib.hid k2; have K3 := Lib.hid k3; have K4 := Lib.hid k4
            clear k1 k2 k3 k4 k5 k6 HP1 HZ HZ' HZB HBL hbl0
            go_wp2_with (first | (guard_target =~ wpList _ _ _ (Oper.mk (some 50) _ _ _ _ _ :: _) _ _; refine wpList_copy_into (o := ⟨some 50, _, _, _, _, _⟩) rfl (.tmp 44) (.tmp 49) 29 29 rfl 82 Tryz.underlying29 Tryz.size_u32 _ _ (a.length + b.length) (a.length + b.length) z1.length c1 rfl rfl wc.heap.size 0 _ 82 HU1.out (u32s z1) HCL.out (fun hp => ⟨rfl, HSRC.out hp⟩) HFIT.out (u32s_one _) ?_; intro w2 hg2 hb2))
            obtain ⟨zt, lz, dz, vz, hz2⟩ : ∃ zt : List Nat, zt.length = a.length + b.length ∧ Dig zt ∧ val zt = al * bv ∧ Blk w2 wc.heap.size 82 (u32s zt).toArray := by
              have h1 := hg2.out
              rw [splice_head K2.out] at h1
              refine ⟨_, ?_, dig_app K3.out (dig_zs _), by rw [val_padded]; exact K4.out, h1⟩
              have := HHA.out
              rw [List.length_append, List.length_replicate, K2.out]; omega
            have HB2 := Lib.hid (hb2.below _ _ HB1.out (Nat.le_refl _))
            have HTR := Lib.hid (fun (V : World) (A2 : Option Addr) (c2 : Nat) (z2 : List Nat) (m1 : z2.length ≤ c2) (m2 : z2.length = a.length - half + b.length) (m3 : Dig z2) (m4 : val z2 = ah * bv) (m5 : NatB V A2 z2) =>
              (show Calls Tryz.prog 82 #[.slice A2 z2.length c2] V fun e w' => e = .returned (.slice A2 (dig (ah * bv)).length c2) ∧ V = w' by
                have := trim_any A2 c2 V.heap.size z2 V m1 (by have := HHA.out; omega) m5.reads m3
                rwa [m4] at this))
            have HAD := Lib.hid (fun (V : World) (A2 : Option Addr) (c2 : Nat) (z2 : List Nat) (hV : Below w2.heap.size w2 V) (m3 : Dig z2) (m4 : val z2 = ah * bv) (m5 : NatN w2.drew.heap.size V A2 z2) =>
              addInto_any wc.heap.size half (a.length + b.length - half) (a.length + b.length - half) zt A2 c2 (dig (ah * bv)) V (by rw [lz]; have := HHA.out; omega) (by rw [lz]; have := HHA.out; omega) HLZ.out (hz2.old hV) dz (dig_dig _) (natX_of (by have := m5.dig m3; rwa [m4] at this) (show wc.heap.size < w2.drew.heap.size from hz2.lt)) (by rw [val_dig, vz, HFIN.out, lz]; exact HXL.out))
            rw [val_dig, vz, HFIN.out, lz] at HAD
            have hb : Below wc.heap.size wc w2.drew := HB2.out.trans ((Drawn.drew _).below _)
            have hb0 : Below w2.heap.size w2 w2.drew := (Drawn.drew _).below _
            clear hg2 hb2 HU1 HCL HSRC HFIT HB1 K2 K3 K4 lz dz vz hz2 HLZ HXL HFIN HHA
            go_wp2_with fail
            go_region_held3 (fun _ => True) (exact trivial)
              (first
                | (go_at_call 90; (with_reducible refine (HP2.out _ hb).mono ?_); rintro e w4 ⟨A2, c2, z2, rfl, m1, m2, m3, m4, m5, m6⟩; replace m2 := Lib.hid m2; replace m4 := Lib.hid m4)
                | (go_at_call 82; (with_reducible refine (HTR.out _ A2 c2 z2 m1 m2.out m3 m4.out m5.nat).mono ?_); rintro e w5 ⟨rfl, rfl⟩)
                | (go_at_call 110; (with_reducible refine (HAD.out _ A2 c2 z2 (hb0.trans (m6.mono hb0.size)) m3 m4.out m5).mono ?_); rintro e w6 ⟨rfl, hin, zs', j1, j2, j3, j4⟩; replace j1 := Lib.hid j1; replace j3 := Lib.hid j3))
            have J1 := j1; have J2 := Lib.hid j2; have J3 := j3; have J4 := Lib.hid j4
            have HBF := Lib.hid (hin.below _ _ (hb.trans (m6.mono (Nat.le_trans HB2.out.size (Nat.le_refl _)))) (Nat.le_refl _))
            clear j1 j2 j3 j4 m1 m2 m3 m4 m5 m6 hin hb hb0 HTR HAD HP2 HB2
            go_wp2_with fail
            go_ret
            exact ⟨some ⟨wc.heap.size, 0, none⟩, a.length + b.length, zs', by rw [J1.out]; rfl, by rw [J1.out]; exact Nat.le_refl _, by rw [J1.out]; exact HN.out, J2.out, J3.out, .of_blk (Nat.le_refl _) J4.out, HBF.out⟩
          · have hbb : half ≤ b.length := by omega
            have mt : (b.take half).length = half := by rw [List.length_take]; omega
            have md : (b.drop half).length = b.length - half := List.length_drop ..
            have hp1 := fun (W : World) (hW : Below wc.heap.size wc W) => HIH.out (some ⟨ba, oa, none⟩) (some ⟨bb, ob, none⟩) c c' B (a.take half) (b.take half) W (by rw [lt, mt]; omega) (Nat.le_trans hB hW.size) ((nin_take h hha').below (hW.mono hB)) ((nin_take h' hbb).below (hW.mono hB))
            have hp2 := fun (W : World) (hW : Below wc.heap.size wc W) => HIH.out (some ⟨ba, oa + half, none⟩) (some ⟨bb, ob + half, none⟩) (c - half) (c' - half) B (a.drop half) (b.drop half) W (by rw [ld, md]; omega) (Nat.le_trans hB hW.size) ((nin_drop h hha').below (hW.mono hB)) ((nin_drop h' hbb).below (hW.mono hB))
            have ha1 := fun (W : World) (hW : Below wc.heap.size wc W) => Add_new (some ⟨ba, oa, none⟩) (some ⟨ba, oa + half, none⟩) c (c - half) B (a.take half) (a.drop half) W (Nat.le_trans hB hW.size) (nin_take h hha').cap (nin_drop h hha').cap (by rw [lt]; omega) (by rw [ld]; omega) ((nin_take h hha').below (hW.mono hB)).rd ((nin_drop h hha').below (hW.mono hB)).rd (nin_take h hha').dg (nin_drop h hha').dg
            have ha2 := fun (W : World) (hW : Below wc.heap.size wc W) => Add_new (some ⟨bb, ob, none⟩) (some ⟨bb, ob + half, none⟩) c' (c' - half) B (b.take half) (b.drop half) W (Nat.le_trans hB hW.size) (nin_take h' hbb).cap (nin_drop h' hbb).cap (by rw [mt]; omega) (by rw [md]; omega) ((nin_take h' hbb).below (hW.mono hB)).rd ((nin_drop h' hbb).below (hW.mono hB)).rd (nin_take h' hbb).dg (nin_drop h' hbb).dg
            rw [lt, ld] at ha1
            rw [mt, md] at ha2
            rw [lt, mt] at hp1
            rw [ld, md] at hp2
            have hcut' : val b = val (b.take half) + 4294967296 ^ half * val (b.drop half) := by
              conv => lhs; rw [← List.take_append_drop half b]
              rw [val_append, mt]
            have g1 := val_lt (nin_take h hha').dg; have g2 := val_lt (nin_drop h hha').dg
            have g3 := val_lt (nin_take h' hbb).dg; have g4 := val_lt (nin_drop h' hbb).dg
            rw [lt] at g1; rw [ld] at g2; rw [mt] at g3; rw [md] at g4
            have p1 : 4294967296 ^ (a.length - half) ≤ 4294967296 ^ half := Nat.pow_le_pow_right (by decide) (by omega)
            have p2 : 4294967296 ^ (b.length - half) ≤ 4294967296 ^ half := Nat.pow_le_pow_right (by decide) (by omega)
            have s1 : (dig (val (a.take half) + val (a.drop half))).length ≤ half + 1 := dig_len_lt (by rw [Nat.pow_succ]; omega)
            have s2 : (dig (val (b.take half) + val (b.drop half))).length ≤ half + 1 := dig_len_lt (by rw [Nat.pow_succ]; omega)
            have hp3 := fun (V : World) (A3 A4 : Option Addr) (c3 c4 : Nat) (l3 : (dig (val (a.take half) + val (a.drop half))).length ≤ c3) (l4 : (dig (val (b.take half) + val (b.drop half))).length ≤ c4) (n3 : NatB V A3 (dig (val (a.take half) + val (a.drop half)))) (n4 : NatB V A4 (dig (val (b.take half) + val (b.drop half)))) =>
              HIH.out A3 A4 c3 c4 V.heap.size _ _ V (by omega) (Nat.le_refl _) (nin_of n3 (dig_dig _) l3) (nin_of n4 (dig_dig _) l4)
            simp only [val_dig] at hp3
            have hsum := kara_sum (val (a.take half)) (val (a.drop half)) (val (b.take half)) (val (b.drop half)) (4294967296 ^ half)
            rw [← hcut, ← hcut', hX] at hsum
            obtain ⟨hmd, hmle⟩ := kara_mid (val (a.take half)) (val (a.drop half)) (val (b.take half)) (val (b.drop half))
            have hlz : (dig (val (a.take half) * val (b.drop half) + val (a.drop half) * val (b.take half))).length ≤ a.length + b.length - half := by
              refine dig_len_lt (pow_split (k := half) rfl (show a.length + b.length = half + _ by omega) ?_)
              omega
            have i4 : (half : Int) ≤ (c' : Int) := by have := h'.cap; omega
            have i5 : (half : Int) ≤ (b.length : Int) := by omega
            have e3 : ¬ (c' = half) := by have := h'.cap; omega
            obtain ⟨h2, hh2⟩ : ∃ h2, h2 = half + half := ⟨_, rfl⟩
            have i6 : (2 : Int) * (half : Int) = (h2 : Int) := by omega
            have i7 : (h2 : Int) ≤ (a.length : Int) + (b.length : Int) := by omega
            have e4 : ¬ (a.length + b.length = h2) := by omega
            have HP1 := Lib.hid hp1; have HP2 := Lib.hid hp2; have HP3 := Lib.hid hp3; have HA1 := Lib.hid ha1; have HA2 := Lib.hid ha2
            have HLZ := Lib.hid hlz; have HMD := Lib.hid hmd; have HMLE := Lib.hid hmle; have HL3 := Lib.hid s1; have HL4 := Lib.hid s2
            have HFIN := Lib.hid hsum; have HXL := Lib.hid hxl; have HN := Lib.hid hn
            have HHA := Lib.hid (show half < a.length ∧ half < b.length ∧ a.length + b.length ≤ 900000 ∧ a.length ≤ 2 * half ∧ 48 ≤ b.length ∧ h2 = half + half from ⟨hha, by omega, hab, by omega, by omega, hh2⟩)
            clear h h' hX hn hp1 hp2 hp3 ha1 ha2 hlz hmd hmle s1 s2 hsum hxl hcut hcut' lt ld mt md g1 g2 g3 g4 p1 p2 hhalf HIH hh2 hbb
            generalize val (a.take half) = al at *
            generalize val (a.drop half) = ah at *
            generalize val (b.take half) = bl at *
            generalize val (b.drop half) = bh at *
            go_wp2_with fail
            refine HZ.out.mono ?_
            rintro e w1 ⟨rfl, rfl⟩
            go_wp2_with fail
            refine HZ'.out.mono ?_
            rintro e w1 ⟨rfl, rfl⟩
            have hu : ¬ (b.length ≤ half) := by have := HHA.out; omega
            generalize hW0 : wc.alloc (.cells (u32s (List.replicate (a.length + b.length) 0)).toArray 82) = W0 at *
            clear hW0 hmk
            have hb : Below wc.heap.size wc W0.drew := hbl0.trans ((Drawn.drew _).below _)
            go_wp2_with fail
            go_region_held3 (fun _ => True) (exact trivial)
              (first
                | (go_at_call 90; (with_reducible refine (HP1.out _ hb).mono ?_); rintro e w1 ⟨A1, c1, z1, rfl, k1, k2, k3, k4, k5, k6⟩; replace k2 := Lib.hid k2; replace k4 := Lib.hid k4))
            have hz1 := HZB.out.old ((Drawn.drew W0).below _ |>.trans k6)
            have HB1 := Lib.hid (hb.trans (k6.mono (show wc.heap.size ≤ W0.drew.heap.size from hbl0.size)))
            have HZ1 := Lib.hid hz1; have HG1 := Lib.hid (show wc.heap.size < W0.drew.heap.size from HZB.out.lt)
            have K1 := Lib.hid k1; have K3 := Lib.hid k3; have K5 := Lib.hid k5
            have hb : Below wc.heap.size wc w1.drew := HB1.out.trans ((Drawn.drew _).below _)
            clear hz1 k1 k3 k5 k6 HZB hbl0 HBL HZ HZ' HP1
            go_wp2_with fail
            go_region_held3 (fun _ => True) (exact trivial)
              (first
                | (go_at_call 90; (with_reducible refine (HP2.out _ hb).mono ?_); rintro e w2 ⟨A2, c2, z2, rfl, m1, m2, m3, m4, m5, m6⟩; replace m2 := Lib.hid m2; replace m4 := Lib.hid m4))
            have hd2 := ((Drawn.drew w1).below _ |>.trans m6)
            have HZ2 := Lib.hid (HZ1.out.old hd2)
            have K5' := Lib.hid (K5.out.old hd2)
            have HB2 := Lib.hid (HB1.out.trans (hd2.mono HB1.out.size))
            have HG2 := Lib.hid (show wc.heap.size < w1.drew.heap.size from HZ1.out.lt)
            have M1 := Lib.hid m1; have M3 := Lib.hid m3; have M5 := Lib.hid m5
            clear m1 m3 m5 m6 hd2 HZ1 K5 HB1 HP2
            have hb : Below wc.heap.size wc w2.drew := HB2.out.trans ((Drawn.drew _).below _)
            have hk : Below w2.heap.size w2 w2.drew := (Drawn.drew _).below _
            go_wp2_with fail
            go_region_held3 (fun _ => True) (exact trivial)
              (first
                | (go_at_call 63; (first
                    | ((with_reducible refine (HA1.out _ hb).mono ?_); rintro e w3 ⟨A3, c3, rfl, l3, n3, hk3⟩; (try replace n4 := NatN.old n4 hk3); replace hb := hb.trans (hk3.mono hb.size); replace hk := hk.trans (hk3.mono hk.size))
                    | ((with_reducible refine (HA2.out _ hb).mono ?_); rintro e w4 ⟨A4, c4, rfl, l4, n4, hk4⟩; (try replace n3 := NatN.old n3 hk4); replace hb := hb.trans (hk4.mono hb.size); replace hk := hk.trans (hk4.mono hk.size))))
                | (go_at_call 90; (with_reducible refine (HP3.out _ A3 A4 c3 c4 l3 l4 n3.nat n4.nat).mono ?_); rintro e w5 ⟨A5, c5, z5, rfl, j1, j2, j3, j4, j5, j6⟩; replace j2 := Lib.hid j2; replace j4 := Lib.hid j4; replace hb := hb.trans (j6.mono hb.size); replace hk := hk.trans (j6.mono hk.size)))
            have HZ5 := Lib.hid (HZ2.out.old hk)
            have N1 := Lib.hid (K5'.out.old hk); have N2 := Lib.hid (M5.out.old hk); have N5 := Lib.hid j5
            have HB5 := Lib.hid hb
            have J1 := Lib.hid j1; have J3 := Lib.hid j3
            have hz1 : z1.length ≤ 900000 := by have := k2.out; have := HHA.out; omega
            have hz2 : z2.length ≤ 900000 := by have := m2.out; have := HHA.out; omega
            have hz5 : z5.length ≤ 900000 := by have := j2.out; have := HHA.out; have := HL3.out; have := HL4.out; omega
            have hq : (dig (al * bl + ah * bh)).length ≤ z5.length := dig_len_lt (Nat.lt_of_le_of_lt HMLE.out (by rw [← j4.out]; exact val_lt j3))
            have ha3 := fun (V : World) (hV : Below w5.heap.size w5 V) => Add_new A1 A2 c1 c2 V.heap.size z1 z2 V (Nat.le_refl _) K1.out M1.out hz1 hz2 (N1.out.old hV).nat.reads (N2.out.old hV).nat.reads K3.out M3.out
            rw [k4.out, m4.out] at ha3
            have hs3 := fun (V : World) (A6 : Option Addr) (c6 : Nat) (l6 : (dig (al * bl + ah * bh)).length ≤ c6) (hV : Below w5.heap.size w5 V) (n6 : NatB V A6 (dig (al * bl + ah * bh))) =>
              Sub_new A5 A6 c5 c6 V.heap.size z5 (dig (al * bl + ah * bh)) V (Nat.le_refl _) J1.out l6 hz5 (by omega) (N5.out.old hV).nat.reads n6.reads J3.out (dig_dig _) (by rw [val_dig, j4.out]; exact HMLE.out)
            rw [j4.out] at hs3
            simp only [val_dig] at hs3
            rw [HMD.out] at hs3
            have HA3 := Lib.hid (ha3 w5 (Below.refl _ _)); have HS3 := Lib.hid hs3
            clear ha3 hs3 hz1 hz2 hz5 hq j1 j3 j5 j6 hb hk hk3 hk4 l3 l4 n3 n4 HP3 HA1 HA2 HZ2 K5' M5 HB2
            generalize hvm : al * bh + ah * bl = vm at *
            have HVM := Lib.hid hvm
            clear hvm
            go_wp2_with fail
            refine HA3.out.mono ?_
            rintro e w6 ⟨A6, c6, rfl, l6, n6, hb6⟩
            have HS := Lib.hid (HS3.out w6 A6 c6 l6 hb6 n6.nat)
            have HZ6 := Lib.hid (HZ5.out.old hb6)
            have N1' := Lib.hid (N1.out.old hb6); have N2' := Lib.hid (N2.out.old hb6)
            have HB6 := Lib.hid (HB5.out.trans (hb6.mono HB5.out.size))
            clear hb6 l6 n6 HS3 HA3 HZ5 N1 N2 N5 HB5
            go_wp2_with fail
            refine HS.out.mono ?_
            rintro e w7 ⟨A7, c7, rfl, l7, n7, hb7⟩
            have HZ7 := Lib.hid (HZ6.out.old hb7)
            have N1 := Lib.hid (N1'.out.old hb7); have N2 := Lib.hid (N2'.out.old hb7)
            have HB7 := Lib.hid (HB6.out.trans (hb7.mono HB6.out.size))
            have HG7 := Lib.hid (show wc.heap.size < w6.heap.size from HZ6.out.lt)
            have N7 := Lib.hid n7
            clear hb7 l7 n7 HS HZ6 N1' N2' HB6
            have HCL := Lib.hid (copy_len (n := a.length + b.length) (rfl : z1.length = z1.length) (by have := k2.out; have := HHA.out; omega))
            have HSRC := Lib.hid (nat_src N1.out.nat)
            have HFIT := Lib.hid (show 0 + (u32s z1).length ≤ (u32s (List.replicate (a.length + b.length) 0)).length by rw [u32s_len, u32s_len, List.length_replicate, k2.out]; have := HHA.out; omega)
            go_wp2_with (first | (guard_target =~ wpList _ _ _ (Oper.mk (some 101) _ _ _ _ _ :: _) _ _; refine wpList_copy_into (o := ⟨some 101, _, _, _, _, _⟩) rfl (.tmp 99) (.tmp 100) 29 29 rfl 82 Tryz.underlying29 Tryz.size_u32 _ _ (a.length + b.length) (a.length + b.length) z1.length c1 rfl rfl wc.heap.size 0 _ 82 HZ7.out (u32s z1) HCL.out (fun hp => ⟨rfl, HSRC.out hp⟩) HFIT.out (u32s_one _) ?_; intro w8 hg8 hi8; refine Hid.out ?_))
            refine Lib.hid ?_
            have HZ8 := Lib.hid (show Blk w8 wc.heap.size 82 (u32s (z1 ++ List.replicate (a.length + b.length - h2) 0)).toArray by
              have h1 := hg8.out
              have hq := k2.out
              rwa [splice_head (show z1.length = h2 by have := HHA.out; omega)] at h1)
            have N2' := Lib.hid (N2.out.into HG2.out hi8)
            have N7' := Lib.hid (N7.out.into HG7.out hi8)
            have HB8 := Lib.hid (hi8.below _ _ HB7.out (Nat.le_refl _))
            clear hg8 hi8 HZ7 HCL HSRC HFIT N1 N2 N7 HB7
            have HCL := Lib.hid (copy_len (n := a.length + b.length - h2) (rfl : z2.length = z2.length) (by have := m2.out; have := HHA.out; omega))
            have HSRC := Lib.hid (nat_src N2'.out.nat)
            have HFIT := Lib.hid (show h2 + (u32s z2).length ≤ (u32s (z1 ++ List.replicate (a.length + b.length - h2) 0)).length by rw [u32s_len, u32s_len, List.length_append, List.length_replicate, k2.out, m2.out]; have := HHA.out; omega)
            go_wp2_with (first | (guard_target =~ wpList _ _ _ (Oper.mk (some 107) _ _ _ _ _ :: _) _ _; refine wpList_copy_into (o := ⟨some 107, _, _, _, _, _⟩) rfl (.tmp 105) (.tmp 106) 29 29 rfl 82 Tryz.underlying29 Tryz.size_u32 _ _ (a.length + b.length - h2) (a.length + b.length - h2) z2.length c2 rfl rfl wc.heap.size h2 _ 82 HZ8.out (u32s z2) HCL.out (fun hp => ⟨rfl, HSRC.out hp⟩) HFIT.out (u32s_one _) ?_; intro w9 hg9 hi9))
            have hz9 : Blk w9 wc.heap.size 82 (u32s (z1 ++ z2)).toArray := by
              have h1 := hg9.out
              have hq := k2.out
              rwa [splice_tail (show z1.length = h2 by have := HHA.out; omega) (by rw [m2.out]; have := HHA.out; omega) (by have := HHA.out; omega)] at h1
            have HN7 := Lib.hid (N7'.out.into HG7.out hi9)
            have HB9 := Lib.hid (hi9.below _ _ HB8.out (Nat.le_refl _))
            have hlz : (z1 ++ z2).length = a.length + b.length := by rw [List.length_append, k2.out, m2.out]; have := HHA.out; omega
            have hvz : val (z1 ++ z2) + 4294967296 ^ half * vm = X := by
              rw [val_append, k4.out, m4.out, k2.out, Nat.pow_add]
              exact HFIN.out
            have hdz := dig_app K3.out M3.out
            clear hg9 hi9 HZ8 HCL HSRC HFIT N2' N7' HB8
            generalize z1 ++ z2 = zt at *
            have hlv : (dig vm).length ≤ a.length + b.length - half := HLZ.out
            have had := addInto_any wc.heap.size half (a.length + b.length - half) (a.length + b.length - half) zt A7 c7 (dig vm) w9 (by rw [hlz]; have := HHA.out; omega) (by rw [hlz]; have := HHA.out; omega) hlv hz9 hdz (dig_dig _) (natX_of HN7.out HG7.out) (by rw [val_dig, hvz, hlz]; exact HXL.out)
            rw [val_dig, hvz, hlz] at had
            have HAD := Lib.hid had
            clear had hlv hvz hlz hdz hz9
            go_wp2_with fail
            refine HAD.out.mono ?_
            rintro e w10 ⟨rfl, hin, zs', y1, y2, y3, y4⟩
            have Y1 := Lib.hid y1; have Y2 := Lib.hid y2; have Y3 := Lib.hid y3; have Y4 := Lib.hid y4
            have HBF := Lib.hid (hin.below _ _ HB9.out (Nat.le_refl _))
            clear y1 y2 y3 y4 hin HAD
            go_wp2_with fail
            go_ret
            exact ⟨some ⟨wc.heap.size, 0, none⟩, a.length + b.length, zs', by rw [Y1.out]; rfl, by rw [Y1.out]; exact Nat.le_refl _, by rw [Y1.out]; exact HN.out, Y2.out, Y3.out, .of_blk (Nat.le_refl _) Y4.out, HBF.out⟩
/-- product, for numbers of any length -/
theorem product_any : ∀ n : Nat, n ≤ 900001 → ProdIH n := by
  intro n
  induction n with
  | zero => intro _ A A' c c' B a b w h; exact absurd h (Nat.not_lt_zero _)
  | succ n ih =>
    intro hn A A' c c' B a b w hl hB h h'
    exact product_step _ (fun A A' c c' B a' b' w hl' => ih (by omega) A A' c c' B a' b' w (by omega)) A A' c c' B a b w rfl hB (by omega) h h'
end Go.Proofs.YtpbapoanjkekmaaGreat
