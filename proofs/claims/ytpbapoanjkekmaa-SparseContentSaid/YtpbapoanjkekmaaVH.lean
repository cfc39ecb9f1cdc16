/- Contract of natural.Shl, by less than a digit . -/
import Derived.Test.YtpbapoanjkekmaaVG
import Derived.Test.YtpbapoanjkekmaaVD
import Derived.Test.YtpbapoanjkekmaaZM
namespace Go.Proofs.Ytpbapoanjkekmaa
open Go.RowKit

theorem or_low {t low s : Nat} (ht : t < 2 ^ s) (hd : 2 ^ s ∣ low) (h1 : t < 4294967296) (h2 : low < 4294967296) : bits .or .u32 (t : Int) (low : Int) = ((t + low : Nat) : Int) := by
  obtain ⟨y, rfl⟩ := hd
  rw [u32_or_nat _ _ h1 h2, Nat.or_comm, ← Nat.two_pow_add_eq_or_of_lt ht, Nat.add_comm]
theorem shl_row {ys : List Nat} {t k r a b : Nat} (h : ys.length = k) : ((ys ++ t :: List.replicate (r + 1) 0).set k a).set (k + 1) b = (ys ++ [a]) ++ b :: List.replicate r 0 := by
  rw [List.set_append_right _ _ (by omega), h, Nat.sub_self, List.set_cons_zero, List.set_append_right _ _ (by omega), h, show k + 1 - k = 1 by omega, List.replicate_succ]
  simp
set_option maxHeartbeats 2000000 in
set_option maxRecDepth 100000 in
theorem Shl_any (A : Option Addr) (c B s : Nat) (ds : List Nat) (w : World) (hB : B ≤ w.heap.size) (hc : ds.length ≤ c) (hl : ds.length ≤ 900000) (hs : s ≤ 31) (hr : Reads w B 1 A ds.length (u32s ds)) (hd : Dig ds) :
    Calls Try.prog 83 #[.slice A ds.length c, .int .i64 (s : Int)] w (NatRes (val ds * 2 ^ s) w) := by
  have h1 := trim_any A c B ds w hc (by omega) hr hd
  have r1 := reads_dig hr hd
  have l1 := dig_len_le hd
  have g1 := dig_dig (val ds)
  have v1 := val_dig (val ds)
  generalize val ds = x at *
  by_cases hx0 : x = 0
  · subst hx0
    rw [dig_zero] at h1
    have H1 := Lib.hid h1
    clear h1 g1 v1 hr hd r1 l1
    rw [Nat.zero_mul]
    go_enter Try.func83, Try.ntmps83
    go_wp2_with fail
    refine (H1.out).mono ?_
    rintro e w1 ⟨rfl, rfl⟩
    go_wp2_with fail
    go_ret
    exact ⟨none, 0, by rw [dig_zero]; rfl, by rw [dig_zero]; exact Nat.le_refl _, .inl dig_zero, Below.refl _ _⟩
  · have hl0 : 0 < (dig x).length := dig_len_pos.2 (by omega)
    generalize dig x = a at *
    have H1 := Lib.hid h1; have G1 := Lib.hid g1; have V1 := Lib.hid v1
    clear h1 g1 v1 hr hd
    have k1 : (s : Int) ≤ 31 := by omega
    have k0 : (0 : Int) ≤ (s : Int) := by omega
    have k2 : ((a.length : Int) == 0) = false := by simp only [beq_eq_false_iff_ne, ne_eq]; omega
    have k5 : min (s : Int) 16777216 = (s : Int) := by omega
    have k6 : (0 : Int) + (a.length : Int) = (a.length : Int) := by omega
    have k3 : (s : Int) / 32 = 0 := by omega
    have k4 : (s : Int) % 32 = s := by omega
    have hmk := fun (W : World) => Try.make_u32 (a.length + 1) (by omega) W
    rw [show ((a.length + 1 : Nat) : Int) = (a.length : Int) + 1 by omega] at hmk
    go_enter Try.func83, Try.ntmps83
    go_wp2_with fail
    refine (H1.out).mono ?_
    rintro e w1 ⟨rfl, rfl⟩
    go_wp2_with fail
    clear hmk
    have hbl0 : Below w.heap.size w (w.alloc (.cells (u32s (List.replicate (a.length + 1) 0)).toArray 70)) := (Below.refl _ w).alloc (Nat.le_refl _) _
    have hzb0 := Blk.new w 70 (u32s (List.replicate (a.length + 1) 0)).toArray
    have hpq : 2 ^ s * 2 ^ (32 - s) = 4294967296 := by rw [← Nat.pow_add, show s + (32 - s) = 32 by omega]
    have hpp : 0 < 2 ^ s := Nat.pow_pos (by decide)
    have hst0 : ShlSt [] 0 0 (val (a.take 0)) (2 ^ s) := by simpa [val] using ShlSt.nil hpp
    have HPQ := Lib.hid hpq
    clear hpq hpp
    rw [show List.replicate (a.length + 1) 0 = [] ++ 0 :: List.replicate (a.length - 0) 0 from rfl] at hzb0
    go_loopg [9, 10, 11, 36] a.length (fun gn _ _ _ kv wr => ∃ (k t : Nat) (ys : List Nat), k ≤ a.length ∧ gn = a.length - k ∧ kv = .int .i64 k ∧ ShlSt ys t k (val (a.take k)) (2 ^ s) ∧ Blk wr w.heap.size 70 (u32s (ys ++ t :: List.replicate (a.length - k) 0)).toArray ∧ Below w.heap.size w wr)
    case atStart => exact ⟨0, 0, [], Nat.zero_le _, rfl, rfl, hst0, hzb0, hbl0⟩
    case round =>
      clear hst0 hzb0 hbl0
      obtain ⟨k, t, ys, hk, hgk, rfl, hst, hzb, hbl⟩ := hrel
      have HG := Lib.hid hgk
      clear hgk
      have HST := Lib.hid hst
      have hyl := hst.len
      clear hst
      by_cases hlt : k < a.length
      · obtain ⟨b1, o1, rfl, q1, c1⟩ := nat_at (r1.below (hbl.mono hB)) (k := k) hlt
        have hxa := dig_at G1.out k
        have c3 : wr.cell? ⟨w.heap.size, k, none⟩ = some (.int .u32 (t : Int)) := by
          rw [hzb.cell k]
          simp [u32s, hyl]
        have f3 := hzb.frozen k
        have z3 := hzb.lt
        have c4 : wr.cell? ⟨w.heap.size, k + 1, none⟩ = some (.int .u32 0) := by
          rw [hzb.cell (k + 1)]
          obtain ⟨r, hr⟩ : ∃ r, a.length - k = r + 1 := ⟨a.length - k - 1, by omega⟩
          rw [hr]
          simp [u32s, hyl, List.replicate_succ]
        have f4 := hzb.frozen (k + 1)
        have HTA := Lib.hid (val_take_succ (ds := a) (k := k) hlt)
        generalize a.getD k 0 = xa at *
        have hp31 : 2 ^ s ≤ 2147483648 := Nat.le_trans (Nat.pow_le_pow_right (by decide) hs) (by decide)
        have hxp : xa * 2 ^ s ≤ 4294967295 * 2147483648 := Nat.mul_le_mul (by omega) hp31
        have hwr : IntKind.u64.wrap ((xa : Int) * 2 ^ s) = ((xa * 2 ^ s : Nat) : Int) := by
          rw [show (xa : Int) * 2 ^ s = ((xa * 2 ^ s : Nat) : Int) by simp]
          exact wraps_u64n (by omega)
        have i1 : (k : Int) < (a.length : Int) := by omega
        have i0 : (0 : Int) ≤ (k : Int) := by omega
        have i2 : (k : Int) < (a.length : Int) + 1 := by omega
        have hpp := Nat.lt_of_le_of_lt (Nat.zero_le _) HST.out.lt
        have hsf := shl_fit (x := xa) HPQ.out HST.out.lt
        have hlo : xa * 2 ^ s % 4294967296 < 4294967296 := Nat.mod_lt _ (by decide)
        have hor := or_low HST.out.lt hsf.2 (by have := HST.out.lt; omega) hlo
        have hN := HST.out.step HPQ.out hxa
        rw [← HTA.out] at hN
        have HN := Lib.hid hN
        obtain ⟨r, hr⟩ : ∃ r, a.length - k = r + 1 := ⟨a.length - k - 1, by omega⟩
        rw [hr] at hzb
        have hSB := (hzb.set_ k (.int .u32 ((t + xa * 2 ^ s % 4294967296 : Nat) : Int))).set_ (k + 1) (.int .u32 ((xa * 2 ^ s / 4294967296 : Nat) : Int))
        rw [u32s_set, u32s_set, shl_row hyl] at hSB
        have HSB := Lib.hid hSB
        have HBL := Lib.hid ((hbl.setCell (p := ⟨w.heap.size, k, none⟩) (Nat.le_refl _) (.int .u32 ((t + xa * 2 ^ s % 4294967296 : Nat) : Int))).setCell (p := ⟨w.heap.size, k + 1, none⟩) (Nat.le_refl _) (.int .u32 ((xa * 2 ^ s / 4294967296 : Nat) : Int)))
        clear hN hSB hzb hbl
        have e1 : ((xa * 2 ^ s % 4294967296 : Nat) : Int) = (xa : Int) * 2 ^ s % 4294967296 := by simp
        have e2 : ((xa * 2 ^ s / 4294967296 : Nat) : Int) = (xa : Int) * 2 ^ s / 4294967296 % 4294967296 := by
          rw [← Nat.mod_eq_of_lt (show xa * 2 ^ s / 4294967296 < 4294967296 by omega)]
          simp
        rw [e1] at hor
        rw [e2] at HSB HBL
        have HOR := Lib.hid hor
        rw [← HOR.out] at HSB HBL
        clear hor e1 e2
        go_wp2_with fail
        go_roundg (a.length - (k + 1))
        case rel => exact ⟨k + 1, xa * 2 ^ s / 4294967296, ys ++ [t + xa * 2 ^ s % 4294967296], by omega, rfl, by go_num, HN.out, by rw [show a.length - (k + 1) = r by omega]; exact HSB.out, HBL.out⟩
        case measure => have := HG.out; omega
      · obtain rfl : k = a.length := by omega
        have hsum := HST.out.sum
        rw [List.take_length, V1.out] at hsum
        rw [Nat.sub_self, List.replicate_zero] at hzb
        have hdz : Dig (ys ++ [t]) := fun z hz => by
          rcases List.mem_append.1 hz with hz | hz
          · exact HST.out.dg z hz
          · rw [List.mem_singleton] at hz
            rw [hz]
            have h1 := HST.out.lt
            have h2 : 2 ^ s ≤ 2147483648 := Nat.le_trans (Nat.pow_le_pow_right (by decide) hs) (by decide)
            omega
        have hvz : val (ys ++ [t]) = x * 2 ^ s := by
          rw [val_append, hyl, ← hsum]
          simp [val]
        have hlz : (ys ++ [t]).length = a.length + 1 := by simp [hyl]
        generalize ys ++ [t] = zs at *
        have hrd := hzb.reads zs.length (Nat.le_refl _)
        rw [List.take_length] at hrd
        have htr := trim_any (some ⟨w.heap.size, 0, none⟩) (a.length + 1) _ zs _ (by omega) (by omega) hrd hdz
        have hrd2 := (NatB.of_blk hzb).dig hdz
        have hll := dig_len_le hdz
        rw [hvz, hlz] at htr
        rw [hvz] at hrd2 hll
        generalize hV : x * 2 ^ s = V at *
        have HTR := Lib.hid htr; have HRD := Lib.hid hrd2; have HLL := Lib.hid (show (dig V).length ≤ a.length + 1 by omega)
        have HB := Lib.hid hbl
        clear htr hrd2 hll hrd hzb hbl hV hsum hdz hvz hlz
        go_wp2_with fail
        refine (HTR.out).mono ?_
        rintro e w5 ⟨rfl, rfl⟩
        go_wp2_with fail
        go_ret
        exact ⟨_, _, rfl, HLL.out, HRD.out, HB.out⟩
end Go.Proofs.Ytpbapoanjkekmaa
