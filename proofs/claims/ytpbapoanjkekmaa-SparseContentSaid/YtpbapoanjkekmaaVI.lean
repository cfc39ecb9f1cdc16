/- Contract of natural.Shr, by less than a digit. -/
import Derived.Test.YtpbapoanjkekmaaVH
namespace Go.Proofs.Ytpbapoanjkekmaa
open Go.RowKit

theorem shrL_at (p : Nat) : ∀ {l : List Nat} {k : Nat}, k < l.length → (shrL p l).getD k 0 = (l.getD k 0 + 4294967296 * l.getD (k + 1) 0) / p % 4294967296
  | [], k, h => by simp at h
  | x :: r, 0, _ => by
    rw [shrL]
    cases r <;> simp
  | x :: r, k + 1, h => by
    have := shrL_at p (l := r) (k := k) (by simpa using h)
    rw [shrL]
    simpa using this
theorem shr_row {L : List Nat} {k n : Nat} (h : L.length = n) (hk : k < n) : (L.take k ++ List.replicate (n - k) 0).set k (L.getD k 0) = L.take (k + 1) ++ List.replicate (n - (k + 1)) 0 := by
  have hl : (L.take k).length = k := by rw [List.length_take]; omega
  rw [List.set_append_right _ _ (by omega), hl, Nat.sub_self, show n - k = (n - (k + 1)) + 1 by omega, List.replicate_succ, List.set_cons_zero, List.take_succ_eq_append_getElem (by omega), List.append_assoc, List.getD_eq_getElem?_getD, List.getElem?_eq_getElem (by omega)]
  rfl
theorem or_hi {x y : Nat} (hx : x < 4294967296) (hy : y < 4294967296) : bits .or .u64 (x : Int) ((y : Int) * 4294967296) = ((x + 4294967296 * y : Nat) : Int) := by
  have h := u64_or_nat x (y * 4294967296) (by omega) (by omega)
  have h2 := Nat.two_pow_add_eq_or_of_lt (i := 32) (show x < 2 ^ 32 by omega) y
  rw [show (2 : Nat) ^ 32 = 4294967296 by decide] at h2
  rw [show (y : Int) * 4294967296 = ((y * 4294967296 : Nat) : Int) by omega, h, Nat.or_comm, Nat.mul_comm y, ← h2, Nat.add_comm]

set_option maxHeartbeats 2000000 in
set_option maxRecDepth 100000 in
theorem Shr_any (A : Option Addr) (c B s : Nat) (ds : List Nat) (w : World) (hB : B ≤ w.heap.size) (hc : ds.length ≤ c) (hl : ds.length ≤ 900000) (hs : s ≤ 31) (hr : Reads w B 1 A ds.length (u32s ds)) (hd : Dig ds) :
    Calls Try.prog 87 #[.slice A ds.length c, .int .i64 (s : Int)] w (NatRes (val ds / 2 ^ s) w) := by
  have h1 := trim_any A c B ds w hc (by omega) hr hd
  have r1 := reads_dig hr hd
  have l1 := dig_len_le hd
  have g1 := dig_dig (val ds)
  have v1 := val_dig (val ds)
  generalize val ds = x at *
  by_cases hx0 : x = 0
  · subst hx0
    rw [dig_zero] at h1
    have H1 := Lib.hid h1
    have k0 : (0 : Int) ≤ (s : Int) := by omega
    have k3 : (s : Int) / 32 = 0 := by omega
    have k4 : (s : Int) % 32 = s := by omega
    have k5 : max (s : Int) 0 = (s : Int) := by omega
    clear h1 g1 v1 hr hd r1 l1
    rw [Nat.zero_div]
    go_enter Try.func87, Try.ntmps87
    go_wp2_with fail
    refine (H1.out).mono ?_
    rintro e w1 ⟨rfl, rfl⟩
    go_wp2_with fail
    go_ret
    exact ⟨none, 0, by rw [dig_zero]; rfl, by rw [dig_zero]; exact Nat.le_refl _, .inl dig_zero, Below.refl _ _⟩
  · have hl0 : 0 < (dig x).length := dig_len_pos.2 (by omega)
    generalize dig x = a at *
    have hpq : 2 ^ s * 2 ^ (32 - s) = 4294967296 := by rw [← Nat.pow_add, show s + (32 - s) = 32 by omega]
    have HVS := Lib.hid (show val (shrL (2 ^ s) a) = x / 2 ^ s by rw [val_shrL hpq g1, v1])
    have HSD := Lib.hid (shrL_dig (2 ^ s) a)
    have hsl := shrL_len (2 ^ s) a
    have HSA := Lib.hid (fun k (hk : k < a.length) => shrL_at (2 ^ s) (l := a) hk)
    generalize hL : shrL (2 ^ s) a = L at *
    clear hL hpq
    have HSL := Lib.hid hsl
    clear hsl
    have H1 := Lib.hid h1; have G1 := Lib.hid g1; have V1 := Lib.hid v1
    clear h1 g1 v1 hr hd
    have k1 : (s : Int) ≤ 31 := by omega
    have k0 : (0 : Int) ≤ (s : Int) := by omega
    have k3 : (s : Int) / 32 = 0 := by omega
    have k4 : (s : Int) % 32 = s := by omega
    have k5 : max (s : Int) 0 = (s : Int) := by omega
    have k6 : (0 : Int) < (a.length : Int) := by omega
    have k7 : ¬ a = [] := fun e => by rw [e] at hl0; simp at hl0
    have hmk := fun (W : World) => Try.make_u32 a.length (by omega) W
    go_enter Try.func87, Try.ntmps87
    go_wp2_with fail
    refine (H1.out).mono ?_
    rintro e w1 ⟨rfl, rfl⟩
    go_wp2_with fail
    clear hmk
    have hbl0 : Below w.heap.size w (w.alloc (.cells (u32s (List.replicate a.length 0)).toArray 70)) := (Below.refl _ w).alloc (Nat.le_refl _) _
    have hzb0 := Blk.new w 70 (u32s (List.replicate a.length 0)).toArray
    clear k3 k4 k5
    go_loopg [9, 10, 11, 33] a.length (fun gn _ _ _ kv wr => ∃ k : Nat, k ≤ a.length ∧ gn = a.length - k ∧ kv = .int .i64 k ∧ Blk wr w.heap.size 70 (u32s (L.take k ++ List.replicate (a.length - k) 0)).toArray ∧ Below w.heap.size w wr)
    case atStart => exact ⟨0, Nat.zero_le _, rfl, rfl, hzb0, hbl0⟩
    case round =>
      clear hzb0 hbl0
      obtain ⟨k, hk, hgk, rfl, hzb, hbl⟩ := hrel
      have HG := Lib.hid hgk
      clear hgk
      by_cases hlt : k < a.length
      · obtain ⟨b1, o1, rfl, q1, c1⟩ := nat_at (r1.below (hbl.mono hB)) (k := k) hlt
        have hxa := dig_at G1.out k
        have HDG := Lib.hid (HSA.out k hlt)
        have c3 : ∃ u, wr.cell? ⟨w.heap.size, k, none⟩ = some (.int .u32 u) := by
          rw [hzb.cell k]
          have hlen : (L.take k ++ List.replicate (a.length - k) 0).length = a.length := by
            rw [List.length_append, List.length_take, List.length_replicate, HSL.out]; omega
          exact ⟨_, u32s_at _ _ (by rw [hlen]; exact hlt)⟩
        obtain ⟨u3, c3⟩ := c3
        have f3 := hzb.frozen k
        have z3 := hzb.lt
        have i1 : (k : Int) < (a.length : Int) := by omega
        have i0 : (0 : Int) ≤ (k : Int) := by omega
        have HSB := Lib.hid (show Blk (wr.setCell ⟨w.heap.size, k, none⟩ (.int .u32 ((L.getD k 0 : Nat) : Int))) w.heap.size 70 (u32s (L.take (k + 1) ++ List.replicate (a.length - (k + 1)) 0)).toArray by
          rw [← shr_row HSL.out hlt, ← u32s_set]; exact hzb.set_ k _)
        have HBL := Lib.hid (fun u => hbl.setCell (p := ⟨w.heap.size, k, none⟩) (Nat.le_refl _) u)
        by_cases hk1 : k + 1 < a.length
        · have c2 : wr.cell? ⟨b1, o1 + (k + 1), none⟩ = some (.int .u32 ((a.getD (k + 1) 0 : Nat) : Int)) := by
            obtain ⟨b2, o2, e, _, c2⟩ := nat_at (r1.below (hbl.mono hB)) (k := k + 1) hk1
            injection e with e
            injection e with e1 e2
            subst e1
            subst e2
            exact c2
          have hya := dig_at G1.out (k + 1)
          generalize a.getD (k + 1) 0 = ya at *
          generalize a.getD k 0 = xa at *
          have i3 : (k : Int) + 1 < (a.length : Int) := by omega
          have hE : bits .or .u64 (xa : Int) ((ya : Int) * 4294967296) / 2 ^ s % 4294967296 = ((L.getD k 0 : Nat) : Int) := by
            rw [or_hi hxa hya, HDG.out]
            simp
          rw [← hE] at HSB
          clear hE hzb hbl
          go_wp2_with fail
          go_roundg (a.length - (k + 1))
          case rel => exact ⟨k + 1, by omega, rfl, by go_num, HSB.out, HBL.out _⟩
          case measure => have := HG.out; omega
        · have hy0 : a.getD (k + 1) 0 = 0 := by
            rw [List.getD_eq_getElem?_getD, List.getElem?_eq_none (by omega)]; rfl
          rw [hy0, Nat.mul_zero, Nat.add_zero] at HDG
          generalize a.getD k 0 = xa at *
          have i3 : ¬ (k : Int) + 1 < (a.length : Int) := by omega
          have hE : (xa : Int) / 2 ^ s % 4294967296 = ((L.getD k 0 : Nat) : Int) := by
            rw [HDG.out]
            simp
          rw [← hE] at HSB
          clear hE hzb hbl hy0
          go_wp2_with fail
          go_roundg (a.length - (k + 1))
          case rel => exact ⟨k + 1, by omega, rfl, by go_num, HSB.out, HBL.out _⟩
          case measure => have := HG.out; omega
      · obtain rfl : k = a.length := by omega
        rw [Nat.sub_self, List.replicate_zero, List.append_nil, List.take_of_length_le (by rw [HSL.out]; exact Nat.le_refl _)] at hzb
        have hdz := HSD.out
        have hvz := HVS.out
        have hlz := HSL.out
        have hrd := hzb.reads L.length (Nat.le_refl _)
        rw [List.take_length] at hrd
        have htr := trim_any (some ⟨w.heap.size, 0, none⟩) a.length _ L _ (by omega) (by omega) hrd hdz
        have hrd2 := (NatB.of_blk hzb).dig hdz
        have hll := dig_len_le hdz
        rw [hvz, hlz] at htr
        rw [hvz] at hrd2 hll
        generalize hV : x / 2 ^ s = V at *
        have HTR := Lib.hid htr; have HRD := Lib.hid hrd2; have HLL := Lib.hid (show (dig V).length ≤ a.length by omega)
        have HB := Lib.hid hbl
        clear htr hrd2 hll hrd hzb hbl hV hdz hvz hlz HSA
        go_wp2_with fail
        refine (HTR.out).mono ?_
        rintro e w5 ⟨rfl, rfl⟩
        go_wp2_with fail
        go_ret
        exact ⟨_, _, rfl, HLL.out, HRD.out, HB.out⟩
end Go.Proofs.Ytpbapoanjkekmaa
