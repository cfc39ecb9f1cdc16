/- Contract of natural.MulAdd. -/
import Derived.Test.YtnghlhcekghciaaGreatDoorZX
namespace Go.Proofs.YtnghlhcekghciaaGreatDoor
open Go.RowKit

/-- the digits below k are done, the carry is o -/
structure MAdd (zs : List Nat) (n k o V : Nat) : Prop where
  len : zs.length = n + 1
  dg : Dig zs
  zero : ∀ j, k ≤ j → zs.getD j 0 = 0
  sum : val zs + 4294967296 ^ k * o = V
  carry : o < 4294967296
theorem mAdd0 {n c : Nat} (hc : c < 4294967296) : MAdd (List.replicate (n + 1) 0) n 0 c c where
  len := by simp
  dg := fun d hd => by have := List.eq_of_mem_replicate hd; omega
  zero := fun j _ => by
    rw [List.getD_eq_getElem?_getD, List.getElem?_replicate]
    split <;> rfl
  sum := by rw [val_zeros]; simp
  carry := hc
theorem MAdd.step {zs : List Nat} {n k o V x m s o' : Nat} (h : MAdd zs n k o V) (hk : k < n) (hs : s < 4294967296) (ho : o' < 4294967296) (he : s + 4294967296 * o' = x * m + o) : MAdd (zs.set k s) n (k + 1) o' (V + 4294967296 ^ k * (x * m)) := by
  have hv := val_set (ds := zs) (k := k) (by rw [h.len]; omega) s
  rw [h.zero k (Nat.le_refl _), Nat.mul_zero, Nat.add_zero] at hv
  refine ⟨by simp [h.len], fun d hd => ?_, fun j hj => ?_, ?_, ho⟩
  · rcases List.mem_or_eq_of_mem_set hd with hd | rfl
    · exact h.dg d hd
    · exact hs
  · have := h.zero j (by omega)
    rw [List.getD_eq_getElem?_getD, List.getElem?_set_ne (by omega), ← List.getD_eq_getElem?_getD]
    exact this
  · have h0 := h.sum
    have e : 4294967296 ^ k * (s + 4294967296 * o') = 4294967296 ^ k * (x * m + o) := by rw [he]
    rw [Nat.mul_add, Nat.mul_add] at e
    have e1 : 4294967296 ^ (k + 1) * o' = 4294967296 ^ k * (4294967296 * o') := by rw [Nat.pow_succ, Nat.mul_assoc]
    omega
theorem MAdd.last {zs : List Nat} {n o V : Nat} (h : MAdd zs n n o V) : (zs.set n o).length = n + 1 ∧ Dig (zs.set n o) ∧ val (zs.set n o) = V := by
  have hv := val_set (ds := zs) (k := n) (by rw [h.len]; omega) o
  rw [h.zero n (Nat.le_refl _), Nat.mul_zero, Nat.add_zero] at hv
  refine ⟨by simp [h.len], fun d hd => ?_, by have := h.sum; omega⟩
  rcases List.mem_or_eq_of_mem_set hd with hd | rfl
  · exact h.dg d hd
  · exact h.carry
theorem madd_digits {x m o : Nat} (hx : x < 4294967296) (hm : m < 4294967296) (ho : o < 4294967296) :
    x * m / 4294967296 + (x * m % 4294967296 + o + 0) / 4294967296 < 4294967296 ∧ (x * m % 4294967296 + o + 0) % 4294967296 + 4294967296 * (x * m / 4294967296 + (x * m % 4294967296 + o + 0) / 4294967296) = x * m + o := by
  have := mul_bound hx hm
  generalize x * m = p at *
  omega

set_option maxHeartbeats 2000000 in
set_option maxRecDepth 100000 in
theorem MulAdd_any (A : Option Addr) (c B : Nat) (ds : List Nat) (m o : Nat) (w : World) (hB : B ≤ w.heap.size) (hc : ds.length ≤ c) (hl : ds.length ≤ 900000) (hm : m < 4294967296) (ho : o < 4294967296)
    (hr : Reads w B 1 A ds.length (u32s ds)) (hd : Dig ds) :
    Calls Tryz.prog 101 #[.slice A ds.length c, .int .u32 (m : Int), .int .u32 (o : Int)] w (NatRes (val ds * m + o) w) := by
  have h1 := trim_any A c B ds w hc (by omega) hr hd
  have r1 := reads_dig hr hd
  have l1 := dig_len_le hd
  have g1 := dig_dig (val ds)
  have v1 := val_dig (val ds)
  generalize val ds = x at *
  generalize dig x = a at *
  have H1 := Lib.hid h1; have G1 := Lib.hid g1; have V1 := Lib.hid v1
  clear h1 g1 v1 hr hd
  have hmk := fun (W : World) => Tryz.make_u32 (a.length + 1) (by omega) W
  rw [show ((a.length + 1 : Nat) : Int) = (a.length : Int) + 1 by omega] at hmk
  go_enter Tryz.func101, Tryz.ntmps101
  go_wp2_with fail
  refine (H1.out).mono ?_
  rintro e w1 ⟨rfl, rfl⟩
  go_wp2_with fail
  clear hmk
  have hbl0 : Below w.heap.size w (w.alloc (.cells (u32s (List.replicate (a.length + 1) 0)).toArray 39)) := (Below.refl _ w).alloc (Nat.le_refl _) _
  have hzb0 := Blk.new w 39 (u32s (List.replicate (a.length + 1) 0)).toArray
  go_loopg [2, 8, 9, 10, 11, 12, 21] a.length (fun gn ov _ _ _ _ _ ix wr => ∃ (k q : Nat) (zs : List Nat), k ≤ a.length ∧ gn = a.length - k ∧ ix = .int .i64 k ∧ ov = .int .u32 (q : Int) ∧ MAdd zs a.length k q (val (a.take k) * m + o) ∧ Blk wr w.heap.size 39 (u32s zs).toArray ∧ Below w.heap.size w wr)
  case atStart => exact ⟨0, o, _, Nat.zero_le _, rfl, rfl, rfl, by simpa [val] using mAdd0 ho, hzb0, hbl0⟩
  case round =>
    clear hzb0 hbl0
    obtain ⟨k, q, zs, hk, hgk, rfl, rfl, hst, hzb, hbl⟩ := hrel
    have HG := Lib.hid hgk; clear hgk
    have hcr := hst.carry
    by_cases hlt : k < a.length
    · obtain ⟨b1, o1, rfl, q1, c1⟩ := nat_at (r1.below (hbl.mono hB)) (k := k) hlt
      have hxa := dig_at G1.out k
      have HTA := Lib.hid (val_take_succ (ds := a) (k := k) hlt)
      have hzl : k < zs.length := by rw [hst.len]; omega
      have c3 : wr.cell? ⟨w.heap.size, k, none⟩ = some (.int .u32 ((zs.getD k 0 : Nat) : Int)) := (hzb.cell k).trans (u32s_at _ _ hzl)
      have f3 := hzb.frozen k
      generalize a.getD k 0 = xa at *
      obtain ⟨hd1, hd2⟩ := madd_digits hxa hm hcr
      have hmu := mul32_any xa m hxa hm
      have hlo : xa * m % 4294967296 < 4294967296 := Nat.mod_lt _ (by decide)
      have ha1 := add32_any (xa * m % 4294967296) q 0 hlo hcr (by omega)
      have hs1 : (xa * m % 4294967296 + q + 0) % 4294967296 < 4294967296 := Nat.mod_lt _ (by decide)
      have hN := hst.step (by omega) hs1 hd1 hd2
      generalize zs.getD k 0 = zk at *
      generalize (xa * m % 4294967296 + q + 0) % 4294967296 = s1 at *
      generalize (xa * m % 4294967296 + q + 0) / 4294967296 = k1 at *
      have hpe : 4294967296 ^ k * (xa * m) = 4294967296 ^ k * xa * m := (Nat.mul_assoc _ _ _).symm
      have HN := Lib.hid (show MAdd (zs.set k s1) a.length (k + 1) (xa * m / 4294967296 + k1) ((val (a.take k) + 4294967296 ^ k * xa) * m + o) by
        rw [Nat.add_mul, ← hpe, Nat.add_right_comm]; exact hN)
      rw [← HTA.out] at HN
      generalize xa * m % 4294967296 = lo at *
      generalize xa * m / 4294967296 = hi' at *
      have HMU := Lib.hid hmu; have HA1 := Lib.hid ha1
      clear hN hmu ha1 hst hd2 hpe
      have i2 : (k : Int) < a.length := by omega
      have i0 : (0 : Int) ≤ (k : Int) := by omega
      have i3 : (k : Int) < (a.length : Int) + 1 := by omega
      have z1 := hzb.lt
      go_wp2_with fail
      refine (HMU.out _).mono ?_
      rintro e w1 ⟨rfl, rfl⟩
      go_wp2_with fail
      refine (HA1.out _).mono ?_
      rintro e w1 ⟨rfl, rfl⟩
      go_wp2_with fail
      go_roundg (a.length - (k + 1))
      case rel =>
        refine ⟨k + 1, hi' + k1, zs.set k s1, by omega, rfl, by go_num, by go_num, HN.out, ?_, hbl.setCell (Nat.le_refl _) _⟩
        rw [← u32s_set]; exact hzb.set_ k _
      case measure => have := HG.out; omega
    · obtain rfl : k = a.length := by omega
      rw [List.take_length, V1.out] at hst
      have hzl : a.length < zs.length := by rw [hst.len]; omega
      have c3 : wr.cell? ⟨w.heap.size, a.length, none⟩ = some (.int .u32 ((zs.getD a.length 0 : Nat) : Int)) := (hzb.cell a.length).trans (u32s_at _ _ hzl)
      have f3 := hzb.frozen a.length
      obtain ⟨e1, e2, e3⟩ := hst.last
      have hzb2 : Blk (wr.setCell ⟨w.heap.size, a.length, none⟩ (.int .u32 (q : Int))) w.heap.size 39 (u32s (zs.set a.length q)).toArray := by rw [← u32s_set]; exact hzb.set_ a.length _
      have hbl2 := hbl.setCell (p := ⟨w.heap.size, a.length, none⟩) (Nat.le_refl _) (.int .u32 (q : Int))
      have z1 := hzb.lt
      generalize zs.getD a.length 0 = zk at *
      generalize zs.set a.length q = ys at *
      have hrd := hzb2.reads ys.length (Nat.le_refl _)
      rw [List.take_length] at hrd
      have htr := trim_any (some ⟨w.heap.size, 0, none⟩) (a.length + 1) _ ys _ (by omega) (by omega) hrd e2
      have hrd2 := (NatB.of_blk hzb2).dig e2
      have hll := dig_len_le e2
      rw [e3, e1] at htr
      rw [e3] at hrd2 hll
      generalize hV : x * m + o = V at *
      have HTR := Lib.hid htr; have HRD := Lib.hid hrd2; have HLL := Lib.hid (Nat.le_trans hll (by rw [e1]; exact Nat.le_refl _) : (dig V).length ≤ a.length + 1)
      have HB := Lib.hid hbl2
      clear htr hrd2 hll hrd hst hzb hzb2 hbl2 e1 e2 e3 hV
      have i3 : (a.length : Int) < (a.length : Int) + 1 := by omega
      go_wp2_with fail
      refine (HTR.out).mono ?_
      rintro e w5 ⟨rfl, rfl⟩
      go_wp2_with fail
      go_ret
      exact ⟨_, _, rfl, HLL.out, HRD.out, HB.out⟩
end Go.Proofs.YtnghlhcekghciaaGreatDoor
