/- Contracts of math/bits.Mul32 and of natural.schoolbook. -/
import Derived.Test.YtpbapoanjkekmaaN6
namespace Go.Proofs.Ytpbapoanjkekmaa
open Go.RowKit

theorem mul_bound {x y : Nat} (hx : x < 4294967296) (hy : y < 4294967296) : x * y ≤ 18446744065119617025 := by
  have := Nat.mul_le_mul (show x ≤ 4294967295 by omega) (show y ≤ 4294967295 by omega)
  omega

set_option maxHeartbeats 400000 in
theorem mul32_any (x y : Nat) (hx : x < 4294967296) (hy : y < 4294967296) (w : World) :
    Calls Try.prog 94 #[.int .u32 (x : Int), .int .u32 (y : Int)] w fun e w' => e = .returned (.tuple #[.int .u32 ((x * y / 4294967296 : Nat) : Int), .int .u32 ((x * y % 4294967296 : Nat) : Int)]) ∧ w = w' := by
  have h1 : (x : Int) * (y : Int) ≤ 18446744065119617025 := by have := mul_bound hx hy; rw [← Int.natCast_mul]; omega
  have h0 : 0 ≤ (x : Int) * (y : Int) := by rw [← Int.natCast_mul]; omega
  have e1 : ((x * y / 4294967296 : Nat) : Int) = (x : Int) * (y : Int) / 4294967296 := by rw [Int.natCast_ediv, Int.natCast_mul]; rfl
  have e2 : ((x * y % 4294967296 : Nat) : Int) = (x : Int) * (y : Int) % 4294967296 := by rw [Int.natCast_emod, Int.natCast_mul]; rfl
  rw [e1, e2]
  clear e1 e2
  go_enter Try.func94, Try.ntmps94
  go_wp2
  go_ret2
  exact ⟨rfl, rfl⟩

/-- the product's rows so far -/
structure RowSt (zs : List Nat) (n m i V : Nat) : Prop where
  len : zs.length = n
  dg : Dig zs
  zero : ∀ j, i + m ≤ j → j < n → zs.getD j 0 = 0
  sum : val zs = V
/-- a row so far: the carry c at the place j -/
structure RowIn (zs : List Nat) (n m i j c V : Nat) : Prop where
  len : zs.length = n
  dg : Dig zs
  zero : ∀ j, i + m ≤ j → j < n → zs.getD j 0 = 0
  sum : val zs + 4294967296 ^ (i + j) * c = V
  carry : c < 4294967296
theorem rowSt0 (n m : Nat) : RowSt (List.replicate n 0) n m 0 0 :=
  ⟨by simp, fun d hd => by have := List.eq_of_mem_replicate hd; omega, fun j _ h => by simp [h], val_zeros _⟩
theorem RowSt.row {zs : List Nat} {n m i V : Nat} (h : RowSt zs n m i V) : RowIn zs n m i 0 0 V := ⟨h.len, h.dg, h.zero, by simp [h.sum], by omega⟩
theorem RowSt.skip {zs : List Nat} {n m i V : Nat} (h : RowSt zs n m i V) : RowSt zs n m (i + 1) V := ⟨h.len, h.dg, fun j h1 h2 => h.zero j (by omega) h2, h.sum⟩
theorem RowIn.step {zs : List Nat} {n m i j c V x y s o : Nat} (h : RowIn zs n m i j c V) (hj : i + j < n) (hjm : j < m) (hs : s < 4294967296) (ho : o < 4294967296) (he : s + 4294967296 * o = x * y + zs.getD (i + j) 0 + c) :
    RowIn (zs.set (i + j) s) n m i (j + 1) o (V + 4294967296 ^ i * (x * (4294967296 ^ j * y))) := by
  refine ⟨by simp [h.len], fun d hd => ?_, fun k h1 h2 => ?_, ?_, ho⟩
  · rcases List.mem_or_eq_of_mem_set hd with hd | rfl
    · exact h.dg d hd
    · exact hs
  · have := h.zero k h1 h2
    rw [List.getD_eq_getElem?_getD, List.getElem?_set_ne (by omega), ← List.getD_eq_getElem?_getD]
    exact this
  · have hv := val_set (ds := zs) (k := i + j) (by rw [h.len]; exact hj) s
    have h0 := h.sum
    have e1 : 4294967296 ^ (i + (j + 1)) * o = 4294967296 ^ (i + j) * (4294967296 * o) := by rw [← Nat.add_assoc, Nat.pow_succ, Nat.mul_assoc]
    have e2 : 4294967296 ^ i * (x * (4294967296 ^ j * y)) = 4294967296 ^ (i + j) * (x * y) := by
      rw [Nat.pow_add, Nat.mul_left_comm x, Nat.mul_assoc]
    have e3 : 4294967296 ^ (i + j) * (s + 4294967296 * o) = 4294967296 ^ (i + j) * (x * y + zs.getD (i + j) 0 + c) := by rw [he]
    rw [Nat.mul_add, Nat.mul_add, Nat.mul_add] at e3
    rw [e1, e2]
    omega
theorem RowIn.last {zs : List Nat} {n m i c V : Nat} (h : RowIn zs n m i m c V) (hj : i + m < n) : RowSt (zs.set (i + m) c) n m (i + 1) V := by
  refine ⟨by simp [h.len], fun d hd => ?_, fun k h1 h2 => ?_, ?_⟩
  · rcases List.mem_or_eq_of_mem_set hd with hd | rfl
    · exact h.dg d hd
    · exact h.carry
  · have := h.zero k (by omega) h2
    rw [List.getD_eq_getElem?_getD, List.getElem?_set_ne (by omega), ← List.getD_eq_getElem?_getD]
    exact this
  · have hv := val_set (ds := zs) (k := i + m) (by rw [h.len]; exact hj) c
    have h0 := h.sum
    rw [h.zero (i + m) (Nat.le_refl _) hj, Nat.mul_zero, Nat.add_zero] at hv
    omega
/-- the two digits of a row's step -/
theorem row_digits {x y r c : Nat} (hx : x < 4294967296) (hy : y < 4294967296) (hr : r < 4294967296) (hc : c < 4294967296) :
    x * y / 4294967296 + (x * y % 4294967296 + r + 0) / 4294967296 + ((x * y % 4294967296 + r + 0) % 4294967296 + c + 0) / 4294967296 < 4294967296 ∧
    ((x * y % 4294967296 + r + 0) % 4294967296 + c + 0) % 4294967296 + 4294967296 * (x * y / 4294967296 + (x * y % 4294967296 + r + 0) / 4294967296 + ((x * y % 4294967296 + r + 0) % 4294967296 + c + 0) / 4294967296) = x * y + r + c := by
  have := mul_bound hx hy
  generalize x * y = p at *
  omega

theorem row_sum {p x v q y V : Nat} : V + p * (x * v) + p * (x * (q * y)) = V + p * (x * (v + q * y)) := by
  rw [Nat.mul_add, Nat.mul_add, Nat.add_assoc]
theorem row_end {v p x b : Nat} : v * b + p * (x * b) = (v + p * x) * b := by rw [Nat.add_mul, Nat.mul_assoc]
/-- how a product of a's and b's digits ends -/
def ProdRes (n v : Nat) (w : World) (e : Ending) (w' : World) : Prop :=
  ∃ A c zs, e = .returned (.slice A (List.length zs) c) ∧ zs.length ≤ c ∧ zs.length = n ∧ Dig zs ∧ val zs = v ∧ NatB w' A zs ∧ Below w.heap.size w w'

set_option maxHeartbeats 2000000 in
set_option maxRecDepth 100000 in
theorem school_any (A A' : Option Addr) (c c' B : Nat) (a b : List Nat) (w : World) (hB : B ≤ w.heap.size) (hm : a.length + b.length ≤ 900000)
    (r1 : Reads w B 1 A a.length (u32s a)) (r2 : Reads w B 1 A' b.length (u32s b)) (g1 : Dig a) (g2 : Dig b) :
    Calls Try.prog 90 #[.slice A a.length c, .slice A' b.length c'] w (ProdRes (a.length + b.length) (val a * val b) w) := by
  have G1 := Lib.hid g1; have G2 := Lib.hid g2
  clear g1 g2
  have hmk := fun (W : World) => Try.make_u32 (a.length + b.length) (by omega) W
  rw [show ((a.length + b.length : Nat) : Int) = (a.length : Int) + (b.length : Int) by omega] at hmk
  go_enter Try.func90, Try.ntmps90
  go_wp2_with fail
  clear hmk
  go_loopg [6, 7, 8, 9, 10, 11, 12, 13, 14, 23] a.length (fun gn _ _ _ _ _ _ _ _ _ i wr => ∃ (k : Nat) (zs : List Nat), k ≤ a.length ∧ gn = a.length - k ∧ i = .int .i64 k ∧ RowSt zs (a.length + b.length) b.length k (val (a.take k) * val b) ∧ Blk wr w.heap.size 70 (u32s zs).toArray ∧ Below w.heap.size w wr)
  case atStart => exact ⟨0, _, Nat.zero_le _, rfl, rfl, by simpa [val] using rowSt0 _ _, Blk.new _ _ _, (Below.refl _ w).alloc (Nat.le_refl _) _⟩
  case round =>
    obtain ⟨i, zs, hi, hgi, rfl, hst, hzb, hd⟩ := hrel
    have HG := Lib.hid hgi; clear hgi
    have hz := hd.size
    by_cases hlt : i < a.length
    · obtain ⟨b1, o1, rfl, q1, c1⟩ := nat_at (r1.below (hd.mono hB)) (k := i) hlt
      have hx := dig_at G1.out i
      have HTA := Lib.hid (val_take_succ (ds := a) (k := i) hlt)
      have i1 : (i : Int) < a.length := by omega
      generalize a.getD i 0 = x at *
      by_cases hx0 : x = 0
      · subst hx0
        have hs2 := hst.skip
        have HS2 := Lib.hid hs2
        clear hst hs2
        go_wp2_with fail
        go_roundg (a.length - (i + 1))
        case rel => exact ⟨i + 1, zs, by omega, rfl, by go_num, by rw [HTA.out]; simpa using HS2.out, hzb, hd⟩
        case measure => have := HG.out; omega
      · have hxb : ((x : Int) == 0) = false := by simpa using hx0
        have HX0 := Lib.hid hx0; clear hx0
        have HST := Lib.hid hst; clear hst
        go_wp2_with fail
        go_loopg [9, 10, 11, 12, 13, 14, 35] b.length (fun gn cy _ _ _ _ _ j wr => ∃ (q : Nat) (zs : List Nat) (o : Nat), q ≤ b.length ∧ gn = b.length - q ∧ j = .int .i64 q ∧ cy = .int .u32 (o : Int) ∧ RowIn zs (a.length + b.length) b.length i q o (val (a.take i) * val b + 4294967296 ^ i * (x * val (b.take q))) ∧ Blk wr w.heap.size 70 (u32s zs).toArray ∧ Below w.heap.size w wr)
        case atStart => exact ⟨0, zs, 0, Nat.zero_le _, rfl, rfl, rfl, by simpa [val] using HST.out.row, hzb, hd⟩
        case round =>
          clear HST hzb hd hz c1
          obtain ⟨q, zs, cy, hq, hgq, rfl, rfl, hst, hzb, hd⟩ := hrel
          have HGQ := Lib.hid hgq; clear hgq
          have hz := hd.size
          have hcy := hst.carry
          by_cases hlt2 : q < b.length
          · obtain ⟨b2, o2, rfl, q2, c2⟩ := nat_at (r2.below (hd.mono hB)) (k := q) hlt2
            have hy := dig_at G2.out q
            have HTB := Lib.hid (val_take_succ (ds := b) (k := q) hlt2)
            generalize b.getD q 0 = y at *
            have hzl : i + q < zs.length := by rw [hst.len]; omega
            have c3 : wr.cell? ⟨w.heap.size, i + q, none⟩ = some (.int .u32 ((zs.getD (i + q) 0 : Nat) : Int)) := (hzb.cell (i + q)).trans (u32s_at _ _ hzl)
            have hrr := dig_at hst.dg (i + q)
            have f3 := hzb.frozen (i + q)
            obtain ⟨hd1, hd2⟩ := row_digits hx hy hrr hcy
            have hmu := mul32_any x y hx hy
            have hp := mul_bound hx hy
            have hlo : x * y % 4294967296 < 4294967296 := Nat.mod_lt _ (by decide)
            have ha1 := add32_any (x * y % 4294967296) (zs.getD (i + q) 0) 0 hlo hrr (by omega)
            have hs1 : (x * y % 4294967296 + zs.getD (i + q) 0 + 0) % 4294967296 < 4294967296 := Nat.mod_lt _ (by decide)
            have ha2 := add32_any ((x * y % 4294967296 + zs.getD (i + q) 0 + 0) % 4294967296) cy 0 hs1 hcy (by omega)
            have hs2 : ((x * y % 4294967296 + zs.getD (i + q) 0 + 0) % 4294967296 + cy + 0) % 4294967296 < 4294967296 := Nat.mod_lt _ (by decide)
            have hN := hst.step (x := x) (y := y) (by omega) hlt2 hs2 hd1 hd2
            rw [row_sum] at hN
            generalize ((x * y % 4294967296 + zs.getD (i + q) 0 + 0) % 4294967296 + cy + 0) % 4294967296 = s2 at *
            generalize ((x * y % 4294967296 + zs.getD (i + q) 0 + 0) % 4294967296 + cy + 0) / 4294967296 = k2 at *
            generalize (x * y % 4294967296 + zs.getD (i + q) 0 + 0) % 4294967296 = s1 at *
            generalize (x * y % 4294967296 + zs.getD (i + q) 0 + 0) / 4294967296 = k1 at *
            generalize x * y % 4294967296 = lo at *
            generalize x * y / 4294967296 = hi' at *
            generalize zs.getD (i + q) 0 = r at *
            have HN := Lib.hid hN; have HMU := Lib.hid hmu; have HA1 := Lib.hid ha1; have HA2 := Lib.hid ha2; have HST := Lib.hid hst
            clear hN hmu ha1 ha2 hst hd2 hp
            have i2 : (q : Int) < b.length := by omega
            have i3 : (q : Int) < ((a.length + b.length - i : Nat) : Int) := by omega
            have z1 := hzb.lt
            go_wp2_with fail
            refine (HMU.out _).mono ?_
            rintro e w1 ⟨rfl, rfl⟩
            go_wp2_with fail
            refine (HA1.out _).mono ?_
            rintro e w1 ⟨rfl, rfl⟩
            go_wp2_with fail
            refine (HA2.out _).mono ?_
            rintro e w1 ⟨rfl, rfl⟩
            go_wp2_with fail
            go_roundg (b.length - (q + 1))
            case rel =>
              refine ⟨q + 1, zs.set (i + q) s2, hi' + k1 + k2, by omega, rfl, by go_num, by go_num, ?_, ?_, hd.setCell (Nat.le_refl _) _⟩
              · rw [HTB.out]; exact HN.out
              · rw [← u32s_set]; exact hzb.set_ (i + q) _
            case measure => have := HGQ.out; omega
          · obtain rfl : q = b.length := by omega
            rw [List.take_length] at hst
            have hl := hst.last (by omega)
            rw [row_end] at hl
            have hzl : i + b.length < zs.length := by rw [hst.len]; omega
            have c3 : wr.cell? ⟨w.heap.size, i + b.length, none⟩ = some (.int .u32 ((zs.getD (i + b.length) 0 : Nat) : Int)) := (hzb.cell (i + b.length)).trans (u32s_at _ _ hzl)
            have f3 := hzb.frozen (i + b.length)
            generalize zs.getD (i + b.length) 0 = r at *
            have HL := Lib.hid hl; clear hl hst
            have i3 : (b.length : Int) < ((a.length + b.length - i : Nat) : Int) := by omega
            have z1 := hzb.lt
            go_wp2_with fail
            go_roundg (a.length - (i + 1))
            case rel =>
              refine ⟨i + 1, zs.set (i + b.length) cy, by omega, rfl, by go_num, ?_, ?_, hd.setCell (Nat.le_refl _) _⟩
              · rw [HTA.out]; exact HL.out
              · rw [← u32s_set]; exact hzb.set_ (i + b.length) _
            case measure => have := HG.out; omega
    · obtain rfl : i = a.length := by omega
      rw [List.take_length] at hst
      have HST := Lib.hid hst; clear hst
      go_wp2_with fail
      go_ret
      have hl := HST.out.len
      exact ⟨some ⟨w.heap.size, 0, none⟩, a.length + b.length, zs, by rw [hl]; rfl, by omega, hl, HST.out.dg, HST.out.sum, .of_blk hzb, hd⟩
end Go.Proofs.Ytpbapoanjkekmaa
