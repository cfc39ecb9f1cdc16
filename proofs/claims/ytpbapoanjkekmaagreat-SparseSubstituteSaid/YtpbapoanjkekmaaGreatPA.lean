/- Contracts of natural.BitLen and integer.BitLen: a bound. -/
import Derived.Test.YtpbapoanjkekmaaGreatShelf
import Derived.Lib.ItoaNum
import Derived.Test.YtpbapoanjkekmaaGreatKD
namespace Go.Proofs.YtpbapoanjkekmaaGreat
open Go.RowKit

theorem mul64_any (x y : Nat) (h : x * y < 18446744073709551616) (hx : x < 18446744073709551616) (hy : y < 18446744073709551616) (w : World) :
    Calls Tryz.prog 77 #[.int .u64 (x : Int), .int .u64 (y : Int)] w fun e w' => e = .returned (.tuple #[.int .u64 0, .int .u64 ((x * y : Nat) : Int)]) ∧ w = w' := by
  refine (Tryz.bits_Mul64 x y hx hy w).mono ?_
  rintro e w' ⟨rfl, rfl⟩
  rw [Nat.div_eq_of_lt h, Nat.mod_eq_of_lt h]
  exact ⟨rfl, rfl⟩
theorem bitLen_le32 {x : Nat} (h : x < 4294967296) : Lib.bitLen x ≤ 32 := by
  rcases Nat.eq_zero_or_pos x with rfl | h0
  · decide
  · obtain ⟨_, h2, _⟩ := Lib.bitLenAux_bounds 64 x (by omega) (by omega)
    show Lib.bitLenAux 64 x ≤ 32
    rcases Nat.lt_or_ge 32 (Lib.bitLenAux 64 x) with h3 | h3
    · have := Nat.pow_le_pow_right (n := 2) (by decide) (show 32 ≤ Lib.bitLenAux 64 x - 1 by omega)
      have e : (2 : Nat) ^ 32 = 4294967296 := by decide
      omega
    · exact h3
theorem len32_any (x : Nat) (h : x < 4294967296) (w : World) : Calls Tryz.prog 93 #[.int .u32 (x : Int)] w fun e w' => ∃ k : Nat, e = .returned (.int .i64 (k : Int)) ∧ k ≤ 32 ∧ w = w' := by
  refine (Tryz.bits_Len32 (x : Int) w (by omega) (by omega)).mono ?_
  rintro e w' ⟨rfl, rfl⟩
  exact ⟨_, rfl, by rw [Int.toNat_natCast]; exact bitLen_le32 h, rfl⟩
set_option maxHeartbeats 1000000 in
set_option maxRecDepth 100000 in
theorem NBit_any (A : Option Addr) (c B : Nat) (ds : List Nat) (w : World) (h : NatIn w B A c ds) (hm : ds.length ≤ 900000) :
    Calls Tryz.prog 76 #[.slice A ds.length c] w fun e w' => ∃ k : Nat, e = .returned (.int .i64 (k : Int)) ∧ k ≤ 32 * ds.length ∧ Drawn w w' := by
  have h1 := trim_any A c B ds w h.cap (by omega) h.rd h.dg
  have r1 := reads_dig h.rd h.dg
  have l1 := dig_len_le h.dg
  have g1 := dig_dig (val ds)
  generalize dig (val ds) = a at *
  have H1 := Lib.hid h1; have G1 := Lib.hid g1
  clear h1 g1 h
  go_enter Tryz.func76, Tryz.ntmps76
  go_wp2_with fail
  refine H1.out.mono ?_
  rintro e w1 ⟨rfl, rfl⟩
  by_cases h0 : a.length = 0
  · have hb : ((a.length : Int) == 0) = true := by rw [h0]; rfl
    go_wp2_with fail
    go_ret
    exact ⟨0, rfl, Nat.zero_le _, Drawn.refl _⟩
  · have hb : ((a.length : Int) == 0) = false := by simpa using h0
    obtain ⟨k, hk⟩ : ∃ k, a.length = k + 1 := ⟨a.length - 1, by omega⟩
    obtain ⟨b1, o1, rfl, q1, c1⟩ := nat_at r1 (k := k) (by omega)
    have hx := dig_at G1.out k
    have HL := Lib.hid (len32_any (a.getD k 0) hx)
    have i0 : (a.length : Int) - 1 = (k : Int) := by omega
    have i1 : (k : Int) < (a.length : Int) := by omega
    have i2 : (0 : Int) ≤ (k : Int) := by omega
    have i3 : (k : Int) ≤ 900000 := by omega
    have HK := Lib.hid hk
    have HLE := Lib.hid l1
    generalize a.getD k 0 = x at *
    clear hk h0 l1 r1
    go_wp2_with fail
    refine (HL.out _).mono ?_
    rintro e w1 ⟨m, rfl, hm2, rfl⟩
    go_wp2_with fail
    go_ret
    refine ⟨32 * k + m, by simp, ?_, Drawn.refl _⟩
    have := HK.out; have := HLE.out
    omega
set_option maxHeartbeats 1000000 in
set_option maxRecDepth 100000 in
theorem IBit_any (ng : Bool) (A : Option Addr) (c B : Nat) (ds : List Nat) (w : World) (hB : B ≤ w.heap.size) (h : NatIn w B A c ds) (hm : ds.length ≤ 900000) :
    Calls Tryz.prog 75 #[.agg #[.bool ng, .slice A ds.length c]] w fun e w' => ∃ k : Nat, e = .returned (.int .i64 (k : Int)) ∧ k ≤ 32 * ds.length ∧ Below w.heap.size w w' := by
  have hb0 := (Below.refl w.heap.size w).alloc (Nat.le_refl _) (.cells #[.bool ng, .slice A ds.length c] 31)
  have HN := Lib.hid (NBit_any A c B ds _ (h.below (hb0.mono hB)) hm)
  have HB := Lib.hid hb0
  clear h hb0
  go_enter Tryz.func75, Tryz.ntmps75
  go_wp2_with fail
  refine HN.out.mono ?_
  rintro e w1 ⟨k, rfl, hk, hd⟩
  have HK := Lib.hid hk; have HD := Lib.hid (HB.out.trans (hd.below _))
  clear hk hd
  go_wp2_with fail
  go_ret
  exact ⟨k, rfl, HK.out, HD.out⟩
end Go.Proofs.YtpbapoanjkekmaaGreat
