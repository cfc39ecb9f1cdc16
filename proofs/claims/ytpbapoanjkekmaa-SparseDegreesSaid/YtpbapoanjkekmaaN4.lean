/- Contracts of math/bits.Add32, Sub32, Mul32 and of the package natural: Add, Sub. -/
import Derived.Test.YtpbapoanjkekmaaN3
namespace Go.Proofs.Ytpbapoanjkekmaa
open Go.RowKit

theorem tb31 {n : Nat} (h : n < 4294967296) : n.testBit 31 = decide (2147483648 ≤ n) := by
  rw [Nat.testBit_eq_decide_div_mod_eq]
  congr 1
  simp only [eq_iff_iff]
  omega
theorem div31 {n : Nat} (h : n < 4294967296) : n / 2147483648 = if n.testBit 31 then 1 else 0 := by
  rw [tb31 h]
  by_cases h1 : 2147483648 ≤ n
  · simp [h1]; omega
  · simp [h1]; omega
theorem sub32_borrow {x y c d : Nat} (hx : x < 4294967296) (hy : y < 4294967296) (hc : c ≤ 1) (hd : d = (x + 4294967296 - y - c) % 4294967296) :
    (((4294967295 ^^^ x) &&& y) ||| ((4294967295 ^^^ (x ^^^ y)) &&& d)) / 2147483648 = if x < y + c then 1 else 0 := by
  have hd' : d < 4294967296 := by omega
  have hn : (((4294967295 ^^^ x) &&& y) ||| ((4294967295 ^^^ (x ^^^ y)) &&& d)) < 4294967296 :=
    Nat.or_lt_two_pow (n := 32) (Nat.and_lt_two_pow _ hy) (Nat.and_lt_two_pow _ hd')
  rw [div31 hn]
  have e0 : (4294967295 : Nat).testBit 31 = true := by decide
  rw [Nat.testBit_or, Nat.testBit_and, Nat.testBit_and, Nat.testBit_xor, Nat.testBit_xor, Nat.testBit_xor, e0, tb31 hx, tb31 hy, tb31 hd']
  by_cases h1 : 2147483648 ≤ x <;> by_cases h2 : 2147483648 ≤ y <;> by_cases h3 : 2147483648 ≤ d <;> by_cases h4 : x < y + c <;> simp [h1, h2, h3, h4] <;> omega
theorem sub32_bits {x y c : Nat} (hx : x < 4294967296) (hy : y < 4294967296) (hc : c ≤ 1) :
    bits BinOp.or IntKind.u32 (bits BinOp.and IntKind.u32 (bits BinOp.xor IntKind.u32 IntKind.u32.max (x : Int)) (y : Int))
      (bits BinOp.and IntKind.u32 (bits BinOp.xor IntKind.u32 IntKind.u32.max (bits BinOp.xor IntKind.u32 (x : Int) (y : Int))) (((x : Int) - y - c) % 4294967296)) / 2147483648 = ((if x < y + c then 1 else 0 : Nat) : Int) := by
  have e0 : IntKind.u32.max = ((4294967295 : Nat) : Int) := by decide
  have e1 : ((x : Int) - y - c) % 4294967296 = (((x + 4294967296 - y - c) % 4294967296 : Nat) : Int) := by omega
  have b1 : (4294967295 ^^^ x) < 4294967296 := Nat.xor_lt_two_pow (n := 32) (by decide) hx
  have b2 : (x ^^^ y) < 4294967296 := Nat.xor_lt_two_pow (n := 32) hx hy
  have b3 : (4294967295 ^^^ (x ^^^ y)) < 4294967296 := Nat.xor_lt_two_pow (n := 32) (by decide) b2
  have b4 : (x + 4294967296 - y - c) % 4294967296 < 4294967296 := by omega
  rw [e0, e1, u32_xor_nat _ _ (by decide) hx, u32_xor_nat _ _ hx hy, u32_xor_nat _ _ (by decide) b2, u32_and_nat _ _ b1 hy, u32_and_nat _ _ b3 b4,
    u32_or_nat _ _ (Nat.and_lt_two_pow (n := 32) _ hy) (Nat.and_lt_two_pow (n := 32) _ b4), ← sub32_borrow hx hy hc rfl]
  rfl

set_option maxHeartbeats 400000 in
theorem add32_any (x y c : Nat) (hx : x < 4294967296) (hy : y < 4294967296) (hc : c ≤ 1) (w : World) :
    Calls Try.prog 76 #[.int .u32 (x : Int), .int .u32 (y : Int), .int .u32 (c : Int)] w fun e w' => e = .returned (.tuple #[.int .u32 (((x + y + c) % 4294967296 : Nat) : Int), .int .u32 (((x + y + c) / 4294967296 : Nat) : Int)]) ∧ w = w' := by
  go_enter Try.func76, Try.ntmps76
  go_wp2
  go_ret2
  exact ⟨rfl, rfl⟩

set_option maxHeartbeats 400000 in
theorem sub32_any (x y c : Nat) (hx : x < 4294967296) (hy : y < 4294967296) (hc : c ≤ 1) (w : World) :
    Calls Try.prog 78 #[.int .u32 (x : Int), .int .u32 (y : Int), .int .u32 (c : Int)] w fun e w' => e = .returned (.tuple #[.int .u32 (((x + 4294967296 - y - c) % 4294967296 : Nat) : Int), .int .u32 ((if x < y + c then 1 else 0 : Nat) : Int)]) ∧ w = w' := by
  have hb := Lib.hid (sub32_bits hx hy hc)
  have he := Lib.hid (show ((x : Int) - y - c) % 4294967296 = (((x + 4294967296 - y - c) % 4294967296 : Nat) : Int) by omega)
  generalize (if x < y + c then 1 else 0 : Nat) = o at *
  generalize (x + 4294967296 - y - c) % 4294967296 = d at *
  go_enter Try.func78, Try.ntmps78
  go_wp2
  go_ret2
  refine ⟨?_, rfl⟩
  rw [← hb.out, ← he.out]
  rfl
end Go.Proofs.Ytpbapoanjkekmaa
