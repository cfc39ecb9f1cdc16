/- Contract of division.divide. -/
import Derived.Test.YtpbapoanjkekmaaShelf
import Derived.Test.YtpbapoanjkekmaaVI
namespace Go.Proofs.Ytpbapoanjkekmaa
open Go.RowKit

/-! ### plain facts -/
theorem Est.eq {u w d : Nat} (h : Est u w d) (hw : 0 < w) : d = min 4294967295 (u / w) := by
  have h1 : d ≤ u / w := (Nat.le_div_iff_mul_le hw).2 h.le
  rcases h.ge with e | e
  · omega
  · have h2 : u / w < d + 1 := (Nat.div_lt_iff_lt_mul hw).2 e
    have := h.lt
    omega
/-- the guess as a function of the highest digits -/
def guess (u2 u1 u0 v1 v2 : Nat) : Nat := min 4294967295 (((u2 * 4294967296 + u1) * 4294967296 + u0) / (v1 * 4294967296 + v2))
theorem guess_lt (u2 u1 u0 v1 v2 : Nat) : guess u2 u1 u0 v1 v2 < 4294967296 := by unfold guess; omega
theorem guess_est {u w : Nat} (hw : 0 < w) : Est u w (min 4294967295 (u / w)) where
  lt := by omega
  le := (Nat.le_div_iff_mul_le hw).1 (Nat.min_le_right _ _)
  ge := by
    by_cases h : u / w ≤ 4294967295
    · rw [Nat.min_eq_right h]
      exact .inr ((Nat.div_lt_iff_lt_mul hw).1 (Nat.lt_succ_self _))
    · exact .inl (by omega)
theorem estimate_fix (u2 u1 u0 v1 v2 : Nat) (w : World) (h1 : u1 < 4294967296) (h0 : u0 < 4294967296) (g1 : v1 < 4294967296) (g2 : v2 < 4294967296) (hle : u2 ≤ v1) (hv : 0 < v1) :
    Calls Try.prog 84 #[.int .u32 (u2 : Int), .int .u32 (u1 : Int), .int .u32 (u0 : Int), .int .u32 (v1 : Int), .int .u32 (v2 : Int)] w fun e w' => e = .returned (.int .u32 ((guess u2 u1 u0 v1 v2 : Nat) : Int)) ∧ Drawn w w' := by
  refine (estimate_any u2 u1 u0 v1 v2 w h1 h0 g1 g2 hle hv).mono ?_
  rintro e w' ⟨d, rfl, he, hd⟩
  have := he.eq (by omega)
  unfold guess
  rw [← this]
  exact ⟨rfl, hd⟩
theorem two31 (s : Nat) (h : s ≤ 31) : 2 ^ s ≤ 2147483648 := by
  have := Nat.pow_le_pow_right (n := 2) (by decide) h
  simpa using this
/-- the shift that brings the highest digit up -/
theorem lz_at {t : Nat} (h0 : 0 < t) (h1 : t < 4294967296) : ∃ s : Nat, s ≤ 31 ∧ 32 - (Lib.bitLen t : Int) = (s : Int) ∧ 2147483648 ≤ t * 2 ^ s ∧ (t + 1) * 2 ^ s ≤ 4294967296 := by
  obtain ⟨b1, b2, b3⟩ := Lib.bitLenAux_bounds 64 t (by omega) (by omega)
  have b4 : Lib.bitLen t ≤ 32 := Lib.bitLen_le t 32 (by omega) (by omega)
  have e : Lib.bitLenAux 64 t = Lib.bitLen t := rfl
  rw [e] at b1 b2 b3
  generalize Lib.bitLen t = b at *
  refine ⟨32 - b, by omega, by omega, ?_, ?_⟩
  · have : 2 ^ (b - 1) * 2 ^ (32 - b) ≤ t * 2 ^ (32 - b) := Nat.mul_le_mul_right _ b2
    rw [← Nat.pow_add, show b - 1 + (32 - b) = 31 by omega] at this
    exact this
  · have : (t + 1) * 2 ^ (32 - b) ≤ 2 ^ b * 2 ^ (32 - b) := Nat.mul_le_mul_right _ b3
    rw [← Nat.pow_add, show b + (32 - b) = 32 by omega] at this
    exact this
/-- a number of n + 1 digits, shifted by s -/
theorem norm_at {y n s : Nat} (hn : (dig y).length = n + 1) (h1 : 2147483648 ≤ (dig y).getD n 0 * 2 ^ s) (h2 : ((dig y).getD n 0 + 1) * 2 ^ s ≤ 4294967296) :
    4294967296 ^ n * 2147483648 ≤ y * 2 ^ s ∧ (dig (y * 2 ^ s)).length = n + 1 := by
  have e := val_take_succ (ds := dig y) (k := n) (by omega)
  rw [List.take_of_length_le (by omega), val_dig] at e
  have l := val_take_lt (dig_dig y) (k := n) (by omega)
  generalize (dig y).getD n 0 = t at *
  generalize val ((dig y).take n) = r at *
  generalize hP : (2 : Nat) ^ s = P at *
  generalize hK : (4294967296 : Nat) ^ n = K at *
  have a1 : K * 2147483648 ≤ y * P := by
    rw [e, Nat.add_mul, Nat.mul_assoc]
    exact Nat.le_trans (Nat.mul_le_mul_left K h1) (Nat.le_add_left _ _)
  have a2 : y * P < K * 4294967296 := by
    have : y < K * (t + 1) := by rw [e, Nat.mul_add, Nat.mul_one]; omega
    have hP0 : 0 < P := by rw [← hP]; exact Nat.pow_pos (by decide)
    exact Nat.lt_of_lt_of_le (Nat.mul_lt_mul_of_pos_right this hP0) (by rw [Nat.mul_assoc]; exact Nat.mul_le_mul_left K h2)
  refine ⟨a1, Nat.le_antisymm (dig_len_lt (by rw [Nat.pow_succ, hK]; exact a2)) ?_⟩
  rcases Nat.lt_or_ge n (dig (y * P)).length with h | h
  · exact h
  · have l3 := val_lt (dig_dig (y * P))
    rw [val_dig] at l3
    have l4 := Nat.pow_le_pow_right (n := 4294967296) (by decide) h
    rw [hK] at l4
    have : 0 < K := by rw [← hK]; exact Nat.pow_pos (by decide)
    omega
/-- the number that is divided, shifted by s, with a digit more -/
theorem long_at (x s : Nat) (hs : s ≤ 31) : (dig (x * 2 ^ s)).length ≤ (dig x).length + 1 ∧ x * 2 ^ s < 4294967296 ^ (dig x).length * 2147483648 := by
  have l := val_lt (dig_dig x)
  rw [val_dig] at l
  have h := two31 s hs
  have hp : 0 < 2 ^ s := Nat.pow_pos (by decide)
  have a : x * 2 ^ s < 4294967296 ^ (dig x).length * 2147483648 := Nat.lt_of_lt_of_le (Nat.mul_lt_mul_of_pos_right l hp) (Nat.mul_le_mul_left _ h)
  refine ⟨dig_len_lt ?_, a⟩
  rw [Nat.pow_succ]
  exact Nat.lt_of_lt_of_le a (Nat.mul_le_mul_left _ (by decide))
/-- digits with zeros behind them -/
theorem pad_val {v m : Nat} : val (dig v ++ List.replicate m 0) = v := by rw [val_append, val_zeros, Nat.mul_zero, Nat.add_zero, val_dig]
theorem pad_dig {v m : Nat} : Dig (dig v ++ List.replicate m 0) := fun d hd => by
  rcases List.mem_append.1 hd with h | h
  · exact dig_dig v d h
  · rw [(List.mem_replicate.1 h).2]; decide
theorem pad_splice {v m : Nat} : splice (u32s (List.replicate m 0)) 0 (u32s (dig v)) = u32s (dig v ++ List.replicate (m - (dig v).length) 0) := by
  simp [splice, u32s]
theorem shift_div (x y s : Nat) : x * 2 ^ s / (y * 2 ^ s) = x / y := Nat.mul_div_mul_right _ _ (Nat.pow_pos (by decide))
theorem shift_mod (x y s : Nat) : x * 2 ^ s % (y * 2 ^ s) / 2 ^ s = x % y := by
  rw [Nat.mul_mod_mul_right, Nat.mul_div_cancel _ (Nat.pow_pos (by decide))]
theorem dig_lt_one {y : Nat} (h : (dig y).length = 1) : (dig y).getD 0 0 = y ∧ 0 < y ∧ y < 4294967296 := by
  have h0 : y ≠ 0 := fun e => by rw [e, dig_zero] at h; simp at h
  have l := val_lt (dig_dig y)
  rw [val_dig, h] at l
  refine ⟨?_, by omega, by simpa using l⟩
  rw [dig_pos h0]
  simp
  simpa using l
theorem top_pos {y n : Nat} (h : (dig y).length = n + 1) : 0 < (dig y).getD n 0 := by
  have ht := trim_dig y
  generalize dig y = l at *
  have hne : l ≠ [] := fun e => by rw [e] at h; simp at h
  have := ht hne
  rw [List.getLast_eq_getElem] at this
  rw [List.getD_eq_getElem?_getD, List.getElem?_eq_getElem (by omega)]
  simp only [h, Nat.add_sub_cancel] at this
  simp only [Option.getD_some]
  omega
theorem lz32_any (t s : Nat) (w : World) (h : t < 4294967296) (hz : 32 - (Lib.bitLen t : Int) = (s : Int)) :
    Calls Try.prog 82 #[.int .u32 (t : Int)] w fun e w' => e = .returned (.int .i64 (s : Int)) ∧ w' = w := by
  have := Try.bits_LeadingZeros32 (t : Int) w (by omega) (by omega)
  rwa [Int.toNat_natCast, hz] at this
/-! ### one round -/
theorem round_a {zv dv pv K b : Nat} (hz : zv < K) (hb : b ≤ 1) (he : zv + dv = pv + K * b) (hl : dv ≤ pv) : b = 0 ∧ zv + dv = pv := by
  rcases (by omega : b = 0 ∨ b = 1) with rfl | rfl
  · exact ⟨rfl, by omega⟩
  · omega
theorem round_b {zv dv pv K b : Nat} (hb : b ≤ 1) (he : zv + dv = pv + K * b) (hl : pv < dv) : b = 1 := by
  rcases (by omega : b = 0 ∨ b = 1) with rfl | rfl
  · omega
  · rfl
theorem round_c {zv zw dv pv K V b : Nat} (hb : b ≤ 1) (hw : zw < K) (he : zv + (dv + V) = pv + K) (hf : zw + K * b = zv + V) (hl : dv ≤ pv) (hv : pv - dv < V) : zw + dv = pv ∧ zw < V := by
  rcases (by omega : b = 0 ∨ b = 1) with rfl | rfl
  · omega
  · omega
theorem part_mid {us zs : List Nat} {i n : Nat} (hz : zs.length = n + 1) (hl : i ≤ us.length) : partU (us.take i ++ (zs ++ us.drop (i + (n + 1)))) n i = zs := by
  have hj : (us.take i).length = i := by rw [List.length_take]; omega
  unfold partU
  rw [List.drop_append_of_le_length (by omega), show (us.take i).drop i = [] from List.drop_of_length_le (by omega), List.nil_append, ← hz, List.take_left]
theorem mid_mid {us zs zt : List Nat} {i n : Nat} (hz : zs.length = n + 1) (hl : i ≤ us.length) :
    (us.take i ++ (zs ++ us.drop (i + (n + 1)))).take i ++ (zt ++ (us.take i ++ (zs ++ us.drop (i + (n + 1)))).drop (i + (n + 1))) = us.take i ++ (zt ++ us.drop (i + (n + 1))) := by
  have hj : (us.take i).length = i := by rw [List.length_take]; omega
  have h1 : (us.take i ++ (zs ++ us.drop (i + (n + 1)))).take i = us.take i := by
    rw [List.take_append_of_le_length (by omega), List.take_of_length_le (by omega)]
  have h2 : (us.take i ++ (zs ++ us.drop (i + (n + 1)))).drop (i + (n + 1)) = us.drop (i + (n + 1)) := by
    rw [← List.append_assoc, List.drop_append_of_le_length (by rw [List.length_append]; omega), List.drop_of_length_le (by rw [List.length_append]; omega), List.nil_append]
  rw [h1, h2]
end Go.Proofs.Ytpbapoanjkekmaa
