/- Knuth's division: plain laws. -/
import Derived.Test.YtpbapoanjkekmaaZN
namespace Go.Proofs.Ytpbapoanjkekmaa

/-! ### the digit that is guessed -/
/-- the guess d for the highest three digits u (as a number) and the highest two w of the divisor -/
structure Est (u w d : Nat) : Prop where
  lt : d < 4294967296
  le : d * w ≤ u
  ge : d = 4294967295 ∨ u < (d + 1) * w
/-- the search: a digit, the rest of the highest two digits -/
structure EstSt (u2 u1 u0 v1 v2 d r : Nat) : Prop where
  lt : d < 4294967296
  eq : d * v1 + r = u2 * 4294967296 + u1
  ge : d = 4294967295 ∨ (u2 * 4294967296 + u1) * 4294967296 + u0 < (d + 1) * (v1 * 4294967296 + v2)
theorem lin_a {a u0 Y Z : Nat} (h : a < Y) (h0 : u0 < 4294967296) : a * 4294967296 + u0 < Y * 4294967296 + Z := by omega
theorem lin_b {a u0 Y Z r : Nat} (hc : r * 4294967296 + u0 < Z) (e : Y + r = a) : a * 4294967296 + u0 < Y * 4294967296 + Z := by
  rw [← e, Nat.add_mul, Nat.add_assoc]
  exact Nat.add_lt_add_left hc _
theorem EstSt.start {u2 u1 u0 v1 v2 : Nat} (h2 : u2 < v1) (h0 : u0 < 4294967296) (h1 : u1 < 4294967296) : EstSt u2 u1 u0 v1 v2 ((u2 * 4294967296 + u1) / v1) ((u2 * 4294967296 + u1) % v1) where
  lt := by
    rw [Nat.div_lt_iff_lt_mul (by omega)]
    have : (u2 + 1) * 4294967296 ≤ v1 * 4294967296 := Nat.mul_le_mul_right _ (by omega)
    omega
  eq := by rw [Nat.mul_comm]; exact Nat.div_add_mod _ _
  ge := by
    refine .inr ?_
    have h := Nat.lt_div_mul_add (a := u2 * 4294967296 + u1) (b := v1) (by omega)
    generalize (u2 * 4294967296 + u1) / v1 = d at *
    have h4 : (d + 1) * (v1 * 4294967296 + v2) = (d * v1 + v1) * 4294967296 + (d + 1) * v2 := by rw [Nat.mul_add (d + 1), ← Nat.mul_assoc, Nat.add_mul d 1 v1, Nat.one_mul]
    rw [h4]
    exact lin_a h h0
theorem EstSt.top {u1 u0 v1 v2 : Nat} : EstSt v1 u1 u0 v1 v2 4294967295 (u1 + v1) where
  lt := by decide
  eq := by omega
  ge := .inl rfl
theorem EstSt.done {u2 u1 u0 v1 v2 d r : Nat} (h : EstSt u2 u1 u0 v1 v2 d r) (hc : 4294967296 ≤ r ∨ d * v2 ≤ r * 4294967296 + u0) (hv : v2 < 4294967296) : Est ((u2 * 4294967296 + u1) * 4294967296 + u0) (v1 * 4294967296 + v2) d where
  lt := h.lt
  le := by
    have hle : d * v2 ≤ r * 4294967296 + u0 := by
      rcases hc with hc | hc
      · have h1 : d * v2 ≤ 4294967295 * 4294967295 := Nat.mul_le_mul (by have := h.lt; omega) (by omega)
        have h2 : 4294967296 * 4294967296 ≤ r * 4294967296 := Nat.mul_le_mul_right _ hc
        omega
      · exact hc
    have e : (d * v1 + r) * 4294967296 = (u2 * 4294967296 + u1) * 4294967296 := by rw [h.eq]
    have e2 : d * (v1 * 4294967296 + v2) = d * v1 * 4294967296 + d * v2 := by rw [Nat.mul_add d, ← Nat.mul_assoc]
    omega
  ge := h.ge
theorem EstSt.step {u2 u1 u0 v1 v2 d r : Nat} (h : EstSt u2 u1 u0 v1 v2 d r) (hc : r * 4294967296 + u0 < d * v2) : 0 < d ∧ EstSt u2 u1 u0 v1 v2 (d - 1) (r + v1) := by
  have hd : 0 < d := by
    rcases Nat.eq_zero_or_pos d with h0 | h0
    · rw [h0, Nat.zero_mul] at hc; omega
    · exact h0
  obtain ⟨k, rfl⟩ : ∃ k, d = k + 1 := ⟨d - 1, by omega⟩
  refine ⟨hd, by have := h.lt; omega, ?_, .inr ?_⟩
  · have e := h.eq
    rw [Nat.add_mul, Nat.one_mul] at e
    rw [Nat.add_sub_cancel]
    omega
  · rw [Nat.add_sub_cancel]
    have e2 : (k + 1) * (v1 * 4294967296 + v2) = (k + 1) * v1 * 4294967296 + (k + 1) * v2 := by rw [Nat.mul_add (k + 1), ← Nat.mul_assoc]
    rw [e2]
    exact lin_b hc h.eq
/-- the guess is the digit, or one more -/
theorem Est.near {U V u w d k ul vl : Nat} (h : Est u w d) (hU : U = u * k + ul) (hV : V = w * k + vl) (hul : ul < k) (hvl : vl < k) (hw : 4294967296 ≤ w) (hlt : U < V * 4294967296) :
    (d * V ≤ U ∧ U - d * V < V) ∨ (U < d * V ∧ 0 < d ∧ (d - 1) * V ≤ U ∧ U - (d - 1) * V < V) := by
  have h1 : d * V < U + V := by
    have a1 : d * (w * k) ≤ u * k := by rw [← Nat.mul_assoc]; exact Nat.mul_le_mul_right _ h.le
    have a2 : d * vl ≤ 4294967295 * vl := Nat.mul_le_mul_right _ (by have := h.lt; omega)
    have a3 : 4294967296 * k ≤ w * k := Nat.mul_le_mul_right _ hw
    rw [hV, Nat.mul_add]
    omega
  by_cases hc : d * V ≤ U
  · refine .inl ⟨hc, ?_⟩
    rcases h.ge with hd | hd
    · have : V * 4294967296 = d * V + V := by rw [hd]; omega
      omega
    · have a1 : (u + 1) * k ≤ (d + 1) * w * k := Nat.mul_le_mul_right _ hd
      have a2 : (d + 1) * w * k ≤ (d + 1) * V := by rw [Nat.mul_assoc]; exact Nat.mul_le_mul_left _ (by omega)
      rw [Nat.add_mul, Nat.one_mul] at a1
      have a3 : (d + 1) * V = d * V + V := by rw [Nat.add_mul, Nat.one_mul]
      omega
  · have hd : 0 < d := by
      rcases Nat.eq_zero_or_pos d with h0 | h0
      · rw [h0, Nat.zero_mul] at hc; omega
      · exact h0
    obtain ⟨j, rfl⟩ : ∃ j, d = j + 1 := ⟨d - 1, by omega⟩
    refine .inr ⟨by omega, hd, ?_, ?_⟩ <;> rw [Nat.add_sub_cancel] <;> rw [Nat.add_mul, Nat.one_mul] at h1 hc <;> omega

/-! ### a multiple of the divisor is taken away; the divisor is added back -/
structure SubM (zs : List Nat) (c b k pu vv d : Nat) : Prop where
  len : zs.length = k
  dg : Dig zs
  sum : val zs + d * vv = pu + 4294967296 ^ k * (b + c)
  car : c < 4294967296
  bor : b ≤ 1
theorem SubM.nil (d : Nat) : SubM [] 0 0 0 0 0 d := ⟨rfl, by simp [Dig], by simp [val], by omega, by omega⟩
theorem SubM.step {zs : List Nat} {c b k pu vv d x y lo hi t b' : Nat} (h : SubM zs c b k pu vv d) (hhi : hi < 4294967296) (hm : hi * 4294967296 + lo = y * d + c) (ht : t < 4294967296) (hb : b' ≤ 1) (he : t + (lo + b) = x + 4294967296 * b') :
    SubM (zs ++ [t]) hi b' (k + 1) (pu + 4294967296 ^ k * x) (vv + 4294967296 ^ k * y) d := by
  refine ⟨by simp [h.len], fun z hz => ?_, ?_, hhi, hb⟩
  · rcases List.mem_append.1 hz with hz | hz
    · exact h.dg z hz
    · rw [List.mem_singleton] at hz; rw [hz]; exact ht
  · have h0 := h.sum
    have hv := val_append zs [t]
    rw [h.len] at hv
    simp only [val, Nat.mul_zero, Nat.add_zero] at hv
    rw [hv, Nat.pow_succ]
    generalize 4294967296 ^ k = p at *
    have e1 : p * (t + (lo + b)) = p * (x + 4294967296 * b') := by rw [he]
    have e2 : p * (hi * 4294967296 + lo) = p * (y * d + c) := by rw [hm]
    have e3 : d * (vv + p * y) = d * vv + p * (y * d) := by rw [Nat.mul_add, Nat.mul_left_comm, Nat.mul_comm d y]
    rw [e3]
    simp only [Nat.mul_add] at e1 e2 h0 ⊢
    have e4 : p * (hi * 4294967296) = p * 4294967296 * hi := by rw [Nat.mul_comm hi, Nat.mul_assoc]
    have e5 : p * (4294967296 * b') = p * 4294967296 * b' := by rw [Nat.mul_assoc]
    omega
end Go.Proofs.Ytpbapoanjkekmaa
