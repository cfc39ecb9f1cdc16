/- Shifts of magnitudes by less than a digit: plain laws. -/
import Derived.Test.YtpbapoanjkekmaaVC
namespace Go.Proofs.Ytpbapoanjkekmaa

/-- a magnitude times p = 2^s: the digits ys that are done, the digit t that is begun -/
structure ShlSt (ys : List Nat) (t k va p : Nat) : Prop where
  len : ys.length = k
  dg : Dig ys
  lt : t < p
  sum : val ys + 4294967296 ^ k * t = va * p
theorem ShlSt.nil {p : Nat} (h : 0 < p) : ShlSt [] 0 0 0 p := ⟨rfl, by simp [Dig], h, by simp [val]⟩
/-- the digit is put together of two parts that do not meet -/
theorem shl_fit {t x p q : Nat} (hp : p * q = 4294967296) (ht : t < p) : t + x * p % 4294967296 < 4294967296 ∧ p ∣ x * p % 4294967296 := by
  have hq : 0 < q := by
    rcases Nat.eq_zero_or_pos q with h | h
    · rw [h, Nat.mul_zero] at hp; omega
    · exact h
  have e : x * p % 4294967296 = p * (x % q) := by rw [← hp, Nat.mul_comm x p, Nat.mul_mod_mul_left]
  have hx : x % q < q := Nat.mod_lt _ hq
  have h2 : p * (x % q) + p ≤ p * q := by
    have : p * (x % q + 1) ≤ p * q := Nat.mul_le_mul_left _ hx
    rwa [Nat.mul_add, Nat.mul_one] at this
  rw [e]
  exact ⟨by omega, ⟨_, rfl⟩⟩
theorem ShlSt.step {ys : List Nat} {t k va p q x : Nat} (h : ShlSt ys t k va p) (hp : p * q = 4294967296) (hx : x < 4294967296) :
    ShlSt (ys ++ [t + x * p % 4294967296]) (x * p / 4294967296) (k + 1) (va + 4294967296 ^ k * x) p := by
  have hpp : 0 < p := by have := h.lt; omega
  refine ⟨by simp [h.len], fun z hz => ?_, ?_, ?_⟩
  · rcases List.mem_append.1 hz with hz | hz
    · exact h.dg z hz
    · rw [List.mem_singleton] at hz
      rw [hz]
      exact (shl_fit hp h.lt).1
  · rw [Nat.div_lt_iff_lt_mul (by decide), Nat.mul_comm p]
    exact Nat.mul_lt_mul_of_pos_right hx hpp
  · have h0 := h.sum
    have hv := val_append ys [t + x * p % 4294967296]
    rw [h.len] at hv
    simp only [val, Nat.mul_zero, Nat.add_zero] at hv
    have e := Nat.mod_add_div (x * p) 4294967296
    rw [hv, Nat.pow_succ, Nat.add_mul va, ← h0, Nat.mul_assoc (4294967296 ^ k) x p]
    generalize x * p % 4294967296 = a at *
    generalize x * p / 4294967296 = b at *
    generalize 4294967296 ^ k = w at *
    have e2 : w * (x * p) = w * a + w * (4294967296 * b) := by rw [← e, Nat.mul_add]
    rw [e2, Nat.mul_add w t, Nat.mul_assoc w 4294967296]
    generalize w * (4294967296 * b) = X
    generalize w * a = Y
    omega
/-- a magnitude divided by p = 2^s -/
def shrL (p : Nat) : List Nat → List Nat
  | [] => []
  | x :: r => ((x + 4294967296 * r.headD 0) / p % 4294967296) :: shrL p r
theorem shrL_len (p : Nat) : ∀ l : List Nat, (shrL p l).length = l.length
  | [] => rfl
  | x :: r => by rw [shrL, List.length_cons, List.length_cons, shrL_len p r]
theorem shrL_dig (p : Nat) : ∀ l : List Nat, Dig (shrL p l)
  | [] => by simp [shrL, Dig]
  | x :: r => fun d hd => by
    rw [shrL] at hd
    rcases List.mem_cons.1 hd with hd | hd
    · rw [hd]; exact Nat.mod_lt _ (by decide)
    · exact shrL_dig p r d hd
theorem val_shrL {p q : Nat} (hp : p * q = 4294967296) : ∀ {l : List Nat}, Dig l → val (shrL p l) = val l / p
  | [], _ => by simp [shrL, val]
  | x :: r, h => by
    have hpp : 0 < p := by
      rcases Nat.eq_zero_or_pos p with h0 | h0
      · rw [h0, Nat.zero_mul] at hp; omega
      · exact h0
    have hx : x < 4294967296 := h x (by simp)
    have ih := val_shrL hp (l := r) (fun d hd => h d (List.mem_cons_of_mem _ hd))
    have hr : ∃ w, val r = r.headD 0 + 4294967296 * w := by
      cases r with
      | nil => exact ⟨0, by simp [val]⟩
      | cons y s => exact ⟨val s, rfl⟩
    obtain ⟨w, hw⟩ := hr
    rw [shrL, val, val, ih]
    generalize val r = v at *
    generalize r.headD 0 = y at *
    have e1 : (x + 4294967296 * v) / p / 4294967296 = v / p := by
      rw [Nat.div_div_eq_div_mul, Nat.mul_comm p, ← Nat.div_div_eq_div_mul, Nat.add_mul_div_left _ _ (by decide), Nat.div_eq_of_lt hx, Nat.zero_add]
    have e2 : (x + 4294967296 * v) / p % 4294967296 = (x + 4294967296 * y) / p % 4294967296 := by
      have e3 : x + 4294967296 * v = x + 4294967296 * y + p * (q * (4294967296 * w)) := by
        rw [hw, ← Nat.mul_assoc p, hp, Nat.mul_add, Nat.add_assoc]
      rw [e3, Nat.add_mul_div_left _ _ hpp, Nat.mul_left_comm q, Nat.add_mul_mod_self_left]
    have e4 := Nat.mod_add_div ((x + 4294967296 * v) / p) 4294967296
    rw [e1, e2] at e4
    exact e4
end Go.Proofs.Ytpbapoanjkekmaa
