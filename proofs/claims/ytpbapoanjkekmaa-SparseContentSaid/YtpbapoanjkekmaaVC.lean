/- Knuth's division: the guess and the start; plain laws. -/
import Derived.Test.YtpbapoanjkekmaaVB
namespace Go.Proofs.Ytpbapoanjkekmaa

theorem at_lt {l : List Nat} (h : Dig l) (k : Nat) : l.getD k 0 < 4294967296 := by
  rw [List.getD_eq_getElem?_getD]
  cases hk : l[k]? with
  | none => simp
  | some x => exact h x (List.mem_of_getElem? hk)
theorem lin_c {u2 v1 x y v2 k ul vl U V : Nat} (hU : U = (u2 * 4294967296 + x) * 4294967296 * k + y) (hV : V = (v1 * 4294967296 + v2) * k + vl) (hvl : vl < k) (hv2 : v2 < 4294967296) (h : U < V * 4294967296) (_ : ul = 0) : u2 ≤ v1 := by
  refine Nat.le_of_not_lt fun hlt => ?_
  have a1 : V < (v1 * 4294967296 + v2 + 1) * k := by rw [hV, Nat.add_mul _ 1, Nat.one_mul]; omega
  have a2 : (v1 * 4294967296 + v2 + 1) * k ≤ (u2 * 4294967296 + x) * k := Nat.mul_le_mul_right _ (by omega)
  have a3 : V * 4294967296 < (u2 * 4294967296 + x) * k * 4294967296 := Nat.mul_lt_mul_of_pos_right (Nat.lt_of_lt_of_le a1 a2) (by decide)
  have a4 : (u2 * 4294967296 + x) * k * 4294967296 = (u2 * 4294967296 + x) * 4294967296 * k := Nat.mul_right_comm _ _ _
  rw [a4] at a3
  have a5 : (u2 * 4294967296 + x) * 4294967296 * k ≤ U := by rw [hU]; exact Nat.le_add_right _ _
  exact absurd (Nat.lt_of_lt_of_le a3 a5) (Nat.lt_asymm h)
/-- the highest digits of the part and of the divisor -/
def gU (p : List Nat) (m : Nat) : Nat := (p.getD (m + 2) 0 * 4294967296 + p.getD (m + 1) 0) * 4294967296 + p.getD m 0
def gV (v : List Nat) (m : Nat) : Nat := v.getD (m + 1) 0 * 4294967296 + v.getD m 0
theorem guess_top {p v : List Nat} {m : Nat} (hv : Dig v) (hpl : p.length = m + 3) (hvl : v.length = m + 2) (h : val p < val v * 4294967296) : p.getD (m + 2) 0 ≤ v.getD (m + 1) 0 := by
  have e1 := val_top3 hpl
  have e2 := val_top2 hvl
  have l2 := val_take_lt hv (k := m) (by omega)
  have d := at_lt hv m
  rw [Nat.add_mul _ (p.getD m 0), Nat.add_assoc] at e1
  exact lin_c (ul := 0) e1 e2 l2 d h rfl
theorem guess_near {p v : List Nat} {m d : Nat} (hp : Dig p) (hv : Dig v) (hpl : p.length = m + 3) (hvl : v.length = m + 2) (h : val p < val v * 4294967296) (hb : 1 ≤ v.getD (m + 1) 0) (he : Est (gU p m) (gV v m) d) :
    (d * val v ≤ val p ∧ val p - d * val v < val v) ∨ (val p < d * val v ∧ 0 < d ∧ (d - 1) * val v ≤ val p ∧ val p - (d - 1) * val v < val v) := by
  refine he.near (val_top3 hpl) (val_top2 hvl) (val_take_lt hp (by omega)) (val_take_lt hv (by omega)) ?_ h
  exact Nat.le_trans (Nat.le_trans (Nat.le_of_eq (Nat.one_mul _).symm) (Nat.mul_le_mul_right _ hb)) (Nat.le_add_right _ _)
theorem DivI.start {u : List Nat} {n t V : Nat} (hu : Dig u) (hul : u.length = t + n) (hn : 0 < n) (hlt : val u < 4294967296 ^ (t + n - 1) * 2147483648) (hV : 4294967296 ^ (n - 1) * 2147483648 ≤ V) : DivI u (List.replicate t 0) n t (val u) V where
  du := hu
  dq := fun d hd => by rw [(List.mem_replicate.1 hd).2]; decide
  len := by rw [List.length_replicate]; exact hul
  le := by rw [List.length_replicate]; exact Nat.le_refl _
  rem := by
    have e := val_cut u (k := t) (by omega)
    have h1 : 4294967296 ^ t * val (u.drop t) < 4294967296 ^ t * (4294967296 ^ (n - 1) * 2147483648) := by
      rw [← Nat.mul_assoc, ← Nat.pow_add, show t + (n - 1) = t + n - 1 by omega]
      omega
    exact Nat.lt_of_lt_of_le (Nat.lt_of_mul_lt_mul_left h1) hV
  eq := by rw [val_zeros, Nat.mul_zero, Nat.add_zero]
  zero := fun i _ => by
    rw [List.getD_eq_getElem?_getD, List.getElem?_replicate]
    split <;> rfl

/-! ### the divisor is added back -/
structure AddM (zs : List Nat) (c k pu vv : Nat) : Prop where
  len : zs.length = k
  dg : Dig zs
  sum : val zs + 4294967296 ^ k * c = pu + vv
  car : c ≤ 1
theorem AddM.nil : AddM [] 0 0 0 0 := ⟨rfl, by simp [Dig], by simp [val], by omega⟩
theorem AddM.step {zs : List Nat} {c k pu vv x y t c' : Nat} (h : AddM zs c k pu vv) (ht : t < 4294967296) (hc : c' ≤ 1) (he : t + 4294967296 * c' = x + y + c) : AddM (zs ++ [t]) c' (k + 1) (pu + 4294967296 ^ k * x) (vv + 4294967296 ^ k * y) := by
  refine ⟨by simp [h.len], fun z hz => ?_, ?_, hc⟩
  · rcases List.mem_append.1 hz with hz | hz
    · exact h.dg z hz
    · rw [List.mem_singleton] at hz; rw [hz]; exact ht
  · have h0 := h.sum
    have hv := val_append zs [t]
    rw [h.len] at hv
    simp only [val, Nat.mul_zero, Nat.add_zero] at hv
    rw [hv, Nat.pow_succ]
    generalize 4294967296 ^ k = p at *
    have e1 : p * (t + 4294967296 * c') = p * (x + y + c) := by rw [he]
    simp only [Nat.mul_add] at e1
    have e5 : p * (4294967296 * c') = p * 4294967296 * c' := by rw [Nat.mul_assoc]
    omega
/-- the end of a multiple's subtraction: n + 1 digits zs, the last borrow b -/
theorem SubM.last {zs : List Nat} {c b k pu vv d x t b' : Nat} (h : SubM zs c b k pu vv d) (ht : t < 4294967296) (he : t + (c + b) = x + 4294967296 * b') :
    (zs ++ [t]).length = k + 1 ∧ Dig (zs ++ [t]) ∧ val (zs ++ [t]) + d * vv = pu + 4294967296 ^ k * x + 4294967296 ^ (k + 1) * b' := by
  refine ⟨by simp [h.len], fun z hz => ?_, ?_⟩
  · rcases List.mem_append.1 hz with hz | hz
    · exact h.dg z hz
    · rw [List.mem_singleton] at hz; rw [hz]; exact ht
  · have h0 := h.sum
    have hv := val_append zs [t]
    rw [h.len] at hv
    simp only [val, Nat.mul_zero, Nat.add_zero] at hv
    rw [hv, Nat.pow_succ]
    generalize 4294967296 ^ k = p at *
    have e1 : p * (t + (c + b)) = p * (x + 4294967296 * b') := by rw [he]
    simp only [Nat.mul_add] at e1 h0 ⊢
    have e5 : p * (4294967296 * b') = p * 4294967296 * b' := by rw [Nat.mul_assoc]
    omega
/-- the end of the adding back: the last carry is dropped -/
theorem AddM.last {zs : List Nat} {c k pu vv x t : Nat} (h : AddM zs c k pu vv) (ht : t = (x + c) % 4294967296) (hx : x < 4294967296) :
    (zs ++ [t]).length = k + 1 ∧ Dig (zs ++ [t]) ∧ ∃ b', b' ≤ 1 ∧ val (zs ++ [t]) + 4294967296 ^ (k + 1) * b' = pu + 4294967296 ^ k * x + vv := by
  refine ⟨by simp [h.len], fun z hz => ?_, (x + c) / 4294967296, by have := h.car; omega, ?_⟩
  · rcases List.mem_append.1 hz with hz | hz
    · exact h.dg z hz
    · rw [List.mem_singleton] at hz; omega
  · have h0 := h.sum
    have hv := val_append zs [t]
    rw [h.len] at hv
    simp only [val, Nat.mul_zero, Nat.add_zero] at hv
    rw [hv, Nat.pow_succ]
    have e := Nat.mod_add_div (x + c) 4294967296
    rw [← ht] at e
    generalize (x + c) / 4294967296 = q at *
    generalize 4294967296 ^ k = p at *
    have e1 : p * (t + 4294967296 * q) = p * (x + c) := by rw [e]
    simp only [Nat.mul_add] at e1
    have e5 : p * (4294967296 * q) = p * 4294967296 * q := by rw [Nat.mul_assoc]
    omega
end Go.Proofs.Ytpbapoanjkekmaa
