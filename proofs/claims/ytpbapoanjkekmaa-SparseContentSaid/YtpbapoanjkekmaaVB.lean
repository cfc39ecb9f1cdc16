/- Knuth's division: the rows of digits; plain laws. -/
import Derived.Test.YtpbapoanjkekmaaVA
namespace Go.Proofs.Ytpbapoanjkekmaa

theorem dig_of_take {l : List Nat} (h : Dig l) (k : Nat) : Dig (l.take k) := fun d hd => h d (List.mem_of_mem_take hd)
theorem dig_of_drop {l : List Nat} (h : Dig l) (k : Nat) : Dig (l.drop k) := fun d hd => h d (List.mem_of_mem_drop hd)
theorem val_cut (l : List Nat) {k : Nat} (hk : k ≤ l.length) : val l = val (l.take k) + 4294967296 ^ k * val (l.drop k) := by
  have := val_append (l.take k) (l.drop k)
  rwa [List.take_append_drop, List.length_take, Nat.min_eq_left hk] at this
theorem val_take_lt {l : List Nat} (h : Dig l) {k : Nat} (hk : k ≤ l.length) : val (l.take k) < 4294967296 ^ k := by
  have := val_lt (dig_of_take h k)
  rwa [List.length_take, Nat.min_eq_left hk] at this
/-- a short value: the digits from k on are 0 -/
theorem val_short {l : List Nat} {k : Nat} (hk : k ≤ l.length) (h : val l < 4294967296 ^ k) : val (l.drop k) = 0 ∧ val (l.take k) = val l := by
  have e := val_cut l hk
  rcases Nat.eq_zero_or_pos (val (l.drop k)) with h0 | h0
  · rw [h0, Nat.mul_zero, Nat.add_zero] at e
    exact ⟨h0, e.symm⟩
  · have : 4294967296 ^ k * 1 ≤ 4294967296 ^ k * val (l.drop k) := Nat.mul_le_mul_left _ h0
    omega
theorem val_top2 {l : List Nat} {m : Nat} (h : l.length = m + 2) : val l = (l.getD (m + 1) 0 * 4294967296 + l.getD m 0) * 4294967296 ^ m + val (l.take m) := by
  have e1 := val_take_succ (ds := l) (k := m) (by omega)
  have e2 := val_take_succ (ds := l) (k := m + 1) (by omega)
  rw [show m + 1 + 1 = l.length by omega, List.take_length, e1, Nat.pow_succ] at e2
  rw [e2, Nat.add_mul, Nat.mul_assoc (l.getD (m + 1) 0), Nat.mul_comm (l.getD (m + 1) 0), Nat.mul_comm (l.getD m 0), Nat.mul_comm 4294967296 (4294967296 ^ m)]
  generalize 4294967296 ^ m * 4294967296 * l.getD (m + 1) 0 = X
  generalize 4294967296 ^ m * l.getD m 0 = Y
  omega
theorem val_top3 {l : List Nat} {m : Nat} (h : l.length = m + 3) : val l = ((l.getD (m + 2) 0 * 4294967296 + l.getD (m + 1) 0) * 4294967296 + l.getD m 0) * 4294967296 ^ m + val (l.take m) := by
  have e1 := val_take_succ (ds := l) (k := m) (by omega)
  have h2 : val l = (l.getD (m + 2) 0 * 4294967296 + l.getD (m + 1) 0) * 4294967296 ^ (m + 1) + val (l.take (m + 1)) := val_top2 (m := m + 1) h
  rw [e1] at h2
  rw [h2, Nat.add_mul _ (l.getD m 0), Nat.pow_succ, Nat.mul_assoc _ 4294967296 (4294967296 ^ m), Nat.mul_comm 4294967296 (4294967296 ^ m), Nat.mul_comm (l.getD m 0)]
  generalize (l.getD (m + 2) 0 * 4294967296 + l.getD (m + 1) 0) * (4294967296 ^ m * 4294967296) = X
  generalize 4294967296 ^ m * l.getD m 0 = Y
  omega

/-! ### the rounds -/
/-- ahead of the round at j - 1: the rest u, the quotient q so far, of A by V -/
structure DivI (u q : List Nat) (n j A V : Nat) : Prop where
  du : Dig u
  dq : Dig q
  len : u.length = q.length + n
  le : j ≤ q.length
  rem : val (u.drop j) < V
  eq : val u + V * val q = A
  zero : ∀ i, i < j → q.getD i 0 = 0
def partU (u : List Nat) (n i : Nat) : List Nat := (u.drop i).take (n + 1)
theorem DivI.part {u q v : List Nat} {n i A : Nat} (h : DivI u q n (i + 1) A (val v)) (hv : Dig v) (hn : v.length = n) (h0 : 0 < n) :
    (partU u n i).length = n + 1 ∧ Dig (partU u n i) ∧ val (partU u n i) = val (u.drop i) ∧ val (u.drop (i + n + 1)) = 0 ∧ val (partU u n i) < val v * 4294967296 := by
  have hl := h.len; have hj := h.le
  have hVn : val v < 4294967296 ^ n := by rw [← hn]; exact val_lt hv
  have hi : i < u.length := by omega
  have e : val (u.drop i) = u.getD i 0 + 4294967296 * val (u.drop (i + 1)) := by
    rw [List.drop_eq_getElem_cons hi, val, List.getD_eq_getElem?_getD, List.getElem?_eq_getElem hi]
    rfl
  have hd : u.getD i 0 < 4294967296 := by
    rw [List.getD_eq_getElem?_getD, List.getElem?_eq_getElem hi]
    exact h.du _ (List.getElem_mem hi)
  have hlt : val (u.drop i) < val v * 4294967296 := by
    have := h.rem
    omega
  have hlt2 : val (u.drop i) < 4294967296 ^ (n + 1) := by
    rw [Nat.pow_succ]
    exact Nat.lt_of_lt_of_le hlt (Nat.mul_le_mul_right _ (Nat.le_of_lt hVn))
  have hk : n + 1 ≤ (u.drop i).length := by rw [List.length_drop]; omega
  obtain ⟨s1, s2⟩ := val_short hk hlt2
  rw [List.drop_drop] at s1
  refine ⟨by unfold partU; rw [List.length_take, Nat.min_eq_left hk], dig_of_take (dig_of_drop h.du i) _, s2, ?_, ?_⟩
  · rw [show i + n + 1 = i + (n + 1) by omega]; exact s1
  · unfold partU; rw [s2]; exact hlt
/-- one round: the part is replaced by the rest zs, the digit is d -/
theorem DivI.step {u q v zs : List Nat} {n i A d : Nat} (h : DivI u q n (i + 1) A (val v)) (hv : Dig v) (hn : v.length = n) (h0 : 0 < n) (hd : d < 4294967296) (hz : Dig zs) (hzl : zs.length = n + 1) (he : val zs + d * val v = val (partU u n i)) (hlt : val zs < val v) :
    DivI (u.take i ++ (zs ++ u.drop (i + n + 1))) (q.set i d) n i A (val v) := by
  have hl := h.len; have hj := h.le
  obtain ⟨p1, p2, p3, p4, p5⟩ := h.part hv hn h0
  have hi : i < q.length := by omega
  have hti : (u.take i).length = i := by rw [List.length_take]; omega
  have hrest : val (zs ++ u.drop (i + n + 1)) = val zs := by rw [val_append, p4, Nat.mul_zero, Nat.add_zero]
  refine ⟨fun x hx => ?_, fun x hx => ?_, ?_, by rw [List.length_set]; omega, ?_, ?_, fun k hk => ?_⟩
  · rcases List.mem_append.1 hx with hx | hx
    · exact h.du x (List.mem_of_mem_take hx)
    · rcases List.mem_append.1 hx with hx | hx
      · exact hz x hx
      · exact h.du x (List.mem_of_mem_drop hx)
  · rcases List.mem_or_eq_of_mem_set hx with hx | hx
    · exact h.dq x hx
    · rw [hx]; exact hd
  · rw [List.length_set, List.length_append, List.length_append, hti, hzl, List.length_drop]; omega
  · rw [List.drop_append_of_le_length (by omega), show (u.take i).drop i = [] from List.drop_of_length_le (by omega), List.nil_append, hrest]
    exact hlt
  · have hs := val_set (ds := q) (k := i) hi d
    rw [h.zero i (by omega), Nat.mul_zero, Nat.add_zero] at hs
    have hu := val_cut u (k := i) (by omega)
    rw [← p3, ← he] at hu
    have hE := h.eq
    rw [val_append, hti, hrest, hs, ← hE, hu, Nat.mul_add (val v), Nat.mul_add (4294967296 ^ i), Nat.mul_left_comm (val v) (4294967296 ^ i), Nat.mul_comm (val v) d]
    generalize 4294967296 ^ i * (d * val v) = X
    generalize 4294967296 ^ i * val zs = Y
    generalize val v * val q = Z
    omega
  · rw [List.getD_eq_getElem?_getD, List.getElem?_set_ne (by omega), ← List.getD_eq_getElem?_getD]
    exact h.zero k (by omega)
theorem DivI.done {u q : List Nat} {n A V : Nat} (h : DivI u q n 0 A V) : val q = A / V ∧ val u = A % V := by
  have h1 := h.rem
  rw [List.drop_zero] at h1
  have h2 := h.eq
  have hV : 0 < V := by omega
  refine ⟨?_, ?_⟩
  · rw [← h2, Nat.add_mul_div_left _ _ hV, Nat.div_eq_of_lt h1, Nat.zero_add]
  · rw [← h2, Nat.add_mul_mod_self_left, Nat.mod_eq_of_lt h1]
end Go.Proofs.Ytpbapoanjkekmaa
