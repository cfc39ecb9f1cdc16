/- Natural numbers as digits in base 2^32, least significant first: plain laws. -/
import Derived.Test.YtpbapoanjkekmaaMem2
namespace Go.Proofs.Ytpbapoanjkekmaa

def val : List Nat → Nat
  | [] => 0
  | d :: ds => d + 4294967296 * val ds
def Dig (ds : List Nat) : Prop := ∀ d ∈ ds, d < 4294967296
def dig (v : Nat) : List Nat := if v = 0 then [] else (v % 4294967296) :: dig (v / 4294967296)
  termination_by v
  decreasing_by omega

theorem dig_zero : dig 0 = [] := by unfold dig; simp
theorem dig_pos {v : Nat} (h : v ≠ 0) : dig v = (v % 4294967296) :: dig (v / 4294967296) := by rw [dig]; simp [h]
theorem val_dig (v : Nat) : val (dig v) = v := by
  induction v using Nat.strongRecOn with
  | _ v ih =>
    by_cases h : v = 0
    · subst h; simp [dig_zero, val]
    · rw [dig_pos h]
      simp only [val]
      rw [ih (v / 4294967296) (by omega)]
      omega
theorem dig_dig (v : Nat) : Dig (dig v) := by
  induction v using Nat.strongRecOn with
  | _ v ih =>
    by_cases h : v = 0
    · subst h; simp [dig_zero, Dig]
    · rw [dig_pos h]
      intro d hd
      rcases List.mem_cons.1 hd with rfl | hd
      · exact Nat.mod_lt _ (by decide)
      · exact ih (v / 4294967296) (by omega) d hd
theorem dig_nil {v : Nat} : dig v = [] ↔ v = 0 := by
  constructor
  · intro h
    have := val_dig v
    rw [h] at this
    exact this.symm
  · rintro rfl; exact dig_zero
theorem dig_len0 {v : Nat} : (dig v).length = 0 ↔ v = 0 := by rw [List.length_eq_zero_iff, dig_nil]

/-- no leading zero -/
def Trim (ds : List Nat) : Prop := ∀ h : ds ≠ [], ds.getLast h ≠ 0
theorem val_pos_of_trim {ds : List Nat} (h : Trim ds) (hne : ds ≠ []) : val ds ≠ 0 := by
  induction ds with
  | nil => exact absurd rfl hne
  | cons d ds ih =>
    by_cases he : ds = []
    · subst he
      have := h (by simp)
      simp at this
      simp [val]
      exact this
    · have h2 : Trim ds := fun hn => by have := h (by simp); rwa [List.getLast_cons hn] at this
      have := ih h2 he
      simp only [val]
      omega
theorem dig_val {ds : List Nat} (hd : Dig ds) (h : Trim ds) : dig (val ds) = ds := by
  induction ds with
  | nil => simp [val, dig_zero]
  | cons d ds ih =>
    have hne := val_pos_of_trim h (by simp)
    have hlt : d < 4294967296 := hd d (by simp)
    rw [dig_pos hne]
    simp only [val]
    have e1 : (d + 4294967296 * val ds) % 4294967296 = d := by omega
    have e2 : (d + 4294967296 * val ds) / 4294967296 = val ds := by omega
    rw [e1, e2]
    by_cases he : ds = []
    · subst he; simp [val, dig_zero]
    · rw [ih (fun x hx => hd x (by simp [hx])) (fun hn => by have := h (by simp); rwa [List.getLast_cons hn] at this)]
theorem trim_dig (v : Nat) : Trim (dig v) := by
  induction v using Nat.strongRecOn with
  | _ v ih =>
    by_cases h : v = 0
    · subst h; simp [dig_zero, Trim]
    · rw [dig_pos h]
      intro hn
      by_cases he : dig (v / 4294967296) = []
      · simp [he]
        have := dig_nil.1 he
        omega
      · rw [List.getLast_cons he]
        exact ih _ (by omega) he

theorem val_append (a b : List Nat) : val (a ++ b) = val a + 4294967296 ^ a.length * val b := by
  induction a with
  | nil => simp [val]
  | cons d a ih =>
    simp only [List.cons_append, val, ih, List.length_cons, Nat.pow_succ]
    rw [Nat.mul_add, Nat.mul_comm (4294967296 ^ a.length) 4294967296, Nat.mul_assoc]
    omega
theorem val_lt {ds : List Nat} (h : Dig ds) : val ds < 4294967296 ^ ds.length := by
  induction ds with
  | nil => simp [val]
  | cons d ds ih =>
    have h1 : d < 4294967296 := h d (by simp)
    have h2 := ih (fun x hx => h x (by simp [hx]))
    simp only [val, List.length_cons, Nat.pow_succ]
    generalize 4294967296 ^ ds.length = p at *
    omega
theorem val_zeros (n : Nat) : val (List.replicate n 0) = 0 := by
  induction n with
  | zero => rfl
  | succ n ih => simp [List.replicate_succ, val, ih]
theorem val_zero {ds : List Nat} (h : ∀ d ∈ ds, d = 0) : val ds = 0 := by
  rw [List.eq_replicate_iff.2 ⟨rfl, h⟩]; exact val_zeros _
theorem val_take_succ {ds : List Nat} {k : Nat} (hk : k < ds.length) : val (ds.take (k + 1)) = val (ds.take k) + 4294967296 ^ k * ds.getD k 0 := by
  rw [List.take_add_one, val_append, List.length_take, Nat.min_eq_left (Nat.le_of_lt hk), List.getElem?_eq_getElem hk]
  simp [val, List.getElem?_eq_getElem hk]
theorem val_set {ds : List Nat} {k : Nat} (hk : k < ds.length) (x : Nat) : val (ds.set k x) + 4294967296 ^ k * ds.getD k 0 = val ds + 4294967296 ^ k * x := by
  induction ds generalizing k with
  | nil => simp at hk
  | cons d ds ih =>
    cases k with
    | zero => simp [val]; omega
    | succ k =>
      have := ih (k := k) (by simpa using hk)
      simp only [List.set_cons_succ, val, List.getD_cons_succ, Nat.pow_succ]
      have e : ∀ y, 4294967296 ^ k * 4294967296 * y = 4294967296 * (4294967296 ^ k * y) := fun y => by rw [Nat.mul_comm (4294967296 ^ k), Nat.mul_assoc]
      rw [e, e]
      generalize 4294967296 ^ k * ds.getD k 0 = u at *
      generalize 4294967296 ^ k * x = v at *
      omega
/-- the leading zeros dropped: what the loop of 'trim' finds -/
theorem trim_at {ds : List Nat} (hd : Dig ds) {n : Nat} (hn : n ≤ ds.length) (hz : ∀ k, n ≤ k → k < ds.length → ds.getD k 0 = 0) (hl : n = 0 ∨ ds.getD (n - 1) 0 ≠ 0) : ds.take n = dig (val ds) := by
  have h0 : val (ds.drop n) = 0 := val_zero fun d hd => by
    obtain ⟨k, hk, e⟩ := List.getElem_of_mem hd
    have hk' : n + k < ds.length := by simp at hk; omega
    have := hz (n + k) (by omega) hk'
    rw [List.getD_eq_getElem?_getD, List.getElem?_eq_getElem hk'] at this
    rw [← e, List.getElem_drop]
    simpa using this
  have e : val ds = val (ds.take n) := by
    conv => lhs; rw [← List.take_append_drop n ds]
    rw [val_append, h0]
    simp
  rw [e, dig_val (fun x hx => hd x (List.mem_of_mem_take hx))]
  intro hne
  rcases hl with rfl | hl
  · simp at hne
  · have hn0 : 0 < n := by
      rcases Nat.eq_zero_or_pos n with rfl | h
      · simp at hne
      · exact h
    have hlt : n - 1 < ds.length := by omega
    rw [List.getLast_eq_getElem]
    rw [List.getD_eq_getElem?_getD, List.getElem?_eq_getElem hlt] at hl
    simp [Nat.min_eq_left hn]
    simpa using hl
theorem dig_take {ds : List Nat} (hd : Dig ds) : dig (val ds) = ds.take (dig (val ds)).length := by
  induction ds with
  | nil => simp [val, dig_zero]
  | cons d ds ih =>
    have hlt : d < 4294967296 := hd d (by simp)
    have ih := ih (fun x hx => hd x (by simp [hx]))
    by_cases h : val (d :: ds) = 0
    · rw [h, dig_zero]; rfl
    · rw [dig_pos h]
      have e1 : val (d :: ds) % 4294967296 = d := by simp only [val]; omega
      have e2 : val (d :: ds) / 4294967296 = val ds := by simp only [val]; omega
      rw [e1, e2]
      simp only [List.length_cons, List.take_succ_cons]
      rw [← ih]
theorem dig_len_le {ds : List Nat} (hd : Dig ds) : (dig (val ds)).length ≤ ds.length := by
  rcases Nat.lt_or_ge ds.length (dig (val ds)).length with h | h
  · exfalso
    have hne : dig (val ds) ≠ [] := by intro h0; rw [h0] at h; simp at h
    have h1 := trim_dig (val ds) hne
    have h2 : val (dig (val ds)) = val ds := val_dig _
    have h3 := val_lt hd
    -- the value is at least B^(length-1)
    have h4 : 4294967296 ^ ((dig (val ds)).length - 1) ≤ val (dig (val ds)) := by
      generalize dig (val ds) = es at *
      have e : es = es.take (es.length - 1) ++ [es.getLast hne] := by
        rw [← List.dropLast_eq_take]; exact (List.dropLast_concat_getLast hne).symm
      rw [e, val_append]
      simp only [val, List.length_take, List.length_append, List.length_singleton]
      have e2 : min (es.length - 1) es.length = es.length - 1 := by omega
      rw [e2, Nat.add_sub_cancel]
      have : 4294967296 ^ (es.length - 1) * 1 ≤ 4294967296 ^ (es.length - 1) * (es.getLast hne + 4294967296 * 0) := Nat.mul_le_mul_left _ (by omega)
      omega
    have h5 : 4294967296 ^ ds.length ≤ 4294967296 ^ ((dig (val ds)).length - 1) := Nat.pow_le_pow_right (by decide) (by omega)
    omega
  · exact h
theorem dig_len_lt {v n : Nat} (h : v < 4294967296 ^ n) : (dig v).length ≤ n := by
  -- v as n digits
  have aux : ∀ (n v : Nat), v < 4294967296 ^ n → ∃ ds, Dig ds ∧ ds.length = n ∧ val ds = v := by
    intro n
    induction n with
    | zero => intro v h; exact ⟨[], by simp [Dig], rfl, by simp [val] at *; omega⟩
    | succ n ih =>
      intro v h
      rw [Nat.pow_succ] at h
      obtain ⟨ds, h1, h2, h3⟩ := ih (v / 4294967296) (by rw [Nat.div_lt_iff_lt_mul (by decide)]; exact h)
      exact ⟨(v % 4294967296) :: ds, fun d hd => by rcases List.mem_cons.1 hd with rfl | hd; exact Nat.mod_lt _ (by decide); exact h1 d hd, by simp [h2], by simp only [val, h3]; omega⟩
  obtain ⟨ds, h1, h2, h3⟩ := aux n v h
  rw [← h3, ← h2]
  exact dig_len_le h1
end Go.Proofs.Ytpbapoanjkekmaa
