/- Plain polynomials in four variables, as lists of terms: linear functionals, coefficients, canonical forms. No program in sight. -/
import Derived.WalkKit
namespace Go.Proofs.YtpbapoanjkekmaaGreat

abbrev Mo := Int × Int × Int × Int
/-- a coefficient and its monomial -/
abbrev Tm := Int × Mo

def vld (m : Mo) : Bool := decide (0 ≤ m.1) && (decide (0 ≤ m.2.1) && (decide (0 ≤ m.2.2.1) && decide (0 ≤ m.2.2.2)))
theorem vld_iff {m : Mo} : vld m = true ↔ 0 ≤ m.1 ∧ 0 ≤ m.2.1 ∧ 0 ≤ m.2.2.1 ∧ 0 ≤ m.2.2.2 := by simp [vld]
def addM (a b : Mo) : Mo := (a.1 + b.1, a.2.1 + b.2.1, a.2.2.1 + b.2.2.1, a.2.2.2 + b.2.2.2)
theorem addM_comm (a b : Mo) : addM a b = addM b a := by simp only [addM, Int.add_comm]
theorem addM_assoc (a b c : Mo) : addM (addM a b) c = addM a (addM b c) := by simp only [addM, Int.add_assoc]
theorem vld_add {a b : Mo} (ha : vld a = true) (hb : vld b = true) : vld (addM a b) = true := by
  rw [vld_iff] at *
  simp only [addM]
  omega

/-- what a list of terms gives under a weight of the monomials; terms with a negative exponent are ignored -/
def lin (f : Mo → Int) : List Tm → Int
  | [] => 0
  | t :: l => (if vld t.2 = true then t.1 * f t.2 else 0) + lin f l
/-- the coefficient of a monomial -/
def cf (l : List Tm) (m : Mo) : Int := lin (fun x => if x = m then 1 else 0) l

theorem lin_append (f : Mo → Int) (p q : List Tm) : lin f (p ++ q) = lin f p + lin f q := by
  induction p with
  | nil => simp [lin]
  | cons t l ih => simp only [List.cons_append, lin, ih]; omega
theorem cf_append (p q : List Tm) (m : Mo) : cf (p ++ q) m = cf p m + cf q m := lin_append _ p q
theorem cf_nil (m : Mo) : cf [] m = 0 := rfl
theorem cf_cons (t : Tm) (l : List Tm) (m : Mo) : cf (t :: l) m = (if vld t.2 = true ∧ t.2 = m then t.1 else 0) + cf l m := by
  unfold cf
  simp only [lin]
  by_cases h1 : vld t.2 = true <;> by_cases h2 : t.2 = m <;> simp [h1, h2]
theorem lin_add (f g : Mo → Int) (l : List Tm) : lin (fun m => f m + g m) l = lin f l + lin g l := by
  induction l with
  | nil => rfl
  | cons t l ih =>
    simp only [lin, ih]
    by_cases h : vld t.2 = true
    · simp only [h, if_true, Int.mul_add]; omega
    · simp [h]
theorem lin_zero (l : List Tm) : lin (fun _ => 0) l = 0 := by
  induction l with
  | nil => rfl
  | cons t l ih => simp [lin, ih]
theorem lin_mul_left (c : Int) (f : Mo → Int) (l : List Tm) : lin (fun m => c * f m) l = c * lin f l := by
  induction l with
  | nil => simp [lin]
  | cons t l ih =>
    simp only [lin, ih, Int.mul_add]
    by_cases h : vld t.2 = true
    · simp only [h, if_true]
      rw [Int.mul_left_comm]
    · simp [h]
theorem lin_congr {f g : Mo → Int} {l : List Tm} (h : ∀ t ∈ l, vld t.2 = true → f t.2 = g t.2) : lin f l = lin g l := by
  induction l with
  | nil => rfl
  | cons t l ih =>
    simp only [lin]
    rw [ih fun s hs => h s (List.mem_cons_of_mem _ hs)]
    by_cases hv : vld t.2 = true
    · simp only [hv, if_true]; rw [h t (List.mem_cons_self) hv]
    · simp [hv]
/-- order of summation -/
theorem lin_swap (g : Mo → Mo → Int) (p q : List Tm) : lin (fun a => lin (fun b => g a b) q) p = lin (fun b => lin (fun a => g a b) p) q := by
  induction p with
  | nil => simp only [lin]; exact (lin_zero q).symm
  | cons t l ih =>
    simp only [lin]
    rw [lin_add, ih]
    by_cases h : vld t.2 = true
    · simp only [h, if_true]
      rw [lin_mul_left]
    · simp only [h, if_false, Bool.false_eq_true]
      rw [lin_zero]
/-- one monomial apart -/
theorem lin_split (f : Mo → Int) (m : Mo) (l : List Tm) : lin f l = f m * cf l m + lin f (l.filter fun t => !decide (t.2 = m)) := by
  induction l with
  | nil => simp [lin, cf]
  | cons t l ih =>
    rw [cf_cons]
    by_cases h : t.2 = m
    · subst h
      simp only [lin, List.filter_cons, decide_true, Bool.not_true, Bool.false_eq_true, if_false]
      rw [ih]
      by_cases hv : vld t.2 = true
      · simp only [hv, if_true, true_and]
        rw [Int.mul_add, Int.mul_comm t.1]
        omega
      · simp [hv]
    · simp only [lin, List.filter_cons, h, decide_false, Bool.not_false, if_true, and_false, if_false, Int.zero_add]
      rw [ih]
      omega
theorem cf_filter (l : List Tm) (m x : Mo) : cf (l.filter fun t => !decide (t.2 = m)) x = if x = m then 0 else cf l x := by
  induction l with
  | nil => simp [cf, lin]
  | cons t l ih =>
    rw [cf_cons]
    by_cases h : t.2 = m
    · simp only [List.filter_cons, h, decide_true, Bool.not_true, Bool.false_eq_true, if_false]
      rw [ih]
      by_cases hx : x = m
      · simp [hx]
      · simp only [hx, if_false]
        rw [if_neg (by rintro ⟨_, e⟩; exact hx e.symm)]
        omega
    · simp only [List.filter_cons, h, decide_false, Bool.not_false, if_true]
      rw [cf_cons, ih]
      by_cases hx : x = m
      · subst hx
        simp [h]
      · simp [hx]
theorem lin_of_zero (f : Mo → Int) : ∀ (n : Nat) (l : List Tm), l.length ≤ n → (∀ m, cf l m = 0) → lin f l = 0 := by
  intro n
  induction n with
  | zero =>
    intro l hl _
    obtain rfl : l = [] := List.eq_nil_of_length_eq_zero (by omega)
    rfl
  | succ n ih =>
    intro l hl hz
    match l, hl, hz with
    | [], _, _ => rfl
    | t :: l, hl, hz =>
      rw [lin_split f t.2 (t :: l), hz, Int.mul_zero, Int.zero_add]
      refine ih _ ?_ (fun m => ?_)
      · simp only [List.filter_cons, decide_true, Bool.not_true, Bool.false_eq_true, if_false]
        have := List.length_filter_le (fun s : Tm => !decide (s.2 = t.2)) l
        simp only [List.length_cons] at hl
        omega
      · rw [cf_filter]
        split
        · rfl
        · exact hz m
def negL (l : List Tm) : List Tm := l.map fun t => (-t.1, t.2)
theorem lin_neg (f : Mo → Int) (l : List Tm) : lin f (negL l) = -lin f l := by
  induction l with
  | nil => rfl
  | cons t l ih =>
    have ih' : lin f (l.map fun t => (-t.1, t.2)) = -lin f l := ih
    simp only [negL, List.map_cons, lin, ih']
    by_cases h : vld t.2 = true
    · simp only [h, if_true, Int.neg_mul]; omega
    · simp [h]
/-- the coefficients decide what a list of terms gives under any weight -/
theorem lin_ext {p q : List Tm} (h : ∀ m, cf p m = cf q m) (f : Mo → Int) : lin f p = lin f q := by
  have h0 := lin_of_zero f _ (p ++ negL q) (Nat.le_refl _) fun m => by
    rw [cf_append, h m]
    unfold cf
    rw [lin_neg]
    omega
  rw [lin_append, lin_neg] at h0
  omega

/-- a list of terms as one that is scaled -/
def sclL (c : Int) (l : List Tm) : List Tm := l.map fun t => (t.1 * c, t.2)
theorem lin_scl (f : Mo → Int) (c : Int) (l : List Tm) : lin f (sclL c l) = c * lin f l := by
  induction l with
  | nil => simp [sclL, lin]
  | cons t l ih =>
    have ih' : lin f (l.map fun t => (t.1 * c, t.2)) = c * lin f l := ih
    simp only [sclL, List.map_cons, lin, ih', Int.mul_add]
    by_cases h : vld t.2 = true
    · simp only [h, if_true]
      rw [Int.mul_comm t.1 c, Int.mul_assoc]
    · simp [h]
theorem cf_scl (c : Int) (l : List Tm) (m : Mo) : cf (sclL c l) m = c * cf l m := lin_scl _ c l

/-! ### the order of monomials -/
def cmpI (a b : Int) : Int := if a < b then -1 else if b < a then 1 else 0
def cmpM (a b : Mo) : Int :=
  if cmpI a.2.2.2 b.2.2.2 ≠ 0 then cmpI a.2.2.2 b.2.2.2 else
  if cmpI a.2.2.1 b.2.2.1 ≠ 0 then cmpI a.2.2.1 b.2.2.1 else
  if cmpI a.2.1 b.2.1 ≠ 0 then cmpI a.2.1 b.2.1 else cmpI a.1 b.1
/-- the order of monomials, in plain words -/
def ltM (a b : Mo) : Prop :=
  a.2.2.2 < b.2.2.2 ∨ a.2.2.2 = b.2.2.2 ∧ (a.2.2.1 < b.2.2.1 ∨ a.2.2.1 = b.2.2.1 ∧ (a.2.1 < b.2.1 ∨ a.2.1 = b.2.1 ∧ a.1 < b.1))
instance (a b : Mo) : Decidable (ltM a b) := by unfold ltM; infer_instance
theorem ltM_irrefl (a : Mo) : ¬ ltM a a := by unfold ltM; omega
theorem ltM_trans {a b c : Mo} (h : ltM a b) (k : ltM b c) : ltM a c := by unfold ltM at *; omega
theorem ltM_tri (a b : Mo) : ltM a b ∨ a = b ∨ ltM b a := by
  obtain ⟨a0, a1, a2, a3⟩ := a
  obtain ⟨b0, b1, b2, b3⟩ := b
  unfold ltM
  simp only [Prod.mk.injEq]
  omega
theorem cmpM_eq (a b : Mo) : cmpM a b = if ltM a b then -1 else if ltM b a then 1 else 0 := by
  unfold cmpM ltM cmpI
  (repeat' split) <;> omega
theorem cmpM_lt {a b : Mo} : cmpM a b < 0 ↔ ltM a b := by
  rw [cmpM_eq]
  constructor
  · intro h
    split at h
    · assumption
    · split at h <;> omega
  · intro h; simp [h]
theorem cmpM_zero {a b : Mo} : cmpM a b = 0 ↔ a = b := by
  rw [cmpM_eq]
  constructor
  · intro h
    rcases ltM_tri a b with k | k | k
    · simp [k] at h
    · exact k
    · have hn : ¬ ltM a b := fun x => ltM_irrefl a (ltM_trans x k)
      rw [if_neg hn, if_pos k] at h
      omega
  · rintro rfl; simp [ltM_irrefl]
theorem cmpM_neg (a b : Mo) : cmpM b a = -cmpM a b := by
  rw [cmpM_eq, cmpM_eq]
  by_cases h : ltM a b
  · have : ¬ ltM b a := fun x => ltM_irrefl a (ltM_trans h x)
    simp [h, this]
  · by_cases k : ltM b a <;> simp [h, k]

/-! ### canonical forms -/
structure Canon (l : List Tm) : Prop where
  ne : ∀ t ∈ l, t.1 ≠ 0
  vl : ∀ t ∈ l, vld t.2 = true
  so : l.Pairwise fun s t => ltM t.2 s.2
theorem Canon.nil : Canon [] := ⟨by simp, by simp, List.Pairwise.nil⟩
theorem Canon.tail {t : Tm} {l : List Tm} (h : Canon (t :: l)) : Canon l :=
  ⟨fun s hs => h.ne s (List.mem_cons_of_mem _ hs), fun s hs => h.vl s (List.mem_cons_of_mem _ hs), (List.pairwise_cons.1 h.so).2⟩
theorem cf_absent {l : List Tm} {m : Mo} (h : ∀ t ∈ l, t.2 ≠ m) : cf l m = 0 := by
  induction l with
  | nil => rfl
  | cons t l ih =>
    rw [cf_cons, ih fun s hs => h s (List.mem_cons_of_mem _ hs), if_neg (fun e => h t List.mem_cons_self e.2)]
    rfl
theorem Canon.head {t : Tm} {l : List Tm} (h : Canon (t :: l)) : cf (t :: l) t.2 = t.1 := by
  rw [cf_cons, cf_absent fun s hs e => ?_, if_pos ⟨h.vl t List.mem_cons_self, rfl⟩]
  · omega
  · have := (List.pairwise_cons.1 h.so).1 s hs
    rw [e] at this
    exact ltM_irrefl _ this
theorem Canon.above {t : Tm} {l : List Tm} (h : Canon (t :: l)) {m : Mo} (hm : ltM t.2 m) : cf (t :: l) m = 0 :=
  cf_absent fun s hs e => by
    subst e
    rcases List.mem_cons.1 hs with rfl | hs
    · exact ltM_irrefl _ hm
    · exact ltM_irrefl _ (ltM_trans hm ((List.pairwise_cons.1 h.so).1 s hs))
theorem Canon.cf_mem {l : List Tm} (h : Canon l) {t : Tm} (ht : t ∈ l) : cf l t.2 = t.1 := by
  induction l with
  | nil => cases ht
  | cons s l ih =>
    rcases List.mem_cons.1 ht with rfl | hm
    · exact h.head
    · rw [cf_cons, ih h.tail hm, if_neg]
      · omega
      · rintro ⟨_, e⟩
        have := (List.pairwise_cons.1 h.so).1 t hm
        rw [e] at this
        exact ltM_irrefl _ this
/-- the canonical form is unique -/
theorem Canon.unique {p q : List Tm} (hp : Canon p) (hq : Canon q) (h : ∀ m, cf p m = cf q m) : p = q := by
  induction p generalizing q with
  | nil =>
    match q, hq with
    | [], _ => rfl
    | t :: q, hq => exact absurd ((hq.head).symm.trans ((h t.2).symm.trans (cf_nil _))) (hq.ne t List.mem_cons_self)
  | cons s p ih =>
    match q, hq, h with
    | [], _, h => exact absurd ((hp.head).symm.trans ((h s.2).trans (cf_nil _))) (hp.ne s List.mem_cons_self)
    | t :: q, hq, h =>
      have e : s.2 = t.2 := by
        rcases ltM_tri s.2 t.2 with k | k | k
        · exact absurd (hq.head.symm.trans ((h t.2).symm.trans (hp.above k))) (hq.ne t List.mem_cons_self)
        · exact k
        · exact absurd (hp.head.symm.trans ((h s.2).trans (hq.above k))) (hp.ne s List.mem_cons_self)
      have e1 : s.1 = t.1 := by rw [← hp.head, ← hq.head, e]; exact h t.2
      have est : s = t := Prod.ext e1 e
      subst est
      rw [ih hp.tail hq.tail fun m => ?_]
      have := h m
      rw [cf_cons, cf_cons] at this
      omega

/-! ### sizes -/
/-- the sum of the absolute values of the coefficients -/
def nrm : List Tm → Nat
  | [] => 0
  | t :: l => t.1.natAbs + nrm l
theorem nrm_append (p q : List Tm) : nrm (p ++ q) = nrm p + nrm q := by
  induction p with
  | nil => simp [nrm]
  | cons t l ih => simp only [List.cons_append, nrm, ih]; omega
theorem nrm_mem {l : List Tm} {t : Tm} (h : t ∈ l) : t.1.natAbs ≤ nrm l := by
  induction l with
  | nil => cases h
  | cons s l ih =>
    simp only [nrm]
    rcases List.mem_cons.1 h with rfl | h
    · omega
    · have := ih h; omega
theorem lin_le_nrm (f : Mo → Int) (hf : ∀ m, (f m).natAbs ≤ 1) (l : List Tm) : (lin f l).natAbs ≤ nrm l := by
  induction l with
  | nil => simp [lin]
  | cons t l ih =>
    simp only [lin, nrm]
    by_cases h : vld t.2 = true
    · simp only [h, if_true]
      have h1 : (t.1 * f t.2).natAbs ≤ t.1.natAbs := by
        rw [Int.natAbs_mul]
        calc _ ≤ t.1.natAbs * 1 := Nat.mul_le_mul_left _ (hf _)
          _ = _ := Nat.mul_one _
      omega
    · simp only [h, Bool.false_eq_true, if_false]; omega
theorem cf_le_nrm (l : List Tm) (m : Mo) : (cf l m).natAbs ≤ nrm l := lin_le_nrm _ (fun x => by split <;> simp) l
def sgI (z : Int) : Int := if z < 0 then -1 else 1
theorem sgI_mul (z : Int) : z * sgI z = z.natAbs := by unfold sgI; split <;> omega
theorem Canon.lin_sg {q l : List Tm} (hq : Canon q) (hl : ∀ t ∈ q, t ∈ l) (hc : Canon l) : lin (fun m => sgI (cf l m)) q = nrm q := by
  induction q with
  | nil => rfl
  | cons t q ih =>
    simp only [lin, nrm]
    rw [if_pos (hq.vl t List.mem_cons_self), hc.cf_mem (hl t List.mem_cons_self), sgI_mul, ih hq.tail fun s hs => hl s (List.mem_cons_of_mem _ hs)]
    omega
theorem Canon.nrm_le {q l : List Tm} (hq : Canon q) (h : ∀ m, cf q m = cf l m) : nrm q ≤ nrm l := by
  have h1 := hq.lin_sg (fun _ h => h) hq
  rw [lin_ext h] at h1
  have h2 := lin_le_nrm (fun m => sgI (cf q m)) (fun m => by simp only [sgI]; split <;> simp) l
  omega
theorem cf_exists {l : List Tm} {m : Mo} (h : cf l m ≠ 0) : ∃ t ∈ l, vld t.2 = true ∧ t.2 = m := by
  induction l with
  | nil => exact absurd rfl h
  | cons t l ih =>
    rw [cf_cons] at h
    by_cases ht : vld t.2 = true ∧ t.2 = m
    · exact ⟨t, List.mem_cons_self, ht⟩
    · rw [if_neg ht] at h
      obtain ⟨s, hs, k⟩ := ih (by omega)
      exact ⟨s, List.mem_cons_of_mem _ hs, k⟩
theorem Canon.src {q l : List Tm} (hq : Canon q) (h : ∀ m, cf q m = cf l m) {t : Tm} (ht : t ∈ q) : ∃ s ∈ l, vld s.2 = true ∧ s.2 = t.2 :=
  cf_exists (by rw [← h, hq.cf_mem ht]; exact hq.ne t ht)

/-! ### products -/
def mulL (p q : List Tm) : List Tm := p.flatMap fun s => q.map fun t => (s.1 * t.1, addM s.2 t.2)
/-- a weight of a product -/
def mulW (f : Mo → Int) (p q : List Tm) : Int := lin (fun a => lin (fun b => f (addM a b)) q) p
def mulC (p q : List Tm) (m : Mo) : Int := mulW (fun x => if x = m then 1 else 0) p q
theorem mulW_comm (f : Mo → Int) (p q : List Tm) : mulW f p q = mulW f q p := by
  unfold mulW
  rw [lin_swap]
  simp only [addM_comm]
theorem mulW_ext {p p' q q' : List Tm} (h : ∀ m, cf p m = cf p' m) (k : ∀ m, cf q m = cf q' m) (f : Mo → Int) : mulW f p q = mulW f p' q' := by
  unfold mulW
  rw [lin_ext h]
  exact lin_congr fun t _ _ => lin_ext k _
theorem mulC_ext {p p' q q' : List Tm} (h : ∀ m, cf p m = cf p' m) (k : ∀ m, cf q m = cf q' m) (m : Mo) : mulC p q m = mulC p' q' m := mulW_ext h k _
theorem mulC_comm (p q : List Tm) (m : Mo) : mulC p q m = mulC q p m := mulW_comm _ p q
theorem mulC_add (p q r : List Tm) (m : Mo) : mulC p (q ++ r) m = mulC p q m + mulC p r m := by
  unfold mulC mulW
  rw [← lin_add]
  exact lin_congr fun t _ _ => lin_append _ _ _
theorem lin_row (f : Mo → Int) (s : Tm) (hs : vld s.2 = true) (q : List Tm) (hq : ∀ t ∈ q, vld t.2 = true) : lin f (q.map fun t => (s.1 * t.1, addM s.2 t.2)) = s.1 * lin (fun b => f (addM s.2 b)) q := by
  induction q with
  | nil => simp [lin]
  | cons t q ih =>
    have hv := hq t List.mem_cons_self
    simp only [List.map_cons, lin]
    rw [ih fun x hx => hq x (List.mem_cons_of_mem _ hx), if_pos hv, if_pos (vld_add hs hv), Int.mul_add, Int.mul_assoc]
theorem lin_mulL (f : Mo → Int) (p q : List Tm) (hp : ∀ t ∈ p, vld t.2 = true) (hq : ∀ t ∈ q, vld t.2 = true) : lin f (mulL p q) = mulW f p q := by
  induction p with
  | nil => rfl
  | cons s p ih =>
    have h := ih fun x hx => hp x (List.mem_cons_of_mem _ hx)
    unfold mulL mulW at *
    rw [List.flatMap_cons, lin_append, h, lin_row f s (hp s List.mem_cons_self) q hq]
    simp only [lin]
    rw [if_pos (hp s List.mem_cons_self)]
theorem cf_mulL (p q : List Tm) (hp : ∀ t ∈ p, vld t.2 = true) (hq : ∀ t ∈ q, vld t.2 = true) (m : Mo) : cf (mulL p q) m = mulC p q m := lin_mulL _ p q hp hq
theorem nrm_row (a : Int) (x : Mo) (q : List Tm) : nrm (q.map fun t => (a * t.1, addM x t.2)) = a.natAbs * nrm q := by
  induction q with
  | nil => simp [nrm]
  | cons t q ih => simp only [List.map_cons, nrm, ih, Int.natAbs_mul, Nat.mul_add]
theorem nrm_mulL (p q : List Tm) : nrm (mulL p q) = nrm p * nrm q := by
  induction p with
  | nil => simp [mulL, nrm]
  | cons s p ih =>
    unfold mulL at *
    rw [List.flatMap_cons, nrm_append, ih, nrm_row]
    simp only [nrm, Nat.add_mul]
theorem len_mulL (p q : List Tm) : (mulL p q).length = p.length * q.length := by
  induction p with
  | nil => simp [mulL]
  | cons s p ih =>
    unfold mulL at *
    rw [List.flatMap_cons, List.length_append, ih, List.length_map, List.length_cons, Nat.add_mul]
    omega
end Go.Proofs.YtpbapoanjkekmaaGreat

/- Plain laws on gathering the terms of a sum by their monomials, and on sorting what was gathered. -/
namespace Go.Proofs.YtpbapoanjkekmaaGreat

/-- gs holds what the terms ts add up to, each monomial once -/
structure GInv (ts gs : List Tm) : Prop where
  nd : (gs.map (·.2)).Nodup
  vl : ∀ t ∈ gs, vld t.2 = true
  cf : ∀ m, cf gs m = cf ts m
  len : gs.length ≤ ts.length
  nrm : nrm gs ≤ nrm ts
theorem GInv.nil : GInv [] [] := ⟨by simp, by simp, fun _ => rfl, Nat.le_refl _, Nat.le_refl _⟩
theorem GInv.skip {ts gs : List Tm} (h : GInv ts gs) {m : Mo} (hv : vld m = false) (c : Int) : GInv (ts ++ [(c, m)]) gs where
  nd := h.nd
  vl := h.vl
  cf x := by
    rw [cf_append, cf_cons, if_neg (by simp [hv]), h.cf]
    simp [cf_nil]
  len := by have := h.len; simp; omega
  nrm := by have := h.nrm; rw [nrm_append]; omega
theorem GInv.new {ts gs : List Tm} (h : GInv ts gs) {m : Mo} (hv : vld m = true) (ha : ∀ t ∈ gs, t.2 ≠ m) (c : Int) : GInv (ts ++ [(c, m)]) (gs ++ [(c, m)]) where
  nd := by
    rw [List.map_append, List.nodup_append]
    refine ⟨h.nd, by simp, ?_⟩
    intro a ha' b hb e
    simp at hb
    subst hb
    subst e
    obtain ⟨t, ht, e⟩ := List.mem_map.1 ha'
    exact ha t ht e
  vl t ht := by
    rcases List.mem_append.1 ht with k | k
    · exact h.vl t k
    · simp at k; subst k; exact hv
  cf x := by rw [cf_append, cf_append, h.cf]
  len := by have := h.len; simp; omega
  nrm := by have := h.nrm; rw [nrm_append, nrm_append]; omega
theorem cf_set {gs : List Tm} {i : Nat} {a c : Int} {m : Mo} (hi : gs[i]? = some (a, m)) (hv : vld m = true) (x : Mo) : cf (gs.set i (a + c, m)) x = cf gs x + if m = x then c else 0 := by
  induction gs generalizing i with
  | nil => simp at hi
  | cons t l ih =>
    match i, hi with
    | 0, hi =>
      simp at hi
      subst hi
      simp only [List.set_cons_zero]
      rw [cf_cons, cf_cons]
      simp only [hv, true_and]
      split <;> omega
    | i + 1, hi =>
      simp only [List.set_cons_succ]
      rw [cf_cons, cf_cons, ih (by simpa using hi)]
      omega
theorem nrm_set {gs : List Tm} {i : Nat} {a c : Int} {m : Mo} (hi : gs[i]? = some (a, m)) : nrm (gs.set i (a + c, m)) ≤ nrm gs + c.natAbs := by
  induction gs generalizing i with
  | nil => simp at hi
  | cons t l ih =>
    match i, hi with
    | 0, hi =>
      simp at hi
      subst hi
      simp only [List.set_cons_zero, nrm]
      omega
    | i + 1, hi =>
      simp only [List.set_cons_succ, nrm]
      have := ih (i := i) (by simpa using hi)
      omega
theorem GInv.upd {ts gs : List Tm} (h : GInv ts gs) {m : Mo} {i : Nat} {a : Int} (hi : gs[i]? = some (a, m)) (c : Int) : GInv (ts ++ [(c, m)]) (gs.set i (a + c, m)) := by
  have hv : vld m = true := h.vl _ (List.mem_of_getElem? hi)
  have hm : (gs.set i (a + c, m)).map (·.2) = gs.map (·.2) := by
    apply List.ext_getElem?
    intro j
    simp only [List.getElem?_map, List.getElem?_set]
    split
    · rename_i e
      subst e
      rw [hi]
      split <;> simp_all
    · rfl
  refine ⟨by rw [hm]; exact h.nd, fun t ht => ?_, fun x => ?_, by have := h.len; simp; omega, ?_⟩
  · rcases List.mem_or_eq_of_mem_set ht with k | k
    · exact h.vl t k
    · subst k; exact hv
  · rw [cf_set hi hv, cf_append, cf_cons, h.cf]
    simp [hv, cf_nil]
  · have := nrm_set (c := c) hi
    have := h.nrm
    rw [nrm_append]
    simp only [Go.Proofs.YtpbapoanjkekmaaGreat.nrm]
    omega

theorem lin_perm (f : Mo → Int) {p q : List Tm} (h : p.Perm q) : lin f p = lin f q := by
  induction h with
  | nil => rfl
  | cons t _ ih => simp only [lin, ih]
  | swap s t l => simp only [lin]; omega
  | trans _ _ ih1 ih2 => rw [ih1, ih2]
theorem cf_perm {p q : List Tm} (h : p.Perm q) (m : Mo) : cf p m = cf q m := lin_perm _ h
theorem cf_ne0 (l : List Tm) (m : Mo) : cf (l.filter fun t => !decide (t.1 = 0)) m = cf l m := by
  induction l with
  | nil => rfl
  | cons t l ih =>
    by_cases h : t.1 = 0
    · simp only [List.filter_cons, h, decide_true, Bool.not_true, Bool.false_eq_true, if_false]
      rw [ih, cf_cons, h]
      split <;> omega
    · simp only [List.filter_cons, h, decide_false, Bool.not_false, if_true]
      rw [cf_cons, cf_cons, ih]
/-- what was gathered, without the zeros and in descending order, is canonical -/
theorem GInv.canon {ts gs q : List Tm} (h : GInv ts gs) (hp : q.Perm (gs.filter fun t => !decide (t.1 = 0))) (hs : q.Pairwise fun s t => ¬ ltM s.2 t.2) : Canon q ∧ (∀ m, Go.Proofs.YtpbapoanjkekmaaGreat.cf q m = Go.Proofs.YtpbapoanjkekmaaGreat.cf ts m) ∧ q.length ≤ ts.length := by
  refine ⟨⟨fun t ht => ?_, fun t ht => ?_, ?_⟩, fun m => ?_, ?_⟩
  · have := hp.mem_iff.1 ht
    simpa using (List.mem_filter.1 this).2
  · exact h.vl t (List.mem_filter.1 (hp.mem_iff.1 ht)).1
  · have hnd : (q.map (·.2)).Nodup := by
      have h1 : (q.map (·.2)).Perm ((gs.filter fun t => !decide (t.1 = 0)).map (·.2)) := hp.map _
      rw [h1.nodup_iff]
      exact List.Sublist.nodup (List.filter_sublist.map _) h.nd
    have hnd' : q.Pairwise fun s t => s.2 ≠ t.2 := List.pairwise_map.1 hnd
    refine (List.Pairwise.and hs hnd').imp fun {a b} hab => ?_
    rcases ltM_tri a.2 b.2 with k | k | k
    · exact absurd k hab.1
    · exact absurd k hab.2
    · exact k
  · rw [cf_perm hp, cf_ne0, h.cf]
  · rw [hp.length_eq]
    exact Nat.le_trans (List.length_filter_le _ _) h.len
theorem GInv.mem_nrm {ts gs : List Tm} (h : GInv ts gs) {t : Tm} (ht : t ∈ gs) : t.1.natAbs ≤ Go.Proofs.YtpbapoanjkekmaaGreat.nrm ts := Nat.le_trans (nrm_mem ht) h.nrm
end Go.Proofs.YtpbapoanjkekmaaGreat
